/- The law TopDrains. -/
import Derived.Test.YtlmllmonabafjaaGreatDoorMg15
import Derived.Test.YtlmllmonabafjaaGreatDoorMg10
import Derived.Test.YtlmllmonabafjaaGreatDoorTie
import Derived.Deep.DeepHandedRow
import Derived.Lib.LaidTab
import Derived.Lay
import Derived.LaidMore
import Derived.SevenTiedAt
import Derived.Stop.LaidErr
namespace Go.Proofs.YtlmllmonabafjaaGreatDoor.topDrains
set_option linter.unusedSimpArgs false
set_option linter.unusedVariables false
open Go.ChangeShapes Go.WideShapes Go.ChangeAt Go.RowKit
theorem own:ownKnob Tryz.prog.godebug=none:=by kernel_rfl
theorem laidOut:laidOutB Tryz.prog=true:=by kernel_rfl
theorem tabEq:(Rows.laid_internal_strconv_uint64pow10:DataW Unit)=Lib.tabData .u64 Lib.pow10Tab:=by kernel_rfl
theorem table {W:World} (h:laidMetH Tryz.prog Rows.topDrainsRow.laid W):Lib.TabIs Tryz.prog W uj .u64 Lib.pow10Tab:=by
 rw[MakeChecks.laidMetH_plain _ _ _ (by kernel_rfl)] at h;have h2:laidMet Tryz.prog ((uj,Rows.laid_internal_strconv_uint64pow10)::[(_,Rows.laid_unicode_utf8_acceptRanges),(_,Rows.laid_unicode_utf8_first)]) W:=laidMet.tail (laidMet.tail h);rw[tabEq] at h2;exact Lib.tabIs_of_head (g:=3) (by kernel_rfl) (by kernel_rfl) Tryz.underlying493 Tryz.underlying231 (by kernel_rfl) (by kernel_rfl) h2
theorem laid_met (os:Os) (args:Array Value):laidMetH Tryz.prog Rows.topDrainsRow.laid ((World.laidAll Tryz.prog os Rows.topDrainsRow.laid).forCall (λ_ _=>0) ⟨#[],args,[]⟩).memory:=by
 rw[MakeChecks.laidMetH_plain _ _ _ (by kernel_rfl)];exact laidMet_laidAll _ (by kernel_rfl) (by kernel_rfl)
theorem opensRO:jx Tryz.prog 37 RO:=λH enc w base spare held fuel cs x hx=>by
 obtain⟨y,hy⟩:=VD H enc w base spare held fuel cs x hx;have hl:cs.length=2:=by
  obtain⟨_,_,_,_,hl,_⟩:=DataW.trod_struct Tryz.underlying37 hx;rw[hl]
  kernel_rfl
 match cs,hl with
 | [k0,k1],_=>
  obtain⟨⟨r0,_⟩,⟨r1,_⟩,_⟩:=hy;simp at r0 r1;exact⟨(_,_),by rw[r0,r1];rfl⟩
def args0:Array Value:= #[.agg #[.int .i64 0,.int .i64 0,.int .i64 0,.int .i64 0,.int .i64 0,.int .i64 0],.slice none 0 0,.slice none 0 0]
theorem reads (os:Os) {H:Type} (enc:TypeId×Value->H): ∃x,DataW.whole enc Tryz.prog ((World.laidAll Tryz.prog os Rows.topDrainsRow.laid).forCall (λ_ _=>0) ⟨#[],args0,[]⟩).memory Tryz.f5.params.toList Rows.topDrainsSpec.vars false args0.toList 8=some x:=
 Option.isSome_iff_exists.1 (by kernel_rfl)
set_option maxRecDepth 100000 in
theorem lifted (os:Os) (started:os.Started) (H:Type) (enc:TypeId×Value->H) (F:Stop.Interp):
  ReturnsInHanded {} Tryz.checked os 5 .any ((OpenSpec.ofChange Rows.topDrainsSpec).preRow enc Tryz.prog Tryz.f5 Rows.topDrainsRow.domain false Rows.topDrainsRow.laid) (((OpenSpec.ofChange Rows.topDrainsSpec).at F).post enc Tryz.prog Tryz.f5 false true false false):=by
 obtain⟨x,hx⟩:=reads os enc;refine returnsInHanded_of_row (C:=Tryz.checked) (s:=OpenSpec.ofChange Rows.topDrainsSpec) own started (by kernel_rfl) Tryz.func5
  ⟨World.laidAll Tryz.prog os Rows.topDrainsRow.laid,λ_ _=>0,⟨#[],args0,[]⟩,World.laidAll_os _ _ _,World.shaped_of_ZipB (by kernel_rfl) (by kernel_rfl),rfl,(Input.okWide_of_okWideB (by kernel_rfl)).2,
   OpenSpec.preRow_of_cond 8 hx rfl (λk hk=>by cases hk) (by kernel_rfl) (laid_met os _),by simp[Assume.holds]⟩ ?_
 intro W base args ds gs before hval0 hW _ _ _ hL hsh _;have hval: ∀(j:Nat) t v,Tryz.f5.params[j]? =some t->args[j]? =some v->Value.okWide Tryz.prog W .any base t v:=hval0;have hW':=hW;obtain⟨mx,hmx⟩:=lays146.s1_3 W hsh;have htb:=table hL;obtain⟨p,q,hA0,hV,rfl,hfz,hnd⟩:=hW;have hA:DataW.TrodAll enc Tryz.prog W 0 (λ_=>true) true Tryz.f5.params.toList args.toList ds p:=hA0;rw[Tryz.params5] at hA hval;obtain⟨v0,vs0,d0,ds0,p0,q0,hargs,rfl,rfl,h0,r0⟩:=trodAll_cons hA;obtain⟨v1,vs1,d1,ds1,p1,q1,rfl,rfl,rfl,h1,r1⟩:=trodAll_cons r0;obtain⟨v2,vs2,d2,ds2,p2,q2,rfl,rfl,rfl,h2,r2⟩:=trodAll_cons r1;obtain⟨rfl,rfl,rfl⟩:=trodAll_nil r2;obtain rfl:args= #[v0,v1,v2]:=by cases args;simp_all
 obtain⟨rfl,rfl⟩:=trodVars_none hV;have k0:=h0;have lt0: ∀x∈p0,x.block<W.heap.size:=by obtain⟨m,hm⟩:=k0;exact DataW.trod_lt m _ _ _ hm
 have k1:=h1;have lt1: ∀x∈p1,x.block<W.heap.size:=by obtain⟨m,hm⟩:=k1;exact DataW.trod_lt m _ _ _ hm
 have k2:=h2;have lt2: ∀x∈p2,x.block<W.heap.size:=by obtain⟨m,hm⟩:=k2;exact DataW.trod_lt m _ _ _ hm
 obtain⟨cs0,rfl,hsz0⟩:=okWide_struct Tryz.underlying25 (hval 0 25 v0 rfl rfl);obtain⟨y0,ry0⟩: ∃y,Iz W cs0.toList y:=by
  obtain⟨fuel,hf⟩:=h0;obtain⟨y,hy⟩:=Cl _ _ _ _ _ _ _ _ _ hf;exact⟨y,by simpa [Value.cells] using hy⟩
 obtain⟨o1,Mc,cap1,rfl⟩:=okWide_slice Tryz.underlying26 (hval 1 26 v1 rfl rfl);obtain⟨l1,sl1⟩: ∃l,SlP 14 Yv W (.slice o1 Mc cap1) l:=by
  obtain⟨fuel,hf⟩:=h1;obtain⟨l,vv,e,s⟩:=jx.sl (n:=14) Tryz.underlying26 (by kernel_rfl) (by decide) Cm _ _ _ _ _ _ _ _ _ hf;simp[Value.cells] at e;subst e;exact⟨l,s⟩
 obtain⟨o2,Mb,cap2,rfl⟩:=okWide_slice Tryz.underlying98 (hval 2 98 v2 rfl rfl);obtain⟨l2,sl2⟩: ∃l,SlP 2 RO W (.slice o2 Mb cap2) l:=by
  obtain⟨fuel,hf⟩:=h2;obtain⟨l,vv,e,s⟩:=jx.sl (n:=2) Tryz.underlying98 (by kernel_rfl) (by decide) opensRO _ _ _ _ _ _ _ _ _ hf;simp[Value.cells] at e;subst e;exact⟨l,s⟩
 clear hA0 hval0;refine(Zt _ _ _ _ _ _ W hmx htb ry0 sl1 sl2).mono λe W' ⟨he,bel⟩=> ?_
 subst he;have key:Rows.topDrainsSpec.post enc Tryz.prog Tryz.f5 false true false false W _ (.bool true) W':=
  ⟨_,_,_,[],_,[],hW',trodAll_mk1 (shut_bool Tryz.underlying4 _),(trodAll_cons_mk (Below.trod laidOut (by kernel_rfl) (of_decide_eq_true (by kernel_rfl)) k0 bel lt0) (trodAll_cons_mk (Below.trod laidOut (by kernel_rfl) (of_decide_eq_true (by kernel_rfl)) k1 bel lt1) (trodAll_cons_mk (Below.trod laidOut (by kernel_rfl) (of_decide_eq_true (by kernel_rfl)) k2 bel lt2) trodAll_mk0))),rfl,bel.frame _,λh=>by cases h⟩
 exact⟨_,rfl,key⟩
theorem said:Rows.TopDrainsSaid:=
 OpenClaim.holds_of_cond 5 Tryz.f5 rfl rfl rfl rfl rfl rfl rfl ⟨rfl,rfl,rfl,rfl,rfl⟩ rfl rfl rfl rfl rfl (by kernel_rfl) Tryz.func5 closed
  (of_decide_eq_true (by kernel_rfl)) (by unfold Func.isWrapper;first | (rw[if_pos (by decide+kernel)];kernel_rfl) | (rw[if_neg (by decide+kernel)];exact⟨rfl,rfl⟩))
  (λos started H enc _ F=>by rw[OpenClaim.pre_eq_preRow];exact lifted os started H enc F)
theorem plain (f:FuncId) (fn:Func) (hf:Tryz.pinned.checked.prog.funcNamed Rows.topDrainsRow.func=some f) (hfn:Tryz.pinned.checked.prog.funcs[f]? =some fn):
  true=Tryz.pinned.checked.prog.looks []/\ ∀(j:Nat) t,fn.params[j]? =some t->Tryz.pinned.checked.prog.wantsStandIn t=false:=by
 obtain rfl:f=5:=Option.some.inj ((show Tryz.prog.funcNamed Rows.topDrainsRow.func=some 5 by kernel_rfl).symm.trans hf) |>.symm
 obtain rfl:fn=Tryz.f5:=(Option.some.inj (Tryz.func5.symm.trans hfn)).symm;refine⟨by kernel_rfl,λj t ht=> ?_⟩;rw[Tryz.params5] at ht;have hm:t∈[25,26,98]:=by simpa using Array.mem_of_getElem? ht
 have hall:([25,26,98].all λu=> !Tryz.prog.wantsStandIn u)=true:=by kernel_rfl
 exact(show Tryz.prog.wantsStandIn t=false by simpa using List.all_eq_true.1 hall t hm)
theorem proved:Rows.TopDrainsCardSaid:=
 Claim7.holds_tied_plain_at .later [] _ _ _ _ said (λ_ h=>by cases h) (by kernel_rfl) (λ_ h=>by cases h) topDrains_row_tie rfl ⟨rfl,rfl⟩ (by kernel_rfl) rfl plain (by kernel_rfl)
#print axioms proved
end Go.Proofs.YtlmllmonabafjaaGreatDoor.topDrains
