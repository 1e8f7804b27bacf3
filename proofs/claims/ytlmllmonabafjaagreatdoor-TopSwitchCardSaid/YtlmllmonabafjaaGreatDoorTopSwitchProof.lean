/- x -/
import Derived.Test.YtlmllmonabafjaaGreatDoorMg13
import Derived.Test.YtlmllmonabafjaaGreatDoorMg8
import Derived.Test.YtlmllmonabafjaaGreatDoorTie
import Derived.Deep.DeepHandedRow
import Derived.Lib.LaidTab
import Derived.Lay
import Derived.LaidMore
import Derived.SevenTiedAt
import Derived.Stop.LaidErr
namespace Go.Proofs.YtlmllmonabafjaaGreatDoor.topSwitch
open Option renaming some->ϊ,none->ϋ
open Bool renaming true->ό,false->ύ
set_option linter.all false
open Rows renaming topSwitchRow->QqR,topSwitchSpec->QqS
open Go.ChangeShapes Go.WideShapes Go.ChangeAt Go.RowKit
theorem own:ownKnob Tryz.prog.godebug=ϋ:=by kernel_rfl
theorem laidOut:laidOutB Tryz.prog=ό:=by kernel_rfl
theorem tabEq:(Rows.laid_internal_strconv_uint64pow10:DataW Unit)=Lib.tabData .u64 Lib.pow10Tab:=by kernel_rfl
theorem table {W:World} (h:laidMetH Tryz.prog QqR.laid W):Lib.TabIs Tryz.prog W uG .u64 Lib.pow10Tab:=by
 rw[MakeChecks.laidMetH_plain _ _ _ (by kernel_rfl)] at h;have h2:laidMet Tryz.prog ((uG,Rows.laid_internal_strconv_uint64pow10)::[(_,Rows.laid_unicode_utf8_acceptRanges),(_,Rows.laid_unicode_utf8_first)]) W:=laidMet.tail (laidMet.tail h);rw[tabEq] at h2;exact Lib.tabIs_of_head (g:=3) (by kernel_rfl) (by kernel_rfl) Tryz.underlying493 Tryz.underlying231 (by kernel_rfl) (by kernel_rfl) h2
theorem laid_met (os:Os) (args:Array Value):laidMetH Tryz.prog QqR.laid ((World.laidAll Tryz.prog os QqR.laid).forCall (λ_ _=>0) ⟨#[],args,[]⟩).memory:=by
 rw[MakeChecks.laidMetH_plain _ _ _ (by kernel_rfl)];exact laidMet_laidAll _ (by kernel_rfl) (by kernel_rfl)
theorem opensRO:jI Tryz.prog 37 RO:=λH enc w base spare held fuel cs x hx=>by
 obtain⟨y,hy⟩:=Kn H enc w base spare held fuel cs x hx;have hl:cs.length=2:=by
  obtain⟨_,_,_,_,hl,_⟩:=DataW.trod_struct Tryz.underlying37 hx;rw[hl]
  kernel_rfl
 match cs,hl with
 | [k0,k1],_=>
  obtain⟨⟨r0,_⟩,⟨r1,_⟩,_⟩:=hy;simp at r0 r1;exact⟨(_,_),by rw[r0,r1];rfl⟩
def args0:Array Value:= #[.agg #[.int .i64 0,.int .i64 0,.int .i64 0,.int .i64 0,.int .i64 0,.int .i64 0],.slice ϋ 0 0,.int .u8 0,.int .u8 0,.int .u16 0,.slice ϋ 0 0]
theorem reads (os:Os) {H:Type} (enc:TypeId×Value->H): ∃x,DataW.whole enc Tryz.prog ((World.laidAll Tryz.prog os QqR.laid).forCall (λ_ _=>0) ⟨#[],args0,[]⟩).memory Tryz.f7.params.toList QqS.vars ύ args0.toList 8=ϊ x:=
 Ϟ.1 (by kernel_rfl)
set_option maxRecDepth 100000 in
theorem lifted (os:Os) (started:os.Started) (H:Type) (enc:TypeId×Value->H) (F:Stop.Interp):
  ReturnsInHanded {} Tryz.checked os 7 .any ((OpenSpec.ofChange QqS).preRow enc Tryz.prog Tryz.f7 QqR.domain ύ QqR.laid) (((OpenSpec.ofChange QqS).at F).post enc Tryz.prog Tryz.f7 ύ ό ύ ύ):=by
 obtain⟨x,hx⟩:=reads os enc;refine returnsInHanded_of_row (C:=Tryz.checked) (s:=OpenSpec.ofChange QqS) own started (by kernel_rfl) Tryz.func7
  ⟨World.laidAll Tryz.prog os QqR.laid,λ_ _=>0,⟨#[],args0,[]⟩,World.laidAll_os _ _ _,World.shaped_of_ZipB (by kernel_rfl) (by kernel_rfl),rfl,(Input.okWide_of_okWideB (by kernel_rfl)).2,
   OpenSpec.preRow_of_cond 8 hx rfl (λk hk=>by cases hk) (by kernel_rfl) (laid_met os _),by simp[Assume.holds]⟩ ?_
 intro W base args ds gs before hval0 hW _ _ _ hL hsh _;have hval: ∀(j:Nat) t v,Tryz.f7.params[j]? =ϊ t->args[j]? =ϊ v->Value.okWide Tryz.prog W .any base t v:=hval0;have hW':=hW;obtain⟨mx,hmx⟩:=lays146.s1_3 W hsh;have htb:=table hL;obtain⟨p,q,hA0,hV,rfl,hfz,hnd⟩:=hW;have hA:DataW.TrodAll enc Tryz.prog W 0 (λ_=>ό) ό Tryz.f7.params.toList args.toList ds p:=hA0;rw[Tryz.params7] at hA hval;obtain⟨v0,vs0,d0,ds0,p0,q0,hargs,rfl,rfl,h0,r0⟩:=trodAll_cons hA;obtain⟨v1,vs1,d1,ds1,p1,q1,rfl,rfl,rfl,h1,r1⟩:=trodAll_cons r0;obtain⟨v2,vs2,d2,ds2,p2,q2,rfl,rfl,rfl,h2,r2⟩:=trodAll_cons r1;obtain⟨v3,vs3,d3,ds3,p3,q3,rfl,rfl,rfl,h3,r3⟩:=trodAll_cons r2;obtain⟨v4,vs4,d4,ds4,p4,q4,rfl,rfl,rfl,h4,r4⟩:=trodAll_cons r3;obtain⟨v5,vs5,d5,ds5,p5,q5,rfl,rfl,rfl,h5,r5⟩:=trodAll_cons r4;obtain⟨rfl,rfl,rfl⟩:=trodAll_nil r5;obtain rfl:args= #[v0,v1,v2,v3,v4,v5]:=by cases args;simp_all
 obtain⟨rfl,rfl⟩:=trodVars_none hV;have k0:=h0;have lt0: ∀x∈p0,x.block<W.heap.size:=by obtain⟨m,hm⟩:=k0;exact DataW.trod_lt m _ _ _ hm
 have k1:=h1;have lt1: ∀x∈p1,x.block<W.heap.size:=by obtain⟨m,hm⟩:=k1;exact DataW.trod_lt m _ _ _ hm
 have k2:=h2;have lt2: ∀x∈p2,x.block<W.heap.size:=by obtain⟨m,hm⟩:=k2;exact DataW.trod_lt m _ _ _ hm
 have k3:=h3;have lt3: ∀x∈p3,x.block<W.heap.size:=by obtain⟨m,hm⟩:=k3;exact DataW.trod_lt m _ _ _ hm
 have k4:=h4;have lt4: ∀x∈p4,x.block<W.heap.size:=by obtain⟨m,hm⟩:=k4;exact DataW.trod_lt m _ _ _ hm
 have k5:=h5;have lt5: ∀x∈p5,x.block<W.heap.size:=by obtain⟨m,hm⟩:=k5;exact DataW.trod_lt m _ _ _ hm
 obtain⟨cs0,rfl,hsz0⟩:=okWide_struct Tryz.underlying25 (hval 0 25 v0 rfl rfl);obtain⟨y0,ry0⟩: ∃y,Me W cs0.toList y:=by
  obtain⟨fuel,hf⟩:=h0;obtain⟨y,hy⟩:=EK _ _ _ _ _ _ _ _ _ hf;exact⟨y,by simpa [Value.cells] using hy⟩
 obtain⟨o1,NO,cap1,rfl⟩:=okWide_slice Tryz.underlying26 (hval 1 26 v1 rfl rfl);obtain⟨l1,sl1⟩: ∃l,SlP 14 Y8 W (.slice o1 NO cap1) l:=by
  obtain⟨fuel,hf⟩:=h1;obtain⟨l,vv,e,s⟩:=jI.sl (n:=14) Tryz.underlying26 (by kernel_rfl) (by decide) EL _ _ _ _ _ _ _ _ _ hf;simp[Value.cells] at e;subst e;exact⟨l,s⟩
 obtain⟨n2,rfl,-,-,hw2⟩:=open_int Tryz.underlying5 (hval 2 5 v2 rfl rfl) h2;obtain⟨n3,rfl,-,-,hw3⟩:=open_int Tryz.underlying5 (hval 3 5 v3 rfl rfl) h3;obtain⟨n4,rfl,-,-,hw4⟩:=open_int Tryz.underlying39 (hval 4 39 v4 rfl rfl) h4;obtain⟨o5,len5,cap5,rfl⟩:=okWide_slice Tryz.underlying98 (hval 5 98 v5 rfl rfl);obtain⟨l5,sl5⟩: ∃l,SlP 2 RO W (.slice o5 len5 cap5) l:=by
  obtain⟨fuel,hf⟩:=h5;obtain⟨l,vv,e,s⟩:=jI.sl (n:=2) Tryz.underlying98 (by kernel_rfl) (by decide) opensRO _ _ _ _ _ _ _ _ _ hf;simp[Value.cells] at e;subst e;exact⟨l,s⟩
 clear hA0 hval0;refine(Z7 _ _ _ _ n2 n3 n4 _ _ W hmx htb ry0 sl1 (bounds_u8 hw2) (bounds_u8 hw3) (bounds_u16 hw4) sl5).mono λe W' ⟨he,bel⟩=> ?_
 subst he;have key:QqS.post enc Tryz.prog Tryz.f7 ύ ό ύ ύ W _ (.bool ό) W':=
  ⟨_,_,_,[],_,[],hW',trodAll_mk1 (shut_bool Tryz.underlying4 _),(trodAll_cons_mk (Below.trod laidOut (by kernel_rfl) (Ϛ (by kernel_rfl)) k0 bel lt0) (trodAll_cons_mk (Below.trod laidOut (by kernel_rfl) (Ϛ (by kernel_rfl)) k1 bel lt1) (trodAll_cons_mk (Below.trod laidOut (by kernel_rfl) (Ϛ (by kernel_rfl)) k2 bel lt2) (trodAll_cons_mk (Below.trod laidOut (by kernel_rfl) (Ϛ (by kernel_rfl)) k3 bel lt3) (trodAll_cons_mk (Below.trod laidOut (by kernel_rfl) (Ϛ (by kernel_rfl)) k4 bel lt4) (trodAll_cons_mk (Below.trod laidOut (by kernel_rfl) (Ϛ (by kernel_rfl)) k5 bel lt5) trodAll_mk0)))))),rfl,bel.frame _,λh=>by cases h⟩
 exact⟨_,rfl,key⟩
theorem said:Rows.TopSwitchSaid:=
 OpenClaim.holds_of_cond 7 Tryz.f7 rfl rfl rfl rfl rfl rfl rfl ⟨rfl,rfl,rfl,rfl,rfl⟩ rfl rfl rfl rfl rfl (by kernel_rfl) Tryz.func7 closed
  (Ϛ (by kernel_rfl)) (by unfold Func.isWrapper;first | (rw[ϒ (by decide+kernel)];kernel_rfl) | (rw[ώ (by decide+kernel)];exact⟨rfl,rfl⟩))
  (λos started H enc _ F=>by rw[OpenClaim.pre_eq_preRow];exact lifted os started H enc F)
theorem plain (f:FuncId) (fn:Func) (hf:Tryz.pinned.checked.prog.funcNamed QqR.func=ϊ f) (hfn:Tryz.pinned.checked.prog.funcs[f]? =ϊ fn):
  ό=Tryz.pinned.checked.prog.looks []/\ ∀(j:Nat) t,fn.params[j]? =ϊ t->Tryz.pinned.checked.prog.wantsStandIn t=ύ:=by
 obtain rfl:f=7:=N2 ((show Tryz.prog.funcNamed QqR.func=ϊ 7 by kernel_rfl).symm.trans hf) |>.symm
 obtain rfl:fn=Tryz.f7:=(N2 (Tryz.func7.symm.trans hfn)).symm;refine⟨by kernel_rfl,λj t ht=> ?_⟩;rw[Tryz.params7] at ht;have hm:t∈[25,26,5,5,39,98]:=by simpa using Array.mem_of_getElem? ht
 have hall:([25,26,5,5,39,98].all λu=> !Tryz.prog.wantsStandIn u)=ό:=by kernel_rfl
 exact(show Tryz.prog.wantsStandIn t=ύ by simpa using I9.1 hall t hm)
theorem proved:Rows.TopSwitchCardSaid:=
 Claim7.holds_tied_plain_at .later [] _ _ _ _ said (λ_ h=>by cases h) (by kernel_rfl) (λ_ h=>by cases h) topSwitch_row_tie rfl ⟨rfl,rfl⟩ (by kernel_rfl) rfl plain (by kernel_rfl)
#print axioms proved
end Go.Proofs.YtlmllmonabafjaaGreatDoor.topSwitch
