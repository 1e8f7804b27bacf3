/- x -/
import Derived.Test.YtmgaiiffmheabaaGreatDoorMg16
import Derived.Test.YtmgaiiffmheabaaGreatDoorMg15
import Derived.Test.YtmgaiiffmheabaaGreatDoorTie
import Derived.Deep.DeepHandedRow
import Derived.Lib.LaidTab
import Derived.Lay
import Derived.LaidMore
import Derived.SevenTiedAt
import Derived.Stop.LaidErr
namespace Go.Proofs.YtmgaiiffmheabaaGreatDoor.scriptSpaces
open Option renaming some->ϊ,none->ϋ
open Bool renaming true->ό,false->ύ
set_option linter.all false
open Rows renaming scriptSpacesRow->QqR,scriptSpacesSpec->QqS
open Go.ChangeShapes Go.WideShapes Go.ChangeAt Go.RowKit
theorem own:ownKnob Tryz.prog.godebug=ϋ:=by kernel_rfl
theorem laidOut:laidOutB Tryz.prog=ό:=by kernel_rfl
theorem tabEq:(Rows.laid_internal_strconv_uint64pow10:DataW Unit)=Lib.tabData .u64 Lib.pow10Tab:=by kernel_rfl
theorem table {W:World} (h:laidMetH Tryz.prog QqR.laid W):Lib.TabIs Tryz.prog W N9 .u64 Lib.pow10Tab:=by
 rw[MakeChecks.laidMetH_plain _ _ _ (by kernel_rfl)] at h;have h2:laidMet Tryz.prog ((N9,Rows.laid_internal_strconv_uint64pow10)::[(_,Rows.laid_unicode_utf8_acceptRanges),(_,Rows.laid_unicode_utf8_first)]) W:=laidMet.tail (laidMet.tail h);rw[tabEq] at h2;exact Lib.tabIs_of_head (g:=3) (by kernel_rfl) (by kernel_rfl) Tryz.underlying268 Tryz.underlying170 (by kernel_rfl) (by kernel_rfl) h2
theorem laid_met (os:Os) (args:Array Value):laidMetH Tryz.prog QqR.laid ((World.laidAll Tryz.prog os QqR.laid).forCall (λ_ _=>0) ⟨#[],args,[]⟩).memory:=by
 rw[MakeChecks.laidMetH_plain _ _ _ (by kernel_rfl)];exact laidMet_laidAll _ (by kernel_rfl) (by kernel_rfl)
def args0:Array Value:= #[.string ByteArray.empty]
theorem reads (os:Os) {H:Type} (enc:TypeId×Value->H): ∃x,DataW.whole enc Tryz.prog ((World.laidAll Tryz.prog os QqR.laid).forCall (λ_ _=>0) ⟨#[],args0,[]⟩).memory Tryz.f3.params.toList QqS.vars ύ args0.toList 8=ϊ x:=
 Ϯ.1 (by kernel_rfl)
set_option maxRecDepth 100000 in
theorem lifted (os:Os) (started:os.Started) (H:Type) (enc:TypeId×Value->H) (F:Stop.Interp):
  ReturnsInHanded {} Tryz.checked os 3 .any ((OpenSpec.ofChange QqS).preRow enc Tryz.prog Tryz.f3 QqR.domain ύ QqR.laid) (((OpenSpec.ofChange QqS).at F).post enc Tryz.prog Tryz.f3 ύ ό ύ ύ):=by
 obtain⟨x,hx⟩:=reads os enc;refine returnsInHanded_of_row (C:=Tryz.checked) (s:=OpenSpec.ofChange QqS) own started (by kernel_rfl) Tryz.func3
  ⟨World.laidAll Tryz.prog os QqR.laid,λ_ _=>0,⟨#[],args0,[]⟩,World.laidAll_os _ _ _,World.shaped_of_ZipB (by kernel_rfl) (by kernel_rfl),rfl,(Input.okWide_of_okWideB (by kernel_rfl)).2,
   OpenSpec.preRow_of_cond 8 hx rfl (λk hk=>by cases hk) (by kernel_rfl) (laid_met os _),by simp[Assume.holds]⟩ ?_
 intro W base args ds gs before hval0 hW _ _ _ hL hsh _;have hval: ∀(j:Nat) t v,Tryz.f3.params[j]? =ϊ t->args[j]? =ϊ v->Value.okWide Tryz.prog W .any base t v:=hval0;have hW':=hW;obtain⟨mx,hmx⟩:=lays146.s1_3 W hsh;have htb:=table hL;obtain⟨p,q,hA0,hV,rfl,hfz,hnd⟩:=hW;have hA:DataW.TrodAll enc Tryz.prog W 0 (λ_=>ό) ό Tryz.f3.params.toList args.toList ds p:=hA0;rw[Tryz.params3] at hA hval;obtain⟨v0,vs0,d0,ds0,p0,q0,hargs,rfl,rfl,h0,r0⟩:=trodAll_cons hA;obtain⟨rfl,rfl,rfl⟩:=trodAll_nil r0;obtain rfl:args= #[v0]:=by cases args;simp_all
 obtain⟨rfl,rfl⟩:=trodVars_none hV;have k0:=h0;have lt0: ∀x∈p0,x.block<W.heap.size:=by obtain⟨m,hm⟩:=k0;exact DataW.trod_lt m _ _ _ hm
 obtain⟨s0,rfl⟩:=okWide_string Tryz.underlying9 (hval 0 9 v0 rfl rfl);clear hA0 hval0;refine(qf7 s0 W hmx htb).mono λe W' ⟨he,bel⟩=> ?_
 subst he;have key:QqS.post enc Tryz.prog Tryz.f3 ύ ό ύ ύ W _ (.bool ό) W':=
  ⟨_,_,_,[],_,[],hW',trodAll_mk1 (shut_bool Tryz.underlying4 _),(trodAll_cons_mk (Below.trod laidOut (by kernel_rfl) (Ϧ (by kernel_rfl)) k0 bel lt0) trodAll_mk0),rfl,bel.frame _,λh=>by cases h⟩
 exact⟨_,rfl,key⟩
theorem said:Rows.ScriptSpacesSaid:=
 OpenClaim.holds_of_cond 3 Tryz.f3 rfl rfl rfl rfl rfl rfl rfl ⟨rfl,rfl,rfl,rfl,rfl⟩ rfl rfl rfl rfl rfl (by kernel_rfl) Tryz.func3 closed
  (Ϧ (by kernel_rfl)) (by unfold Func.isWrapper;first | (rw[ϓ (by decide+kernel)];kernel_rfl) | (rw[Ϗ (by decide+kernel)];exact⟨rfl,rfl⟩))
  (λos started H enc _ F=>by rw[OpenClaim.pre_eq_preRow];exact lifted os started H enc F)
theorem plain (f:FuncId) (fn:Func) (hf:Tryz.pinned.checked.prog.funcNamed QqR.func=ϊ f) (hfn:Tryz.pinned.checked.prog.funcs[f]? =ϊ fn):
  ό=Tryz.pinned.checked.prog.looks []/\ ∀(j:Nat) t,fn.params[j]? =ϊ t->Tryz.pinned.checked.prog.wantsStandIn t=ύ:=by
 obtain rfl:f=3:=I8 ((show Tryz.prog.funcNamed QqR.func=ϊ 3 by kernel_rfl).symm.trans hf) |>.symm
 obtain rfl:fn=Tryz.f3:=(I8 (Tryz.func3.symm.trans hfn)).symm;refine⟨by kernel_rfl,λj t ht=> ?_⟩;rw[Tryz.params3] at ht;have hm:t∈[9]:=by simpa using T7 ht
 have hall:([9].all λu=> !Tryz.prog.wantsStandIn u)=ό:=by kernel_rfl
 exact(show Tryz.prog.wantsStandIn t=ύ by simpa using I3.1 hall t hm)
theorem proved:Rows.ScriptSpacesCardSaid:=
 Claim7.holds_tied_plain_at .later [] _ _ _ _ said (λ_ h=>by cases h) (by kernel_rfl) (λ_ h=>by cases h) scriptSpaces_row_tie rfl ⟨rfl,rfl⟩ (by kernel_rfl) rfl plain (by kernel_rfl)
#print axioms proved
end Go.Proofs.YtmgaiiffmheabaaGreatDoor.scriptSpaces
