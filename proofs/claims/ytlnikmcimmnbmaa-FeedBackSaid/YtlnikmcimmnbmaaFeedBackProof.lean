/- The law FeedBack of manifold/manifoldlaw09: for every input the call returns true and each argument reads afterwards as it read before. Conditions: none but the row's own. -/
import Derived.Test.YtlnikmcimmnbmaaFeedM
import Derived.Test.YtlnikmcimmnbmaaFrame
namespace Go.Proofs.Ytlnikmcimmnbmaa.feedBack
set_option linter.unusedSimpArgs false
set_option linter.unusedVariables false
open Go.ChangeShapes Go.WideShapes Go.ChangeAt Go.RowKit
set_option linter.unusedVariables false

theorem own : ownKnob Try.prog.godebug = none := by kernel_rfl
theorem laidOut : laidOutB Try.prog = true := by kernel_rfl

set_option maxRecDepth 100000 in
theorem lifted (os : Os) (started : os.Started) (H : Type) (enc : TypeId × Value → H) :
    ReturnsInHanded {} Try.checked os 8 .any (Rows.feedBackSpec.pre6 enc Try.prog Try.f8 Rows.feedBackRow.domain false) (Rows.feedBackSpec.post enc Try.prog Try.f8 false true false false) := by
  refine returnsInHanded_of_change (C := Try.checked) own started (by kernel_rfl) Try.func8
    (ChangeSpec.witness6 (enc := enc) (C := Try.checked) false ⟨#[], #[.agg #[.int .i64 0, .int .u32 0, .int .u32 0, .slice none 0 0, .slice none 0 0], .agg #[.int .i64 0, .int .u32 0, .int .u32 0, .slice none 0 0, .slice none 0 0], .agg #[.int .u8 0, .int .u8 0, .slice none 0 0]], []⟩ 8 (by kernel_rfl) (by kernel_rfl) (by kernel_rfl) (by kernel_rfl)) ?_
  intro W base args ds gs before hval0 hW hcnd _
  have hval : ∀ (j : Nat) t v, Try.f8.params[j]? = some t → args[j]? = some v → Value.okWide Try.prog W .any base t v := hval0
  have hW' := hW
  obtain ⟨p, q, hA0, hV, rfl, hfz, hnd⟩ := hW
  have hA : DataW.TrodAll enc Try.prog W 0 (fun _ => true) true Try.f8.params.toList args.toList ds p := hA0
  rw [Try.params8] at hA hval
  obtain ⟨v0, vs0, d0, ds0, p0, q0, hargs, rfl, rfl, h0, r0⟩ := trodAll_cons hA
  obtain ⟨v1, vs1, d1, ds1, p1, q1, rfl, rfl, rfl, h1, r1⟩ := trodAll_cons r0
  obtain ⟨v2, vs2, d2, ds2, p2, q2, rfl, rfl, rfl, h2, r2⟩ := trodAll_cons r1
  obtain ⟨rfl, rfl, rfl⟩ := trodAll_nil r2
  obtain rfl : args = #[v0, v1, v2] := by cases args; simp_all
  obtain ⟨rfl, rfl⟩ := trodVars_none hV
  have k0 := h0
  have lt0 : ∀ x ∈ p0, x.block < W.heap.size := by obtain ⟨m, hm⟩ := k0; exact DataW.trod_lt m _ _ _ hm
  have k1 := h1
  have lt1 : ∀ x ∈ p1, x.block < W.heap.size := by obtain ⟨m, hm⟩ := k1; exact DataW.trod_lt m _ _ _ hm
  have k2 := h2
  have lt2 : ∀ x ∈ p2, x.block < W.heap.size := by obtain ⟨m, hm⟩ := k2; exact DataW.trod_lt m _ _ _ hm
  obtain ⟨cs0, rfl, hsz0⟩ := okWide_struct Try.underlying85 (hval 0 85 v0 rfl rfl)
  obtain ⟨y0, ry0⟩ : ∃ y, RMsg W cs0.toList y := by
    obtain ⟨fuel, hf⟩ := h0
    obtain ⟨y, hy⟩ := opensMsg _ _ _ _ _ _ _ _ _ hf
    exact ⟨y, by simpa [Value.cells] using hy⟩
  obtain ⟨cs1, rfl, hsz1⟩ := okWide_struct Try.underlying85 (hval 1 85 v1 rfl rfl)
  obtain ⟨y1, ry1⟩ : ∃ y, RMsg W cs1.toList y := by
    obtain ⟨fuel, hf⟩ := h1
    obtain ⟨y, hy⟩ := opensMsg _ _ _ _ _ _ _ _ _ hf
    exact ⟨y, by simpa [Value.cells] using hy⟩
  obtain ⟨cs2, rfl, hsz2⟩ := okWide_struct Try.underlying30 (hval 2 30 v2 rfl rfl)
  obtain ⟨y2, ry2⟩ : ∃ y, RChunk W cs2.toList y := by
    obtain ⟨fuel, hf⟩ := h2
    obtain ⟨y, hy⟩ := opensChunk _ _ _ _ _ _ _ _ _ hf
    exact ⟨y, by simpa [Value.cells] using hy⟩
  clear hA0 hval0
  refine (FeedBack_law _ _ _ _ _ _ W ry0 ry1 ry2 (hsz2.trans (by kernel_rfl))).mono fun e W' ⟨he, bel⟩ => ?_
  subst he
  exact ⟨_, rfl, _, _, _, [], _, [], hW', trodAll_mk1 (shut_bool Try.underlying4 _), (trodAll_cons_mk (Below.trod laidOut (by kernel_rfl) (of_decide_eq_true (by kernel_rfl)) k0 bel lt0) (trodAll_cons_mk (Below.trod laidOut (by kernel_rfl) (of_decide_eq_true (by kernel_rfl)) k1 bel lt1) (trodAll_cons_mk (Below.trod laidOut (by kernel_rfl) (of_decide_eq_true (by kernel_rfl)) k2 bel lt2) trodAll_mk0))), rfl, bel.frame _, fun h => by cases h⟩

theorem over : Rows.feedBackRow.holds Try.pinned (OpenSpec.ofChange Rows.feedBackSpec) :=
  OpenClaim.holds_of_wide 8 Try.f8 rfl rfl rfl rfl rfl rfl rfl ⟨rfl, rfl, rfl, rfl, rfl⟩ rfl rfl rfl rfl rfl (by kernel_rfl) Try.func8 (by kernel_rfl)
    (of_decide_eq_true (by kernel_rfl)) (by unfold Func.isWrapper; first | (rw [if_pos (by decide +kernel)]; kernel_rfl) | (rw [if_neg (by decide +kernel)]; exact ⟨rfl, rfl⟩))
    (fun os started H enc _ => lifted os started H enc)

theorem proved : Rows.FeedBackSaid := over
#print axioms proved
end Go.Proofs.Ytlnikmcimmnbmaa.feedBack
