/-
  The statement PredAbove: for every input the call returns true and leaves all that was there as it was.
-/
import Derived.Test.YtmhgebbmccklmaaLaw03G
import Derived.Test.YtmhgebbmccklmaaRow
namespace Go.Proofs.Ytmhgebbmccklmaa
open Go.RowKit Go.ChangeShapes Go.WideShapes Go.ChangeAt
namespace predAbove
theorem own : ownKnob Try.prog.godebug = none := by kernel_rfl
theorem laidOut : laidOutB Try.prog = true := by kernel_rfl
theorem reads (os : Os) {H : Type} (enc : TypeId × Value → H) : ∃ places, DataW.whole enc Try.prog ((World.holding Try.prog os ⟨#[], #[], []⟩).forCall (fun _ _ => 0) ⟨#[], #[.slice none 0 0, .agg #[.bool false, .int .i64 0, .string ⟨#[]⟩]], []⟩).memory Try.f10.params.toList Rows.predAboveSpec.vars false (#[.slice none 0 0, .agg #[.bool false, .int .i64 0, .string ⟨#[]⟩]] : Array Value).toList 8 = some ([.nil, .agg [.lit (.bool false), .lit (.int .i64 0), .lit (.string [])]], [], places) :=
  ⟨[], by kernel_rfl⟩
set_option maxRecDepth 100000 in
theorem lifted (os : Os) (started : os.Started) (H : Type) (enc : TypeId × Value → H) (F : Stop.Interp) :
    ReturnsInHanded {} Try.checked os 10 .any ((OpenSpec.ofChange Rows.predAboveSpec).preRow enc Try.prog Try.f10 Rows.predAboveRow.domain false Rows.predAboveRow.laid) (((OpenSpec.ofChange Rows.predAboveSpec).at F).post enc Try.prog Try.f10 false true false false) := by
  obtain ⟨places, hx⟩ := reads os enc
  refine law_lifted (C := Try.checked) (T := 4) own started (by kernel_rfl) Try.func10 laidOut (by kernel_rfl) rfl (by kernel_rfl) Try.underlying4 ?_
    (witness_row_at (enc := enc) (C := Try.checked) (s := OpenSpec.ofChange Rows.predAboveSpec) false (World.holding Try.prog os ⟨#[], #[], []⟩) #[.slice none 0 0, .agg #[.bool false, .int .i64 0, .string ⟨#[]⟩]] rfl (by kernel_rfl) (by kernel_rfl) (by kernel_rfl)
      (OpenSpec.preRow_of_cond 8 hx (by kernel_rfl) (fun k hk => by cases hk) (by kernel_rfl) (laidMet_nil _ _))) ?_
  · intro ds hds
    match ds, (show ds.length = 2 from hds) with
    | [_, _], _ => rfl
  · intro W args ds ps base hval hA _
    change DataW.TrodAll enc Try.prog W 0 (fun _ => true) true [28, 23] args.toList ds ps at hA
    change ∀ (j : Nat) t v, (#[28, 23] : Array TypeId)[j]? = some t → args[j]? = some v → Value.okWide Try.prog W .any base t v at hval
    obtain ⟨v0, vs0, d0, ds0, p0, q0, e0, rfl, rfl, h0, r0⟩ := trodAll_cons hA
    obtain ⟨v1, vs1, d1, ds1, p1, q1, e1, rfl, rfl, h1, r1⟩ := trodAll_cons r0
    obtain ⟨en, rfl, rfl⟩ := trodAll_nil r1
    obtain rfl : args = #[v0, v1] := by cases args; simp_all
    obtain ⟨A0, ca0, c0, rfl, k0, m0, n0⟩ := arg_row (hval 0 _ v0 rfl rfl) h0
    obtain ⟨c1, rfl, m1⟩ := arg_val (hval 1 _ v1 rfl rfl) h1
    exact (predAbove_any k0 m0 (Lt.base W)).mono fun e W' ⟨he, y, hy⟩ => ⟨he, hy ▸ y.2⟩
theorem said : Rows.PredAboveSaid :=
  OpenClaim.holds_of_cond 10 Try.f10 rfl rfl rfl rfl rfl rfl rfl ⟨rfl, rfl, rfl, rfl, rfl⟩ rfl rfl rfl rfl rfl (by kernel_rfl) Try.func10 (by kernel_rfl)
    (of_decide_eq_true (by kernel_rfl)) (by unfold Func.isWrapper; first | (rw [if_pos (by decide +kernel)]; kernel_rfl) | (rw [if_neg (by decide +kernel)]; exact ⟨rfl, rfl⟩))
    (fun os started H enc _ F => by rw [OpenClaim.pre_eq_preRow]; exact lifted os started H enc F)
end predAbove
end Go.Proofs.Ytmhgebbmccklmaa
