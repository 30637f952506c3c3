/-
  The statement NormalSelf: for every input the call returns true and leaves all that was there as it was.
-/
import Derived.Test.YtppoefbfepehpaaLaw04C
import Derived.Test.YtppoefbfepehpaaOpenS
import Derived.Test.YtppoefbfepehpaaRow
namespace Go.Proofs.Ytppoefbfepehpaa
open Go.RowKit Go.ChangeShapes Go.WideShapes Go.ChangeAt
namespace normalSelf
theorem own : ownKnob Try.prog.godebug = none := by kernel_rfl
theorem laidOut : laidOutB Try.prog = true := by kernel_rfl
theorem reads (os : Os) {H : Type} (enc : TypeId × Value → H) : ∃ places, DataW.whole enc Try.prog ((World.holding Try.prog os ⟨#[], #[], []⟩).forCall (fun _ _ => 0) ⟨#[], #[.agg #[.bool false, .bool false, .bool false, .bool false, .int .i64 0, .string ⟨#[]⟩, .bool false, .bool false, .bool false, .int .i64 0, .string ⟨#[]⟩], .agg #[.bool false, .int .i64 0, .string ⟨#[]⟩]], []⟩).memory Try.f9.params.toList Rows.normalSelfSpec.vars false (#[.agg #[.bool false, .bool false, .bool false, .bool false, .int .i64 0, .string ⟨#[]⟩, .bool false, .bool false, .bool false, .int .i64 0, .string ⟨#[]⟩], .agg #[.bool false, .int .i64 0, .string ⟨#[]⟩]] : Array Value).toList 8 = some ([.agg [.lit (.bool false), .lit (.bool false), .lit (.bool false), .agg [.lit (.bool false), .lit (.int .i64 0), .lit (.string [])], .lit (.bool false), .lit (.bool false), .agg [.lit (.bool false), .lit (.int .i64 0), .lit (.string [])]], .agg [.lit (.bool false), .lit (.int .i64 0), .lit (.string [])]], [], places) :=
  ⟨[], by kernel_rfl⟩
set_option maxRecDepth 100000 in
theorem lifted (os : Os) (started : os.Started) (H : Type) (enc : TypeId × Value → H) (F : Stop.Interp) :
    ReturnsInHanded {} Try.checked os 9 .any ((OpenSpec.ofChange Rows.normalSelfSpec).preRow enc Try.prog Try.f9 Rows.normalSelfRow.domain false Rows.normalSelfRow.laid) (((OpenSpec.ofChange Rows.normalSelfSpec).at F).post enc Try.prog Try.f9 false true false false) := by
  obtain ⟨places, hx⟩ := reads os enc
  refine law_lifted (C := Try.checked) (T := 4) own started (by kernel_rfl) Try.func9 laidOut (by kernel_rfl) rfl (by kernel_rfl) Try.underlying4 ?_
    (witness_row_at (enc := enc) (C := Try.checked) (s := OpenSpec.ofChange Rows.normalSelfSpec) false (World.holding Try.prog os ⟨#[], #[], []⟩) #[.agg #[.bool false, .bool false, .bool false, .bool false, .int .i64 0, .string ⟨#[]⟩, .bool false, .bool false, .bool false, .int .i64 0, .string ⟨#[]⟩], .agg #[.bool false, .int .i64 0, .string ⟨#[]⟩]] rfl (by kernel_rfl) (by kernel_rfl) (by kernel_rfl)
      (OpenSpec.preRow_of_cond 8 hx (by kernel_rfl) (fun k hk => by cases hk) (by kernel_rfl) (laidMet_nil _ _))) ?_
  · intro ds hds
    match ds, (show ds.length = 2 from hds) with
    | [_, _], _ => rfl
  · intro W args ds ps base hval hA _
    change DataW.TrodAll enc Try.prog W 0 (fun _ => true) true [35, 26] args.toList ds ps at hA
    change ∀ (j : Nat) t v, (#[35, 26] : Array TypeId)[j]? = some t → args[j]? = some v → Value.okWide Try.prog W .any base t v at hval
    obtain ⟨v0, vs0, d0, ds0, p0, q0, e0, rfl, rfl, h0, r0⟩ := trodAll_cons hA
    obtain ⟨v1, vs1, d1, ds1, p1, q1, e1, rfl, rfl, h1, r1⟩ := trodAll_cons r0
    obtain ⟨en, rfl, rfl⟩ := trodAll_nil r1
    obtain rfl : args = #[v0, v1] := by cases args; simp_all
    obtain ⟨c0, rfl, k0⟩ := arg_span (hval 0 _ v0 rfl rfl) h0
    obtain ⟨c1, rfl, m1⟩ := arg_val (hval 1 _ v1 rfl rfl) h1
    exact (normalSelf_any c0 c1 (Lt.base W)).mono fun e W' ⟨he, y, hy⟩ => ⟨he, hy ▸ y.2⟩
theorem said : Rows.NormalSelfSaid :=
  OpenClaim.holds_of_cond 9 Try.f9 rfl rfl rfl rfl rfl rfl rfl ⟨rfl, rfl, rfl, rfl, rfl⟩ rfl rfl rfl rfl rfl (by kernel_rfl) Try.func9 (by kernel_rfl)
    (of_decide_eq_true (by kernel_rfl)) (by unfold Func.isWrapper; first | (rw [if_pos (by decide +kernel)]; kernel_rfl) | (rw [if_neg (by decide +kernel)]; exact ⟨rfl, rfl⟩))
    (fun os started H enc _ F => by rw [OpenClaim.pre_eq_preRow]; exact lifted os started H enc F)
end normalSelf
end Go.Proofs.Ytppoefbfepehpaa
