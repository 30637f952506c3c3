/-
  The statement NormalTwice: for every input the call returns true and leaves all that was there as it was.
-/
import Derived.Test.YtppoefbfepehpaaLaw04G
import Derived.Test.YtppoefbfepehpaaOpenS
import Derived.Test.YtppoefbfepehpaaRow
namespace Go.Proofs.Ytppoefbfepehpaa
open Go.RowKit Go.ChangeShapes Go.WideShapes Go.ChangeAt
namespace normalTwice
theorem own : ownKnob Try.prog.godebug = none := by kernel_rfl
theorem laidOut : laidOutB Try.prog = true := by kernel_rfl
theorem reads (os : Os) {H : Type} (enc : TypeId × Value → H) : ∃ places, DataW.whole enc Try.prog ((World.holding Try.prog os ⟨#[], #[], []⟩).forCall (fun _ _ => 0) ⟨#[], #[.agg #[.slice none 0 0], .agg #[.int .i64 0, .int .i64 0, .bool false, .int .i64 0, .string ⟨#[]⟩, .bool false, .int .i64 0, .string ⟨#[]⟩, .slice none 0 0]], []⟩).memory Try.f8.params.toList Rows.normalTwiceSpec.vars false (#[.agg #[.slice none 0 0], .agg #[.int .i64 0, .int .i64 0, .bool false, .int .i64 0, .string ⟨#[]⟩, .bool false, .int .i64 0, .string ⟨#[]⟩, .slice none 0 0]] : Array Value).toList 8 = some ([.agg [.nil], .agg [.lit (.int .i64 0), .lit (.int .i64 0), .agg [.lit (.bool false), .lit (.int .i64 0), .lit (.string [])], .agg [.lit (.bool false), .lit (.int .i64 0), .lit (.string [])], .nil]], [], places) :=
  ⟨[], by kernel_rfl⟩
set_option maxRecDepth 100000 in
theorem lifted (os : Os) (started : os.Started) (H : Type) (enc : TypeId × Value → H) (F : Stop.Interp) :
    ReturnsInHanded {} Try.checked os 8 .any ((OpenSpec.ofChange Rows.normalTwiceSpec).preRow enc Try.prog Try.f8 Rows.normalTwiceRow.domain false Rows.normalTwiceRow.laid) (((OpenSpec.ofChange Rows.normalTwiceSpec).at F).post enc Try.prog Try.f8 false true false false) := by
  obtain ⟨places, hx⟩ := reads os enc
  refine law_lifted (C := Try.checked) (T := 4) own started (by kernel_rfl) Try.func8 laidOut (by kernel_rfl) rfl (by kernel_rfl) Try.underlying4 ?_
    (witness_row_at (enc := enc) (C := Try.checked) (s := OpenSpec.ofChange Rows.normalTwiceSpec) false (World.holding Try.prog os ⟨#[], #[], []⟩) #[.agg #[.slice none 0 0], .agg #[.int .i64 0, .int .i64 0, .bool false, .int .i64 0, .string ⟨#[]⟩, .bool false, .int .i64 0, .string ⟨#[]⟩, .slice none 0 0]] rfl (by kernel_rfl) (by kernel_rfl) (by kernel_rfl)
      (OpenSpec.preRow_of_cond 8 hx (by kernel_rfl) (fun k hk => by cases hk) (by kernel_rfl) (laidMet_nil _ _))) ?_
  · intro ds hds
    match ds, (show ds.length = 2 from hds) with
    | [_, _], _ => rfl
  · intro W args ds ps base hval hA _
    change DataW.TrodAll enc Try.prog W 0 (fun _ => true) true [24, 29] args.toList ds ps at hA
    change ∀ (j : Nat) t v, (#[24, 29] : Array TypeId)[j]? = some t → args[j]? = some v → Value.okWide Try.prog W .any base t v at hval
    obtain ⟨v0, vs0, d0, ds0, p0, q0, e0, rfl, rfl, h0, r0⟩ := trodAll_cons hA
    obtain ⟨v1, vs1, d1, ds1, p1, q1, e1, rfl, rfl, h1, r1⟩ := trodAll_cons r0
    obtain ⟨en, rfl, rfl⟩ := trodAll_nil r1
    obtain rfl : args = #[v0, v1] := by cases args; simp_all
    obtain ⟨A0, ca0, c0, rfl, k0⟩ := arg_table (hval 0 _ v0 rfl rfl) h0
    obtain ⟨c1, A1, ca1, rfl, k1⟩ := arg_pred (hval 1 _ v1 rfl rfl) h1
    exact (normalTwice_any k0 k1 (Lt.base W)).mono fun e W' ⟨he, y, hy⟩ => ⟨he, hy ▸ y.2⟩
theorem said : Rows.NormalTwiceSaid :=
  OpenClaim.holds_of_cond 8 Try.f8 rfl rfl rfl rfl rfl rfl rfl ⟨rfl, rfl, rfl, rfl, rfl⟩ rfl rfl rfl rfl rfl (by kernel_rfl) Try.func8 (by kernel_rfl)
    (of_decide_eq_true (by kernel_rfl)) (by unfold Func.isWrapper; first | (rw [if_pos (by decide +kernel)]; kernel_rfl) | (rw [if_neg (by decide +kernel)]; exact ⟨rfl, rfl⟩))
    (fun os started H enc _ F => by rw [OpenClaim.pre_eq_preRow]; exact lifted os started H enc F)
end normalTwice
end Go.Proofs.Ytppoefbfepehpaa
