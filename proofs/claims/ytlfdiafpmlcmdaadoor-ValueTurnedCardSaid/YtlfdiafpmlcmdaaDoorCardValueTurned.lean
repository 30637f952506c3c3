/-
  The statement ValueTurned: for every input the call returns true and leaves all that was there as it was, where the laid variables hold what the program's text lays (the card ties that to the text).
-/
import Derived.Test.YtlfdiafpmlcmdaaDoorLaid01
import Derived.Test.YtlfdiafpmlcmdaaDoorOpenV
import Derived.Test.YtlfdiafpmlcmdaaDoorLaw01D
import Derived.OpenShut
namespace Go.Proofs.YtlfdiafpmlcmdaaDoor
open Go.RowKit Go.ChangeShapes Go.WideShapes Go.ChangeAt
namespace valueTurned
theorem laid_met (os : Os) : laidMet Tryd.prog Rows.valueTurnedRow.laid ((laidWorld os).forCall (fun _ _ => 0) ⟨#[], #[.int .i64 0, .int .i64 0], []⟩).memory :=
  laidMet_of_run' 8 (by kernel_rfl) (by kernel_rfl)
theorem reads (os : Os) {H : Type} (enc : TypeId × Value → H) : ∃ places, DataW.whole enc Tryd.prog ((laidWorld os).forCall (fun _ _ => 0) ⟨#[], #[.int .i64 0, .int .i64 0], []⟩).memory Tryd.f9.params.toList Rows.valueTurnedSpec.vars false (#[.int .i64 0, .int .i64 0] : Array Value).toList 8 = some ([.lit (.int .i64 0), .lit (.int .i64 0)], [], places) :=
  ⟨[], by kernel_rfl⟩
set_option maxRecDepth 100000 in
theorem lifted (os : Os) (started : os.Started) (H : Type) (enc : TypeId × Value → H) (F : Stop.Interp) :
    ReturnsInHanded {} Tryd.checked os 9 .any ((OpenSpec.ofChange Rows.valueTurnedSpec).preRow enc Tryd.prog Tryd.f9 Rows.valueTurnedRow.domain false Rows.valueTurnedRow.laid) (((OpenSpec.ofChange Rows.valueTurnedSpec).at F).post enc Tryd.prog Tryd.f9 false true false false) := by
  obtain ⟨places, hx⟩ := reads os enc
  refine law_lifted (C := Tryd.checked) (T := 4) own started (by kernel_rfl) Tryd.func9 laidOut (by kernel_rfl) rfl (by kernel_rfl) Tryd.underlying4 ?_
    (witness_row_at (enc := enc) (C := Tryd.checked) (s := OpenSpec.ofChange Rows.valueTurnedSpec) false (laidWorld os) #[.int .i64 0, .int .i64 0] rfl (by kernel_rfl) (by kernel_rfl) (by kernel_rfl)
      (OpenSpec.preRow_of_cond 8 hx (by kernel_rfl) (fun k hk => by cases hk) (by kernel_rfl) (laid_met os))) ?_
  · intro ds hds
    match ds, (show ds.length = 2 from hds) with
    | [_, _], _ => rfl
  · intro W args ds ps base hval hA hL
    change DataW.TrodAll enc Tryd.prog W 0 (fun _ => true) true [2, 2] args.toList ds ps at hA
    change ∀ (j : Nat) t v, (#[2, 2] : Array TypeId)[j]? = some t → args[j]? = some v → Value.okWide Tryd.prog W .any base t v at hval
    obtain ⟨v0, vs0, d0, ds0, p0, q0, e0, rfl, rfl, h0, r0⟩ := trodAll_cons hA
    obtain ⟨v1, vs1, d1, ds1, p1, q1, e1, rfl, rfl, h1, r1⟩ := trodAll_cons r0
    obtain ⟨en, rfl, rfl⟩ := trodAll_nil r1
    obtain rfl : args = #[v0, v1] := by cases args; simp_all
    obtain ⟨c0, rfl, _, _, w0⟩ := open_int Tryd.underlying2 (hval 0 _ v0 rfl rfl) h0
    have m0 := Num.is_iff.2 (bounds_i64 w0)
    obtain ⟨c1, rfl, _, _, w1⟩ := open_int Tryd.underlying2 (hval 1 _ v1 rfl rfl) h1
    have m1 := Num.is_iff.2 (bounds_i64 w1)
    exact (valueTurned_any (digs_of_laid hL) m0 m1 (Lt.base W)).mono fun e W' ⟨he, y, hy⟩ => ⟨he, hy ▸ y.2⟩
theorem said : Rows.ValueTurnedSaid :=
  OpenClaim.holds_of_cond 9 Tryd.f9 rfl rfl rfl rfl rfl rfl rfl ⟨rfl, rfl, rfl, rfl, rfl⟩ rfl rfl rfl rfl rfl (by kernel_rfl) Tryd.func9 (by kernel_rfl)
    (of_decide_eq_true (by kernel_rfl)) (by unfold Func.isWrapper; first | (rw [if_pos (by decide +kernel)]; kernel_rfl) | (rw [if_neg (by decide +kernel)]; exact ⟨rfl, rfl⟩))
    (fun os started H enc _ F => by rw [OpenClaim.pre_eq_preRow]; exact lifted os started H enc F)
theorem plain (f : FuncId) (fn : Func) (hf : Tryd.pinned.checked.prog.funcNamed "ratline/ratlinelaw01.ValueTurned" = some f) (hfn : Tryd.pinned.checked.prog.funcs[f]? = some fn) :
    true = Tryd.pinned.checked.prog.looks [] ∧ ∀ (j : Nat) t, fn.params[j]? = some t → Tryd.pinned.checked.prog.wantsStandIn t = false := by
  obtain rfl : f = 9 := Option.some.inj ((show Tryd.prog.funcNamed "ratline/ratlinelaw01.ValueTurned" = some 9 by kernel_rfl).symm.trans hf) |>.symm
  obtain rfl : fn = Tryd.f9 := (Option.some.inj (Tryd.func9.symm.trans hfn)).symm
  refine ⟨by kernel_rfl, fun j t ht => ?_⟩
  rw [Tryd.params9] at ht
  obtain rfl : t = 2 := by simpa using Array.mem_of_getElem? ht
  exact (show Tryd.prog.wantsStandIn 2 = false by kernel_rfl)
theorem card : Rows.ValueTurnedCardSaid :=
  Claim7.holds_tied_plain_at .later [] _ _ _ _ said (fun _ h => by cases h) (by kernel_rfl) (fun _ h => by cases h) valueTurned_row_tie rfl ⟨rfl, rfl⟩ (by kernel_rfl) rfl plain (by kernel_rfl)
end valueTurned
end Go.Proofs.YtlfdiafpmlcmdaaDoor

