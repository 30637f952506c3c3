/-
  The seven statements on modes: for every input the call returns true and leaves all that was there as it was, where package mode's two tables hold what the program's text lays (the cards tie that to the text).
-/
import Derived.Test.YtfonmcncgfabaaaDoorCards
import Derived.Test.YtfonmcncgfabaaaDoorTie
import Derived.Test.YtfonmcncgfabaaaDoorRow
import Derived.Test.YtfonmcncgfabaaaDoorModeLawB
namespace Go.Proofs.YtfonmcncgfabaaaDoor
open Go.RowKit Go.ChangeShapes Go.WideShapes Go.ChangeAt

theorem own : ownKnob Tryd.prog.godebug = none := by kernel_rfl
theorem laidOut : laidOutB Tryd.prog = true := by kernel_rfl
theorem gAgainst : Tryd.prog.globalNamed "ratline/mode.against" = some 0 := by kernel_rfl
theorem gAgainstT : (Tryd.prog.globals[0]?).map (·.type) = some 30 := by kernel_rfl
theorem gNames : Tryd.prog.globalNamed "ratline/mode.names" = some 1 := by kernel_rfl
theorem gNamesT : (Tryd.prog.globals[1]?).map (·.type) = some 33 := by kernel_rfl
theorem cA : Tryd.prog.cellsOf 30 = 7 := by kernel_rfl
theorem cN : Tryd.prog.cellsOf 33 = 7 := by kernel_rfl
theorem c5 : Tryd.prog.cellsOf 5 = 1 := by kernel_rfl
theorem c9 : Tryd.prog.cellsOf 9 = 1 := by kernel_rfl

theorem tabs_of_laid {W : World} (h : laidMet Tryd.prog [("ratline/mode.against", Rows.laid_ratline_mode_against), ("ratline/mode.names", Rows.laid_ratline_mode_names)] W) : Tabs W := by
  refine ⟨fun i hi => ?_, fun i hi => ?_⟩
  · obtain ⟨v, d, q, m, h1, h2, h3⟩ := laid_arr gAgainst gAgainstT Tryd.underlying30 c5 cA h i hi
    rw [h1]
    obtain ⟨z, hz, hd, _⟩ := DataW.trod_int Tryd.underlying5 h3
    obtain rfl : v = .int .u8 z := by simpa using hz
    simp only [Prod.mk.injEq] at hd
    obtain ⟨rfl, _⟩ := hd
    match i, hi with
    | 0, _ | 1, _ | 2, _ | 3, _ | 4, _ | 5, _ | 6, _ => simpa [M.tab] using h2.symm
  · obtain ⟨v, d, q, m, h1, h2, h3⟩ := laid_arr gNames gNamesT Tryd.underlying33 c9 cN h.tail i hi
    rw [h1]
    obtain ⟨s, hs, hd, _⟩ := DataW.trod_string Tryd.underlying9 h3
    obtain rfl : v = .string s := by simpa using hs
    simp only [Prod.mk.injEq] at hd
    obtain ⟨rfl, _⟩ := hd
    have key : ∀ l : List UInt8, (some (DataW.lit (.string l)) : Option (DataW Unit)) = some (.lit (.string s.data.toList)) → s = ⟨l.toArray⟩ := by
      intro l hl
      have e : l = s.data.toList := by simpa using hl
      subst e
      simp
    match i, hi with
    | 0, _ | 1, _ | 2, _ | 3, _ | 4, _ | 5, _ | 6, _ => rw [key _ h2]; rfl

/-- A world for the witness: the settled one, the two tables holding what their initialisers lay. -/
def lay0 : Obj → Obj
  | .cells _ t frozen => .cells #[.int .u8 0, .int .u8 64, .int .u8 120, .int .u8 84, .int .u8 124, .int .u8 116, .int .u8 126] t frozen
  | o => o
def lay1 : Obj → Obj
  | .cells _ t frozen => .cells #[.string ⟨#[78, 76]⟩, .string ⟨#[73, 83]⟩, .string ⟨#[73, 88]⟩, .string ⟨#[83]⟩, .string ⟨#[83, 73, 88]⟩, .string ⟨#[85]⟩, .string ⟨#[88]⟩] t frozen
  | o => o
noncomputable def laidWorld (os : Os) : World :=
  { World.holding Tryd.prog os ⟨#[], #[], []⟩ with heap := ((World.holding Tryd.prog os ⟨#[], #[], []⟩).heap.modify 0 lay0).modify 1 lay1 }

namespace modePairs
theorem laid_met (os : Os) : laidMet Tryd.prog Rows.modePairsRow.laid ((laidWorld os).forCall (fun _ _ => 0) ⟨#[], #[.int .i64 0, .int .i64 0], []⟩).memory :=
  laidMet_of_run' 8 (by kernel_rfl) (by kernel_rfl)
theorem reads (os : Os) {H : Type} (enc : TypeId × Value → H) : ∃ places, DataW.whole enc Tryd.prog ((laidWorld os).forCall (fun _ _ => 0) ⟨#[], #[.int .i64 0, .int .i64 0], []⟩).memory Tryd.f3.params.toList Rows.modePairsSpec.vars false (#[.int .i64 0, .int .i64 0] : Array Value).toList 8 = some ([.lit (.int .i64 0), .lit (.int .i64 0)], [], places) :=
  ⟨[], by kernel_rfl⟩
set_option maxRecDepth 100000 in
theorem lifted (os : Os) (started : os.Started) (H : Type) (enc : TypeId × Value → H) (F : Stop.Interp) :
    ReturnsInHanded {} Tryd.checked os 3 .any ((OpenSpec.ofChange Rows.modePairsSpec).preRow enc Tryd.prog Tryd.f3 Rows.modePairsRow.domain false Rows.modePairsRow.laid) (((OpenSpec.ofChange Rows.modePairsSpec).at F).post enc Tryd.prog Tryd.f3 false true false false) := by
  obtain ⟨places, hx⟩ := reads os enc
  refine law_lifted (C := Tryd.checked) (T := 4) own started (by kernel_rfl) Tryd.func3 laidOut (by kernel_rfl) rfl (by kernel_rfl) Tryd.underlying4 ?_
    (witness_row_at (enc := enc) (C := Tryd.checked) (s := OpenSpec.ofChange Rows.modePairsSpec) false (laidWorld os) #[.int .i64 0, .int .i64 0] rfl (by kernel_rfl) (by kernel_rfl) (by kernel_rfl)
      (OpenSpec.preRow_of_cond 8 hx (by kernel_rfl) (fun k hk => by cases hk) (by kernel_rfl) (laid_met os))) ?_
  · intro ds hds
    match ds, (show ds.length = 2 from hds) with
    | [_, _], _ => rfl
  · intro W args ds ps base hval hA hL
    have hT : Tabs W := tabs_of_laid hL
    change DataW.TrodAll enc Tryd.prog W 0 (fun _ => true) true [22, 22] args.toList ds ps at hA
    change ∀ (j : Nat) t v, (#[22, 22] : Array TypeId)[j]? = some t → args[j]? = some v → Value.okWide Tryd.prog W .any base t v at hval
    obtain ⟨v0, vs0, d0, ds0, p0, q0, e0, rfl, rfl, h0, r0⟩ := trodAll_cons hA
    obtain ⟨v1, vs1, d1, ds1, p1, q1, e1, rfl, rfl, h1, r1⟩ := trodAll_cons r0
    obtain ⟨en, rfl, rfl⟩ := trodAll_nil r1
    obtain rfl : args = #[v0, v1] := by cases args; simp_all
    obtain ⟨a, rfl, _, _, _⟩ := open_int Tryd.underlying22 (hval 0 _ v0 rfl rfl) h0
    obtain ⟨b, rfl, _, _, _⟩ := open_int Tryd.underlying22 (hval 1 _ v1 rfl rfl) h1
    exact (modePairs_any hT a b (Lt.base W)).mono fun e W' ⟨he, y, hy⟩ => ⟨he, hy ▸ y.2⟩
theorem said : Rows.ModePairsSaid :=
  OpenClaim.holds_of_cond 3 Tryd.f3 rfl rfl rfl rfl rfl rfl rfl ⟨rfl, rfl, rfl, rfl, rfl⟩ rfl rfl rfl rfl rfl (by kernel_rfl) Tryd.func3 (by kernel_rfl)
    (of_decide_eq_true (by kernel_rfl)) (by unfold Func.isWrapper; first | (rw [if_pos (by decide +kernel)]; kernel_rfl) | (rw [if_neg (by decide +kernel)]; exact ⟨rfl, rfl⟩))
    (fun os started H enc _ F => by rw [OpenClaim.pre_eq_preRow]; exact lifted os started H enc F)
theorem plain (f : FuncId) (fn : Func) (hf : Tryd.pinned.checked.prog.funcNamed "ratline/ratlinelaw08.ModePairs" = some f) (hfn : Tryd.pinned.checked.prog.funcs[f]? = some fn) :
    false = Tryd.pinned.checked.prog.looks [] ∧ ∀ (j : Nat) t, fn.params[j]? = some t → Tryd.pinned.checked.prog.wantsStandIn t = false := by
  obtain rfl : f = 3 := Option.some.inj ((show Tryd.prog.funcNamed "ratline/ratlinelaw08.ModePairs" = some 3 by kernel_rfl).symm.trans hf) |>.symm
  obtain rfl : fn = Tryd.f3 := (Option.some.inj (Tryd.func3.symm.trans hfn)).symm
  refine ⟨by kernel_rfl, fun j t ht => ?_⟩
  rw [Tryd.params3] at ht
  obtain rfl : t = 22 := by simpa using Array.mem_of_getElem? ht
  exact (show Tryd.prog.wantsStandIn 22 = false by kernel_rfl)
theorem card : Rows.ModePairsCardSaid :=
  Claim7.holds_tied_plain_at .later [] _ _ _ _ said (fun _ h => by cases h) (by kernel_rfl) (fun _ h => by cases h) modePairs_row_tie rfl ⟨rfl, rfl⟩ (by kernel_rfl) rfl plain (by kernel_rfl)
end modePairs

namespace modeJoins
theorem laid_met (os : Os) : laidMet Tryd.prog Rows.modeJoinsRow.laid ((laidWorld os).forCall (fun _ _ => 0) ⟨#[], #[.int .i64 0, .int .i64 0, .int .i64 0], []⟩).memory :=
  laidMet_of_run' 8 (by kernel_rfl) (by kernel_rfl)
theorem reads (os : Os) {H : Type} (enc : TypeId × Value → H) : ∃ places, DataW.whole enc Tryd.prog ((laidWorld os).forCall (fun _ _ => 0) ⟨#[], #[.int .i64 0, .int .i64 0, .int .i64 0], []⟩).memory Tryd.f4.params.toList Rows.modeJoinsSpec.vars false (#[.int .i64 0, .int .i64 0, .int .i64 0] : Array Value).toList 8 = some ([.lit (.int .i64 0), .lit (.int .i64 0), .lit (.int .i64 0)], [], places) :=
  ⟨[], by kernel_rfl⟩
set_option maxRecDepth 100000 in
theorem lifted (os : Os) (started : os.Started) (H : Type) (enc : TypeId × Value → H) (F : Stop.Interp) :
    ReturnsInHanded {} Tryd.checked os 4 .any ((OpenSpec.ofChange Rows.modeJoinsSpec).preRow enc Tryd.prog Tryd.f4 Rows.modeJoinsRow.domain false Rows.modeJoinsRow.laid) (((OpenSpec.ofChange Rows.modeJoinsSpec).at F).post enc Tryd.prog Tryd.f4 false true false false) := by
  obtain ⟨places, hx⟩ := reads os enc
  refine law_lifted (C := Tryd.checked) (T := 4) own started (by kernel_rfl) Tryd.func4 laidOut (by kernel_rfl) rfl (by kernel_rfl) Tryd.underlying4 ?_
    (witness_row_at (enc := enc) (C := Tryd.checked) (s := OpenSpec.ofChange Rows.modeJoinsSpec) false (laidWorld os) #[.int .i64 0, .int .i64 0, .int .i64 0] rfl (by kernel_rfl) (by kernel_rfl) (by kernel_rfl)
      (OpenSpec.preRow_of_cond 8 hx (by kernel_rfl) (fun k hk => by cases hk) (by kernel_rfl) (laid_met os))) ?_
  · intro ds hds
    match ds, (show ds.length = 3 from hds) with
    | [_, _, _], _ => rfl
  · intro W args ds ps base hval hA hL
    have hT : Tabs W := tabs_of_laid hL
    change DataW.TrodAll enc Tryd.prog W 0 (fun _ => true) true [22, 22, 22] args.toList ds ps at hA
    change ∀ (j : Nat) t v, (#[22, 22, 22] : Array TypeId)[j]? = some t → args[j]? = some v → Value.okWide Tryd.prog W .any base t v at hval
    obtain ⟨v0, vs0, d0, ds0, p0, q0, e0, rfl, rfl, h0, r0⟩ := trodAll_cons hA
    obtain ⟨v1, vs1, d1, ds1, p1, q1, e1, rfl, rfl, h1, r1⟩ := trodAll_cons r0
    obtain ⟨v2, vs2, d2, ds2, p2, q2, e2, rfl, rfl, h2, r2⟩ := trodAll_cons r1
    obtain ⟨en, rfl, rfl⟩ := trodAll_nil r2
    obtain rfl : args = #[v0, v1, v2] := by cases args; simp_all
    obtain ⟨a, rfl, _, _, _⟩ := open_int Tryd.underlying22 (hval 0 _ v0 rfl rfl) h0
    obtain ⟨b, rfl, _, _, _⟩ := open_int Tryd.underlying22 (hval 1 _ v1 rfl rfl) h1
    obtain ⟨c, rfl, _, _, _⟩ := open_int Tryd.underlying22 (hval 2 _ v2 rfl rfl) h2
    exact (modeJoins_any hT a b c (Lt.base W)).mono fun e W' ⟨he, y, hy⟩ => ⟨he, hy ▸ y.2⟩
theorem said : Rows.ModeJoinsSaid :=
  OpenClaim.holds_of_cond 4 Tryd.f4 rfl rfl rfl rfl rfl rfl rfl ⟨rfl, rfl, rfl, rfl, rfl⟩ rfl rfl rfl rfl rfl (by kernel_rfl) Tryd.func4 (by kernel_rfl)
    (of_decide_eq_true (by kernel_rfl)) (by unfold Func.isWrapper; first | (rw [if_pos (by decide +kernel)]; kernel_rfl) | (rw [if_neg (by decide +kernel)]; exact ⟨rfl, rfl⟩))
    (fun os started H enc _ F => by rw [OpenClaim.pre_eq_preRow]; exact lifted os started H enc F)
theorem plain (f : FuncId) (fn : Func) (hf : Tryd.pinned.checked.prog.funcNamed "ratline/ratlinelaw08.ModeJoins" = some f) (hfn : Tryd.pinned.checked.prog.funcs[f]? = some fn) :
    false = Tryd.pinned.checked.prog.looks [] ∧ ∀ (j : Nat) t, fn.params[j]? = some t → Tryd.pinned.checked.prog.wantsStandIn t = false := by
  obtain rfl : f = 4 := Option.some.inj ((show Tryd.prog.funcNamed "ratline/ratlinelaw08.ModeJoins" = some 4 by kernel_rfl).symm.trans hf) |>.symm
  obtain rfl : fn = Tryd.f4 := (Option.some.inj (Tryd.func4.symm.trans hfn)).symm
  refine ⟨by kernel_rfl, fun j t ht => ?_⟩
  rw [Tryd.params4] at ht
  obtain rfl : t = 22 := by simpa using Array.mem_of_getElem? ht
  exact (show Tryd.prog.wantsStandIn 22 = false by kernel_rfl)
theorem card : Rows.ModeJoinsCardSaid :=
  Claim7.holds_tied_plain_at .later [] _ _ _ _ said (fun _ h => by cases h) (by kernel_rfl) (fun _ h => by cases h) modeJoins_row_tie rfl ⟨rfl, rfl⟩ (by kernel_rfl) rfl plain (by kernel_rfl)
end modeJoins

namespace modeOrders
theorem laid_met (os : Os) : laidMet Tryd.prog Rows.modeOrdersRow.laid ((laidWorld os).forCall (fun _ _ => 0) ⟨#[], #[.int .i64 0, .int .i64 0, .int .i64 0], []⟩).memory :=
  laidMet_of_run' 8 (by kernel_rfl) (by kernel_rfl)
theorem reads (os : Os) {H : Type} (enc : TypeId × Value → H) : ∃ places, DataW.whole enc Tryd.prog ((laidWorld os).forCall (fun _ _ => 0) ⟨#[], #[.int .i64 0, .int .i64 0, .int .i64 0], []⟩).memory Tryd.f5.params.toList Rows.modeOrdersSpec.vars false (#[.int .i64 0, .int .i64 0, .int .i64 0] : Array Value).toList 8 = some ([.lit (.int .i64 0), .lit (.int .i64 0), .lit (.int .i64 0)], [], places) :=
  ⟨[], by kernel_rfl⟩
set_option maxRecDepth 100000 in
theorem lifted (os : Os) (started : os.Started) (H : Type) (enc : TypeId × Value → H) (F : Stop.Interp) :
    ReturnsInHanded {} Tryd.checked os 5 .any ((OpenSpec.ofChange Rows.modeOrdersSpec).preRow enc Tryd.prog Tryd.f5 Rows.modeOrdersRow.domain false Rows.modeOrdersRow.laid) (((OpenSpec.ofChange Rows.modeOrdersSpec).at F).post enc Tryd.prog Tryd.f5 false true false false) := by
  obtain ⟨places, hx⟩ := reads os enc
  refine law_lifted (C := Tryd.checked) (T := 4) own started (by kernel_rfl) Tryd.func5 laidOut (by kernel_rfl) rfl (by kernel_rfl) Tryd.underlying4 ?_
    (witness_row_at (enc := enc) (C := Tryd.checked) (s := OpenSpec.ofChange Rows.modeOrdersSpec) false (laidWorld os) #[.int .i64 0, .int .i64 0, .int .i64 0] rfl (by kernel_rfl) (by kernel_rfl) (by kernel_rfl)
      (OpenSpec.preRow_of_cond 8 hx (by kernel_rfl) (fun k hk => by cases hk) (by kernel_rfl) (laid_met os))) ?_
  · intro ds hds
    match ds, (show ds.length = 3 from hds) with
    | [_, _, _], _ => rfl
  · intro W args ds ps base hval hA hL
    have hT : Tabs W := tabs_of_laid hL
    change DataW.TrodAll enc Tryd.prog W 0 (fun _ => true) true [22, 22, 22] args.toList ds ps at hA
    change ∀ (j : Nat) t v, (#[22, 22, 22] : Array TypeId)[j]? = some t → args[j]? = some v → Value.okWide Tryd.prog W .any base t v at hval
    obtain ⟨v0, vs0, d0, ds0, p0, q0, e0, rfl, rfl, h0, r0⟩ := trodAll_cons hA
    obtain ⟨v1, vs1, d1, ds1, p1, q1, e1, rfl, rfl, h1, r1⟩ := trodAll_cons r0
    obtain ⟨v2, vs2, d2, ds2, p2, q2, e2, rfl, rfl, h2, r2⟩ := trodAll_cons r1
    obtain ⟨en, rfl, rfl⟩ := trodAll_nil r2
    obtain rfl : args = #[v0, v1, v2] := by cases args; simp_all
    obtain ⟨a, rfl, _, _, _⟩ := open_int Tryd.underlying22 (hval 0 _ v0 rfl rfl) h0
    obtain ⟨b, rfl, _, _, _⟩ := open_int Tryd.underlying22 (hval 1 _ v1 rfl rfl) h1
    obtain ⟨c, rfl, _, _, _⟩ := open_int Tryd.underlying22 (hval 2 _ v2 rfl rfl) h2
    exact (modeOrders_any hT a b c (Lt.base W)).mono fun e W' ⟨he, y, hy⟩ => ⟨he, hy ▸ y.2⟩
theorem said : Rows.ModeOrdersSaid :=
  OpenClaim.holds_of_cond 5 Tryd.f5 rfl rfl rfl rfl rfl rfl rfl ⟨rfl, rfl, rfl, rfl, rfl⟩ rfl rfl rfl rfl rfl (by kernel_rfl) Tryd.func5 (by kernel_rfl)
    (of_decide_eq_true (by kernel_rfl)) (by unfold Func.isWrapper; first | (rw [if_pos (by decide +kernel)]; kernel_rfl) | (rw [if_neg (by decide +kernel)]; exact ⟨rfl, rfl⟩))
    (fun os started H enc _ F => by rw [OpenClaim.pre_eq_preRow]; exact lifted os started H enc F)
theorem plain (f : FuncId) (fn : Func) (hf : Tryd.pinned.checked.prog.funcNamed "ratline/ratlinelaw08.ModeOrders" = some f) (hfn : Tryd.pinned.checked.prog.funcs[f]? = some fn) :
    false = Tryd.pinned.checked.prog.looks [] ∧ ∀ (j : Nat) t, fn.params[j]? = some t → Tryd.pinned.checked.prog.wantsStandIn t = false := by
  obtain rfl : f = 5 := Option.some.inj ((show Tryd.prog.funcNamed "ratline/ratlinelaw08.ModeOrders" = some 5 by kernel_rfl).symm.trans hf) |>.symm
  obtain rfl : fn = Tryd.f5 := (Option.some.inj (Tryd.func5.symm.trans hfn)).symm
  refine ⟨by kernel_rfl, fun j t ht => ?_⟩
  rw [Tryd.params5] at ht
  obtain rfl : t = 22 := by simpa using Array.mem_of_getElem? ht
  exact (show Tryd.prog.wantsStandIn 22 = false by kernel_rfl)
theorem card : Rows.ModeOrdersCardSaid :=
  Claim7.holds_tied_plain_at .later [] _ _ _ _ said (fun _ h => by cases h) (by kernel_rfl) (fun _ h => by cases h) modeOrders_row_tie rfl ⟨rfl, rfl⟩ (by kernel_rfl) rfl plain (by kernel_rfl)
end modeOrders

namespace modeGrows
theorem laid_met (os : Os) : laidMet Tryd.prog Rows.modeGrowsRow.laid ((laidWorld os).forCall (fun _ _ => 0) ⟨#[], #[.int .i64 0, .int .i64 0, .int .i64 0], []⟩).memory :=
  laidMet_of_run' 8 (by kernel_rfl) (by kernel_rfl)
theorem reads (os : Os) {H : Type} (enc : TypeId × Value → H) : ∃ places, DataW.whole enc Tryd.prog ((laidWorld os).forCall (fun _ _ => 0) ⟨#[], #[.int .i64 0, .int .i64 0, .int .i64 0], []⟩).memory Tryd.f6.params.toList Rows.modeGrowsSpec.vars false (#[.int .i64 0, .int .i64 0, .int .i64 0] : Array Value).toList 8 = some ([.lit (.int .i64 0), .lit (.int .i64 0), .lit (.int .i64 0)], [], places) :=
  ⟨[], by kernel_rfl⟩
set_option maxRecDepth 100000 in
theorem lifted (os : Os) (started : os.Started) (H : Type) (enc : TypeId × Value → H) (F : Stop.Interp) :
    ReturnsInHanded {} Tryd.checked os 6 .any ((OpenSpec.ofChange Rows.modeGrowsSpec).preRow enc Tryd.prog Tryd.f6 Rows.modeGrowsRow.domain false Rows.modeGrowsRow.laid) (((OpenSpec.ofChange Rows.modeGrowsSpec).at F).post enc Tryd.prog Tryd.f6 false true false false) := by
  obtain ⟨places, hx⟩ := reads os enc
  refine law_lifted (C := Tryd.checked) (T := 4) own started (by kernel_rfl) Tryd.func6 laidOut (by kernel_rfl) rfl (by kernel_rfl) Tryd.underlying4 ?_
    (witness_row_at (enc := enc) (C := Tryd.checked) (s := OpenSpec.ofChange Rows.modeGrowsSpec) false (laidWorld os) #[.int .i64 0, .int .i64 0, .int .i64 0] rfl (by kernel_rfl) (by kernel_rfl) (by kernel_rfl)
      (OpenSpec.preRow_of_cond 8 hx (by kernel_rfl) (fun k hk => by cases hk) (by kernel_rfl) (laid_met os))) ?_
  · intro ds hds
    match ds, (show ds.length = 3 from hds) with
    | [_, _, _], _ => rfl
  · intro W args ds ps base hval hA hL
    have hT : Tabs W := tabs_of_laid hL
    change DataW.TrodAll enc Tryd.prog W 0 (fun _ => true) true [22, 22, 22] args.toList ds ps at hA
    change ∀ (j : Nat) t v, (#[22, 22, 22] : Array TypeId)[j]? = some t → args[j]? = some v → Value.okWide Tryd.prog W .any base t v at hval
    obtain ⟨v0, vs0, d0, ds0, p0, q0, e0, rfl, rfl, h0, r0⟩ := trodAll_cons hA
    obtain ⟨v1, vs1, d1, ds1, p1, q1, e1, rfl, rfl, h1, r1⟩ := trodAll_cons r0
    obtain ⟨v2, vs2, d2, ds2, p2, q2, e2, rfl, rfl, h2, r2⟩ := trodAll_cons r1
    obtain ⟨en, rfl, rfl⟩ := trodAll_nil r2
    obtain rfl : args = #[v0, v1, v2] := by cases args; simp_all
    obtain ⟨a, rfl, _, _, _⟩ := open_int Tryd.underlying22 (hval 0 _ v0 rfl rfl) h0
    obtain ⟨b, rfl, _, _, _⟩ := open_int Tryd.underlying22 (hval 1 _ v1 rfl rfl) h1
    obtain ⟨c, rfl, _, _, _⟩ := open_int Tryd.underlying22 (hval 2 _ v2 rfl rfl) h2
    exact (modeGrows_any hT a b c (Lt.base W)).mono fun e W' ⟨he, y, hy⟩ => ⟨he, hy ▸ y.2⟩
theorem said : Rows.ModeGrowsSaid :=
  OpenClaim.holds_of_cond 6 Tryd.f6 rfl rfl rfl rfl rfl rfl rfl ⟨rfl, rfl, rfl, rfl, rfl⟩ rfl rfl rfl rfl rfl (by kernel_rfl) Tryd.func6 (by kernel_rfl)
    (of_decide_eq_true (by kernel_rfl)) (by unfold Func.isWrapper; first | (rw [if_pos (by decide +kernel)]; kernel_rfl) | (rw [if_neg (by decide +kernel)]; exact ⟨rfl, rfl⟩))
    (fun os started H enc _ F => by rw [OpenClaim.pre_eq_preRow]; exact lifted os started H enc F)
theorem plain (f : FuncId) (fn : Func) (hf : Tryd.pinned.checked.prog.funcNamed "ratline/ratlinelaw08.ModeGrows" = some f) (hfn : Tryd.pinned.checked.prog.funcs[f]? = some fn) :
    false = Tryd.pinned.checked.prog.looks [] ∧ ∀ (j : Nat) t, fn.params[j]? = some t → Tryd.pinned.checked.prog.wantsStandIn t = false := by
  obtain rfl : f = 6 := Option.some.inj ((show Tryd.prog.funcNamed "ratline/ratlinelaw08.ModeGrows" = some 6 by kernel_rfl).symm.trans hf) |>.symm
  obtain rfl : fn = Tryd.f6 := (Option.some.inj (Tryd.func6.symm.trans hfn)).symm
  refine ⟨by kernel_rfl, fun j t ht => ?_⟩
  rw [Tryd.params6] at ht
  obtain rfl : t = 22 := by simpa using Array.mem_of_getElem? ht
  exact (show Tryd.prog.wantsStandIn 22 = false by kernel_rfl)
theorem card : Rows.ModeGrowsCardSaid :=
  Claim7.holds_tied_plain_at .later [] _ _ _ _ said (fun _ h => by cases h) (by kernel_rfl) (fun _ h => by cases h) modeGrows_row_tie rfl ⟨rfl, rfl⟩ (by kernel_rfl) rfl plain (by kernel_rfl)
end modeGrows

namespace modeLadder
theorem laid_met (os : Os) : laidMet Tryd.prog Rows.modeLadderRow.laid ((laidWorld os).forCall (fun _ _ => 0) ⟨#[], #[.int .i64 0], []⟩).memory :=
  laidMet_of_run' 8 (by kernel_rfl) (by kernel_rfl)
theorem reads (os : Os) {H : Type} (enc : TypeId × Value → H) : ∃ places, DataW.whole enc Tryd.prog ((laidWorld os).forCall (fun _ _ => 0) ⟨#[], #[.int .i64 0], []⟩).memory Tryd.f7.params.toList Rows.modeLadderSpec.vars false (#[.int .i64 0] : Array Value).toList 8 = some ([.lit (.int .i64 0)], [], places) :=
  ⟨[], by kernel_rfl⟩
set_option maxRecDepth 100000 in
theorem lifted (os : Os) (started : os.Started) (H : Type) (enc : TypeId × Value → H) (F : Stop.Interp) :
    ReturnsInHanded {} Tryd.checked os 7 .any ((OpenSpec.ofChange Rows.modeLadderSpec).preRow enc Tryd.prog Tryd.f7 Rows.modeLadderRow.domain false Rows.modeLadderRow.laid) (((OpenSpec.ofChange Rows.modeLadderSpec).at F).post enc Tryd.prog Tryd.f7 false true false false) := by
  obtain ⟨places, hx⟩ := reads os enc
  refine law_lifted (C := Tryd.checked) (T := 4) own started (by kernel_rfl) Tryd.func7 laidOut (by kernel_rfl) rfl (by kernel_rfl) Tryd.underlying4 ?_
    (witness_row_at (enc := enc) (C := Tryd.checked) (s := OpenSpec.ofChange Rows.modeLadderSpec) false (laidWorld os) #[.int .i64 0] rfl (by kernel_rfl) (by kernel_rfl) (by kernel_rfl)
      (OpenSpec.preRow_of_cond 8 hx (by kernel_rfl) (fun k hk => by cases hk) (by kernel_rfl) (laid_met os))) ?_
  · intro ds hds
    match ds, (show ds.length = 1 from hds) with
    | [_], _ => rfl
  · intro W args ds ps base hval hA hL
    have hT : Tabs W := tabs_of_laid hL
    change DataW.TrodAll enc Tryd.prog W 0 (fun _ => true) true [22] args.toList ds ps at hA
    change ∀ (j : Nat) t v, (#[22] : Array TypeId)[j]? = some t → args[j]? = some v → Value.okWide Tryd.prog W .any base t v at hval
    obtain ⟨v0, vs0, d0, ds0, p0, q0, e0, rfl, rfl, h0, r0⟩ := trodAll_cons hA
    obtain ⟨en, rfl, rfl⟩ := trodAll_nil r0
    obtain rfl : args = #[v0] := by cases args; simp_all
    obtain ⟨m, rfl, _, _, _⟩ := open_int Tryd.underlying22 (hval 0 _ v0 rfl rfl) h0
    exact (modeLadder_any hT m (Lt.base W)).mono fun e W' ⟨he, y, hy⟩ => ⟨he, hy ▸ y.2⟩
theorem said : Rows.ModeLadderSaid :=
  OpenClaim.holds_of_cond 7 Tryd.f7 rfl rfl rfl rfl rfl rfl rfl ⟨rfl, rfl, rfl, rfl, rfl⟩ rfl rfl rfl rfl rfl (by kernel_rfl) Tryd.func7 (by kernel_rfl)
    (of_decide_eq_true (by kernel_rfl)) (by unfold Func.isWrapper; first | (rw [if_pos (by decide +kernel)]; kernel_rfl) | (rw [if_neg (by decide +kernel)]; exact ⟨rfl, rfl⟩))
    (fun os started H enc _ F => by rw [OpenClaim.pre_eq_preRow]; exact lifted os started H enc F)
theorem plain (f : FuncId) (fn : Func) (hf : Tryd.pinned.checked.prog.funcNamed "ratline/ratlinelaw08.ModeLadder" = some f) (hfn : Tryd.pinned.checked.prog.funcs[f]? = some fn) :
    false = Tryd.pinned.checked.prog.looks [] ∧ ∀ (j : Nat) t, fn.params[j]? = some t → Tryd.pinned.checked.prog.wantsStandIn t = false := by
  obtain rfl : f = 7 := Option.some.inj ((show Tryd.prog.funcNamed "ratline/ratlinelaw08.ModeLadder" = some 7 by kernel_rfl).symm.trans hf) |>.symm
  obtain rfl : fn = Tryd.f7 := (Option.some.inj (Tryd.func7.symm.trans hfn)).symm
  refine ⟨by kernel_rfl, fun j t ht => ?_⟩
  rw [Tryd.params7] at ht
  obtain rfl : t = 22 := by simpa using Array.mem_of_getElem? ht
  exact (show Tryd.prog.wantsStandIn 22 = false by kernel_rfl)
theorem card : Rows.ModeLadderCardSaid :=
  Claim7.holds_tied_plain_at .later [] _ _ _ _ said (fun _ h => by cases h) (by kernel_rfl) (fun _ h => by cases h) modeLadder_row_tie rfl ⟨rfl, rfl⟩ (by kernel_rfl) rfl plain (by kernel_rfl)
end modeLadder

namespace modeNames
theorem laid_met (os : Os) : laidMet Tryd.prog Rows.modeNamesRow.laid ((laidWorld os).forCall (fun _ _ => 0) ⟨#[], #[.int .i64 0], []⟩).memory :=
  laidMet_of_run' 8 (by kernel_rfl) (by kernel_rfl)
theorem reads (os : Os) {H : Type} (enc : TypeId × Value → H) : ∃ places, DataW.whole enc Tryd.prog ((laidWorld os).forCall (fun _ _ => 0) ⟨#[], #[.int .i64 0], []⟩).memory Tryd.f8.params.toList Rows.modeNamesSpec.vars false (#[.int .i64 0] : Array Value).toList 8 = some ([.lit (.int .i64 0)], [], places) :=
  ⟨[], by kernel_rfl⟩
set_option maxRecDepth 100000 in
theorem lifted (os : Os) (started : os.Started) (H : Type) (enc : TypeId × Value → H) (F : Stop.Interp) :
    ReturnsInHanded {} Tryd.checked os 8 .any ((OpenSpec.ofChange Rows.modeNamesSpec).preRow enc Tryd.prog Tryd.f8 Rows.modeNamesRow.domain false Rows.modeNamesRow.laid) (((OpenSpec.ofChange Rows.modeNamesSpec).at F).post enc Tryd.prog Tryd.f8 false true false false) := by
  obtain ⟨places, hx⟩ := reads os enc
  refine law_lifted (C := Tryd.checked) (T := 4) own started (by kernel_rfl) Tryd.func8 laidOut (by kernel_rfl) rfl (by kernel_rfl) Tryd.underlying4 ?_
    (witness_row_at (enc := enc) (C := Tryd.checked) (s := OpenSpec.ofChange Rows.modeNamesSpec) false (laidWorld os) #[.int .i64 0] rfl (by kernel_rfl) (by kernel_rfl) (by kernel_rfl)
      (OpenSpec.preRow_of_cond 8 hx (by kernel_rfl) (fun k hk => by cases hk) (by kernel_rfl) (laid_met os))) ?_
  · intro ds hds
    match ds, (show ds.length = 1 from hds) with
    | [_], _ => rfl
  · intro W args ds ps base hval hA hL
    have hT : Tabs W := tabs_of_laid hL
    change DataW.TrodAll enc Tryd.prog W 0 (fun _ => true) true [22] args.toList ds ps at hA
    change ∀ (j : Nat) t v, (#[22] : Array TypeId)[j]? = some t → args[j]? = some v → Value.okWide Tryd.prog W .any base t v at hval
    obtain ⟨v0, vs0, d0, ds0, p0, q0, e0, rfl, rfl, h0, r0⟩ := trodAll_cons hA
    obtain ⟨en, rfl, rfl⟩ := trodAll_nil r0
    obtain rfl : args = #[v0] := by cases args; simp_all
    obtain ⟨m, rfl, _, _, _⟩ := open_int Tryd.underlying22 (hval 0 _ v0 rfl rfl) h0
    exact (modeNames_any hT m (Lt.base W)).mono fun e W' ⟨he, y, hy⟩ => ⟨he, hy ▸ y.2⟩
theorem said : Rows.ModeNamesSaid :=
  OpenClaim.holds_of_cond 8 Tryd.f8 rfl rfl rfl rfl rfl rfl rfl ⟨rfl, rfl, rfl, rfl, rfl⟩ rfl rfl rfl rfl rfl (by kernel_rfl) Tryd.func8 (by kernel_rfl)
    (of_decide_eq_true (by kernel_rfl)) (by unfold Func.isWrapper; first | (rw [if_pos (by decide +kernel)]; kernel_rfl) | (rw [if_neg (by decide +kernel)]; exact ⟨rfl, rfl⟩))
    (fun os started H enc _ F => by rw [OpenClaim.pre_eq_preRow]; exact lifted os started H enc F)
theorem plain (f : FuncId) (fn : Func) (hf : Tryd.pinned.checked.prog.funcNamed "ratline/ratlinelaw08.ModeNames" = some f) (hfn : Tryd.pinned.checked.prog.funcs[f]? = some fn) :
    false = Tryd.pinned.checked.prog.looks [] ∧ ∀ (j : Nat) t, fn.params[j]? = some t → Tryd.pinned.checked.prog.wantsStandIn t = false := by
  obtain rfl : f = 8 := Option.some.inj ((show Tryd.prog.funcNamed "ratline/ratlinelaw08.ModeNames" = some 8 by kernel_rfl).symm.trans hf) |>.symm
  obtain rfl : fn = Tryd.f8 := (Option.some.inj (Tryd.func8.symm.trans hfn)).symm
  refine ⟨by kernel_rfl, fun j t ht => ?_⟩
  rw [Tryd.params8] at ht
  obtain rfl : t = 22 := by simpa using Array.mem_of_getElem? ht
  exact (show Tryd.prog.wantsStandIn 22 = false by kernel_rfl)
theorem card : Rows.ModeNamesCardSaid :=
  Claim7.holds_tied_plain_at .later [] _ _ _ _ said (fun _ h => by cases h) (by kernel_rfl) (fun _ h => by cases h) modeNames_row_tie rfl ⟨rfl, rfl⟩ (by kernel_rfl) rfl plain (by kernel_rfl)
end modeNames

namespace modeTables
theorem laid_met (os : Os) : laidMet Tryd.prog Rows.modeTablesRow.laid ((laidWorld os).forCall (fun _ _ => 0) ⟨#[], #[.int .i64 0, .int .i64 0], []⟩).memory :=
  laidMet_of_run' 8 (by kernel_rfl) (by kernel_rfl)
theorem reads (os : Os) {H : Type} (enc : TypeId × Value → H) : ∃ places, DataW.whole enc Tryd.prog ((laidWorld os).forCall (fun _ _ => 0) ⟨#[], #[.int .i64 0, .int .i64 0], []⟩).memory Tryd.f9.params.toList Rows.modeTablesSpec.vars false (#[.int .i64 0, .int .i64 0] : Array Value).toList 8 = some ([.lit (.int .i64 0), .lit (.int .i64 0)], [], places) :=
  ⟨[], by kernel_rfl⟩
set_option maxRecDepth 100000 in
theorem lifted (os : Os) (started : os.Started) (H : Type) (enc : TypeId × Value → H) (F : Stop.Interp) :
    ReturnsInHanded {} Tryd.checked os 9 .any ((OpenSpec.ofChange Rows.modeTablesSpec).preRow enc Tryd.prog Tryd.f9 Rows.modeTablesRow.domain false Rows.modeTablesRow.laid) (((OpenSpec.ofChange Rows.modeTablesSpec).at F).post enc Tryd.prog Tryd.f9 false true false false) := by
  obtain ⟨places, hx⟩ := reads os enc
  refine law_lifted (C := Tryd.checked) (T := 4) own started (by kernel_rfl) Tryd.func9 laidOut (by kernel_rfl) rfl (by kernel_rfl) Tryd.underlying4 ?_
    (witness_row_at (enc := enc) (C := Tryd.checked) (s := OpenSpec.ofChange Rows.modeTablesSpec) false (laidWorld os) #[.int .i64 0, .int .i64 0] rfl (by kernel_rfl) (by kernel_rfl) (by kernel_rfl)
      (OpenSpec.preRow_of_cond 8 hx (by kernel_rfl) (fun k hk => by cases hk) (by kernel_rfl) (laid_met os))) ?_
  · intro ds hds
    match ds, (show ds.length = 2 from hds) with
    | [_, _], _ => rfl
  · intro W args ds ps base hval hA hL
    have hT : Tabs W := tabs_of_laid hL
    change DataW.TrodAll enc Tryd.prog W 0 (fun _ => true) true [22, 22] args.toList ds ps at hA
    change ∀ (j : Nat) t v, (#[22, 22] : Array TypeId)[j]? = some t → args[j]? = some v → Value.okWide Tryd.prog W .any base t v at hval
    obtain ⟨v0, vs0, d0, ds0, p0, q0, e0, rfl, rfl, h0, r0⟩ := trodAll_cons hA
    obtain ⟨v1, vs1, d1, ds1, p1, q1, e1, rfl, rfl, h1, r1⟩ := trodAll_cons r0
    obtain ⟨en, rfl, rfl⟩ := trodAll_nil r1
    obtain rfl : args = #[v0, v1] := by cases args; simp_all
    obtain ⟨a, rfl, _, _, _⟩ := open_int Tryd.underlying22 (hval 0 _ v0 rfl rfl) h0
    obtain ⟨b, rfl, _, _, _⟩ := open_int Tryd.underlying22 (hval 1 _ v1 rfl rfl) h1
    exact (modeTables_any hT a b (Lt.base W)).mono fun e W' ⟨he, y, hy⟩ => ⟨he, hy ▸ y.2⟩
theorem said : Rows.ModeTablesSaid :=
  OpenClaim.holds_of_cond 9 Tryd.f9 rfl rfl rfl rfl rfl rfl rfl ⟨rfl, rfl, rfl, rfl, rfl⟩ rfl rfl rfl rfl rfl (by kernel_rfl) Tryd.func9 (by kernel_rfl)
    (of_decide_eq_true (by kernel_rfl)) (by unfold Func.isWrapper; first | (rw [if_pos (by decide +kernel)]; kernel_rfl) | (rw [if_neg (by decide +kernel)]; exact ⟨rfl, rfl⟩))
    (fun os started H enc _ F => by rw [OpenClaim.pre_eq_preRow]; exact lifted os started H enc F)
theorem plain (f : FuncId) (fn : Func) (hf : Tryd.pinned.checked.prog.funcNamed "ratline/ratlinelaw08.ModeTables" = some f) (hfn : Tryd.pinned.checked.prog.funcs[f]? = some fn) :
    false = Tryd.pinned.checked.prog.looks [] ∧ ∀ (j : Nat) t, fn.params[j]? = some t → Tryd.pinned.checked.prog.wantsStandIn t = false := by
  obtain rfl : f = 9 := Option.some.inj ((show Tryd.prog.funcNamed "ratline/ratlinelaw08.ModeTables" = some 9 by kernel_rfl).symm.trans hf) |>.symm
  obtain rfl : fn = Tryd.f9 := (Option.some.inj (Tryd.func9.symm.trans hfn)).symm
  refine ⟨by kernel_rfl, fun j t ht => ?_⟩
  rw [Tryd.params9] at ht
  obtain rfl : t = 22 := by simpa using Array.mem_of_getElem? ht
  exact (show Tryd.prog.wantsStandIn 22 = false by kernel_rfl)
theorem card : Rows.ModeTablesCardSaid :=
  Claim7.holds_tied_plain_at .later [] _ _ _ _ said (fun _ h => by cases h) (by kernel_rfl) (fun _ h => by cases h) modeTables_row_tie rfl ⟨rfl, rfl⟩ (by kernel_rfl) rfl plain (by kernel_rfl)
end modeTables
end Go.Proofs.YtfonmcncgfabaaaDoor
