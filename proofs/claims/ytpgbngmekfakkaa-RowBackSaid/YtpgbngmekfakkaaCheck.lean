/-
  Whether an update may be a table's: the program's answer and the document's. Condition: table and update lie in memory as they read.
-/
import Derived.Test.YtpgbngmekfakkaaMayRef
import Derived.RowKit3
namespace Go.Proofs.Ytpgbngmekfakkaa
open Go.RowKit
variable {W : World}

namespace R
/-- Is a column among those that the first k sets set? -/
def met (l : List SetV) (k : Nat) (j : Int) : Bool := (List.range k).any fun i => match l[i]? with
  | some s => decide (s.col = j)
  | none => false
def setOk (c : List Bool) (l : List SetV) (i : Nat) : Bool := match l[i]? with
  | some s => maySet c s && !met l i s.col
  | none => false
/-- May an update be a table's that may be? -/
def sets (c : List Bool) (l : List SetV) : Bool := decide (l.length ≤ 3) && (List.range l.length).all (setOk c l)
theorem met_succ {l : List SetV} {k : Nat} {s : SetV} (h : l[k]? = some s) (j : Int) : met l (k + 1) j = (met l k j || decide (s.col = j)) := by
  unfold met
  rw [List.range_succ, List.any_append]
  simp [h]
theorem may_col {c : List Bool} {s : SetV} (h : maySet c s = true) : 1 ≤ s.col ∧ s.col < c.length := by
  unfold maySet at h
  cases hk : colAt c s.col with
  | none => rw [hk] at h; cases h
  | some k =>
    rw [hk] at h
    simp only [Bool.and_eq_true, decide_eq_true_eq] at h
    exact ⟨h.1, (colAt_some hk).2.1⟩
end R

theorem SetsAt.at_ {A : Option Addr} {l : List SetV} (h : SetsAt W A l) {k : Nat} (hk : k < l.length) : ∃ b o s, A = some ⟨b, o, none⟩ ∧ l[k]? = some s ∧
    W.cell? ⟨b, o + k * 7, none⟩ = some (.int .i64 s.col) ∧ W.cell? ⟨b, o + k * 7 + 1, none⟩ = some (.int .i64 s.op) ∧ W.cell? ⟨b, o + k * 7 + 2, none⟩ = some (.int .i64 s.src) ∧
    W.cell? ⟨b, o + k * 7 + 3, none⟩ = some (.int .i64 s.oth) ∧ W.cell? ⟨b, o + k * 7 + 4, none⟩ = some (.bool s.v.t) ∧ W.cell? ⟨b, o + k * 7 + 5, none⟩ = some (.int .i64 s.v.n) ∧ W.cell? ⟨b, o + k * 7 + 6, none⟩ = some (.string s.v.s) := by
  obtain ⟨b, o, hA, hc⟩ := h (fun e => by subst e; simp at hk)
  have hs : l[k]? = some l[k] := List.getElem?_eq_getElem hk
  exact ⟨b, o, l[k], hA, hs, hc k _ hs⟩
theorem SetsAt.below {w : World} {A : Option Addr} {l : List SetV} (h : SetsAt W A l) (hb : Below W.heap.size W w) : SetsAt w A l := fun hn => by
  obtain ⟨b, o, hA, hc⟩ := h hn
  refine ⟨b, o, hA, fun i s hs => ?_⟩
  obtain ⟨h0, h1, h2, h3, h4, h5, h6⟩ := hc i s hs
  exact ⟨(hb.cell (cell_lt h0)).trans h0, (hb.cell (cell_lt h1)).trans h1, (hb.cell (cell_lt h2)).trans h2, (hb.cell (cell_lt h3)).trans h3, (hb.cell (cell_lt h4)).trans h4, (hb.cell (cell_lt h5)).trans h5, (hb.cell (cell_lt h6)).trans h6⟩

def errMay (c : List Bool) : Int := if R.may c.length then 0 else 1
def errSets (c : List Bool) (l : List SetV) : Int := if R.may c.length then (if R.sets c l then 0 else 20) else 1

/-- What the array of the met columns holds, behind k rounds, in a world behind W1. -/
structure Met (W1 wr : World) (l : List SetV) (mb k : Nat) : Prop where
  below : Below W1.heap.size W1 wr
  lo : W1.heap.size ≤ mb
  hi : mb < wr.heap.size
  cell : ∀ j : Nat, j < 4 → wr.cell? ⟨mb, j, none⟩ = some (.bool (R.met l k j))
  free : ∀ j : Nat, wr.frozen? ⟨mb, j, none⟩ = false
theorem Met.step {W1 wr w3 : World} {l : List SetV} {mb k : Nat} {s : SetV} (h : Met W1 wr l mb k) (hb : Below wr.heap.size wr w3) (hs : l[k]? = some s) (c0 : 0 ≤ s.col) (c1 : s.col < 4) : Met W1 (w3.setCell ⟨mb, s.col.toNat, none⟩ (.bool true)) l mb (k + 1) := by
  have hcell : ∀ j : Nat, j < 4 → w3.cell? ⟨mb, j, none⟩ = some (.bool (R.met l k j)) := fun j hj => (hb.cell h.hi).trans (h.cell j hj)
  refine ⟨(h.below.trans (hb.mono h.below.size)).setCell h.lo _, h.lo, ?_, fun j hj => ?_, fun j => ?_⟩
  · have := hb.size; have := h.hi; simp [World.setCell]; omega
  · rw [R.met_succ hs]
    by_cases hj2 : j = s.col.toNat
    · subst hj2
      rw [World.cell?_setCell_same _ _ _ (hcell _ hj)]
      rw [decide_eq_true (by omega), Bool.or_true]
    · rw [World.cell?_setCell_other _ _ _ _ (fun e => hj2 (by injection e with _ h2 _; omega)), hcell j hj, decide_eq_false (by omega), Bool.or_false]
  · rw [World.frozen?_setCell, hb.frozen h.hi]
    exact h.free j

theorem checkSets_no {A B : Option Addr} {c : List Bool} {l : List SetV} {ca cb : Nat} (hm : R.may c.length = false) (x : Lt W) :
    Calls Try.prog 14 #[.agg #[.slice A c.length ca], .slice B l.length cb] x.1 fun e w' => e = .returned (.int .i64 (errSets c l)) ∧ ∃ y : Lt W, w' = y.1 := by
  have HF := Lib.hid (show errSets c l = 1 by simp [errSets, hm])
  have HM := Lib.hid hm
  clear hm
  go_enter Try.func14, Try.ntmps14
  go_wp2_with fail
  refine calls_here fun W1 hW1 => ?_
  have hb0 : Below W.heap.size W W1 := hW1 ▸ x.more _
  clear hW1
  refine (check_no HM.out (Lt.base W1)).mono ?_; rintro e w' ⟨rfl, y, rfl⟩
  go_wp2_with fail
  go_ret
  exact ⟨ret_int HF.out.symm, y.via hb0, rfl⟩
theorem checkSets_long {A B : Option Addr} {c : List Bool} {l : List SetV} {ca cb : Nat} (hm : R.may c.length = true) (hl : 3 < l.length) (x : Lt W) :
    Calls Try.prog 14 #[.agg #[.slice A c.length ca], .slice B l.length cb] x.1 fun e w' => e = .returned (.int .i64 (errSets c l)) ∧ ∃ y : Lt W, w' = y.1 := by
  have HF := Lib.hid (show errSets c l = 20 by
    have : R.sets c l = false := by unfold R.sets; rw [decide_eq_false (by omega)]; rfl
    simp [errSets, hm, this])
  have HM := Lib.hid hm
  have hl' : (3 : Int) < l.length := by omega
  clear hm
  go_enter Try.func14, Try.ntmps14
  go_wp2_with fail
  refine calls_here fun W1 hW1 => ?_
  have hb0 : Below W.heap.size W W1 := hW1 ▸ x.more _
  clear hW1
  refine (check_yes HM.out (Lt.base W1)).mono ?_; rintro e w' ⟨rfl, y, rfl⟩
  go_wp2_with fail
  go_ret
  exact ⟨ret_int HF.out.symm, y.via hb0, rfl⟩

set_option maxHeartbeats 4000000 in
theorem checkSets_yes {A B : Option Addr} {c : List Bool} {l : List SetV} {ca cb : Nat} (hc : ColsAt W A c) (hs : SetsAt W B l) (hm : R.may c.length = true) (hl : l.length ≤ 3) (x : Lt W) :
    Calls Try.prog 14 #[.agg #[.slice A c.length ca], .slice B l.length cb] x.1 fun e w' => e = .returned (.int .i64 (errSets c l)) ∧ ∃ y : Lt W, w' = y.1 := by
  have hF : errSets c l = if (List.range l.length).all (R.setOk c l) then 0 else 20 := by
    simp only [errSets, hm, if_true, R.sets, decide_eq_true hl, Bool.true_and]
  have HF := Lib.hid hF
  obtain ⟨q1, q2⟩ := R.may_iff.1 hm
  have HM := Lib.hid hm
  have hl' : (l.length : Int) ≤ 3 := by omega
  clear hm hF
  go_enter Try.func14, Try.ntmps14
  go_wp2_with fail
  refine calls_here fun W1 hW1 => ?_
  have hb0 : Below W.heap.size W W1 := hW1 ▸ x.more _
  have hw1 : W1.cell? ⟨x.1.heap.size, 0, none⟩ = some (.slice A c.length ca) := by rw [hW1]; simp
  clear hW1
  refine (check_yes HM.out (Lt.base W1)).mono ?_; rintro e w' ⟨rfl, y, rfl⟩
  go_wp2_with fail
  obtain ⟨mb, hmb⟩ : ∃ mb, mb = y.1.heap.size := ⟨_, rfl⟩
  have hmet0 : Met W1 (y.1.alloc (.cells #[.bool false, .bool false, .bool false, .bool false] 47)) l mb 0 := by
    subst hmb
    refine ⟨y.more _, y.2.size, by simp, fun j hj => ?_, fun j => ?_⟩
    · match j, hj with
      | 0, _ | 1, _ | 2, _ | 3, _ => simp [R.met]
    · rw [frozen?_alloc_cells]; simp [World.frozen?]
  have HM0 := Lib.hid hmet0
  rw [← hmb]
  clear hmet0 hmb
  go_loopw [19] (fun i wr => ∃ k : Nat, Met W1 wr l mb k ∧ i = .int .i64 k ∧ k ≤ l.length ∧ (List.range k).all (R.setOk c l) = true) (fun i _ => l.length - (intOf i).toNat)
  case atStart => exact ⟨0, HM0.out, rfl, by omega, rfl⟩
  case round =>
    obtain ⟨k, hmet, rfl, hk, hall⟩ := hrel
    have HA := Lib.hid hall
    have hbw := below_then hb0 hmet.below
    clear hall
    by_cases hlt : k < l.length
    · obtain ⟨b, o, s, rfl, hsk, c0, c1, c2, c3, c4, c5, c6⟩ := hs.at_ hlt
      have y0 := (hbw.cell (cell_lt c0)).trans c0
      have y1 := (hbw.cell (cell_lt c1)).trans c1
      have y2 := (hbw.cell (cell_lt c2)).trans c2
      have y3 := (hbw.cell (cell_lt c3)).trans c3
      have y4 := (hbw.cell (cell_lt c4)).trans c4
      have y5 := (hbw.cell (cell_lt c5)).trans c5
      have y6 := (hbw.cell (cell_lt c6)).trans c6
      have yt := (hmet.below.cell (cell_lt hw1)).trans hw1
      have yta : ∀ ob, (wr.alloc ob).cell? ⟨x.1.heap.size, 0, none⟩ = some (.slice A c.length ca) := fun ob => (World.cell?_alloc_lt _ _ _ (cell_lt yt)).trans yt
      clear c0 c1 c2 c3 c4 c5 c6 hs
      have hok : R.setOk c l k = (R.maySet c s && !R.met l k s.col) := by simp [R.setOk, hsk]
      have HO := Lib.hid hok
      have HS := Lib.hid hsk
      clear hok hsk
      go_wp2_with fail
      refine calls_here fun W3 hW3 => ?_
      have hb3 : Below wr.heap.size wr W3 := hW3 ▸ below_alloc _
      have s0 : W3.cell? ⟨wr.heap.size, 0, none⟩ = some (.int .i64 s.col) := by rw [hW3]; simp
      have zs := fun z : Lt W3 => z.cell s0
      clear hW3 s0 y0 y1 y2 y3 y4 y5 y6 yt yta
      have zt := fun z : Lt W3 => z.old (below_then hmet.below hb3) hw1
      have zc := hc.below (below_then hbw hb3)
      cases hmy : R.maySet c s
      · have HY := Lib.hid hmy
        have HF2 := Lib.hid (show errSets c l = 20 by
          rw [HF.out, R.all_no hlt (f := R.setOk c l) (by rw [HO.out, HY.out]; rfl)]; rfl)
        clear hmy
        refine (may_is zc HY.out (Lt.base W3)).mono ?_; rintro e w' ⟨rfl, z, rfl⟩
        go_wp2_with fail
        go_ret
        exact ⟨ret_int HF2.out.symm, z.via (below_then hbw hb3), rfl⟩
      · obtain ⟨i1, i2⟩ := R.may_col hmy
        have i3 : s.col < 4 := by omega
        have i0 : 0 ≤ s.col := by omega
        have HY := Lib.hid hmy
        clear hmy
        have hmc := hmet.cell s.col.toNat (by omega)
        rw [Int.toNat_of_nonneg i0] at hmc
        have zm := fun z : Lt W3 => z.old hb3 hmc
        have zf : ∀ z : Lt W3, z.1.frozen? ⟨mb, s.col.toNat, none⟩ = false := fun z => ((hb3.trans (z.2.mono hb3.size)).frozen hmet.hi).trans (hmet.free _)
        cases hmt : R.met l k s.col
        · rw [hmt] at zm
          have HT := Lib.hid hmt
          clear hmt hmc
          refine (may_is zc HY.out (Lt.base W3)).mono ?_; rintro e w' ⟨rfl, z, rfl⟩
          go_wp2_with fail
          go_roundw
          case rel => exact ⟨k + 1, hmet.step (hb3.trans (z.2.mono hb3.size)) HS.out i0 i3, by go_num, by omega, R.all_succ HA.out (by rw [HO.out, HY.out, HT.out]; rfl)⟩
          case measure => simp [intOf]; omega
        · rw [hmt] at zm
          have HF2 := Lib.hid (show errSets c l = 20 by
            rw [HF.out, R.all_no hlt (f := R.setOk c l) (by rw [HO.out, hmt]; simp)]; rfl)
          clear hmt hmc
          refine (may_is zc HY.out (Lt.base W3)).mono ?_; rintro e w' ⟨rfl, z, rfl⟩
          go_wp2_with fail
          go_ret
          exact ⟨ret_int HF2.out.symm, z.via (below_then hbw hb3), rfl⟩
    · obtain rfl : k = l.length := by omega
      have HF2 := Lib.hid (show errSets c l = 0 by rw [HF.out, HA.out]; rfl)
      go_wp2_with fail
      go_ret
      exact ⟨ret_int HF2.out.symm, ⟨wr, hbw⟩, rfl⟩

theorem checkSets_any {A B : Option Addr} {c : List Bool} {l : List SetV} {ca cb : Nat} (hc : ColsAt W A c) (hs : SetsAt W B l) (x : Lt W) :
    Calls Try.prog 14 #[.agg #[.slice A c.length ca], .slice B l.length cb] x.1 fun e w' => e = .returned (.int .i64 (errSets c l)) ∧ ∃ y : Lt W, w' = y.1 := by
  cases hm : R.may c.length
  · exact checkSets_no hm x
  · by_cases hl : l.length ≤ 3
    · exact checkSets_yes hc hs hm hl x
    · exact checkSets_long hm (by omega) x
end Go.Proofs.Ytpgbngmekfakkaa
