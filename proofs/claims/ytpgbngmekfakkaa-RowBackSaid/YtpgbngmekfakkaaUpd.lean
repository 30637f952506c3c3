/-
  A row as an update changes it: the program's Update and the document's hand back the same row in new memory, or the same error. Conditions: table, row and update lie in memory as they read; their numbers are of 64 bits; at most a billion values.
-/
import Derived.Test.YtpgbngmekfakkaaClone
namespace Go.Proofs.Ytpgbngmekfakkaa
open Go.RowKit

namespace R
/-- The row behind the first k sets, if all of them come to something. -/
def upd (r : List Val) (l : List SetV) : Nat → Option (List Val)
  | 0 => some r
  | k + 1 => match upd r l k, l[k]? with
    | some out, some s => if toIs r s then some (out.set s.col.toNat (toV r s)) else none
    | _, _ => none
def err (c : List Bool) (r : List Val) (l : List SetV) : Int := if fits c r then (if sets c l then (if (upd r l l.length).isSome then 0 else 21) else 20) else 1
def out (c : List Bool) (r : List Val) (l : List SetV) : List Val := if fits c r && sets c l then (upd r l l.length).getD [] else []
theorem upd_some {r out : List Val} {l : List SetV} {k : Nat} {s : SetV} (h : upd r l k = some out) (hs : l[k]? = some s) (hi : toIs r s = true) : upd r l (k + 1) = some (out.set s.col.toNat (toV r s)) := by
  simp [upd, h, hs, hi]
theorem upd_none {r : List Val} {l : List SetV} {k n : Nat} (hk : upd r l k = none) (h : k ≤ n) : upd r l n = none := by
  induction n with
  | zero => obtain rfl : k = 0 := by omega
            exact hk
  | succ n ih =>
    by_cases he : k = n + 1
    · subst he; exact hk
    · simp [upd, ih (by omega)]
theorem upd_stop {r out : List Val} {l : List SetV} {k : Nat} {s : SetV} (h : upd r l k = some out) (hs : l[k]? = some s) (hi : toIs r s = false) (hk : k < l.length) : upd r l l.length = none := by
  refine upd_none (k := k + 1) ?_ hk
  simp [upd, h, hs, hi]
theorem upd_length {r : List Val} {l : List SetV} {k : Nat} {out : List Val} (h : upd r l k = some out) : out.length = r.length := by
  induction k generalizing out with
  | zero => simp [upd] at h; rw [h]
  | succ k ih =>
    unfold upd at h
    split at h
    · rename_i o s h1 h2
      split at h
      · injection h with h; subst h; simpa using ih h1
      · cases h
    · cases h
theorem fits_may {c : List Bool} {r : List Val} (h : fits c r = true) : may c.length = true ∧ r.length = c.length := by
  simp only [fits, Bool.and_eq_true, decide_eq_true_eq] at h
  exact ⟨h.1.1, h.1.2⟩
theorem sets_ok {c : List Bool} {l : List SetV} (h : sets c l = true) {k : Nat} {s : SetV} (hs : l[k]? = some s) : maySet c s = true ∧ l.length ≤ 3 := by
  simp only [sets, Bool.and_eq_true, decide_eq_true_eq, List.all_eq_true] at h
  have hk := (List.getElem?_eq_some_iff.1 hs).1
  have := h.2 k (List.mem_range.2 hk)
  simp only [setOk, hs, Bool.and_eq_true] at this
  exact ⟨this.1, h.1⟩
end R

/-- Block g holds a row, may be written, and is there. -/
structure OwnG (w : World) (g : Nat) (r : List Val) : Prop where
  lt : g < w.heap.size
  free : ∀ j, w.frozen? ⟨g, j, none⟩ = false
  cell : ∀ i u, r[i]? = some u → w.cell? ⟨g, i * 3, none⟩ = some (.bool u.t) ∧ w.cell? ⟨g, i * 3 + 1, none⟩ = some (.int .i64 u.n) ∧ w.cell? ⟨g, i * 3 + 2, none⟩ = some (.string u.s)
/-- A slice that holds a row in memory from block B on. -/
def OwnRow (B : Nat) (w : World) (v : Value) (r : List Val) : Prop := ∃ A ca, v = .slice A r.length ca ∧ (A = none → ca = 0) ∧ (r ≠ [] → ∃ g, A = some ⟨g, 0, none⟩ ∧ B ≤ g ∧ OwnG w g r)
theorem OwnG.below {w w' : World} {g : Nat} {r : List Val} (h : OwnG w g r) (hb : Below w.heap.size w w') : OwnG w' g r :=
  ⟨Nat.lt_of_lt_of_le h.lt hb.size, fun j => (hb.frozen h.lt).trans (h.free j), fun i u hu => by
    obtain ⟨h0, h1, h2⟩ := h.cell i u hu
    exact ⟨(hb.cell h.lt).trans h0, (hb.cell h.lt).trans h1, (hb.cell h.lt).trans h2⟩⟩
theorem OwnG.set {w : World} {g : Nat} {r : List Val} (h : OwnG w g r) {i : Nat} (hi : i < r.length) (u : Val) :
    OwnG (((w.setCell ⟨g, i * 3, none⟩ (.bool u.t)).setCell ⟨g, i * 3 + 1, none⟩ (.int .i64 u.n)).setCell ⟨g, i * 3 + 2, none⟩ (.string u.s)) g (r.set i u) := by
  obtain ⟨c0, c1, c2⟩ := h.cell i r[i] (List.getElem?_eq_getElem hi)
  have off : ∀ {a b : Nat}, a ≠ b → (⟨g, a, none⟩ : Addr) ≠ ⟨g, b, none⟩ := fun hne e => hne (by injection e)
  refine ⟨by have := h.lt; simp [World.setCell]; omega, fun j => ?_, fun k v hv => ?_⟩
  · rw [World.frozen?_setCell, World.frozen?_setCell, World.frozen?_setCell]; exact h.free j
  · by_cases hk : k = i
    · subst hk
      have : v = u := by
        rw [List.getElem?_set_self hi] at hv
        exact (Option.some.inj hv).symm
      subst this
      refine ⟨?_, ?_, ?_⟩
      · rw [World.cell?_setCell_other _ _ _ _ (off (by omega)), World.cell?_setCell_other _ _ _ _ (off (by omega)), World.cell?_setCell_same _ _ _ c0]
      · rw [World.cell?_setCell_other _ _ _ _ (off (by omega)), World.cell?_setCell_same _ _ _ (u := .int .i64 r[k].n) (by rw [World.cell?_setCell_other _ _ _ _ (off (by omega))]; exact c1)]
      · rw [World.cell?_setCell_same _ _ _ (u := .string r[k].s) (by rw [World.cell?_setCell_other _ _ _ _ (off (by omega)), World.cell?_setCell_other _ _ _ _ (off (by omega))]; exact c2)]
    · have hv' : r[k]? = some v := by rw [List.getElem?_set_ne (fun e => hk e.symm)] at hv; exact hv
      obtain ⟨d0, d1, d2⟩ := h.cell k v hv'
      refine ⟨?_, ?_, ?_⟩
      · rw [World.cell?_setCell_other _ _ _ _ (off (by omega)), World.cell?_setCell_other _ _ _ _ (off (by omega)), World.cell?_setCell_other _ _ _ _ (off (by omega))]; exact d0
      · rw [World.cell?_setCell_other _ _ _ _ (off (by omega)), World.cell?_setCell_other _ _ _ _ (off (by omega)), World.cell?_setCell_other _ _ _ _ (off (by omega))]; exact d1
      · rw [World.cell?_setCell_other _ _ _ _ (off (by omega)), World.cell?_setCell_other _ _ _ _ (off (by omega)), World.cell?_setCell_other _ _ _ _ (off (by omega))]; exact d2
theorem OwnRow.nil (B : Nat) (w : World) : OwnRow B w (.slice none 0 0) [] := ⟨none, 0, rfl, fun _ => rfl, fun h => absurd rfl h⟩
theorem OwnRow.of_owns {w0 w : World} {v : Value} {r : List Val} (h : Owns w0 w v r) : OwnRow w0.heap.size w v r := by
  have h : w.ownsRow w0.heap.size 40 3 v r.length (cellsOf r) := h
  rcases Nat.eq_zero_or_pos r.length with h0 | h0
  · have hr := List.eq_nil_of_length_eq_zero h0
    subst hr
    rcases h.2 with ⟨rfl, _⟩ | ⟨g, cap, cur, rfl, _⟩
    · exact OwnRow.nil _ _
    · exact ⟨_, _, rfl, fun e => (by cases e), fun e => absurd rfl e⟩
  · rcases id h.2 with ⟨_, hz⟩ | ⟨g, cap, cur, rfl, hb, hh, _⟩
    · omega
    · have hlt : g < w.heap.size := by
        rcases Nat.lt_or_ge g w.heap.size with hlt | hge
        · exact hlt
        · rw [Array.getElem?_eq_none hge] at hh; cases hh
      refine ⟨_, _, rfl, fun e => (by cases e), fun _ => ⟨g, rfl, hb, hlt, fun j => World.ownsRow.frozenAt h j, fun i u hu => ?_⟩⟩
      have hi := (List.getElem?_eq_some_iff.1 hu).1
      obtain ⟨e0, e1, e2⟩ := cellsOf_get r i u hu
      exact ⟨by rw [World.ownsRow.cellAt h _ (by omega), e0], by rw [World.ownsRow.cellAt h _ (by omega), e1], by rw [World.ownsRow.cellAt h _ (by omega), e2]⟩
theorem OwnRow.row {B : Nat} {w : World} {v : Value} {r : List Val} (h : OwnRow B w v r) : ∃ A ca, v = .slice A r.length ca ∧ (A = none → ca = 0) ∧ RowAt w A r := by
  obtain ⟨A, ca, hv, hn, hr⟩ := h
  refine ⟨A, ca, hv, hn, fun hne => ?_⟩
  obtain ⟨g, hA, _, hg⟩ := hr hne
  refine ⟨g, 0, hA, fun i u hu => ?_⟩
  have := hg.cell i u hu
  simpa using this
theorem OwnRow.below {B : Nat} {w w' : World} {v : Value} {r : List Val} (h : OwnRow B w v r) (hb : Below w.heap.size w w') : OwnRow B w' v r := by
  obtain ⟨A, ca, hv, hn, hr⟩ := h
  refine ⟨A, ca, hv, hn, fun hne => ?_⟩
  obtain ⟨g, hA, hB, hg⟩ := hr hne
  exact ⟨g, hA, hB, hg.below hb⟩
theorem OwnRow.mono {B B' : Nat} {w : World} {v : Value} {r : List Val} (h : OwnRow B w v r) (hB : B' ≤ B) : OwnRow B' w v r := by
  obtain ⟨A, ca, hv, hn, hr⟩ := h
  refine ⟨A, ca, hv, hn, fun hne => ?_⟩
  obtain ⟨g, hA, hg, ho⟩ := hr hne
  exact ⟨g, hA, by omega, ho⟩
variable {W : World}
def SetNums (l : List SetV) : Prop := ∀ s ∈ l, Num.is s.v.n = true

set_option maxHeartbeats 4000000 in
theorem update_any {A B C : Option Addr} {c : List Bool} {r : List Val} {l : List SetV} {ca cb cc : Nat} (hc : ColsAt W A c) (hr : RowAt W B r) (hs : SetsAt W C l) (hn : Nums r) (hsn : SetNums l) (hnil : B = none → cb = 0) (x : Lt W) :
    Calls Try.prog 18 #[.agg #[.slice A c.length ca], .slice B r.length cb, .slice C l.length cc] x.1 fun e w' => ∃ v, e = .returned (.tuple #[v, .int .i64 (R.err c r l)]) ∧ OwnRow x.1.heap.size w' v (R.out c r l) ∧ Below x.1.heap.size x.1 w' := by
  cases hf : R.fits c r
  · have HE := Lib.hid (show R.err c r l = 1 by simp [R.err, hf])
    have HO := Lib.hid (show R.out c r l = [] by simp [R.out, hf])
    have HF := Lib.hid hf
    clear hf
    go_enter Try.func18, Try.ntmps18
    go_wp2_with fail
    refine calls_here fun W1 hW1 => ?_
    have hx1 : Below x.1.heap.size x.1 W1 := hW1 ▸ below_alloc _
    have hb0 : Below W.heap.size W W1 := hW1 ▸ x.more _
    have hw1 : W1.cell? ⟨x.1.heap.size, 0, none⟩ = some (.slice A c.length ca) := by rw [hW1]; simp
    have zt := fun z : Lt W1 => z.cell hw1
    have hc1 := hc.below hb0
    have hr1 := hr.below hb0
    have hs1 := hs.below hb0
    clear hW1 hw1 hc hr hs
    refine ((HF.out ▸ fits_any hc1 hr1 (Lt.base W1) : Calls Try.prog 15 _ W1 fun e w' => e = .returned (.bool false) ∧ ∃ y : Lt W1, w' = y.1)).mono ?_; rintro e w' ⟨rfl, y, rfl⟩
    go_wp2_with fail
    go_ret2
    exact ⟨_, by rw [HE.out]; rfl, HO.out.symm ▸ OwnRow.nil _ _, hx1.trans (y.2.mono hx1.size)⟩
  obtain ⟨hmay, hlen⟩ := R.fits_may hf
  have HF := Lib.hid hf
  cases hst : R.sets c l
  · have HE := Lib.hid (show R.err c r l = 20 by simp [R.err, hf, hst])
    have HO := Lib.hid (show R.out c r l = [] by simp [R.out, hst])
    have HS := Lib.hid (show errSets c l = 20 by simp [errSets, hmay, hst])
    clear hf hst hmay hlen
    go_enter Try.func18, Try.ntmps18
    go_wp2_with fail
    refine calls_here fun W1 hW1 => ?_
    have hx1 : Below x.1.heap.size x.1 W1 := hW1 ▸ below_alloc _
    have hb0 : Below W.heap.size W W1 := hW1 ▸ x.more _
    have hw1 : W1.cell? ⟨x.1.heap.size, 0, none⟩ = some (.slice A c.length ca) := by rw [hW1]; simp
    have zt := fun z : Lt W1 => z.cell hw1
    have hc1 := hc.below hb0
    have hr1 := hr.below hb0
    have hs1 := hs.below hb0
    clear hW1 hw1 hc hr hs
    refine ((HF.out ▸ fits_any hc1 hr1 (Lt.base W1) : Calls Try.prog 15 _ W1 fun e w' => e = .returned (.bool true) ∧ ∃ y : Lt W1, w' = y.1)).mono ?_; rintro e w' ⟨rfl, y, rfl⟩
    go_wp2_with fail
    refine ((HS.out ▸ checkSets_any hc1 hs1 y : Calls Try.prog 14 _ y.1 fun e w' => e = .returned (.int .i64 20) ∧ ∃ y : Lt W1, w' = y.1)).mono ?_; rintro e w' ⟨rfl, y, rfl⟩
    go_wp2_with fail
    go_ret2
    exact ⟨_, by rw [HE.out]; rfl, HO.out.symm ▸ OwnRow.nil _ _, hx1.trans (y.2.mono hx1.size)⟩
  have HE := Lib.hid (show R.err c r l = if (R.upd r l l.length).isSome then 0 else 21 by simp [R.err, hf, hst])
  have HO := Lib.hid (show R.out c r l = (R.upd r l l.length).getD [] by simp [R.out, hf, hst])
  have HS := Lib.hid (show errSets c l = 0 by simp [errSets, hmay, hst])
  have HL := Lib.hid hlen
  have HK := Lib.hid hst
  obtain ⟨q1, q2⟩ := R.may_iff.1 hmay
  have hrl : r.length ≤ 4 := by omega
  have hrp : 0 < r.length := by omega
  have hll : l.length ≤ 3 := by
    simp only [R.sets, Bool.and_eq_true, decide_eq_true_eq] at hst
    exact hst.1
  clear hf hst hmay hlen
  go_enter Try.func18, Try.ntmps18
  go_wp2_with fail
  refine calls_here fun W1 hW1 => ?_
  have hx1 : Below x.1.heap.size x.1 W1 := hW1 ▸ below_alloc _
  have hb0 : Below W.heap.size W W1 := hW1 ▸ x.more _
  have hw1 : W1.cell? ⟨x.1.heap.size, 0, none⟩ = some (.slice A c.length ca) := by rw [hW1]; simp
  have zt := fun z : Lt W1 => z.cell hw1
  have hc1 := hc.below hb0
  have hr1 := hr.below hb0
  have hs1 := hs.below hb0
  clear hW1 hw1 hc hr hs
  refine ((HF.out ▸ fits_any hc1 hr1 (Lt.base W1) : Calls Try.prog 15 _ W1 fun e w' => e = .returned (.bool true) ∧ ∃ y : Lt W1, w' = y.1)).mono ?_; rintro e w' ⟨rfl, y, rfl⟩
  go_wp2_with fail
  refine ((HS.out ▸ checkSets_any hc1 hs1 y : Calls Try.prog 14 _ y.1 fun e w' => e = .returned (.int .i64 0) ∧ ∃ y : Lt W1, w' = y.1)).mono ?_; rintro e w' ⟨rfl, y, rfl⟩
  go_wp2_with fail
  refine (clone_any y.1 (hr1.below y.2) hnil (by omega)).mono ?_
  rintro e w2 ⟨v, rfl, hown, hb2⟩
  have hby : Below x.1.heap.size x.1 y.1 := hx1.trans (y.2.mono hx1.size)
  obtain ⟨A2, ca2, hv, _, ho⟩ := OwnRow.of_owns hown
  obtain ⟨g, hA2, hg, hog⟩ := ho (fun e => by subst e; simp at hrp)
  rw [hv, hA2]
  clear hown hv hA2 ho v zt
  have hr2 := hr1.below y.2
  have hs2 := hs1.below y.2
  clear hr1 hs1 hc1
  go_wp2_with fail
  go_loopw [28] (fun i wr => ∃ (k : Nat) (out : List Val), R.upd r l k = some out ∧ OwnG wr g out ∧ Below y.1.heap.size y.1 wr ∧ i = .int .i64 k ∧ k ≤ l.length) (fun i _ => l.length - (intOf i).toNat)
  case atStart => exact ⟨0, r, rfl, hog, hb2, rfl, by omega⟩
  case round =>
    obtain ⟨k, out, hu, ho, hbw, rfl, hk⟩ := hrel
    have HU := Lib.hid hu
    have hol : out.length = r.length := R.upd_length hu
    have HOL := Lib.hid hol
    clear hu hol hog hb2
    by_cases hlt : k < l.length
    · obtain ⟨b, o, s, rfl, hsk, c0, c1, c2, c3, c4, c5, c6⟩ := hs2.at_ hlt
      obtain ⟨hms, _⟩ := R.sets_ok HK.out hsk
      have hsv := hsn s (List.mem_of_getElem? hsk)
      obtain ⟨i1, i2⟩ := R.may_col hms
      have y0 := (hbw.cell (cell_lt c0)).trans c0
      have y1 := (hbw.cell (cell_lt c1)).trans c1
      have y2 := (hbw.cell (cell_lt c2)).trans c2
      have y3 := (hbw.cell (cell_lt c3)).trans c3
      have y4 := (hbw.cell (cell_lt c4)).trans c4
      have y5 := (hbw.cell (cell_lt c5)).trans c5
      have y6 := (hbw.cell (cell_lt c6)).trans c6
      clear c0 c1 c2 c3 c4 c5 c6
      have HSK := Lib.hid hsk
      have HMS := Lib.hid hms
      have HSV := Lib.hid hsv
      have i0 : 0 ≤ s.col := by omega
      have i3 : s.col < r.length := by have := HL.out; omega
      clear hsk hms hsv
      go_wp2_with fail
      refine calls_here fun W3 hW3 => ?_
      have hb3 : Below wr.heap.size wr W3 := hW3 ▸ below_alloc _
      have s0 : W3.cell? ⟨wr.heap.size, 0, none⟩ = some (.int .i64 s.col) := by rw [hW3]; simp
      clear hW3 y0 y1 y2 y3 y4 y5 y6
      have hb4 : Below y.1.heap.size y.1 W3 := hbw.trans (hb3.mono hbw.size)
      refine (to_any (hr2.below hb4) hn HSV.out HL.out HMS.out (Lt.base W3)).mono ?_
      rintro e w' ⟨rfl, z, rfl⟩
      have zs := fun o1 => (World.cell?_alloc_lt z.1 o1 _ (cell_lt (z.cell s0))).trans (z.cell s0)
      obtain ⟨u, hu⟩ : ∃ u, u = R.toV r s := ⟨_, rfl⟩
      rw [← hu]
      have HUV := Lib.hid hu
      clear hu
      cases hi : R.toIs r s
      · have hst := R.upd_stop HU.out HSK.out hi hlt
        have HE2 := Lib.hid (show R.err c r l = 21 by rw [HE.out, hst]; rfl)
        have HO2 := Lib.hid (show R.out c r l = [] by rw [HO.out, hst]; rfl)
        clear hi hst
        go_wp2_with fail
        go_ret2
        refine ⟨_, by rw [HE2.out]; rfl, HO2.out.symm ▸ OwnRow.nil _ _, ?_⟩
        have hz : Below y.1.heap.size y.1 z.1 := hb4.trans (z.2.mono hb4.size)
        exact (hby.trans (hz.mono hby.size)).alloc (by have := hz.size; have := hby.size; omega) _
      · have hsu := R.upd_some HU.out HSK.out hi
        have HSU := Lib.hid hsu
        have hbz : Below wr.heap.size wr z.1 := hb3.trans (z.2.mono hb3.size)
        have hoz := ho.below hbz
        have hcol : s.col.toNat < out.length := by have := HOL.out; omega
        obtain ⟨g0, g1, g2⟩ := (hoz.below (below_alloc (.cells #[.bool u.t, .int .i64 u.n, .string u.s] 40))).cell s.col.toNat out[s.col.toNat] (List.getElem?_eq_getElem hcol)
        have gf := (hoz.below (below_alloc (.cells #[.bool u.t, .int .i64 u.n, .string u.s] 40))).free
        clear hi hsu
        go_wp2_with fail
        go_roundw
        case rel =>
          have hz : Below y.1.heap.size y.1 z.1 := hb4.trans (z.2.mono hb4.size)
          exact ⟨k + 1, _, HSU.out, HUV.out ▸ (hoz.below (below_alloc _)).set hcol u, (((hz.alloc hz.size _).setCell hg _).setCell hg _).setCell hg _, by go_num, by omega⟩
        case measure => simp [intOf]; omega
    · obtain rfl : k = l.length := by omega
      have HE2 := Lib.hid (show R.err c r l = 0 by rw [HE.out, HU.out]; rfl)
      have HO2 := Lib.hid (show R.out c r l = out by rw [HO.out, HU.out]; rfl)
      go_wp2_with fail
      go_ret2
      refine ⟨_, by rw [HE2.out]; rfl, ?_, hby.trans (hbw.mono hby.size)⟩
      rw [HO2.out]
      exact ⟨_, ca2, by rw [HOL.out]; rfl, fun e => (by cases e), fun _ => ⟨g, rfl, by have := hby.size; omega, ho⟩⟩
end Go.Proofs.Ytpgbngmekfakkaa
