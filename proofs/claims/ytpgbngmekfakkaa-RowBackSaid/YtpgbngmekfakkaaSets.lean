/-
  Updates: what a column is, and whether a set may be a table's (the program's answer and the document's).
-/
import Derived.Test.YtpgbngmekfakkaaRowFnB
namespace Go.Proofs.Ytpgbngmekfakkaa
open Go.RowKit

/-- What a column is set to. -/
structure SetV where
  col : Int
  op : Int
  src : Int
  oth : Int
  v : Val
def SetV.val (s : SetV) : Value := .agg #[.int .i64 s.col, .int .i64 s.op, .int .i64 s.src, .int .i64 s.oth, .bool s.v.t, .int .i64 s.v.n, .string s.v.s]
/-- Sets lie behind an address. -/
def SetsAt (W : World) (A : Option Addr) (l : List SetV) : Prop := l ≠ [] → ∃ b o, A = some ⟨b, o, none⟩ ∧
  ∀ i s, l[i]? = some s → W.cell? ⟨b, o + i * 7, none⟩ = some (.int .i64 s.col) ∧ W.cell? ⟨b, o + i * 7 + 1, none⟩ = some (.int .i64 s.op) ∧ W.cell? ⟨b, o + i * 7 + 2, none⟩ = some (.int .i64 s.src) ∧
    W.cell? ⟨b, o + i * 7 + 3, none⟩ = some (.int .i64 s.oth) ∧ W.cell? ⟨b, o + i * 7 + 4, none⟩ = some (.bool s.v.t) ∧ W.cell? ⟨b, o + i * 7 + 5, none⟩ = some (.int .i64 s.v.n) ∧ W.cell? ⟨b, o + i * 7 + 6, none⟩ = some (.string s.v.s)

namespace R
/-- A column, if there is one. -/
def colAt (c : List Bool) (i : Int) : Option Bool := if 0 ≤ i then c[i.toNat]? else none
def kind (c : List Bool) (i : Int) : Int := match colAt c i with
  | none => 0
  | some true => 2
  | some false => 1
def isNum (c : List Bool) (i : Int) : Bool := decide (colAt c i = some false)
/-- May a set be a table's? -/
def maySet (c : List Bool) (s : SetV) : Bool := match colAt c s.col with
  | none => false
  | some k => decide (1 ≤ s.col) &&
    (if s.op = 1 then s.v.right && decide (s.v.t = k)
    else if s.op = 2 then decide (colAt c s.src = some k)
    else if s.op = 3 ∨ s.op = 4 ∨ s.op = 5 then !k && (isNum c s.src && (s.v.right && !s.v.t))
    else if s.op = 6 then !k && (isNum c s.src && isNum c s.oth)
    else false)
theorem colAt_none {c : List Bool} {i : Int} (h : colAt c i = none) : i < 0 ∨ (c.length : Int) ≤ i := by
  unfold colAt at h
  split at h
  · rw [List.getElem?_eq_none_iff] at h; omega
  · omega
theorem colAt_some {c : List Bool} {i : Int} {b : Bool} (h : colAt c i = some b) : 0 ≤ i ∧ i < c.length ∧ c[i.toNat]? = some b := by
  unfold colAt at h
  split at h
  · have := (List.getElem?_eq_some_iff.1 h).1
    exact ⟨by omega, by omega, h⟩
  · cases h
end R
variable {W : World}

theorem ColsAt.at_ {A : Option Addr} {c : List Bool} (hc : ColsAt W A c) {i : Int} {k : Bool} (h : R.colAt c i = some k) : ∃ b o, A = some ⟨b, o, none⟩ ∧ W.cell? ⟨b, o + i.toNat, none⟩ = some (.bool k) := by
  obtain ⟨h0, h1, h2⟩ := R.colAt_some h
  obtain ⟨b, o, hA, hcc⟩ := hc (fun e => by subst e; simp at h2)
  exact ⟨b, o, hA, hcc _ _ h2⟩

theorem kind_any {A : Option Addr} {c : List Bool} {ca : Nat} (hc : ColsAt W A c) (i : Int) (x : Lt W) : Calls Try.prog 31 #[.agg #[.slice A c.length ca], .int .i64 i] x.1 fun e w' => e = .returned (.int .i64 (R.kind c i)) ∧ ∃ y : Lt W, w' = y.1 := by
  cases hk : R.colAt c i with
  | none =>
    have HK := Lib.hid (show R.kind c i = 0 by simp [R.kind, hk])
    rcases R.colAt_none hk with h | h
    · clear hk
      go_enter Try.func31, Try.ntmps31
      go_wp2
      go_ret
      exact ⟨ret_int HK.out.symm, x.end_ (below_alloc _)⟩
    · have h0 : 0 ≤ i := by omega
      have d : decide (i < 0) = false := decide_eq_false (by omega)
      clear hk
      go_enter Try.func31, Try.ntmps31
      go_wp2
      go_ret
      exact ⟨ret_int HK.out.symm, x.end_ (below_alloc _)⟩
  | some k =>
    obtain ⟨h0, h1, _⟩ := R.colAt_some hk
    obtain ⟨b, o, rfl, hcell⟩ := hc.at_ hk
    have d : decide (i < 0) = false := decide_eq_false (by omega)
    have d2 : decide ((c.length : Int) ≤ i) = false := decide_eq_false (by omega)
    have hx := x.cell hcell
    have hx1 : ∀ o1, (x.1.alloc o1).cell? ⟨b, o + i.toNat, none⟩ = some (.bool k) := fun o1 => by
      rw [World.cell?_alloc_lt _ _ _ (cell_lt hx)]; exact hx
    cases k
    · have HK := Lib.hid (show R.kind c i = 1 by simp [R.kind, hk])
      clear hk hcell hx
      go_enter Try.func31, Try.ntmps31
      go_wp2
      go_ret
      exact ⟨ret_int HK.out.symm, x.end_ (below_alloc _)⟩
    · have HK := Lib.hid (show R.kind c i = 2 by simp [R.kind, hk])
      clear hk hcell hx
      go_enter Try.func31, Try.ntmps31
      go_wp2
      go_ret
      exact ⟨ret_int HK.out.symm, x.end_ (below_alloc _)⟩
theorem kind_is {A : Option Addr} {c : List Bool} {ca : Nat} (hc : ColsAt W A c) {i r : Int} (h : R.kind c i = r) (x : Lt W) : Calls Try.prog 31 #[.agg #[.slice A c.length ca], .int .i64 i] x.1 fun e w' => e = .returned (.int .i64 r) ∧ ∃ y : Lt W, w' = y.1 := h ▸ kind_any hc i x

theorem number_any {A : Option Addr} {c : List Bool} {ca : Nat} (hc : ColsAt W A c) (i : Int) (x : Lt W) : Calls Try.prog 32 #[.agg #[.slice A c.length ca], .int .i64 i] x.1 fun e w' => e = .returned (.bool (R.isNum c i)) ∧ ∃ y : Lt W, w' = y.1 := by
  cases hk : R.colAt c i with
  | none =>
    have HK := Lib.hid (show R.isNum c i = false by simp [R.isNum, hk])
    rcases R.colAt_none hk with h | h
    · have d : decide (0 ≤ i) = false := decide_eq_false (by omega)
      clear hk
      go_enter Try.func32, Try.ntmps32
      go_wp2
      go_ret
      exact ⟨ret_bool HK.out.symm, x.end_ (below_alloc _)⟩
    · have h0 : 0 ≤ i := by omega
      have d : decide (0 ≤ i) = true := decide_eq_true (by omega)
      have d2 : decide (i < (c.length : Int)) = false := decide_eq_false (by omega)
      clear hk
      go_enter Try.func32, Try.ntmps32
      go_wp2
      go_ret
      exact ⟨ret_bool HK.out.symm, x.end_ (below_alloc _)⟩
  | some k =>
    obtain ⟨h0, h1, _⟩ := R.colAt_some hk
    obtain ⟨b, o, rfl, hcell⟩ := hc.at_ hk
    have d : decide (0 ≤ i) = true := decide_eq_true (by omega)
    have d2 : decide (i < (c.length : Int)) = true := decide_eq_true (by omega)
    have hx := x.cell hcell
    have hx1 : ∀ o1, (x.1.alloc o1).cell? ⟨b, o + i.toNat, none⟩ = some (.bool k) := fun o1 => by
      rw [World.cell?_alloc_lt _ _ _ (cell_lt hx)]; exact hx
    have HK := Lib.hid (show R.isNum c i = !k by cases k <;> simp [R.isNum, hk])
    clear hk hcell hx
    go_enter Try.func32, Try.ntmps32
    go_wp2
    go_ret
    exact ⟨ret_bool HK.out.symm, x.end_ (below_alloc _)⟩
theorem number_is {A : Option Addr} {c : List Bool} {ca : Nat} (hc : ColsAt W A c) {i : Int} {r : Bool} (h : R.isNum c i = r) (x : Lt W) : Calls Try.prog 32 #[.agg #[.slice A c.length ca], .int .i64 i] x.1 fun e w' => e = .returned (.bool r) ∧ ∃ y : Lt W, w' = y.1 := h ▸ number_any hc i x

theorem R.kind_cases (c : List Bool) (i : Int) : (R.colAt c i = none ∧ R.kind c i = 0) ∨ (R.colAt c i = some false ∧ R.kind c i = 1) ∨ (R.colAt c i = some true ∧ R.kind c i = 2) := by
  unfold R.kind
  cases h : R.colAt c i with
  | none => simp
  | some k => cases k <;> simp
end Go.Proofs.Ytpgbngmekfakkaa
