/-
  Rows behind one another, in memory; whether something is so of one of them, or of all: slices.ContainsFunc and the program's all, walked. Conditions: the rows lie in memory as they read; at most a billion of them.
-/
import Derived.Test.YtghpildnajdlpaaDoorRowFnB09
import Derived.Laws.EntriesVeiled
namespace Go.Proofs.YtghpildnajdlpaaDoor
open Go.RowKit

/-- Rows lie behind an address, a slice each. -/
def ImgsAt (W : World) (A : Option Addr) (ca : Nat) (l : List (List Val)) : Prop := ((A = none → ca = 0) ∧ l.length ≤ ca) ∧ (l ≠ [] → ∃ b o, A = some ⟨b, o, none⟩ ∧
  ∀ (i : Nat) (r : List Val), l[i]? = some r → ∃ A' ca', W.cell? ⟨b, o + i, none⟩ = some (.slice A' r.length ca') ∧ RowAt W A' r ∧ (A' = none → ca' = 0))
theorem ImgsAt.below {W w : World} {A : Option Addr} {ca : Nat} {l : List (List Val)} (h : ImgsAt W A ca l) (hb : Below W.heap.size W w) : ImgsAt w A ca l := by
  refine ⟨h.1, fun hn => ?_⟩
  obtain ⟨b, o, hA, hc⟩ := h.2 hn
  refine ⟨b, o, hA, fun i r hr => ?_⟩
  obtain ⟨A', ca', h1, h2, h3⟩ := hc i r hr
  exact ⟨A', ca', (hb.cell (cell_lt h1)).trans h1, h2.below hb, h3⟩
theorem ImgsAt.at_ {W : World} {A : Option Addr} {ca : Nat} {l : List (List Val)} (h : ImgsAt W A ca l) {k : Nat} (hk : k < l.length) :
    ∃ (b o : Nat) (r : List Val) (A' : Option Addr) (ca' : Nat), l[k]? = some r ∧ r ∈ l ∧ A = some ⟨b, o, none⟩ ∧ W.cell? ⟨b, o + k, none⟩ = some (.slice A' r.length ca') ∧ RowAt W A' r ∧ (A' = none → ca' = 0) := by
  obtain ⟨b, o, hA, hc⟩ := h.2 (fun e => by subst e; simp at hk)
  have hq : l[k]? = some l[k] := List.getElem?_eq_getElem hk
  obtain ⟨A', ca', h1, h2, h3⟩ := hc k _ hq
  exact ⟨b, o, l[k], A', ca', hq, List.getElem_mem hk, hA, h1, h2, h3⟩
theorem ImgsAt.nil (W : World) : ImgsAt W none 0 [] := ⟨⟨fun _ => rfl, Nat.le_refl _⟩, fun h => absurd rfl h⟩

/-- What a function value says of a row, whatever world behind W it is asked in. -/
def Says (W : World) (F : Nat) (caps : Array Value) (f : List Val → Bool) (r : List Val) : Prop := ∀ (w : World) (A' : Option Addr) (ca' : Nat), Below W.heap.size W w → RowAt w A' r → (A' = none → ca' = 0) →
  Calls Tryd.prog F (#[.slice A' r.length ca'] ++ caps) w fun e w' => e = .returned (.bool (f r)) ∧ Below w.heap.size w w'
theorem Says.there {W W1 : World} {F : Nat} {caps : Array Value} {f : List Val → Bool} {r : List Val} (h : Says W F caps f r) (hb : Below W.heap.size W W1) : Says W1 F caps f r := fun w A ca hw hr hn => h w A ca (below_then hb hw) hr hn

theorem rindex_any {W : World} {l : List (List Val)} {F : Nat} {caps : Array Value} (henter : ∀ (args : Array Value) (w : World), (callFunc F args).run Tryd.prog w = .ok (.enter F args) w) (f : List Val → Bool) {stop : Nat} (hs : stop ≤ l.length) (hl : l.length ≤ 1000000000)
    (hno : ∀ (i : Nat) (q : List Val), i < stop → l[i]? = some q → f q = false) (hyes : ∀ q, l[stop]? = some q → f q = true) {A : Option Addr} {ca : Nat} (hat : ImgsAt W A ca l)
    (hf : ∀ q ∈ l, Says W F caps f q) (x : Lt W) :
    Calls Tryd.prog 82 #[.slice A l.length ca, .func (.func F) #[] caps] x.1 fun e w' => e = .returned (.int .i64 (if stop < l.length then (stop : Int) else -1)) ∧ ∃ y : Lt W, w' = y.1 := by
  have HF := Lib.hid hf
  have HN := Lib.hid hno
  have HY := Lib.hid hyes
  clear hf hno hyes
  go_enter Tryd.func82, Tryd.ntmps82
  go_wp2_with fail
  go_loopw [8] (fun i wr => ∃ (k : Nat) (y : Lt W), wr = y.1 ∧ i = .int .i64 k ∧ k ≤ stop) (fun i _ => stop - (intOf i).toNat)
  case atStart => exact ⟨0, x, rfl, rfl, by omega⟩
  case round =>
    obtain ⟨k, y, rfl, rfl, hk⟩ := hrel
    by_cases hlt : k < l.length
    · obtain ⟨b, off, q, A', ca', hq, hmem, rfl, hcell, hqat, hqn⟩ := hat.at_ hlt
      have HC := Lib.hid (HF.out q hmem y.1 A' ca' y.2 (hqat.below y.2) hqn)
      have HQ := Lib.hid hq
      clear hq
      have c0 := y.cell hcell
      clear hcell hqn
      go_wp2_with fail
      refine HC.out.mono ?_; rintro e w' ⟨rfl, hbz⟩
      obtain ⟨z, rfl⟩ : ∃ z : Lt W, w' = z.1 := ⟨y.next hbz, rfl⟩
      by_cases hst : k = stop
      · have HB := Lib.hid (HY.out q (hst ▸ HQ.out))
        rw [HB.out]
        obtain rfl := hst
        go_wp2_with fail
        go_ret
        exact ⟨rfl, z, rfl⟩
      · have HB := Lib.hid (HN.out k q (by omega) HQ.out)
        rw [HB.out]
        go_wp2_with fail
        go_roundw
        case rel => exact ⟨k + 1, z, rfl, by go_num, by omega⟩
        case measure => simp [intOf]; omega
    · have hns : ¬ stop < l.length := by omega
      go_wp2_with fail
      go_ret
      exact ⟨rfl, y, rfl⟩

theorem rstop_of (f : List Val → Bool) : ∀ l : List (List Val), ∃ stop, stop ≤ l.length ∧ (∀ (i : Nat) (q : List Val), i < stop → l[i]? = some q → f q = false) ∧ (∀ q, l[stop]? = some q → f q = true) ∧ l.any f = decide (stop < l.length)
  | [] => ⟨0, by simp, fun i q hi => by omega, fun q hq => by simp at hq, rfl⟩
  | p :: l => by
    cases hp : f p with
    | true => exact ⟨0, by simp, fun i q hi => by omega, fun q hq => by simp at hq; subst hq; exact hp, by simp [hp]⟩
    | false =>
      obtain ⟨s, h1, h2, h3, h4⟩ := rstop_of f l
      refine ⟨s + 1, by simpa using h1, fun i q hi hq => ?_, fun q hq => h3 q (by simpa using hq), by simp [hp, h4]⟩
      cases i with
      | zero => simp at hq; subst hq; exact hp
      | succ i => exact h2 i q (by omega) (by simpa using hq)

theorem rcontains_any {W : World} {l : List (List Val)} {F : Nat} {caps : Array Value} (henter : ∀ (args : Array Value) (w : World), (callFunc F args).run Tryd.prog w = .ok (.enter F args) w) (f : List Val → Bool) (hl : l.length ≤ 1000000000)
    {A : Option Addr} {ca : Nat} (hat : ImgsAt W A ca l) (hf : ∀ q ∈ l, Says W F caps f q) (x : Lt W) :
    Calls Tryd.prog 67 #[.slice A l.length ca, .func (.func F) #[] caps] x.1 fun e w' => e = .returned (.bool (l.any f)) ∧ ∃ y : Lt W, w' = y.1 := by
  obtain ⟨stop, h1, h2, h3, h4⟩ := rstop_of f l
  have H4 := Lib.hid h4
  have key := Lib.hid (rindex_any henter f h1 hl h2 h3 hat hf x)
  clear hf henter h2 h3 h4
  obtain ⟨z, hz⟩ : ∃ z : Int, z = if stop < l.length then (stop : Int) else -1 := ⟨_, rfl⟩
  rw [← hz] at key
  have HZ := Lib.hid (show decide (0 ≤ z) = decide (stop < l.length) by
    apply decide_eq_decide.2
    split at hz <;> omega)
  clear hz
  go_enter Tryd.func67, Tryd.ntmps67
  go_wp2_with fail
  refine key.out.mono ?_; rintro e w' ⟨rfl, y, rfl⟩
  go_wp2_with fail
  go_ret
  exact ⟨ret_bool (by rw [H4.out, HZ.out]), y, rfl⟩

theorem enters_all1 (args : Array Value) (w : World) : (callFunc 68 args).run Tryd.prog w = .ok (.enter 68 args) w := enters Tryd.func68 (by kernel_rfl) (by kernel_rfl) args w
theorem enters_in1 (args : Array Value) (w : World) : (callFunc 69 args).run Tryd.prog w = .ok (.enter 69 args) w := enters Tryd.func69 (by kernel_rfl) (by kernel_rfl) args w

theorem all1_any {W : World} {F g : Nat} {caps : Array Value} (henter : ∀ (args : Array Value) (w : World), (callFunc F args).run Tryd.prog w = .ok (.enter F args) w) {f : List Val → Bool} {r : List Val} (hf : Says W F caps f r) (hg : W.cell? ⟨g, 0, none⟩ = some (.func (.func F) #[] caps)) :
    Says W 68 #[.pointer (some ⟨g, 0, none⟩)] (fun r => !f r) r := by
  intro w A ca hw hr hn
  have HF := Lib.hid (hf w A ca hw hr hn)
  have g0 : w.cell? ⟨g, 0, none⟩ = some (.func (.func F) #[] caps) := (hw.cell (cell_lt hg)).trans hg
  show Calls Tryd.prog 68 #[.slice A r.length ca, .pointer (some ⟨g, 0, none⟩)] w _
  clear hf hg hn
  go_enter Tryd.func68, Tryd.ntmps68
  go_wp2_with fail
  refine HF.out.mono ?_; rintro e w' ⟨rfl, hb⟩
  go_wp2_with fail
  go_ret
  exact ⟨rfl, hb⟩

theorem all_any_not {l : List (List Val)} (f : List Val → Bool) : (!l.any fun q => !f q) = l.all f := by rw [Bool.eq_iff_iff]; simp

theorem in1_any {W : World} {g : Nat} {B : Option Addr} {cb : Nat} {s : List Val} (hs : RowAt W B s) (hg : W.cell? ⟨g, 0, none⟩ = some (.slice B s.length cb)) {r : List Val} (hl : r.length ≤ 1000000000) :
    Says W 69 #[.pointer (some ⟨g, 0, none⟩)] (fun r => decide (r = s)) r := by
  intro w A ca hw hr hn
  have g0 : w.cell? ⟨g, 0, none⟩ = some (.slice B s.length cb) := (hw.cell (cell_lt hg)).trans hg
  have C := Lib.hid (same_any (ca := ca) (cb := cb) hr (hs.below hw) hl (Lt.base w))
  show Calls Tryd.prog 69 #[.slice A r.length ca, .pointer (some ⟨g, 0, none⟩)] w _
  clear hg hn hw
  go_enter Tryd.func69, Tryd.ntmps69
  go_wp2_with fail
  refine C.out.mono ?_; rintro e w' ⟨rfl, y, rfl⟩
  go_wp2_with fail
  go_ret
  exact ⟨rfl, y.2⟩

/-- The program's all. -/
theorem all_any_rows {W : World} {l : List (List Val)} {F : Nat} {caps : Array Value} (henter : ∀ (args : Array Value) (w : World), (callFunc F args).run Tryd.prog w = .ok (.enter F args) w) (f : List Val → Bool) (hl : l.length ≤ 1000000000)
    {A : Option Addr} {ca : Nat} (hat : ImgsAt W A ca l) (hf : ∀ q ∈ l, Says W F caps f q) (x : Lt W) :
    Calls Tryd.prog 43 #[.slice A l.length ca, .func (.func F) #[] caps] x.1 fun e w' => e = .returned (.bool (l.all f)) ∧ ∃ y : Lt W, w' = y.1 := by
  have HF := Lib.hid hf
  have HA := Lib.hid hat
  have HE := Lib.hid (all_any_not (l := l) f)
  clear hf hat
  go_enter Tryd.func43, Tryd.ntmps43
  go_wp2_with fail
  refine calls_here fun W1 hW1 => ?_
  have hb0 : Below W.heap.size W W1 := hW1 ▸ x.more _
  have hg : W1.cell? ⟨x.1.heap.size, 0, none⟩ = some (.func (.func F) #[] caps) := by rw [hW1, cell_new rfl]; rfl
  clear hW1
  refine (rcontains_any (F := 68) (caps := #[.pointer (some ⟨x.1.heap.size, 0, none⟩)]) enters_all1 (fun q => !f q) hl (HA.out.below hb0) (fun q hq => all1_any henter ((HF.out q hq).there hb0) hg) (Lt.base W1)).mono ?_; rintro e w' ⟨rfl, y, rfl⟩
  clear hg
  go_wp2_with fail
  go_ret
  exact ⟨ret_bool HE.out, y.via hb0, rfl⟩

/-- Is a row one of some? (the program's in) -/
theorem in_any {W : World} {l : List (List Val)} {s : List Val} (hl : l.length ≤ 1000000000) (hr : ∀ r ∈ l, r.length ≤ 1000000000) {A B : Option Addr} {ca cb : Nat} (hat : ImgsAt W A ca l) (hs : RowAt W B s) (x : Lt W) :
    Calls Tryd.prog 45 #[.slice A l.length ca, .slice B s.length cb] x.1 fun e w' => e = .returned (.bool (l.any fun r => decide (r = s))) ∧ ∃ y : Lt W, w' = y.1 := by
  have HA := Lib.hid hat
  have HS := Lib.hid hs
  have HR := Lib.hid hr
  clear hat hs hr
  go_enter Tryd.func45, Tryd.ntmps45
  go_wp2_with fail
  refine calls_here fun W1 hW1 => ?_
  have hb0 : Below W.heap.size W W1 := hW1 ▸ x.more _
  have hg : W1.cell? ⟨x.1.heap.size, 0, none⟩ = some (.slice B s.length cb) := by rw [hW1, cell_new rfl]; rfl
  clear hW1
  refine (rcontains_any (F := 69) (caps := #[.pointer (some ⟨x.1.heap.size, 0, none⟩)]) enters_in1 (fun r => decide (r = s)) hl (HA.out.below hb0) (fun q hq => in1_any (HS.out.below hb0) hg (HR.out q hq)) (Lt.base W1)).mono ?_; rintro e w' ⟨rfl, y, rfl⟩
  clear hg
  go_wp2_with fail
  go_ret
  exact ⟨rfl, y.via hb0, rfl⟩
end Go.Proofs.YtghpildnajdlpaaDoor
