/-
  Whether a predicate holds of a row, walked: the program's Holds. Conditions: predicate and row lie in memory as they read; at most a billion parts.
-/
import Derived.Test.YtghpildnajdlpaaDoorLeaf
import Derived.Laws.EntriesVeiled
namespace Go.Proofs.YtghpildnajdlpaaDoor
open Go.RowKit

theorem index_any {W : World} {l : List Pr} {o c : Int} {v w : Val} {F : Nat} {caps : Array Value} (henter : ∀ (args : Array Value) (w : World), (callFunc F args).run Tryd.prog w = .ok (.enter F args) w) (f : Pr → Bool) {stop : Nat} (hs : stop ≤ l.length) (hl : l.length ≤ 1000000000)
    (hno : ∀ (i : Nat) (q : Pr), i < stop → l[i]? = some q → f q = false) (hyes : ∀ q, l[stop]? = some q → f q = true) {A : Option Addr} {ca : Nat} (hat : (Pr.mk o c v w l).At W A ca)
    (hf : ∀ q ∈ l, ∀ (z : Lt W) (A' : Option Addr) (ca' : Nat), q.At z.1 A' ca' → Calls Tryd.prog F (#[q.arg A' ca'] ++ caps) z.1 fun e w' => e = .returned (.bool (f q)) ∧ ∃ y : Lt W, w' = y.1) (x : Lt W) :
    Calls Tryd.prog 85 #[.slice A l.length ca, .func (.func F) #[] caps] x.1 fun e w' => e = .returned (.int .i64 (if stop < l.length then (stop : Int) else -1)) ∧ ∃ y : Lt W, w' = y.1 := by
  have HF := Lib.hid hf
  have HN := Lib.hid hno
  have HY := Lib.hid hyes
  clear hf hno hyes
  go_enter Tryd.func85, Tryd.ntmps85
  go_wp2_with fail
  go_loopw [8] (fun i wr => ∃ (k : Nat) (y : Lt W), wr = y.1 ∧ i = .int .i64 k ∧ k ≤ stop) (fun i _ => stop - (intOf i).toNat)
  case atStart => exact ⟨0, x, rfl, rfl, by omega⟩
  case round =>
    obtain ⟨k, y, rfl, rfl, hk⟩ := hrel
    by_cases hlt : k < l.length
    · obtain ⟨b, off, q, A', ca', hq, hmem, rfl, hcells, hqat⟩ := hat.kid hlt
      have HC := Lib.hid (HF.out q hmem y A' ca' (hqat.below y.2))
      have HQ := Lib.hid hq
      clear hq
      obtain ⟨c0, c1, c2, c3, c4, c5, c6, c7, c8⟩ := hcells.lt y
      go_wp2_with fail
      refine HC.out.mono ?_; rintro e w' ⟨rfl, z, rfl⟩
      by_cases hst : k = stop
      · have HB := Lib.hid (HY.out q (hst ▸ HQ.out))
        rw [HB.out]
        obtain rfl := hst
        go_wp2_with fail
        go_ret
        exact ⟨rfl, z, rfl⟩
      · have HB := Lib.hid (HN.out k q (by omega) HQ.out)
        rw [HB.out]
        go_wp2_with fail
        go_roundw
        case rel => exact ⟨k + 1, z, rfl, by go_num, by omega⟩
        case measure => simp [intOf]; omega
    · have hns : ¬ stop < l.length := by omega
      go_wp2_with fail
      go_ret
      exact ⟨rfl, y, rfl⟩

theorem stop_of (f : Pr → Bool) : ∀ l : List Pr, ∃ stop, stop ≤ l.length ∧ (∀ (i : Nat) (q : Pr), i < stop → l[i]? = some q → f q = false) ∧ (∀ q, l[stop]? = some q → f q = true) ∧ l.any f = decide (stop < l.length)
  | [] => ⟨0, by simp, fun i q hi => by omega, fun q hq => by simp at hq, rfl⟩
  | p :: l => by
    cases hp : f p with
    | true => exact ⟨0, by simp, fun i q hi => by omega, fun q hq => by simp at hq; subst hq; exact hp, by simp [hp]⟩
    | false =>
      obtain ⟨s, h1, h2, h3, h4⟩ := stop_of f l
      refine ⟨s + 1, by simpa using h1, fun i q hi hq => ?_, fun q hq => h3 q (by simpa using hq), by simp [hp, h4]⟩
      cases i with
      | zero => simp at hq; subst hq; exact hp
      | succ i => exact h2 i q (by omega) (by simpa using hq)

theorem contains_any {W : World} {l : List Pr} {o c : Int} {v w : Val} {F : Nat} {caps : Array Value} (henter : ∀ (args : Array Value) (w : World), (callFunc F args).run Tryd.prog w = .ok (.enter F args) w) (f : Pr → Bool) (hl : l.length ≤ 1000000000)
    {A : Option Addr} {ca : Nat} (hat : (Pr.mk o c v w l).At W A ca)
    (hf : ∀ q ∈ l, ∀ (z : Lt W) (A' : Option Addr) (ca' : Nat), q.At z.1 A' ca' → Calls Tryd.prog F (#[q.arg A' ca'] ++ caps) z.1 fun e w' => e = .returned (.bool (f q)) ∧ ∃ y : Lt W, w' = y.1) (x : Lt W) :
    Calls Tryd.prog 79 #[.slice A l.length ca, .func (.func F) #[] caps] x.1 fun e w' => e = .returned (.bool (l.any f)) ∧ ∃ y : Lt W, w' = y.1 := by
  obtain ⟨stop, h1, h2, h3, h4⟩ := stop_of f l
  have H4 := Lib.hid h4
  have key := Lib.hid (index_any henter f h1 hl h2 h3 hat hf x)
  clear hf henter h2 h3 h4
  obtain ⟨z, hz⟩ : ∃ z : Int, z = if stop < l.length then (stop : Int) else -1 := ⟨_, rfl⟩
  rw [← hz] at key
  have HZ := Lib.hid (show decide (0 ≤ z) = decide (stop < l.length) by
    apply decide_eq_decide.2
    split at hz <;> omega)
  clear hz
  go_enter Tryd.func79, Tryd.ntmps79
  go_wp2_with fail
  refine key.out.mono ?_; rintro e w' ⟨rfl, y, rfl⟩
  go_wp2_with fail
  go_ret
  exact ⟨ret_bool (by rw [H4.out, HZ.out]), y, rfl⟩

/-- What the program's Holds says of one predicate. -/
def HoldsAt (r : List Val) (B : Option Addr) (cb : Nat) (q : Pr) : Prop := ∀ (W : World) (x : Lt W) (A : Option Addr) (ca : Nat), q.At W A ca → RowAt W B r →
  Calls Tryd.prog 65 #[q.arg A ca, .slice B r.length cb] x.1 fun e w' => e = .returned (.bool (q.holds r)) ∧ ∃ y : Lt W, w' = y.1

theorem enters1 (args : Array Value) (w : World) : (callFunc 77 args).run Tryd.prog w = .ok (.enter 77 args) w := enters Tryd.func77 (by kernel_rfl) (by kernel_rfl) args w
theorem enters2 (args : Array Value) (w : World) : (callFunc 80 args).run Tryd.prog w = .ok (.enter 80 args) w := enters Tryd.func80 (by kernel_rfl) (by kernel_rfl) args w

theorem holds1_any {W : World} {r : List Val} {B : Option Addr} {cb g : Nat} {q : Pr} (hq : HoldsAt r B cb q) (x : Lt W) {A : Option Addr} {ca : Nat} (hat : q.At W A ca) (hr : RowAt W B r) (hg : W.cell? ⟨g, 0, none⟩ = some (.slice B r.length cb)) :
    Calls Tryd.prog 77 #[q.arg A ca, .pointer (some ⟨g, 0, none⟩)] x.1 fun e w' => e = .returned (.bool (q.holds r)) ∧ ∃ y : Lt W, w' = y.1 := by
  unfold Pr.arg
  have HQ := Lib.hid hq
  have g0 := fun o : Obj => cell_old (o := o) (x.cell hg)
  clear hq hg
  go_enter Tryd.func77, Tryd.ntmps77
  go_wp2_with fail
  refine calls_here fun W1 hW1 => ?_
  have hb0 : Below W.heap.size W W1 := hW1 ▸ x.more _
  clear hW1
  refine (HQ.out W1 (Lt.base W1) A ca (hat.below hb0) (hr.below hb0)).mono ?_; rintro e w' ⟨rfl, y, rfl⟩
  go_wp2_with fail
  go_ret
  exact ⟨rfl, y.via hb0, rfl⟩

theorem holds2_any {W : World} {r : List Val} {B : Option Addr} {cb g g2 : Nat} {q : Pr} (hq : HoldsAt r B cb q) (x : Lt W) {A : Option Addr} {ca : Nat} (hat : q.At W A ca) (hr : RowAt W B r) (hg : W.cell? ⟨g, 0, none⟩ = some (.slice B r.length cb))
    (hg2 : W.cell? ⟨g2, 0, none⟩ = some (.func (.func 77) #[] #[.pointer (some ⟨g, 0, none⟩)])) :
    Calls Tryd.prog 80 #[q.arg A ca, .pointer (some ⟨g2, 0, none⟩)] x.1 fun e w' => e = .returned (.bool (!q.holds r)) ∧ ∃ y : Lt W, w' = y.1 := by
  unfold Pr.arg
  have HQ := Lib.hid hq
  have g0 := fun o : Obj => cell_old (o := o) (x.cell hg2)
  clear hq hg2
  go_enter Tryd.func80, Tryd.ntmps80
  go_wp2_with fail
  refine calls_here fun W1 hW1 => ?_
  have hb0 : Below W.heap.size W W1 := hW1 ▸ x.more _
  clear hW1
  refine (holds1_any HQ.out (Lt.base W1) (hat.below hb0) (hr.below hb0) ((Lt.base W1).old hb0 hg)).mono ?_; rintro e w' ⟨rfl, y, rfl⟩
  go_wp2_with fail
  go_ret
  exact ⟨rfl, y.via hb0, rfl⟩

theorem holds_world {W W1 : World} (x : Lt W) {a b c : Array Value} {ta tb tc : TypeId} (h : W1 = ((x.1.alloc (.cells a ta)).alloc (.cells b tb)).alloc (.cells c tc)) :
    Below W.heap.size W W1 ∧ (∀ j v, a[j]? = some v → W1.cell? ⟨x.1.heap.size, j, none⟩ = some v) ∧ W1.cell? ⟨x.1.heap.size + 1, 0, none⟩ = b[0]? ∧ W1.cell? ⟨x.1.heap.size + 1 + 1, 0, none⟩ = c[0]? := by
  subst h
  refine ⟨below_then (x.more2 _ _) (below_alloc _), fun j v hv => cell_old (cell_old (by rw [cell_new rfl]; exact hv)), ?_, by rw [cell_new (by simp)]⟩
  cases hb : b[0]? with
  | some u => exact cell_old (by rw [cell_new (by simp)]; exact hb)
  | none =>
    have hlt : (x.1.heap.size + 1) < ((x.1.alloc (.cells a ta)).alloc (.cells b tb)).heap.size := by simp
    rw [World.cell?_alloc_lt _ _ _ hlt, cell_new (by simp)]; exact hb
theorem Pr.says_1 {r : List Val} {c : Int} {v w : Val} {l : List Bool} : Pr.says r 1 c v w l = true := rfl
theorem Pr.says_leaf2 {r : List Val} {o c : Int} {v w : Val} {l : List Bool} (h1 : 3 ≤ o) (h2 : o ≤ 9) : Pr.says r o c v w l = Pr.leaf o c v w r := by
  unfold Pr.says
  rw [if_neg (by omega), if_pos ⟨h1, h2⟩]
theorem Pr.says_no {r : List Val} {o c : Int} {v w : Val} {l : List Bool} (h1 : o ≠ 1) (h2 : ¬ (3 ≤ o ∧ o ≤ 12)) : Pr.says r o c v w l = false := by
  unfold Pr.says
  rw [if_neg h1, if_neg (by omega), if_neg (by omega), if_neg (by omega), if_neg (by omega)]
theorem all_map_id {r : List Val} {l : List Pr} : (l.map (Pr.holds r)).all id = l.all (Pr.holds r) := by rw [List.all_map]; rfl
theorem any_map_id {r : List Val} {l : List Pr} : (l.map (Pr.holds r)).any id = l.any (Pr.holds r) := by rw [List.any_map]; rfl
theorem all_any {l : List Pr} (f : Pr → Bool) : (!l.any fun q => !f q) = l.all f := by rw [Bool.eq_iff_iff]; simp

section
variable {W : World} {r : List Val} {B : Option Addr} {cb : Nat} {c : Int} {v w : Val} {l : List Pr} {A : Option Addr} {ca : Nat}
set_option maxHeartbeats 1000000

theorem holds_1 (x : Lt W) : Calls Tryd.prog 65 #[.agg #[.int .i64 1, .int .i64 c, .bool v.t, .int .i64 v.n, .string v.s, .bool w.t, .int .i64 w.n, .string w.s, .slice A l.length ca], .slice B r.length cb] x.1 fun e w' => e = .returned (.bool true) ∧ ∃ y : Lt W, w' = y.1 := by
  go_enter Tryd.func65, Tryd.ntmps65
  go_wp2_with fail
  go_ret
  exact ⟨rfl, x.end_ (below_then (below_then (below_alloc _) (below_alloc _)) (below_alloc _))⟩

theorem holds_no {o : Int} (h1 : o ≠ 1) (h2 : ¬ (3 ≤ o ∧ o ≤ 12)) (x : Lt W) : Calls Tryd.prog 65 #[.agg #[.int .i64 o, .int .i64 c, .bool v.t, .int .i64 v.n, .string v.s, .bool w.t, .int .i64 w.n, .string w.s, .slice A l.length ca], .slice B r.length cb] x.1 fun e w' => e = .returned (.bool false) ∧ ∃ y : Lt W, w' = y.1 := by
  have n1 : (o == 1) = false := beq_eq_false_iff_ne.2 (by omega)
  have n3 : (o == 3) = false := beq_eq_false_iff_ne.2 (by omega)
  have n4 : (o == 4) = false := beq_eq_false_iff_ne.2 (by omega)
  have n5 : (o == 5) = false := beq_eq_false_iff_ne.2 (by omega)
  have n6 : (o == 6) = false := beq_eq_false_iff_ne.2 (by omega)
  have n7 : (o == 7) = false := beq_eq_false_iff_ne.2 (by omega)
  have n8 : (o == 8) = false := beq_eq_false_iff_ne.2 (by omega)
  have n9 : (o == 9) = false := beq_eq_false_iff_ne.2 (by omega)
  have n10 : (o == 10) = false := beq_eq_false_iff_ne.2 (by omega)
  have n11 : (o == 11) = false := beq_eq_false_iff_ne.2 (by omega)
  have n12 : (o == 12) = false := beq_eq_false_iff_ne.2 (by omega)
  clear h1 h2
  go_enter Tryd.func65, Tryd.ntmps65
  go_wp2_with fail
  go_ret
  exact ⟨rfl, x.end_ (below_then (below_then (below_alloc _) (below_alloc _)) (below_alloc _))⟩

theorem holds_leaf {o : Int} (h1 : 3 ≤ o) (h2 : o ≤ 9) (x : Lt W) (hr : RowAt W B r) : Calls Tryd.prog 65 #[.agg #[.int .i64 o, .int .i64 c, .bool v.t, .int .i64 v.n, .string v.s, .bool w.t, .int .i64 w.n, .string w.s, .slice A l.length ca], .slice B r.length cb] x.1 fun e w' => e = .returned (.bool (Pr.leaf o c v w r)) ∧ ∃ y : Lt W, w' = y.1 := by
  rcases (show o = 3 ∨ o = 4 ∨ o = 5 ∨ o = 6 ∨ o = 7 ∨ o = 8 ∨ o = 9 by omega) with rfl | rfl | rfl | rfl | rfl | rfl | rfl
  all_goals
    clear h1 h2
    go_enter Tryd.func65, Tryd.ntmps65
    go_wp2_with fail
    refine calls_here fun W1 hW1 => ?_
    obtain ⟨hb0, _, _, _⟩ := holds_world x hW1
    clear hW1
    refine (leaf_any (hr.below hb0) (Lt.base W1)).mono ?_; rintro e w' ⟨rfl, y, rfl⟩
    go_wp2_with fail
    go_ret
    exact ⟨rfl, y.via hb0, rfl⟩

theorem holds_11 (ih : ∀ q ∈ l, HoldsAt r B cb q) (hl : l.length ≤ 1000000000) (x : Lt W) (hat : (Pr.mk 11 c v w l).At W A ca) (hr : RowAt W B r) :
    Calls Tryd.prog 65 #[.agg #[.int .i64 11, .int .i64 c, .bool v.t, .int .i64 v.n, .string v.s, .bool w.t, .int .i64 w.n, .string w.s, .slice A l.length ca], .slice B r.length cb] x.1 fun e w' => e = .returned (.bool (l.all (Pr.holds r))) ∧ ∃ y : Lt W, w' = y.1 := by
  have IH := Lib.hid ih
  clear ih
  go_enter Tryd.func65, Tryd.ntmps65
  go_wp2_with fail
  refine calls_here fun W1 hW1 => ?_
  obtain ⟨hb0, _, hg, hg2⟩ := holds_world x hW1
  clear hW1
  have hk : ∀ q ∈ l, ∀ (z : Lt W1) (A' : Option Addr) (ca' : Nat), q.At z.1 A' ca' → Calls Tryd.prog 80 (#[q.arg A' ca'] ++ #[.pointer (some ⟨x.1.heap.size + 1 + 1, 0, none⟩)]) z.1 fun e w' => e = .returned (.bool (!q.holds r)) ∧ ∃ y : Lt W1, w' = y.1 := by
    intro q hq z A' ca' hqat
    show Calls Tryd.prog 80 #[q.arg A' ca', .pointer (some ⟨x.1.heap.size + 1 + 1, 0, none⟩)] z.1 _
    exact (holds2_any (IH.out q hq) (Lt.base z.1) hqat ((hr.below hb0).below z.2) (z.cell hg) (z.cell hg2)).mono fun e w' ⟨h1, y, h2⟩ => ⟨h1, y.via z.2, h2⟩
  have HK := Lib.hid (contains_any (F := 80) (caps := #[.pointer (some ⟨x.1.heap.size + 1 + 1, 0, none⟩)]) enters2 (fun q => !q.holds r) hl (hat.below hb0) hk (Lt.base W1))
  clear hk
  refine HK.out.mono ?_; rintro e w' ⟨rfl, y, rfl⟩
  go_wp2_with fail
  go_ret
  exact ⟨ret_bool (all_any _), y.via hb0, rfl⟩

theorem holds_12 (ih : ∀ q ∈ l, HoldsAt r B cb q) (hl : l.length ≤ 1000000000) (x : Lt W) (hat : (Pr.mk 12 c v w l).At W A ca) (hr : RowAt W B r) :
    Calls Tryd.prog 65 #[.agg #[.int .i64 12, .int .i64 c, .bool v.t, .int .i64 v.n, .string v.s, .bool w.t, .int .i64 w.n, .string w.s, .slice A l.length ca], .slice B r.length cb] x.1 fun e w' => e = .returned (.bool (l.any (Pr.holds r))) ∧ ∃ y : Lt W, w' = y.1 := by
  have IH := Lib.hid ih
  clear ih
  go_enter Tryd.func65, Tryd.ntmps65
  go_wp2_with fail
  refine calls_here fun W1 hW1 => ?_
  obtain ⟨hb0, _, hg, hg2⟩ := holds_world x hW1
  clear hW1
  have hk : ∀ q ∈ l, ∀ (z : Lt W1) (A' : Option Addr) (ca' : Nat), q.At z.1 A' ca' → Calls Tryd.prog 77 (#[q.arg A' ca'] ++ #[.pointer (some ⟨x.1.heap.size + 1, 0, none⟩)]) z.1 fun e w' => e = .returned (.bool (q.holds r)) ∧ ∃ y : Lt W1, w' = y.1 := by
    intro q hq z A' ca' hqat
    show Calls Tryd.prog 77 #[q.arg A' ca', .pointer (some ⟨x.1.heap.size + 1, 0, none⟩)] z.1 _
    exact (holds1_any (IH.out q hq) (Lt.base z.1) hqat ((hr.below hb0).below z.2) (z.cell hg)).mono fun e w' ⟨h1, y, h2⟩ => ⟨h1, y.via z.2, h2⟩
  have HK := Lib.hid (contains_any (F := 77) (caps := #[.pointer (some ⟨x.1.heap.size + 1, 0, none⟩)]) enters1 (fun q => q.holds r) hl (hat.below hb0) hk (Lt.base W1))
  clear hk
  refine HK.out.mono ?_; rintro e w' ⟨rfl, y, rfl⟩
  go_wp2_with fail
  go_ret
  exact ⟨rfl, y.via hb0, rfl⟩

theorem holds_10 (ih : ∀ q ∈ l, HoldsAt r B cb q) (x : Lt W) (hat : (Pr.mk 10 c v w l).At W A ca) (hr : RowAt W B r) :
    Calls Tryd.prog 65 #[.agg #[.int .i64 10, .int .i64 c, .bool v.t, .int .i64 v.n, .string v.s, .bool w.t, .int .i64 w.n, .string w.s, .slice A l.length ca], .slice B r.length cb] x.1 fun e w' => e = .returned (.bool (!(l.map (Pr.holds r)).headD false)) ∧ ∃ y : Lt W, w' = y.1 := by
  have IH := Lib.hid ih
  clear ih
  by_cases h0 : l.length = 0
  · have hl : l = [] := List.eq_nil_of_length_eq_zero h0
    subst hl
    clear h0 hat
    simp only [List.length_nil]
    go_enter Tryd.func65, Tryd.ntmps65
    go_wp2_with fail
    refine wp_here fun W1 hW1 => ?_
    obtain ⟨hb0, hb, _, _⟩ := holds_world x hW1
    have g8 := fun z : Lt W1 => z.cell (hb 8 _ rfl)
    clear hW1 hb
    refine wp_region_here (by kernel_rfl) (by kernel_rfl) ?_
    repeat (go_big_quiet_step (fail))
    refine wpQuiet_nil ?_; intro _ hw'; obtain ⟨y, rfl⟩ := hw'
    go_wp2_with fail
    go_ret
    exact ⟨rfl, y.via hb0, rfl⟩
  · have hpos : 0 < l.length := by omega
    have hpos' : (0 : Int) < l.length := by omega
    have hne : ((l.length : Int) == 0) = false := beq_eq_false_iff_ne.2 (by omega)
    obtain ⟨b, off, q, A', ca', hq, hmem, rfl, hcells, hqat⟩ := hat.kid hpos
    have HH := Lib.hid (show (l.map (Pr.holds r)).headD false = q.holds r by
      cases l with
      | nil => simp at hpos
      | cons p l => simp at hq; subst hq; rfl)
    clear h0 hq hat
    rw [Nat.zero_mul, Nat.add_zero] at hcells
    go_enter Tryd.func65, Tryd.ntmps65
    go_wp2_with fail
    refine wp_here fun W1 hW1 => ?_
    obtain ⟨hb0, hb, hg, hg2⟩ := holds_world x hW1
    have g8 := fun z : Lt W1 => z.cell (hb 8 _ rfl)
    have g2 := fun z : Lt W1 => z.cell hg2
    obtain ⟨d0, d1, d2, d3, d4, d5, d6, d7, d8⟩ := hcells.below hb0
    have c0 := fun z : Lt W1 => z.cell d0
    have c1 := fun z : Lt W1 => z.cell d1
    have c2 := fun z : Lt W1 => z.cell d2
    have c3 := fun z : Lt W1 => z.cell d3
    have c4 := fun z : Lt W1 => z.cell d4
    have c5 := fun z : Lt W1 => z.cell d5
    have c6 := fun z : Lt W1 => z.cell d6
    have c7 := fun z : Lt W1 => z.cell d7
    have c8 := fun z : Lt W1 => z.cell d8
    have hcall : ∀ z : Lt W1, Calls Tryd.prog 77 #[q.arg A' ca', .pointer (some ⟨x.1.heap.size + 1, 0, none⟩)] z.1 fun e w' => e = .returned (.bool (q.holds r)) ∧ ∃ y : Lt W1, w' = y.1 := fun z =>
      (holds1_any (IH.out q hmem) z (hqat.below hb0) (hr.below hb0) hg)
    have HC := Lib.hid hcall
    clear hW1 hb hg hg2 d0 d1 d2 d3 d4 d5 d6 d7 d8 hcells hcall
    refine wp_region_here (by kernel_rfl) (by kernel_rfl) ?_
    repeat (go_big_quiet_step ((go_at_call 77; exact HC.out _)))
    refine wpQuiet_nil ?_; intro _ hw'; obtain ⟨y, rfl⟩ := hw'
    go_wp2_with fail
    go_ret
    exact ⟨ret_bool (by rw [HH.out]), y.via hb0, rfl⟩
end

theorem holds_all (r : List Val) (B : Option Addr) (cb : Nat) : ∀ p : Pr, p.size ≤ 1000000000 → HoldsAt r B cb p := by
  refine Pr.ind fun p ih hsz W x A ca hat hr => ?_
  obtain ⟨o, c, v, w, l⟩ := p
  have ih' : ∀ q ∈ l, HoldsAt r B cb q := fun q hq => ih q hq (by have := Pr.size_kid (p := .mk o c v w l) hq; omega)
  have hl : l.length ≤ 1000000000 := by have h1 := Pr.len_le l; have h2 := Pr.size_mk o c v w l; omega
  rw [Pr.holds_mk]
  show Calls Tryd.prog 65 #[.agg #[.int .i64 o, .int .i64 c, .bool v.t, .int .i64 v.n, .string v.s, .bool w.t, .int .i64 w.n, .string w.s, .slice A l.length ca], .slice B r.length cb] x.1 _
  by_cases h1 : o = 1
  · subst h1; exact holds_1 x
  by_cases h3 : 3 ≤ o ∧ o ≤ 9
  · rw [Pr.says_leaf2 h3.1 h3.2]; exact holds_leaf h3.1 h3.2 x hr
  by_cases h10 : o = 10
  · subst h10; exact holds_10 ih' x hat hr
  by_cases h11 : o = 11
  · subst h11
    have := holds_11 ih' hl x hat hr
    rw [← all_map_id] at this
    exact this
  by_cases h12 : o = 12
  · subst h12
    have := holds_12 ih' hl x hat hr
    rw [← any_map_id] at this
    exact this
  · rw [Pr.says_no h1 (by omega)]; exact holds_no h1 (by omega) x
theorem holds_any {W : World} {r : List Val} {B : Option Addr} {cb : Nat} {p : Pr} (hsz : p.size ≤ 1000000000) (x : Lt W) {A : Option Addr} {ca : Nat} (hat : p.At W A ca) (hr : RowAt W B r) :
    Calls Tryd.prog 65 #[p.arg A ca, .slice B r.length cb] x.1 fun e w' => e = .returned (.bool (p.holds r)) ∧ ∃ y : Lt W, w' = y.1 := holds_all r B cb p hsz W x A ca hat hr
end Go.Proofs.YtghpildnajdlpaaDoor
