/-
  Whether a predicate may be asked about (not deep, few parts), walked. Conditions: it lies in memory as it reads.
-/
import Derived.Test.YtghpildnajdlpaaDoorPrSize
namespace Go.Proofs.YtghpildnajdlpaaDoor
open Go.RowKit

theorem Pr.few_bound {m k n : Nat} {l : List Pr} {d : Nat} (h : ∀ (i : Nat) (q : Pr), l[i]? = some q → q.few m k n d = true) : (l.map Pr.size).sum ≤ l.length * n := by
  have key : ∀ l : List Pr, (∀ q ∈ l, q.few m k n d = true) → (l.map Pr.size).sum ≤ l.length * n := by
    intro l
    induction l with
    | nil => intro _; simp
    | cons q l ih =>
      intro h
      have h1 := few_size (h q (by simp))
      have h2 := ih fun q hq => h q (by simp [hq])
      rw [List.map_cons, List.sum_cons, List.length_cons, Nat.add_mul, Nat.one_mul]
      omega
  refine key l fun q hq => ?_
  obtain ⟨i, hi⟩ := List.mem_iff_getElem?.1 hq
  exact h i q hi
theorem Pr.few_no {m k n d : Nat} {o c : Int} {v w : Val} {l : List Pr} (h : m < d ∨ k < l.length) : (Pr.mk o c v w l).few m k n d = false := by
  rw [Pr.few_mk]
  rcases h with h | h
  · rw [decide_eq_false (by omega : ¬ d ≤ m)]; rfl
  · rw [decide_eq_false (by omega : ¬ l.length ≤ k), Bool.and_false]; rfl
theorem Pr.few_kid {m k n d i : Nat} {o c : Int} {v w : Val} {l : List Pr} {q : Pr} (hq : l[i]? = some q) (h : q.few m k n (d + 1) = false) : (Pr.mk o c v w l).few m k n d = false := by
  rw [Pr.few_mk]
  have : l.all (fun q => q.few m k n (d + 1)) = false := by
    rw [← Bool.not_eq_true, List.all_eq_true]
    intro ha
    have := ha q (List.mem_of_getElem? hq)
    rw [h] at this; cases this
  rw [this]; simp
theorem Pr.few_end {m k n d : Nat} {o c : Int} {v w : Val} {l : List Pr} (h1 : d ≤ m) (h2 : l.length ≤ k) (h : ∀ (i : Nat) (q : Pr), i < l.length → l[i]? = some q → q.few m k n (d + 1) = true) : (Pr.mk o c v w l).few m k n d = decide ((Pr.mk o c v w l).size ≤ n) := by
  rw [Pr.few_mk, decide_eq_true h1, decide_eq_true h2]
  have : l.all (fun q => q.few m k n (d + 1)) = true := by
    rw [List.all_eq_true]
    intro q hq
    obtain ⟨i, hi⟩ := List.mem_iff_getElem?.1 hq
    exact h i q (List.getElem?_eq_some_iff.1 hi).1 hi
  rw [this]; simp

set_option maxHeartbeats 1000000 in
theorem few_any (p : Pr) : ∀ {W : World} (x : Lt W) {A : Option Addr} {ca : Nat} (D : Int), p.At W A ca → 0 ≤ D → D ≤ 1000 →
    Calls Tryd.prog 27 #[p.arg A ca, .int .i64 D] x.1 fun e w' => e = .returned (.bool (p.few 20 20 100 D.toNat)) ∧ ∃ y : Lt W, w' = y.1 := by
  refine Pr.ind (P := fun p => ∀ {W : World} (x : Lt W) {A : Option Addr} {ca : Nat} (D : Int), p.At W A ca → 0 ≤ D → D ≤ 1000 →
    Calls Tryd.prog 27 #[p.arg A ca, .int .i64 D] x.1 fun e w' => e = .returned (.bool (p.few 20 20 100 D.toNat)) ∧ ∃ y : Lt W, w' = y.1) ?_ p
  rintro ⟨o, c, v, w, l⟩ ih W x A ca D hat hD0 hD
  have IH := Lib.hid ih
  clear ih
  show Calls Tryd.prog 27 #[.agg #[.int .i64 o, .int .i64 c, .bool v.t, .int .i64 v.n, .string v.s, .bool w.t, .int .i64 w.n, .string w.s, .slice A l.length ca], .int .i64 D] x.1 _
  by_cases hbig : D ≤ 20 ∧ l.length ≤ 20
  · obtain ⟨hb1, hb2⟩ := hbig
    have hd1 : decide ((20 : Int) < D) = false := decide_eq_false (by omega)
    have hd2 : decide ((20 : Int) < l.length) = false := decide_eq_false (by omega)
    go_enter Tryd.func27, Tryd.ntmps27
    go_wp2_with fail
    refine wp_here fun W1 hW1 => ?_
    have hb0 : Below W.heap.size W W1 := hW1 ▸ x.more _
    have g8 : W1.cell? ⟨x.1.heap.size, 8, none⟩ = some (.slice A l.length ca) := by rw [hW1]; simp
    have g0 : W1.cell? ⟨x.1.heap.size, 0, none⟩ = some (.int .i64 o) := by rw [hW1]; simp
    have g1 : W1.cell? ⟨x.1.heap.size, 1, none⟩ = some (.int .i64 c) := by rw [hW1]; simp
    have g2 : W1.cell? ⟨x.1.heap.size, 2, none⟩ = some (.bool v.t) := by rw [hW1]; simp
    have g3 : W1.cell? ⟨x.1.heap.size, 3, none⟩ = some (.int .i64 v.n) := by rw [hW1]; simp
    have g4 : W1.cell? ⟨x.1.heap.size, 4, none⟩ = some (.string v.s) := by rw [hW1]; simp
    have g5 : W1.cell? ⟨x.1.heap.size, 5, none⟩ = some (.bool w.t) := by rw [hW1]; simp
    have g6 : W1.cell? ⟨x.1.heap.size, 6, none⟩ = some (.int .i64 w.n) := by rw [hW1]; simp
    have g7 : W1.cell? ⟨x.1.heap.size, 7, none⟩ = some (.string w.s) := by rw [hW1]; simp
    have hbox := fun z : Lt W1 => z.cell g8
    clear hW1
    go_loopw [5, 6] (fun i _ wr => ∃ (k : Nat) (y : Lt W1), wr = y.1 ∧ i = .int .i64 k ∧ k ≤ l.length ∧ ∀ (i : Nat) (q : Pr), i < k → l[i]? = some q → q.few 20 20 100 (D.toNat + 1) = true) (fun i _ _ => l.length - (intOf i).toNat)
    case atStart => exact ⟨0, Lt.base W1, rfl, rfl, by omega, fun i q hi => absurd hi (by omega)⟩
    case round =>
      obtain ⟨k, y, rfl, rfl, hk, hall⟩ := hrel
      have HA := Lib.hid hall
      clear hall
      by_cases hlt : k < l.length
      · obtain ⟨b, off, q, A', ca', hq, hmem, rfl, hcells, hqat⟩ := hat.kid hlt
        have HQ := Lib.hid hq
        clear hq
        obtain ⟨c0, c1, c2, c3, c4, c5, c6, c7, c8⟩ := (hcells.below hb0).lt y
        go_wp2_with fail
        have hcall := IH.out q hmem (Lt.base y.1) (D + 1) ((hqat.below hb0).below y.2) (by omega) (by omega)
        rw [show (D + 1).toNat = D.toNat + 1 from by omega] at hcall
        refine hcall.mono ?_; rintro e w' ⟨rfl, z, rfl⟩
        clear hcall
        cases hf : q.few 20 20 100 (D.toNat + 1)
        · have HF := Lib.hid (Pr.few_kid (o := o) (c := c) (v := v) (w := w) HQ.out hf)
          clear hf
          go_wp2_with fail
          go_ret
          exact ⟨ret_bool HF.out.symm, (z.via y.2).via hb0, rfl⟩
        · have HF := Lib.hid hf
          clear hf
          go_wp2_with fail
          go_roundw
          case rel => exact ⟨k + 1, z.via y.2, rfl, by go_num, by omega, fun i q' hi hq' => by
            by_cases he : i = k
            · subst he
              rw [HQ.out] at hq'
              injection hq' with hq'
              exact hq' ▸ HF.out
            · exact HA.out i q' (by omega) hq'⟩
          case measure => simp [intOf]; omega
      · obtain rfl : k = l.length := by omega
        have HF := Lib.hid (Pr.few_end (o := o) (c := c) (v := v) (w := w) (by omega : D.toNat ≤ 20) hb2 HA.out)
        have hs : (Pr.mk o c v w l).size ≤ 1000000000 := by
          have h1 := Pr.few_bound (fun i q h => HA.out i q (List.getElem?_eq_some_iff.1 h).1 h)
          have h2 : l.length * 100 ≤ 20 * 100 := Nat.mul_le_mul_right _ hb2
          have h3 := Pr.size_mk o c v w l
          omega
        have e0 := y.cell g0
        have e1 := y.cell g1
        have e2 := y.cell g2
        have e3 := y.cell g3
        have e4 := y.cell g4
        have e5 := y.cell g5
        have e6 := y.cell g6
        have e7 := y.cell g7
        clear g0 g1 g2 g3 g4 g5 g6 g7
        go_wp2_with fail
        refine (rsize_any (.mk o c v w l) (Lt.base y.1) ((hat.below hb0).below y.2) hs).mono ?_; rintro e w' ⟨rfl, z, rfl⟩
        go_wp2_with fail
        go_ret
        exact ⟨ret_bool (by rw [HF.out]; exact decide_eq_decide.2 (by omega)), (z.via y.2).via hb0, rfl⟩
  · have HF := Lib.hid (Pr.few_no (m := 20) (k := 20) (n := 100) (d := D.toNat) (o := o) (c := c) (v := v) (w := w) (l := l) (by omega))
    by_cases hb1 : D ≤ 20
    · have hd1 : decide ((20 : Int) < D) = false := decide_eq_false (by omega)
      have hd2 : decide ((20 : Int) < l.length) = true := decide_eq_true (by omega)
      have hd3 : (20 : Int) < l.length := by omega
      clear hbig
      go_enter Tryd.func27, Tryd.ntmps27
      go_wp2_with fail
      go_ret
      exact ⟨ret_bool HF.out.symm, x.end_ (below_alloc _)⟩
    · have hd1 : decide ((20 : Int) < D) = true := decide_eq_true (by omega)
      have hd3 : (20 : Int) < D := by omega
      clear hbig
      go_enter Tryd.func27, Tryd.ntmps27
      go_wp2_with fail
      go_ret
      exact ⟨ret_bool HF.out.symm, x.end_ (below_alloc _)⟩
theorem few_is {p : Pr} {b : Bool} (h : p.few 20 20 100 0 = b) {W : World} (x : Lt W) {A : Option Addr} {ca : Nat} (hat : p.At W A ca) :
    Calls Tryd.prog 27 #[p.arg A ca, .int .i64 0] x.1 fun e w' => e = .returned (.bool b) ∧ ∃ y : Lt W, w' = y.1 := h ▸ few_any p x 0 hat (by omega) (by omega)
end Go.Proofs.YtghpildnajdlpaaDoor
