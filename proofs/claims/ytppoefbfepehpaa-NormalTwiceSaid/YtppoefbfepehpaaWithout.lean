/-
  Whether a predicate has no PNot, by the statement's own hand, walked. Conditions: it lies in memory as it reads; at most a billion parts.
-/
import Derived.Test.YtppoefbfepehpaaPushLaw
namespace Go.Proofs.Ytppoefbfepehpaa
open Go.RowKit

set_option maxHeartbeats 1000000 in
theorem without_all : ∀ p : Pr, p.size ≤ 1000000000 → ∀ {W : World} (x : Lt W) {A : Option Addr} {ca : Nat}, p.At W A ca →
    Calls Try.prog 23 #[p.arg A ca] x.1 fun e w' => e = .returned (.bool p.bare) ∧ ∃ y : Lt W, w' = y.1 := by
  refine Pr.ind fun p ih hsz W x A ca hat => ?_
  obtain ⟨o, c, v, w, l⟩ := p
  have IH := Lib.hid (show ∀ q ∈ l, ∀ {W : World} (x : Lt W) {A : Option Addr} {ca : Nat}, q.At W A ca → Calls Try.prog 23 #[q.arg A ca] x.1 fun e w' => e = .returned (.bool q.bare) ∧ ∃ y : Lt W, w' = y.1 from fun q hq => ih q hq (by have := Pr.size_kid (p := .mk o c v w l) hq; omega))
  have hlen : l.length ≤ 1000000000 := by have h1 := Pr.len_le l; have h2 := Pr.size_mk o c v w l; omega
  clear ih hsz
  show Calls Try.prog 23 #[.agg #[.int .i64 o, .int .i64 c, .bool v.t, .int .i64 v.n, .string v.s, .bool w.t, .int .i64 w.n, .string w.s, .slice A l.length ca]] x.1 _
  go_enter Try.func23, Try.ntmps23
  go_wp2_with fail
  refine wp_here fun W1 hW1 => ?_
  have hb0 : Below W.heap.size W W1 := hW1 ▸ x.more _
  have g8 : W1.cell? ⟨x.1.heap.size, 8, none⟩ = some (.slice A l.length ca) := by rw [hW1]; simp
  have g0 : W1.cell? ⟨x.1.heap.size, 0, none⟩ = some (.int .i64 o) := by rw [hW1]; simp
  have hbox := fun z : Lt W1 => z.cell g8
  have hop := fun z : Lt W1 => z.cell g0
  clear hW1 g8 g0
  go_loopw [3, 4] (fun i _ wr => ∃ (k : Nat) (y : Lt W1), wr = y.1 ∧ i = .int .i64 k ∧ k ≤ l.length ∧ ∀ (i : Nat) (q : Pr), i < k → l[i]? = some q → q.bare = true) (fun i _ _ => l.length - (intOf i).toNat)
  case atStart => exact ⟨0, Lt.base W1, rfl, rfl, by omega, fun i q hi => absurd hi (by omega)⟩
  case round =>
    obtain ⟨k, y, rfl, rfl, hk, hall⟩ := hrel
    have HA := Lib.hid hall
    clear hall
    by_cases hlt : k < l.length
    · obtain ⟨b, off, q, A', ca', hq, hmem, rfl, hcells, hqat⟩ := hat.kid hlt
      have HQ := Lib.hid hq
      clear hq
      obtain ⟨c0, c1, c2, c3, c4, c5, c6, c7, c8⟩ := (hcells.below hb0).lt y
      go_wp2_with fail
      refine (IH.out q hmem (Lt.base y.1) ((hqat.below hb0).below y.2)).mono ?_; rintro e w' ⟨rfl, z, rfl⟩
      cases hf : q.bare
      · have HF := Lib.hid (show (Pr.mk o c v w l).bare = false by
          rw [Pr.bare_mk, Bool.and_eq_false_iff]
          left
          rw [← Bool.not_eq_true, List.all_eq_true]
          intro h
          have := h q hmem
          rw [hf] at this; cases this)
        clear hf
        go_wp2_with fail
        go_ret
        exact ⟨ret_bool HF.out.symm, (z.via y.2).via hb0, rfl⟩
      · have HF := Lib.hid hf
        clear hf
        go_wp2_with fail
        go_roundw
        case rel => exact ⟨k + 1, z.via y.2, rfl, by go_num, by omega, fun i q' hi hq' => by
          by_cases he : i = k
          · subst he
            rw [HQ.out] at hq'
            injection hq' with hq'
            exact hq' ▸ HF.out
          · exact HA.out i q' (by omega) hq'⟩
        case measure => simp [intOf]; omega
    · obtain rfl : k = l.length := by omega
      have hl : l.all Pr.bare = true := by
        rw [List.all_eq_true]
        intro q hq
        obtain ⟨i, hi⟩ := List.mem_iff_getElem?.1 hq
        exact HA.out i q (List.getElem?_eq_some_iff.1 hi).1 hi
      have HF := Lib.hid (show (Pr.mk o c v w l).bare = (o != 10) by
        rw [Pr.bare_mk, hl, Bool.true_and]
        by_cases h : o = 10
        · subst h; rfl
        · rw [decide_eq_true h, bne_iff_ne.2 h])
      clear hl
      go_wp2_with fail
      go_ret
      exact ⟨ret_bool HF.out.symm, y.via hb0, rfl⟩
end Go.Proofs.Ytppoefbfepehpaa
