/-
  Whether a predicate holds of a row, walked: the document's Holds. Conditions: predicate and row lie in memory as they read; at most a billion parts.
-/
import Derived.Test.YtghpildnajdlpaaDoorLeaf
namespace Go.Proofs.YtghpildnajdlpaaDoor
open Go.RowKit

theorem Pr.says_leaf {r : List Val} {o c : Int} {v w : Val} {l : List Bool} (h1 : 3 ≤ o) (h2 : o ≤ 9) : Pr.says r o c v w l = Pr.leaf o c v w r := by
  unfold Pr.says
  rw [if_neg (by omega), if_pos ⟨h1, h2⟩]
theorem Pr.says_node {r : List Val} {o c : Int} {v w : Val} {l : List Bool} (h : ¬ (3 ≤ o ∧ o ≤ 9)) : Pr.says r o c v w l = if o = 1 then true else if o = 10 then !(l.headD false) else if o = 11 then l.all id else if o = 12 then l.any id else false := by
  unfold Pr.says
  by_cases h1 : o = 1
  · rw [if_pos h1, if_pos h1]
  · rw [if_neg h1, if_neg h1, if_neg h]
theorem take_all {l : List Bool} {k : Nat} {b : Bool} (h : l[k]? = some b) : (l.take (k + 1)).all id = ((l.take k).all id && b) := by
  rw [List.take_add_one, h]; simp
theorem take_any {l : List Bool} {k : Nat} {b : Bool} (h : l[k]? = some b) : (l.take (k + 1)).any id = ((l.take k).any id || b) := by
  rw [List.take_add_one, h]; simp
theorem take_head {l : List Bool} {k : Nat} : (l.take (k + 2)).headD false = (l.take (k + 1)).headD false := by cases l <;> rfl
theorem take_head1 {l : List Bool} {b : Bool} (h : l[0]? = some b) : (l.take 1).headD false = b := by cases l <;> simp_all
theorem map_at {r : List Val} {l : List Pr} {k : Nat} {q : Pr} (h : l[k]? = some q) : (l.map (Pr.holds r))[k]? = some (q.holds r) := by rw [List.getElem?_map, h]; rfl

set_option maxHeartbeats 4000000 in
theorem rholds_any (r : List Val) (B : Option Addr) (cb : Nat) (hfit : ∀ u ∈ r, u.s.size ≤ maxLen) (p : Pr) : ∀ {W : World} (x : Lt W) {A : Option Addr} {ca : Nat}, p.At W A ca → RowAt W B r → p.size ≤ 1000000000 →
    Calls Tryd.prog 66 #[p.arg A ca, .slice B r.length cb] x.1 fun e w' => e = .returned (.bool (p.holds r)) ∧ ∃ y : Lt W, w' = y.1 := by
  refine Pr.ind (P := fun p => ∀ {W : World} (x : Lt W) {A : Option Addr} {ca : Nat}, p.At W A ca → RowAt W B r → p.size ≤ 1000000000 →
    Calls Tryd.prog 66 #[p.arg A ca, .slice B r.length cb] x.1 fun e w' => e = .returned (.bool (p.holds r)) ∧ ∃ y : Lt W, w' = y.1) ?_ p
  rintro ⟨o, c, v, w, l⟩ ih W x A ca hat hr hsz
  have IH := Lib.hid ih
  have HFIT := Lib.hid hfit
  clear hfit
  have HH := Lib.hid (Pr.holds_mk r o c v w l)
  have HR := Lib.hid hr
  have hlen : l.length ≤ 1000000000 := by have h1 := Pr.len_le l; have h2 := Pr.size_mk o c v w l; omega
  clear ih hr
  show Calls Tryd.prog 66 #[.agg #[.int .i64 o, .int .i64 c, .bool v.t, .int .i64 v.n, .string v.s, .bool w.t, .int .i64 w.n, .string w.s, .slice A l.length ca], .slice B r.length cb] x.1 _
  by_cases hleaf : 3 ≤ o ∧ o ≤ 9
  · obtain ⟨h1, h2⟩ := hleaf
    have d1 := decide_eq_true h1
    have d2 := decide_eq_true h2
    have HL := Lib.hid (Pr.says_leaf (r := r) (c := c) (v := v) (w := w) (l := l.map (Pr.holds r)) h1 h2)
    go_enter Tryd.func66, Tryd.ntmps66
    go_wp2_with fail
    refine calls_here fun W1 hW1 => ?_
    have hb0 : Below W.heap.size W W1 := hW1 ▸ x.more _
    clear hW1
    refine (rleaf_any (HR.out.below hb0) HFIT.out (Lt.base W1)).mono ?_; rintro e w' ⟨rfl, y, rfl⟩
    go_wp2_with fail
    go_ret
    exact ⟨ret_bool (by rw [HH.out, HL.out]), y.via hb0, rfl⟩
  · have HN := Lib.hid (Pr.says_node (r := r) (c := c) (v := v) (w := w) (l := l.map (Pr.holds r)) hleaf)
    rcases (show o < 3 ∨ 9 < o by omega) with hlo | hlo
    · have d1 : decide (3 ≤ o) = false := decide_eq_false (by omega)
      clear hleaf
      go_enter Tryd.func66, Tryd.ntmps66
      go_wp2_with fail
      refine wp_here fun W1 hW1 => ?_
      have hb0 : Below W.heap.size W W1 := hW1 ▸ x.more _
      have g8 : W1.cell? ⟨x.1.heap.size, 8, none⟩ = some (.slice A l.length ca) := by rw [hW1]; simp
      have g0 : W1.cell? ⟨x.1.heap.size, 0, none⟩ = some (.int .i64 o) := by rw [hW1]; simp
      have hbox := fun z : Lt W1 => z.cell g8
      have hbox0 := fun z : Lt W1 => z.cell g0
      clear hW1 g8 g0
      go_loopw [5, 6, 7, 8] (fun s5 s6 s7 i wr => ∃ (k : Nat) (y : Lt W1) (a b f : Bool), wr = y.1 ∧ i = .int .i64 k ∧ s5 = .bool a ∧ s6 = .bool b ∧ s7 = .bool f ∧ k ≤ l.length ∧ a = ((l.map (Pr.holds r)).take k).all id ∧ b = ((l.map (Pr.holds r)).take k).any id ∧ f = ((l.map (Pr.holds r)).take k).headD false) (fun _ _ _ i _ => l.length - (intOf i).toNat)
      case atStart => exact ⟨0, Lt.base W1, true, false, false, rfl, rfl, rfl, rfl, rfl, by omega, rfl, rfl, rfl⟩
      case round =>
        obtain ⟨k, y, a, b, f, rfl, rfl, rfl, rfl, rfl, hk, ha, hb, hf⟩ := hrel
        have HA := Lib.hid ha
        have HB := Lib.hid hb
        have HFI := Lib.hid hf
        clear ha hb hf
        by_cases hlt : k < l.length
        · obtain ⟨bl, off, q, A', ca', hq, hmem, rfl, hcells, hqat⟩ := hat.kid hlt
          have hqs : q.size ≤ 1000000000 := by have := Pr.size_kid (p := .mk o c v w l) hmem; omega
          have HM := Lib.hid (map_at (r := r) hq)
          clear hq
          obtain ⟨c0, c1, c2, c3, c4, c5, c6, c7, c8⟩ := (hcells.below hb0).lt y
          have hcall := IH.out q hmem (Lt.base y.1) ((hqat.below hb0).below y.2) ((HR.out.below hb0).below y.2) hqs
          obtain ⟨is, his⟩ : ∃ is, is = q.holds r := ⟨_, rfl⟩
          rw [← his] at hcall
          have HIS := Lib.hid his
          have HC := Lib.hid hcall
          clear his hcall
          by_cases hk0 : k = 0
          · subst hk0
            obtain rfl : a = true := HA.out
            obtain rfl : b = false := HB.out
            simp only [Nat.zero_mul, Nat.add_zero] at c0 c1 c2 c3 c4 c5 c6 c7 c8
            cases is
            all_goals
              go_wp2_with fail
              refine HC.out.mono ?_; rintro e w' ⟨rfl, z, rfl⟩
              go_wp2_with fail
              go_roundw
              case rel => exact ⟨1, z.via y.2, _, _, _, rfl, rfl, rfl, rfl, rfl, by omega, by rw [take_all (k := 0) HM.out, ← HIS.out]; rfl, by rw [take_any (k := 0) HM.out, ← HIS.out]; rfl, by rw [take_head1 HM.out, ← HIS.out]⟩
              case measure => simp [intOf]; omega
          · have hk1 : ((k : Int) == 0) = false := by rw [beq_eq_false_iff_ne]; omega
            obtain ⟨k', hk'⟩ : ∃ k', k = k' + 1 := ⟨k - 1, by omega⟩
            have HK := Lib.hid hk'
            clear hk'
            cases a <;> cases b <;> cases is
            all_goals
              go_wp2_with fail
              refine HC.out.mono ?_; rintro e w' ⟨rfl, z, rfl⟩
              go_wp2_with fail
              go_roundw
              case rel => exact ⟨k + 1, z.via y.2, _, _, _, rfl, by go_num, rfl, rfl, rfl, by omega, by rw [take_all HM.out, ← HIS.out, ← HA.out]; rfl, by rw [take_any HM.out, ← HIS.out, ← HB.out]; rfl, by rw [HFI.out, HK.out, take_head]⟩
              case measure => simp [intOf]; omega
        · obtain rfl : k = l.length := by omega
          have hall : (l.map (Pr.holds r)).take l.length = l.map (Pr.holds r) := List.take_of_length_le (by simp)
          rw [hall] at HA HB HFI
          clear hall
          by_cases h1 : o = 1
          · subst h1
            go_wp2_with fail
            go_ret
            exact ⟨ret_bool (by rw [HH.out, HN.out]; rfl), y.via hb0, rfl⟩
          · have n1 : (o == 1) = false := by simpa using h1
            have n2 : (o == 10) = false := by rw [beq_eq_false_iff_ne]; omega
            have n3 : (o == 11) = false := by rw [beq_eq_false_iff_ne]; omega
            have n4 : (o == 12) = false := by rw [beq_eq_false_iff_ne]; omega
            have HV := Lib.hid (HN.out.trans (by rw [if_neg h1, if_neg (by omega), if_neg (by omega), if_neg (by omega)] : _ = false))
            go_wp2_with fail
            go_ret
            exact ⟨ret_bool (by rw [HH.out, HV.out]), y.via hb0, rfl⟩
    · have d1 : decide (3 ≤ o) = true := decide_eq_true (by omega)
      have d2 : decide (o ≤ 9) = false := decide_eq_false (by omega)
      clear hleaf
      go_enter Tryd.func66, Tryd.ntmps66
      go_wp2_with fail
      refine wp_here fun W1 hW1 => ?_
      have hb0 : Below W.heap.size W W1 := hW1 ▸ x.more _
      have g8 : W1.cell? ⟨x.1.heap.size, 8, none⟩ = some (.slice A l.length ca) := by rw [hW1]; simp
      have g0 : W1.cell? ⟨x.1.heap.size, 0, none⟩ = some (.int .i64 o) := by rw [hW1]; simp
      have hbox := fun z : Lt W1 => z.cell g8
      have hbox0 := fun z : Lt W1 => z.cell g0
      clear hW1 g8 g0
      go_loopw [5, 6, 7, 8] (fun s5 s6 s7 i wr => ∃ (k : Nat) (y : Lt W1) (a b f : Bool), wr = y.1 ∧ i = .int .i64 k ∧ s5 = .bool a ∧ s6 = .bool b ∧ s7 = .bool f ∧ k ≤ l.length ∧ a = ((l.map (Pr.holds r)).take k).all id ∧ b = ((l.map (Pr.holds r)).take k).any id ∧ f = ((l.map (Pr.holds r)).take k).headD false) (fun _ _ _ i _ => l.length - (intOf i).toNat)
      case atStart => exact ⟨0, Lt.base W1, true, false, false, rfl, rfl, rfl, rfl, rfl, by omega, rfl, rfl, rfl⟩
      case round =>
        obtain ⟨k, y, a, b, f, rfl, rfl, rfl, rfl, rfl, hk, ha, hb, hf⟩ := hrel
        have HA := Lib.hid ha
        have HB := Lib.hid hb
        have HFI := Lib.hid hf
        clear ha hb hf
        by_cases hlt : k < l.length
        · obtain ⟨bl, off, q, A', ca', hq, hmem, rfl, hcells, hqat⟩ := hat.kid hlt
          have hqs : q.size ≤ 1000000000 := by have := Pr.size_kid (p := .mk o c v w l) hmem; omega
          have HM := Lib.hid (map_at (r := r) hq)
          clear hq
          obtain ⟨c0, c1, c2, c3, c4, c5, c6, c7, c8⟩ := (hcells.below hb0).lt y
          have hcall := IH.out q hmem (Lt.base y.1) ((hqat.below hb0).below y.2) ((HR.out.below hb0).below y.2) hqs
          obtain ⟨is, his⟩ : ∃ is, is = q.holds r := ⟨_, rfl⟩
          rw [← his] at hcall
          have HIS := Lib.hid his
          have HC := Lib.hid hcall
          clear his hcall
          by_cases hk0 : k = 0
          · subst hk0
            obtain rfl : a = true := HA.out
            obtain rfl : b = false := HB.out
            simp only [Nat.zero_mul, Nat.add_zero] at c0 c1 c2 c3 c4 c5 c6 c7 c8
            cases is
            all_goals
              go_wp2_with fail
              refine HC.out.mono ?_; rintro e w' ⟨rfl, z, rfl⟩
              go_wp2_with fail
              go_roundw
              case rel => exact ⟨1, z.via y.2, _, _, _, rfl, rfl, rfl, rfl, rfl, by omega, by rw [take_all (k := 0) HM.out, ← HIS.out]; rfl, by rw [take_any (k := 0) HM.out, ← HIS.out]; rfl, by rw [take_head1 HM.out, ← HIS.out]⟩
              case measure => simp [intOf]; omega
          · have hk1 : ((k : Int) == 0) = false := by rw [beq_eq_false_iff_ne]; omega
            obtain ⟨k', hk'⟩ : ∃ k', k = k' + 1 := ⟨k - 1, by omega⟩
            have HK := Lib.hid hk'
            clear hk'
            cases a <;> cases b <;> cases is
            all_goals
              go_wp2_with fail
              refine HC.out.mono ?_; rintro e w' ⟨rfl, z, rfl⟩
              go_wp2_with fail
              go_roundw
              case rel => exact ⟨k + 1, z.via y.2, _, _, _, rfl, by go_num, rfl, rfl, rfl, by omega, by rw [take_all HM.out, ← HIS.out, ← HA.out]; rfl, by rw [take_any HM.out, ← HIS.out, ← HB.out]; rfl, by rw [HFI.out, HK.out, take_head]⟩
              case measure => simp [intOf]; omega
        · obtain rfl : k = l.length := by omega
          have hall : (l.map (Pr.holds r)).take l.length = l.map (Pr.holds r) := List.take_of_length_le (by simp)
          rw [hall] at HA HB HFI
          clear hall
          by_cases h10 : o = 10
          · subst h10
            go_wp2_with fail
            go_ret
            exact ⟨ret_bool (by rw [HH.out, HN.out, HFI.out]; rfl), y.via hb0, rfl⟩
          by_cases h11 : o = 11
          · subst h11
            go_wp2_with fail
            go_ret
            exact ⟨ret_bool (by rw [HH.out, HN.out, HA.out]; rfl), y.via hb0, rfl⟩
          by_cases h12 : o = 12
          · subst h12
            go_wp2_with fail
            go_ret
            exact ⟨ret_bool (by rw [HH.out, HN.out, HB.out]; rfl), y.via hb0, rfl⟩
          · have n1 : (o == 1) = false := by rw [beq_eq_false_iff_ne]; omega
            have n2 : (o == 10) = false := by simpa using h10
            have n3 : (o == 11) = false := by simpa using h11
            have n4 : (o == 12) = false := by simpa using h12
            have HV := Lib.hid (HN.out.trans (by rw [if_neg (by omega), if_neg h10, if_neg h11, if_neg h12] : _ = false))
            go_wp2_with fail
            go_ret
            exact ⟨ret_bool (by rw [HH.out, HV.out]), y.via hb0, rfl⟩
end Go.Proofs.YtghpildnajdlpaaDoor
