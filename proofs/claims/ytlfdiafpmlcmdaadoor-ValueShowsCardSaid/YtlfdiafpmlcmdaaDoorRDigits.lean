/-
  The document's digits, walked: digit, part, Digits. Conditions: none.
-/
import Derived.Test.YtlfdiafpmlcmdaaDoorHex
import Derived.Laws.IdiomStrings
import Derived.Laws.Concat
import Derived.Lib.ItoaLen
import Derived.Test.YtlfdiafpmlcmdaaDoorSpan
namespace Go.Proofs.YtlfdiafpmlcmdaaDoor
open Go.RowKit
variable {W : World}

theorem rdigit_any {k : Nat} (hk : k < 16) (x : Lt W) : Calls Tryd.prog 32 #[.int .u8 (k : Int)] x.1 fun e w' => e = .returned (.int .u8 (V.tab.getD k 0 : Nat)) ∧ w' = x.1 := by
  have ht := (show ∀ k : Fin 16, V.tab.getD k 0 = if (k : Nat) < 10 then 48 + (k : Nat) else 87 + k by decide +kernel) ⟨k, hk⟩
  obtain ⟨t, htt⟩ : ∃ t, V.tab.getD k 0 = t := ⟨_, rfl⟩
  rw [htt] at ht ⊢
  clear htt
  by_cases h : k < 10
  · rw [if_pos h] at ht
    have d : decide ((k : Int) < 10) = true := decide_eq_true (by omega)
    have d2 : (k : Int) < 10 := by omega
    go_enter Tryd.func32, Tryd.ntmps32
    go_wp2_with fail
    go_ret
    exact ⟨ret_int (by omega), rfl⟩
  · rw [if_neg h] at ht
    have d : decide ((k : Int) < 10) = false := decide_eq_false (by omega)
    go_enter Tryd.func32, Tryd.ntmps32
    go_wp2_with fail
    go_ret
    exact ⟨ret_int (by omega), rfl⟩

def V.part (c : Int) : Int := if V.isHex c then V.hex c else 16
theorem V.part_mod (c : Int) : V.part c % 16 = V.hex c := by
  have := @V.hex_range c
  unfold V.part
  split
  · omega
  · rename_i h; unfold V.hex; rw [if_neg h]; rfl
theorem V.part_range (c : Int) : 0 ≤ V.part c ∧ V.part c ≤ 16 := by
  have := @V.hex_range c
  unfold V.part; split <;> omega
theorem rpart_any (c : UInt8) (x : Lt W) : Calls Tryd.prog 30 #[.int .u8 (c.toNat : Int)] x.1 fun e w' => e = .returned (.int .u8 (V.part (c.toNat : Int))) ∧ w' = x.1 := by
  have hc := c.toNat_lt
  obtain ⟨n, hn⟩ : ∃ n : Int, (c.toNat : Int) = n := ⟨_, rfl⟩
  rw [hn]
  have h0 : 0 ≤ n := by omega
  have h1 : n < 256 := by omega
  clear hn hc
  by_cases ha : 48 ≤ n
  · by_cases hb : n ≤ 57
    · have e : V.part n = n - 48 := by
        unfold V.part V.hex
        have hx : V.isHex n = true := by unfold V.isHex; rw [decide_eq_true ha, decide_eq_true hb]; rfl
        rw [if_pos hx, if_pos hx, if_pos hb]
      have HE := Lib.hid e
      clear e
      go_enter Tryd.func30, Tryd.ntmps30
      go_wp2_with fail
      go_ret
      exact ⟨ret_int HE.out.symm, rfl⟩
    · by_cases hd : 97 ≤ n
      · by_cases hf : n ≤ 102
        · have e : V.part n = n - 87 := by
            unfold V.part V.hex
            have hx : V.isHex n = true := by unfold V.isHex; rw [decide_eq_true hd, decide_eq_true hf]; simp
            rw [if_pos hx, if_pos hx, if_neg hb]
          have HE := Lib.hid e
          clear e
          go_enter Tryd.func30, Tryd.ntmps30
          go_wp2_with fail
          go_ret
          exact ⟨ret_int (by rw [HE.out]; omega), rfl⟩
        · have e : V.part n = 16 := by
            unfold V.part
            have hx : V.isHex n = false := by unfold V.isHex; rw [decide_eq_false hb, decide_eq_false hf, Bool.and_false, Bool.and_false]; rfl
            rw [if_neg (by rw [hx]; decide)]
          have HE := Lib.hid e
          clear e
          go_enter Tryd.func30, Tryd.ntmps30
          go_wp2_with fail
          go_ret
          exact ⟨ret_int HE.out.symm, rfl⟩
      · have e : V.part n = 16 := by
          unfold V.part
          have hx : V.isHex n = false := by unfold V.isHex; rw [decide_eq_false hb, decide_eq_false hd]; simp
          rw [if_neg (by rw [hx]; decide)]
        have HE := Lib.hid e
        clear e
        go_enter Tryd.func30, Tryd.ntmps30
        go_wp2_with fail
        go_ret
        exact ⟨ret_int HE.out.symm, rfl⟩
  · have e : V.part n = 16 := by
      unfold V.part
      have hx : V.isHex n = false := by unfold V.isHex; rw [decide_eq_false ha, decide_eq_false (show ¬ 97 ≤ n by omega)]; simp
      rw [if_neg (by rw [hx]; decide)]
    have HE := Lib.hid e
    have hd : ¬ 97 ≤ n := by omega
    clear e
    go_enter Tryd.func30, Tryd.ntmps30
    go_wp2_with fail
    go_ret
    exact ⟨ret_int HE.out.symm, rfl⟩

theorem new_lit {w : World} {t : TypeId} (v : Value) (j : Nat) (u : Value) (h : [v][j]? = some u) : (w.alloc (.cells #[v] t)).cell? ((⟨w.heap.size, 0, none⟩ : Addr).add j) = some u := by
  match j, h with
  | 0, h => rw [show [v][0]? = some v from rfl] at h; injection h with h; subst h; rw [show (⟨w.heap.size, 0, none⟩ : Addr).add 0 = ⟨w.heap.size, 0, none⟩ from rfl, cell_new rfl]; rfl
  | j + 1, h => rw [List.getElem?_cons_succ] at h; cases j <;> cases h
theorem dec_short {a : Int} (ha : Num.is a = true) : (Lib.decDigits a.natAbs).length ≤ 21 := by
  have := Num.is_iff.1 ha
  have h := Lib.itoa_length_le a this.1 this.2
  unfold Lib.itoa at h
  split at h
  · rw [List.length_cons] at h; omega
  · rwa [show a.toNat = a.natAbs by omega] at h
set_option maxHeartbeats 1000000 in
theorem rdigits_any {a : Int} (ha : Num.is a = true) (x : Lt W) : Calls Tryd.prog 31 #[.int .i64 a] x.1 fun e w' => e = .returned (.string ⟨(Lib.itoa a).toArray⟩) ∧ ∃ y : Lt W, w' = y.1 := by
  have S := Lib.hid (fun z : Lt W => size_any ha z)
  have HL := Lib.hid (dec_short ha)
  have HA := Lib.hid (Num.is_iff.1 ha)
  clear ha
  go_enter Tryd.func31, Tryd.ntmps31
  go_wp2_with fail
  refine (S.out x).mono ?_; rintro e w' ⟨rfl, y, rfl⟩
  obtain ⟨u, hu⟩ : ∃ u, a.natAbs = u := ⟨_, rfl⟩
  have HU := Lib.hid hu
  have HL2 := Lib.hid (show (Lib.decDigits u).length ≤ 21 by rw [← hu]; exact HL.out)
  have HB := Lib.hid (show u ≤ 9223372036854775808 by have := HA.out; omega)
  rw [hu]
  clear hu
  go_wp2_with fail
  go_loopw [3, 4, 7, 8, 9, 10, 11, 12, 13, 14, 15, 16, 17, 18] (fun i s _ _ _ _ _ _ _ _ _ _ _ _ wr => ∃ (k : Nat) (l : List UInt8) (z : Lt W), i = .int .u64 k ∧ s = .string ⟨l.toArray⟩ ∧ wr = z.1 ∧ k ≤ 9223372036854775808 ∧ Lib.decDigits u = Lib.decDigits k ++ l) (fun i _ _ _ _ _ _ _ _ _ _ _ _ _ _ => (intOf i).toNat)
  case atStart => exact ⟨u, [], y, rfl, rfl, rfl, HB.out, by simp⟩
  case round =>
    obtain ⟨k, l, z, rfl, rfl, rfl, hk, hl⟩ := hrel
    have HD := Lib.hid hl
    have hsz : l.length ≤ 21 := by have h1 := congrArg List.length hl; rw [List.length_append] at h1; have := HL2.out; omega
    clear hl
    obtain ⟨d, hd⟩ : ∃ d : UInt8, UInt8.ofNat (48 + k % 10) = d := ⟨_, rfl⟩
    have hdn : (d.toNat : Int) = 48 + (k : Int) % 10 := by rw [← hd, D.dig_nat (Nat.mod_lt k (by omega : 0 < 10))]; omega
    have hcv : (convert 45 9 (.slice (some ⟨z.1.heap.size, 0, none⟩) 1 1)).run Tryd.prog (z.1.alloc (.cells #[.int .u8 (48 + (k : Int) % 10)] 5)) = .ok (.string ⟨#[d]⟩) (z.1.alloc (.cells #[.int .u8 (48 + (k : Int) % 10)] 5)) :=
      run_convert_bytes_back _ 45 9 5 ⟨z.1.heap.size, 0, none⟩ 1 [d] Tryd.underlying45 Tryd.underlying5 Tryd.underlying9 (fun j hj => by
        match j, hj with
        | 0, _ => rw [← hdn]; exact new_lit _ 0 _ rfl)
    have hadd := fun w => run_string_add_sum (P := Tryd.prog) (w := w) ⟨#[d]⟩ ⟨l.toArray⟩ (by show 1 + l.length ≤ _; omega)
    rw [show (⟨#[d]⟩ : ByteArray) ++ ⟨l.toArray⟩ = ⟨(d :: l).toArray⟩ from bytes_data (by simp)] at hadd
    have HD' := Lib.hid hd
    clear hd hdn
    by_cases h10 : k < 10
    · have e0 : (k : Int) / 10 = 0 := by omega
      have HE := Lib.hid (show Lib.decDigits u = d :: l by rw [HD.out, D.dec_small h10, ← HD'.out, Nat.mod_eq_of_lt h10]; rfl)
      have B1 : Below W.heap.size W (z.1.alloc (.cells #[.int .u8 (48 + (k : Int) % 10)] 5)) := z.more _
      by_cases hneg : a < 0
      · have dn : decide (a < 0) = true := decide_eq_true hneg
        go_wp2_with fail
        go_ret
        refine ⟨?_, ⟨_, B1⟩, rfl⟩
        unfold Lib.itoa
        rw [if_pos hneg, HU.out, HE.out]
        exact congrArg (fun b => Ending.returned (.string b)) (bytes_data (by simp))
      · have dn : decide (a < 0) = false := decide_eq_false hneg
        go_wp2_with fail
        go_ret
        refine ⟨?_, ⟨_, B1⟩, rfl⟩
        unfold Lib.itoa
        rw [if_neg (show ¬ a < 0 by omega), show a.toNat = a.natAbs by omega, HU.out, HE.out]
        rfl
    · have e0 : ¬ (k : Int) / 10 = 0 := by omega
      have e1 : ((k : Int) / 10 == 0) = false := by rw [beq_eq_false_iff_ne]; exact e0
      go_wp2_with fail
      go_roundw
      case rel => exact ⟨k / 10, d :: l, ⟨_, z.more _⟩, by go_num, rfl, rfl, by omega, by rw [HD.out, D.dec_big h10, ← HD'.out, List.append_assoc]; rfl⟩
      case measure => simp [intOf]; omega
end Go.Proofs.YtlfdiafpmlcmdaaDoor
