/-
  Two values held against one another by the document, byte by byte, walked. Conditions: none.
-/
import Derived.Test.YtghpildnajdlpaaDoorRowAt
import Derived.Test.YtghpildnajdlpaaDoorCmp
namespace Go.Proofs.YtghpildnajdlpaaDoor
open Go.RowKit
variable {W : World}

theorem size_list (s : ByteArray) : s.toList.length = s.size := by
  rw [Lib.toList_data]; rfl
theorem byte_list {s : ByteArray} {k : Nat} (h : k < s.size) : s.toList[k]'(by rw [size_list]; exact h) = s[k] := by
  have e : s.toList[k]? = some s[k] := by
    rw [Lib.toList_data, List.getElem?_eq_getElem (by simpa using h)]; rfl
  rw [List.getElem?_eq_getElem (by rw [size_list]; exact h)] at e
  exact Option.some.inj e
theorem cmpV_tt {n n' : Int} {s s' : ByteArray} : cmpV ⟨true, n, s⟩ ⟨true, n', s'⟩ = B.cmp s.toList s'.toList := rfl
theorem take_more {k : Nat} {a b : ByteArray} (h : a.toList.take k = b.toList.take k) (ha : k < a.size) (hb : k < b.size) (e : a[k] = b[k]) : a.toList.take (k + 1) = b.toList.take (k + 1) := by
  rw [List.take_add_one, List.take_add_one, h, List.getElem?_eq_getElem (by rw [size_list]; exact ha), List.getElem?_eq_getElem (by rw [size_list]; exact hb), byte_list ha, byte_list hb, e]
theorem B.cmp_byte {k : Nat} {a b : ByteArray} (h : a.toList.take k = b.toList.take k) (ha : k < a.size) (hb : k < b.size) : (a[k].toNat < b[k].toNat → B.cmp a.toList b.toList = -1) ∧ (b[k].toNat < a[k].toNat → B.cmp a.toList b.toList = 1) ∧ (a[k].toNat = b[k].toNat → a.toList.take (k + 1) = b.toList.take (k + 1)) := by
  have hc := B.cmp_at h (by rw [size_list]; exact ha) (by rw [size_list]; exact hb)
  simp only [byte_list ha, byte_list hb, UInt8.lt_iff_toNat_lt] at hc
  refine ⟨fun g => by rw [hc, if_pos g], fun g => by rw [hc, if_neg (by omega), if_pos g], fun g => take_more h ha hb (UInt8.toNat_inj.1 g)⟩

set_option maxHeartbeats 2000000 in
theorem rcompare_any (u v : Val) (hu : u.s.size ≤ maxLen) (x : Lt W) : Calls Tryd.prog 86 #[.agg #[.bool u.t, .int .i64 u.n, .string u.s], .agg #[.bool v.t, .int .i64 v.n, .string v.s]] x.1 fun e w' => e = .returned (.int .i64 (cmpV u v)) ∧ ∃ y : Lt W, w' = y.1 := by
  obtain ⟨t, n, s⟩ := u
  obtain ⟨t', n', s'⟩ := v
  have hu : s.size ≤ maxLen := hu
  unfold maxLen at hu
  have hbb : ∀ b : Bool, (b != b) = false := fun b => by cases b <;> rfl
  cases t <;> cases t'
  · have hc : (n < n' ∧ Num.cmp n n' = -1) ∨ (¬ n < n' ∧ n' < n ∧ Num.cmp n n' = 1) ∨ (¬ n < n' ∧ ¬ n' < n ∧ Num.cmp n n' = 0) := by
      unfold Num.cmp
      split
      · exact .inl ⟨‹_›, rfl⟩
      · split
        · exact .inr (.inl ⟨‹_›, ‹_›, rfl⟩)
        · exact .inr (.inr ⟨‹_›, ‹_›, rfl⟩)
    rcases hc with ⟨h1, hc⟩ | ⟨h1, h2, hc⟩ | ⟨h1, h2, hc⟩
    all_goals
      have HC := Lib.hid hc
      clear hc
      go_enter Tryd.func86, Tryd.ntmps86
      go_wp2_with fail
      go_ret
      exact ⟨ret_int HC.out.symm, x.end_ (below_then (below_alloc _) (below_alloc _))⟩
  · go_enter Tryd.func86, Tryd.ntmps86
    go_wp2_with fail
    go_ret
    exact ⟨rfl, x.end_ (below_then (below_alloc _) (below_alloc _))⟩
  · go_enter Tryd.func86, Tryd.ntmps86
    go_wp2_with fail
    go_ret
    exact ⟨rfl, x.end_ (below_then (below_alloc _) (below_alloc _))⟩
  · go_enter Tryd.func86, Tryd.ntmps86
    go_wp2_with fail
    refine wp_here fun W1 hW1 => ?_
    have hb0 : Below W.heap.size W W1 := hW1 ▸ x.more2 _ _
    have f' : W1.cell? ⟨x.1.heap.size, 2, none⟩ = some (.string s) := by rw [hW1]; exact cell_old (by rw [cell_new rfl]; rfl)
    have g' : W1.cell? ⟨x.1.heap.size + 1, 2, none⟩ = some (.string s') := by rw [hW1, cell_new (by simp)]; rfl
    have f := fun z : Lt W1 => z.cell f'
    have g := fun z : Lt W1 => z.cell g'
    clear hW1 f' g'
    go_loopw [5] (fun i wr => ∃ (k : Nat) (y : Lt W1), wr = y.1 ∧ i = .int .i64 k ∧ k ≤ s.size ∧ k ≤ s'.size ∧ s.toList.take k = s'.toList.take k) (fun i _ => s.size - (intOf i).toNat)
    case atStart => exact ⟨0, Lt.base W1, rfl, rfl, by omega, by omega, rfl⟩
    case round =>
      obtain ⟨k, y, rfl, rfl, hk, hk', htake⟩ := hrel
      have HT := Lib.hid htake
      clear htake
      by_cases hlt : k < s.size
      · by_cases hlt' : k < s'.size
        · obtain ⟨g1, g2, g3⟩ := B.cmp_byte HT.out hlt hlt'
          have G1 := Lib.hid g1
          have G2 := Lib.hid g2
          have G3 := Lib.hid g3
          clear g1 g2 g3
          have i1 : (0 : Int) ≤ (k : Int) := by omega
          have i2 : (k : Int) < s.size := by omega
          have i3 : (k : Int) < s'.size := by omega
          rcases Nat.lt_trichotomy s[k].toNat s'[k].toNat with hc | hc | hc
          · have HC := Lib.hid (G1.out hc)
            go_wp2_with fail
            refine wp_region_pure _ (by kernel_rfl) (by kernel_rfl) ?_
            repeat (go_big_quiet_step (fail))
            refine wpQuiet_nil ?_; intro _ hw'; obtain ⟨z, rfl⟩ := hw'
            go_wp2_with fail
            go_ret
            exact ⟨ret_int (by rw [cmpV_tt, HC.out]), z.via hb0, rfl⟩
          · have HC := Lib.hid (G3.out hc)
            have hd1 : decide (s[k].toNat < s'[k].toNat) = false := decide_eq_false (by omega)
            have hd2 : decide (s'[k].toNat < s[k].toNat) = false := decide_eq_false (by omega)
            have hd3 : ¬ s[k].toNat < s'[k].toNat := by omega
            have hd4 : ¬ s'[k].toNat < s[k].toNat := by omega
            clear hc
            go_wp2_with fail
            refine wp_region_pure _ (by kernel_rfl) (by kernel_rfl) ?_
            repeat (go_big_quiet_step (fail))
            refine wpQuiet_nil ?_; intro _ hw'; obtain ⟨z, rfl⟩ := hw'
            go_wp2_with fail
            refine wp_region_pure _ (by kernel_rfl) (by kernel_rfl) ?_
            repeat (go_big_quiet_step (fail))
            refine wpQuiet_nil ?_; intro _ hw'; obtain ⟨z, rfl⟩ := hw'
            go_wp2_with fail
            go_roundw
            case rel => exact ⟨k + 1, z, rfl, by go_num, by omega, by omega, HC.out⟩
            case measure => simp [intOf]; omega
          · have HC := Lib.hid (G2.out hc)
            have hd1 : decide (s[k].toNat < s'[k].toNat) = false := decide_eq_false (by omega)
            have hd3 : ¬ s[k].toNat < s'[k].toNat := by omega
            go_wp2_with fail
            refine wp_region_pure _ (by kernel_rfl) (by kernel_rfl) ?_
            repeat (go_big_quiet_step (fail))
            refine wpQuiet_nil ?_; intro _ hw'; obtain ⟨z, rfl⟩ := hw'
            go_wp2_with fail
            refine wp_region_pure _ (by kernel_rfl) (by kernel_rfl) ?_
            repeat (go_big_quiet_step (fail))
            refine wpQuiet_nil ?_; intro _ hw'; obtain ⟨z, rfl⟩ := hw'
            go_wp2_with fail
            go_ret
            exact ⟨ret_int (by rw [cmpV_tt, HC.out]), z.via hb0, rfl⟩
        · have HE := Lib.hid (B.cmp_end (k := k) HT.out (.inr (by rw [size_list]; omega)) (by rw [size_list]; omega) (by rw [size_list]; omega))
          have hd1 : decide (k < s'.size) = false := decide_eq_false hlt'
          have hd2 : decide (s.size < s'.size) = false := decide_eq_false (by omega)
          have hd3 : decide (s'.size < s.size) = true := decide_eq_true (by omega)
          have hd4 : s'.size < s.size := by omega
          have hd5 : ¬ s.size < s'.size := by omega
          go_wp2_with fail
          go_ret
          exact ⟨ret_int (by rw [cmpV_tt, HE.out, size_list, size_list, if_neg hd5, if_pos hd4]), y.via hb0, rfl⟩
      · have HE := Lib.hid (B.cmp_end (k := k) HT.out (.inl (by rw [size_list]; omega)) (by rw [size_list]; omega) (by rw [size_list]; omega))
        have hd1 : decide (k < s.size) = false := decide_eq_false hlt
        rcases (show s.size < s'.size ∨ s.size = s'.size by omega) with hs | hs
        · have hd2 : decide (s.size < s'.size) = true := decide_eq_true hs
          go_wp2_with fail
          go_ret
          exact ⟨ret_int (by rw [cmpV_tt, HE.out, size_list, size_list, if_pos hs]), y.via hb0, rfl⟩
        · have hd2 : decide (s.size < s'.size) = false := decide_eq_false (by omega)
          have hd3 : decide (s'.size < s.size) = false := decide_eq_false (by omega)
          have hd4 : ¬ s'.size < s.size := by omega
          have hd5 : ¬ s.size < s'.size := by omega
          clear hs
          go_wp2_with fail
          go_ret
          exact ⟨ret_int (by rw [cmpV_tt, HE.out, size_list, size_list, if_neg hd5, if_neg hd4]), y.via hb0, rfl⟩
theorem rcompare_is {u v : Val} {k : Int} (h : cmpV u v = k) (hu : u.s.size ≤ maxLen) (x : Lt W) : Calls Tryd.prog 86 #[.agg #[.bool u.t, .int .i64 u.n, .string u.s], .agg #[.bool v.t, .int .i64 v.n, .string v.s]] x.1 fun e w' => e = .returned (.int .i64 k) ∧ ∃ y : Lt W, w' = y.1 := h ▸ rcompare_any u v hu x
end Go.Proofs.YtghpildnajdlpaaDoor
