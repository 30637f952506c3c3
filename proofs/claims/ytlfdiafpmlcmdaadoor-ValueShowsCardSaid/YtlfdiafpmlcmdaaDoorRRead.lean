/-
  The document's Read, walked for any text. Conditions: the text has at most a thousand bytes.
-/
import Derived.Test.YtlfdiafpmlcmdaaDoorRShow
import Derived.Test.YtlfdiafpmlcmdaaDoorBack
namespace Go.Proofs.YtlfdiafpmlcmdaaDoor
open Go.RowKit
variable {W : World}

/-- What the document holds against the text. -/
def candOf (l : List UInt8) : Val := if l.head? = some 120 then ⟨true, 0, ⟨(V.pairs l.tail).toArray⟩⟩ else ⟨false, D.reads l, ⟨#[]⟩⟩
theorem cand_says {l : List UInt8} {u : Val} (h : Says l u) : candOf l = u := by
  obtain ⟨h1, h2, rfl⟩ := h
  unfold candOf
  cases ht : u.t
  · rw [shows_number ht h1]
    obtain ⟨c, r, hc, hx⟩ := D.itoa_head u.n
    rw [if_neg (by rw [hc]; intro e; injection e with e; exact hx e), D.reads_itoa (Num.is_iff.1 h2).1 (Num.is_iff.1 h2).2]
    have := right_number ht h1
    obtain ⟨t, n, s⟩ := u
    simp_all
  · rw [shows_text ht h1, if_pos (show (120 :: V.hexes u.s.data.toList).head? = some 120 from rfl), List.tail_cons, V.pairs_hexes]
    obtain ⟨q1, q2⟩ := right_text ht h1
    obtain ⟨t, n, s⟩ := u
    simp_all
theorem readOf_yes {l : List UInt8} (hn : Num.is (candOf l).n = true) (hl : l ≠ []) (h : (candOf l).shows = l) : readOf l = some (candOf l) := by
  refine readOf_says ⟨?_, hn, h⟩
  cases hr : (candOf l).right
  · rw [shows_wrong hr] at h; exact absurd h.symm hl
  · rfl
theorem readOf_no {l : List UInt8} (h : l = [] ∨ (candOf l).shows ≠ l) : readOf l = none := by
  cases hq : readOf l with
  | none => rfl
  | some u =>
    exfalso
    have hs := says_of hq
    rw [cand_says hs] at h
    obtain ⟨h1, h2, h3⟩ := hs
    rcases h with h | h
    · exact shows_ne h1 (h3.trans h)
    · exact h h3
/-- The document's end: what the text says, by what is held against it. -/
theorem read_end {s : ByteArray} {cv : Val} (hc : candOf s.data.toList = cv) (hn : Num.is cv.n = true) {S : ByteArray} (hS : ⟨cv.shows.toArray⟩ = S) {nv : Option Val} (hnv : readOf s.data.toList = nv) :
    (s.toList.isEmpty = true ∧ nv = none) ∨ (s.toList.isEmpty = false ∧ (S.toList == s.toList) = true ∧ nv = some cv) ∨ (s.toList.isEmpty = false ∧ (S.toList == s.toList) = false ∧ nv = none) := by
  subst hS; subst hc; subst hnv
  rw [Lib.toList_data, Lib.toList_data]
  by_cases h0 : s.data.toList = []
  · left; exact ⟨by rw [h0]; rfl, readOf_no (.inl h0)⟩
  · have hie : s.data.toList.isEmpty = false := by rw [← Bool.not_eq_true, List.isEmpty_iff]; exact h0
    by_cases h1 : (candOf s.data.toList).shows = s.data.toList
    · exact .inr (.inl ⟨hie, by rw [beq_iff_eq]; simpa using h1, readOf_yes hn h0 h1⟩)
    · exact .inr (.inr ⟨hie, by rw [beq_eq_false_iff_ne]; simpa using h1, readOf_no (.inr h1)⟩)
theorem cand_is (n : Int) (hn : Num.is n = true) (l : List UInt8) : Num.is (D.cand n l) = true := by
  induction l generalizing n with
  | nil => exact hn
  | cons c r ih =>
    rw [D.cand]
    refine ih _ ?_
    split
    · exact Num.wrap_is _
    · exact hn
theorem pairs_short (k : Nat) (l : List UInt8) (h1 : 2 * k ≤ l.length) (h2 : l.length ≤ 2 * k + 1) : V.pairs l = V.pairs (l.take (2 * k)) := by
  by_cases h : l.length = 2 * k
  · rw [← h, List.take_length]
  · have e := List.take_append_drop (2 * k) l
    have hd : (l.drop (2 * k)).length = 1 := by rw [List.length_drop]; omega
    match hq : l.drop (2 * k), hd with
    | [c], _ =>
      rw [hq] at e
      have := V.pairs_append k (l.take (2 * k)) [c] (by rw [List.length_take]; omega)
      rw [e] at this
      rw [this]
      simp [V.pairs]

set_option maxHeartbeats 2000000 in
theorem rread_num {s : ByteArray} (hs : s.size ≤ 1000) (hx : s.data.toList.head? ≠ some 120) (x : Lt W) : Calls Tryd.prog 16 #[.string s] x.1 fun e w' => e = .returned (readV (readOf s.data.toList)) ∧ ∃ y : Lt W, w' = y.1 := by
  obtain ⟨nv, hnv⟩ : ∃ nv, readOf s.data.toList = nv := ⟨_, rfl⟩
  rw [hnv]
  have hcand : candOf s.data.toList = ⟨false, D.reads s.data.toList, ⟨#[]⟩⟩ := by unfold candOf; rw [if_neg hx]
  have hri : Num.is (D.reads s.data.toList) = true := by
    unfold D.reads; split
    · exact cand_is 0 (by decide) _
    · exact Num.wrap_is _
  obtain ⟨S, hS⟩ : ∃ S : ByteArray, ⟨(Val.shows ⟨false, D.reads s.data.toList, ⟨#[]⟩⟩).toArray⟩ = S := ⟨_, rfl⟩
  have hend := read_end hcand hri hS hnv
  have CS := Lib.hid (show ∀ (U : World) (z : Lt U), Calls Tryd.prog 18 #[.agg #[.bool false, .int .i64 (D.reads s.data.toList), .string ⟨#[]⟩]] z.1 fun e w' => e = .returned (.string S) ∧ ∃ y : Lt U, w' = y.1 from fun U z => hS ▸ rshow_any (v := ⟨false, D.reads s.data.toList, ⟨#[]⟩⟩) hri (by show 0 ≤ 1000; omega) z)
  obtain ⟨l, hl⟩ : ∃ l, s.data.toList = l := ⟨_, rfl⟩
  have hsz : l.length = s.size := by rw [← hl, size_data]
  have hget : ∀ (k : Nat) (h : k < s.size), l[k]? = some (s[k]'h) := fun k h => by rw [← hl, Array.getElem?_toList]; exact Array.getElem?_eq_getElem h
  have CS := CS.out
  rw [hl] at hx hri CS hend
  clear hcand hS hl hnv
  obtain ⟨rd, hrd⟩ : ∃ rd, D.reads l = rd := ⟨_, rfl⟩
  obtain ⟨z, hz⟩ : ∃ z, s.size = z := ⟨_, rfl⟩
  rw [hz] at hs hsz
  have hm : (0 < z ∧ ((∃ h : 0 < s.size, (((s[0]'h).toNat : Int) == 120) = false ∧ (((s[0]'h).toNat : Int) == 45) = true) ∧ rd = D.cand 0 l ∨ (∃ h : 0 < s.size, (((s[0]'h).toNat : Int) == 120) = false ∧ (((s[0]'h).toNat : Int) == 45) = false) ∧ rd = wrap64 (-D.cand 0 l))) ∨ z = 0 ∧ rd = wrap64 (-D.cand 0 l) := by
    rw [← hrd]
    by_cases h0 : 0 < s.size
    · have h1 := hget 0 h0
      rw [List.head?_eq_getElem?, h1] at hx
      have n120 : (((s[0]'h0).toNat : Int) == 120) = false := by
        rw [beq_eq_false_iff_ne]; intro e
        exact hx (congrArg some (UInt8.toNat_inj.1 (show (s[0]'h0).toNat = 120 by omega)))
      refine .inl ⟨by omega, ?_⟩
      by_cases h45 : (s[0]'h0).toNat = 45
      · left
        refine ⟨⟨h0, n120, by rw [beq_iff_eq]; omega⟩, ?_⟩
        unfold D.reads
        rw [if_pos (by rw [List.head?_eq_getElem?, h1]; exact congrArg some (UInt8.toNat_inj.1 h45))]
      · right
        refine ⟨⟨h0, n120, by rw [beq_eq_false_iff_ne]; omega⟩, ?_⟩
        unfold D.reads
        rw [if_neg (by rw [List.head?_eq_getElem?, h1]; intro e; injection e with e; exact h45 (by rw [e]; rfl))]
    · refine .inr ⟨by omega, ?_⟩
      unfold D.reads
      rw [if_neg (by rw [show l = [] from List.length_eq_zero_iff.1 (by omega)]; simp)]
  rw [hrd] at CS hend hri
  clear hx hrd
  obtain ⟨cv, hcv⟩ : ∃ cv : Val, ⟨false, rd, ⟨#[]⟩⟩ = cv := ⟨_, rfl⟩
  rw [hcv] at hend
  have HCV := Lib.hid hcv.symm
  have HEND := Lib.hid hend
  have CS := Lib.hid CS
  have HGET := Lib.hid hget
  have HSZ := Lib.hid hsz
  clear hcv hend hget hsz
  go_enter Tryd.func16, Tryd.ntmps16
  go_upto_region 2 with fail
  refine wp_here fun W1 hW1 => ?_
  obtain ⟨g, hgg⟩ : ∃ g, x.1.heap.size = g := ⟨_, rfl⟩
  have hb1 : Below W.heap.size W W1 := by rw [hW1]; exact x.more2 _ _
  have kr : Blk W1 g [.bool false, .int .i64 0, .string ⟨#[]⟩] := by rw [hW1]; refine Blk.alloc ?_ _; exact Blk.new' (l := #[.bool false, .int .i64 0, .string ⟨#[]⟩]) hgg.symm
  have kv : Blk W1 (g + 1) [.bool false, .int .i64 0, .string ⟨#[]⟩] := by rw [hW1]; exact Blk.new' (l := #[.bool false, .int .i64 0, .string ⟨#[]⟩]) (by simp [hgg])
  have hgR := x.2.size
  rw [hgg] at hgR ⊢
  clear hW1 hgg
  obtain ⟨mn, hmn⟩ : ∃ mn : Bool, (mn = true ∧ rd = D.cand 0 l ∨ mn = false ∧ rd = wrap64 (-D.cand 0 l)) ∧ (0 < z ∧ (∃ h : 0 < s.size, (((s[0]'h).toNat : Int) == 120) = false ∧ (((s[0]'h).toNat : Int) == 45) = mn) ∨ z = 0 ∧ mn = false) := by
    rcases hm with ⟨h0, ⟨h1, h2⟩ | ⟨h1, h2⟩⟩ | ⟨h0, h2⟩
    · exact ⟨true, .inl ⟨rfl, h2⟩, .inl ⟨h0, h1⟩⟩
    · exact ⟨false, .inr ⟨rfl, h2⟩, .inl ⟨h0, h1⟩⟩
    · exact ⟨false, .inr ⟨rfl, h2⟩, .inr ⟨h0, rfl⟩⟩
  obtain ⟨hrd, hm0⟩ := hmn
  have HRD := Lib.hid hrd
  clear hrd hm
  have e0 : ∀ h : z = 0, decide ((0 : Int) < (z : Int)) = false := fun h => decide_eq_false (by omega)
  have e1 : ∀ h : 0 < z, decide ((0 : Int) < (z : Int)) = true := fun h => decide_eq_true (by omega)
  rcases hm0 with ⟨h0, hp, q1, q2⟩ | ⟨h0, hmf⟩
  · have e2 := e1 h0
    have e3 : (0 : Int) < (z : Int) := by omega
    clear e0 e1
    go_wp2_with fail
    go_loopw [11, 9] (fun i n wr => ∃ (k : Nat) (m : Int), i = .int .i64 k ∧ n = .int .i64 m ∧ k ≤ z ∧ W1 = wr ∧ Num.is m = true ∧ D.cand m (l.drop k) = D.cand 0 l) (fun i _ _ => z - (intOf i).toNat)
    case atStart => exact ⟨0, 0, rfl, rfl, by omega, rfl, by decide, rfl⟩
    case round =>
      obtain ⟨k, m, rfl, rfl, hk, rfl, hmi, hcd⟩ := hrel
      have HCD := Lib.hid hcd
      have HMI := Lib.hid hmi
      clear hcd hmi
      have i0 : (0 : Int) ≤ (k : Int) := by omega
      by_cases hlt : k < z
      · have i1 : (k : Int) < (z : Int) := by omega
        obtain ⟨c, hc⟩ : ∃ c, s[k]'(show k < s.size by omega) = c := ⟨_, rfl⟩
        have HLC := Lib.hid (show l.drop k = c :: l.drop (k + 1) by
          have h1 := HGET.out k (by omega)
          rw [hc] at h1
          exact (List.drop_eq_getElem_cons (by have := (List.getElem?_eq_some_iff.1 h1).1; exact this)).trans (by rw [(List.getElem?_eq_some_iff.1 h1).2]))
        have hcl := c.toNat_lt
        by_cases hd1 : 48 ≤ c.toNat
        · have d1 : decide ((48 : Int) ≤ (c.toNat : Int)) = true := decide_eq_true (by omega)
          by_cases hd2 : c.toNat ≤ 57
          · have d2 : decide ((c.toNat : Int) ≤ 57) = true := decide_eq_true (by omega)
            have d3 : (48 : Int) ≤ (c.toNat : Int) := by omega
            have d4 : (c.toNat : Int) ≤ 57 := by omega
            go_wp2_with fail
            go_roundw
            case rel => exact ⟨k + 1, _, by go_num, rfl, by omega, trivial, Num.wrap_is _, by
              rw [← HCD.out, HLC.out, D.cand, if_pos (show D.isd c from ⟨hd1, hd2⟩), show ((c.toNat - 48 : Nat) : Int) = (c.toNat : Int) - 48 by omega]⟩
            case measure => simp [intOf]; omega
          · have d2 : decide ((c.toNat : Int) ≤ 57) = false := decide_eq_false (by omega)
            go_wp2_with fail
            go_roundw
            case rel => exact ⟨k + 1, _, by go_num, rfl, by omega, trivial, HMI.out, by
              rw [← HCD.out, HLC.out, D.cand, if_neg (show ¬ D.isd c from fun h => by have h1 := h.1; have h2 := h.2; omega)]⟩
            case measure => simp [intOf]; omega
        · have d1 : decide ((48 : Int) ≤ (c.toNat : Int)) = false := decide_eq_false (by omega)
          go_wp2_with fail
          go_roundw
          case rel => exact ⟨k + 1, _, by go_num, rfl, by omega, trivial, HMI.out, by
            rw [← HCD.out, HLC.out, D.cand, if_neg (show ¬ D.isd c from fun h => by have h1 := h.1; have h2 := h.2; omega)]⟩
          case measure => simp [intOf]; omega
      · obtain rfl : k = z := by omega
        obtain rfl : m = D.cand 0 l := by rw [← HCD.out, List.drop_eq_nil_of_le (by have := HSZ.out; omega)]; rfl
        have hb0 := kv.cell 1 _ rfl
        have vf := kv.free
        have hrd := HRD.out
        cases mn
        · obtain ⟨hf, _⟩ | ⟨_, hrd⟩ := hrd
          · cases hf
          go_upto_region 22 with fail
          refine wp_here fun U hU => ?_
          have hbU : Below W.heap.size W U := by rw [hU]; exact hb1.setCell (by show _ ≤ g + 1; omega) _
          have kr : Blk U g [.bool false, .int .i64 0, .string ⟨#[]⟩] := by rw [hU]; exact kr.setOther (by show g ≠ g + 1; omega) _
          have kv : Blk U (g + 1) [.bool false, .int .i64 rd, .string ⟨#[]⟩] := by rw [hU, hrd]; exact kv.set1 (j := 1) (by simp) _
          clear hU hb0 vf hrd
          have hend := HEND.out
          clear HEND
          have v0 := kv.cell 0 _ rfl
          have v1 := kv.cell 1 _ rfl
          have v2 := kv.cell 2 _ rfl
          rcases hend with ⟨hie, hnv⟩ | ⟨hie, hse, hnv⟩ | ⟨hie, hse, hnv⟩
          · subst hnv
            have q0 := kr.cell 0 _ rfl
            have q1 := kr.cell 1 _ rfl
            have q2 := kr.cell 2 _ rfl
            have qf := kr.free
            go_wp2_with fail
            have fR := ((kr.set1 (j := 0) (by simp) (.bool false)).set1 (j := 1) (by simp) (.int .i64 0)).set1 (j := 2) (by simp) (.string ⟨#[]⟩)
            have f0 := fR.cell 0 _ rfl
            have f1 := fR.cell 1 _ rfl
            have f2 := fR.cell 2 _ rfl
            refine bodyPost_ret (v := readV none) ?_ rfl ⟨rfl, ⟨_, ((hbU.setCell hgR _).setCell hgR _).setCell hgR _⟩, rfl⟩
            simp [readV, results, Tryd.results16, go_sem, f0, f1, f2]
          · subst hnv
            go_wp2_with fail
            refine (CS.out U (Lt.base U)).mono ?_; rintro e w' ⟨rfl, y, rfl⟩
            have kr2 := kr.below y.2
            have hb2 := below_then hbU y.2
            have kv2 := kv.below y.2
            have w0 := kv2.cell 0 _ rfl
            have w1 := kv2.cell 1 _ rfl
            have w2 := kv2.cell 2 _ rfl
            have q0 := kr2.cell 0 _ rfl
            have q1 := kr2.cell 1 _ rfl
            have q2 := kr2.cell 2 _ rfl
            have qf := kr2.free
            go_wp2_with fail
            have fR := ((kr2.set1 (j := 0) (by simp) (.bool false)).set1 (j := 1) (by simp) (.int .i64 rd)).set1 (j := 2) (by simp) (.string ⟨#[]⟩)
            have f0 := fR.cell 0 _ rfl
            have f1 := fR.cell 1 _ rfl
            have f2 := fR.cell 2 _ rfl
            refine bodyPost_ret (v := readV (some cv)) ?_ rfl ⟨rfl, ⟨_, ((hb2.setCell hgR _).setCell hgR _).setCell hgR _⟩, rfl⟩
            simp [readV, HCV.out, results, Tryd.results16, go_sem, f0, f1, f2]
          · subst hnv
            go_wp2_with fail
            refine (CS.out U (Lt.base U)).mono ?_; rintro e w' ⟨rfl, y, rfl⟩
            have kr2 := kr.below y.2
            have hb2 := below_then hbU y.2
            have q0 := kr2.cell 0 _ rfl
            have q1 := kr2.cell 1 _ rfl
            have q2 := kr2.cell 2 _ rfl
            have qf := kr2.free
            go_wp2_with fail
            have fR := ((kr2.set1 (j := 0) (by simp) (.bool false)).set1 (j := 1) (by simp) (.int .i64 0)).set1 (j := 2) (by simp) (.string ⟨#[]⟩)
            have f0 := fR.cell 0 _ rfl
            have f1 := fR.cell 1 _ rfl
            have f2 := fR.cell 2 _ rfl
            refine bodyPost_ret (v := readV none) ?_ rfl ⟨rfl, ⟨_, ((hb2.setCell hgR _).setCell hgR _).setCell hgR _⟩, rfl⟩
            simp [readV, results, Tryd.results16, go_sem, f0, f1, f2]
        · obtain ⟨_, hrd⟩ | ⟨hf, _⟩ := hrd
          rotate_left
          · cases hf
          go_upto_region 22 with fail
          refine wp_here fun U hU => ?_
          have hbU : Below W.heap.size W U := by rw [hU]; exact hb1.setCell (by show _ ≤ g + 1; omega) _
          have kr : Blk U g [.bool false, .int .i64 0, .string ⟨#[]⟩] := by rw [hU]; exact kr.setOther (by show g ≠ g + 1; omega) _
          have kv : Blk U (g + 1) [.bool false, .int .i64 rd, .string ⟨#[]⟩] := by rw [hU, hrd]; exact kv.set1 (j := 1) (by simp) _
          clear hU hb0 vf hrd
          have hend := HEND.out
          clear HEND
          have v0 := kv.cell 0 _ rfl
          have v1 := kv.cell 1 _ rfl
          have v2 := kv.cell 2 _ rfl
          rcases hend with ⟨hie, hnv⟩ | ⟨hie, hse, hnv⟩ | ⟨hie, hse, hnv⟩
          · subst hnv
            have q0 := kr.cell 0 _ rfl
            have q1 := kr.cell 1 _ rfl
            have q2 := kr.cell 2 _ rfl
            have qf := kr.free
            go_wp2_with fail
            have fR := ((kr.set1 (j := 0) (by simp) (.bool false)).set1 (j := 1) (by simp) (.int .i64 0)).set1 (j := 2) (by simp) (.string ⟨#[]⟩)
            have f0 := fR.cell 0 _ rfl
            have f1 := fR.cell 1 _ rfl
            have f2 := fR.cell 2 _ rfl
            refine bodyPost_ret (v := readV none) ?_ rfl ⟨rfl, ⟨_, ((hbU.setCell hgR _).setCell hgR _).setCell hgR _⟩, rfl⟩
            simp [readV, results, Tryd.results16, go_sem, f0, f1, f2]
          · subst hnv
            go_wp2_with fail
            refine (CS.out U (Lt.base U)).mono ?_; rintro e w' ⟨rfl, y, rfl⟩
            have kr2 := kr.below y.2
            have hb2 := below_then hbU y.2
            have kv2 := kv.below y.2
            have w0 := kv2.cell 0 _ rfl
            have w1 := kv2.cell 1 _ rfl
            have w2 := kv2.cell 2 _ rfl
            have q0 := kr2.cell 0 _ rfl
            have q1 := kr2.cell 1 _ rfl
            have q2 := kr2.cell 2 _ rfl
            have qf := kr2.free
            go_wp2_with fail
            have fR := ((kr2.set1 (j := 0) (by simp) (.bool false)).set1 (j := 1) (by simp) (.int .i64 rd)).set1 (j := 2) (by simp) (.string ⟨#[]⟩)
            have f0 := fR.cell 0 _ rfl
            have f1 := fR.cell 1 _ rfl
            have f2 := fR.cell 2 _ rfl
            refine bodyPost_ret (v := readV (some cv)) ?_ rfl ⟨rfl, ⟨_, ((hb2.setCell hgR _).setCell hgR _).setCell hgR _⟩, rfl⟩
            simp [readV, HCV.out, results, Tryd.results16, go_sem, f0, f1, f2]
          · subst hnv
            go_wp2_with fail
            refine (CS.out U (Lt.base U)).mono ?_; rintro e w' ⟨rfl, y, rfl⟩
            have kr2 := kr.below y.2
            have hb2 := below_then hbU y.2
            have q0 := kr2.cell 0 _ rfl
            have q1 := kr2.cell 1 _ rfl
            have q2 := kr2.cell 2 _ rfl
            have qf := kr2.free
            go_wp2_with fail
            have fR := ((kr2.set1 (j := 0) (by simp) (.bool false)).set1 (j := 1) (by simp) (.int .i64 0)).set1 (j := 2) (by simp) (.string ⟨#[]⟩)
            have f0 := fR.cell 0 _ rfl
            have f1 := fR.cell 1 _ rfl
            have f2 := fR.cell 2 _ rfl
            refine bodyPost_ret (v := readV none) ?_ rfl ⟨rfl, ⟨_, ((hb2.setCell hgR _).setCell hgR _).setCell hgR _⟩, rfl⟩
            simp [readV, results, Tryd.results16, go_sem, f0, f1, f2]
  · skip
    have e2 := e0 h0
    have hl0 : l = [] := List.length_eq_zero_iff.1 (by have := HSZ.out; omega)
    have hrd0 : rd = 0 := by
      rcases HRD.out with ⟨_, h⟩ | ⟨_, h⟩
      · rw [h, hl0]; rfl
      · rw [h, hl0, show D.cand 0 [] = 0 from rfl]; unfold wrap64; decide
    subst h0 hmf
    clear e0 e1
    have hb0 := kv.cell 1 _ rfl
    have vf := kv.free
    go_wp2_with fail
    go_loopw [11, 9] (fun i n wr => i = .int .i64 0 ∧ n = .int .i64 0 ∧ W1 = wr) (fun i _ _ => 0)
    case atStart => exact ⟨rfl, rfl, rfl⟩
    case round =>
      obtain ⟨rfl, rfl, rfl⟩ := hrel
      go_upto_region 22 with fail
      refine wp_here fun U hU => ?_
      have hbU : Below W.heap.size W U := by rw [hU]; exact hb1.setCell (by show _ ≤ g + 1; omega) _
      have kr : Blk U g [.bool false, .int .i64 0, .string ⟨#[]⟩] := by rw [hU]; exact kr.setOther (by show g ≠ g + 1; omega) _
      have kv : Blk U (g + 1) [.bool false, .int .i64 rd, .string ⟨#[]⟩] := by rw [hU, hrd0]; exact kv.set1 (j := 1) (by simp) _
      clear hU hb0 vf hrd0
      have hend := HEND.out
      clear HEND
      have v0 := kv.cell 0 _ rfl
      have v1 := kv.cell 1 _ rfl
      have v2 := kv.cell 2 _ rfl
      rcases hend with ⟨hie, hnv⟩ | ⟨hie, hse, hnv⟩ | ⟨hie, hse, hnv⟩
      · subst hnv
        have q0 := kr.cell 0 _ rfl
        have q1 := kr.cell 1 _ rfl
        have q2 := kr.cell 2 _ rfl
        have qf := kr.free
        go_wp2_with fail
        have fR := ((kr.set1 (j := 0) (by simp) (.bool false)).set1 (j := 1) (by simp) (.int .i64 0)).set1 (j := 2) (by simp) (.string ⟨#[]⟩)
        have f0 := fR.cell 0 _ rfl
        have f1 := fR.cell 1 _ rfl
        have f2 := fR.cell 2 _ rfl
        refine bodyPost_ret (v := readV none) ?_ rfl ⟨rfl, ⟨_, ((hbU.setCell hgR _).setCell hgR _).setCell hgR _⟩, rfl⟩
        simp [readV, results, Tryd.results16, go_sem, f0, f1, f2]
      · subst hnv
        go_wp2_with fail
        refine (CS.out U (Lt.base U)).mono ?_; rintro e w' ⟨rfl, y, rfl⟩
        have kr2 := kr.below y.2
        have hb2 := below_then hbU y.2
        have kv2 := kv.below y.2
        have w0 := kv2.cell 0 _ rfl
        have w1 := kv2.cell 1 _ rfl
        have w2 := kv2.cell 2 _ rfl
        have q0 := kr2.cell 0 _ rfl
        have q1 := kr2.cell 1 _ rfl
        have q2 := kr2.cell 2 _ rfl
        have qf := kr2.free
        go_wp2_with fail
        have fR := ((kr2.set1 (j := 0) (by simp) (.bool false)).set1 (j := 1) (by simp) (.int .i64 rd)).set1 (j := 2) (by simp) (.string ⟨#[]⟩)
        have f0 := fR.cell 0 _ rfl
        have f1 := fR.cell 1 _ rfl
        have f2 := fR.cell 2 _ rfl
        refine bodyPost_ret (v := readV (some cv)) ?_ rfl ⟨rfl, ⟨_, ((hb2.setCell hgR _).setCell hgR _).setCell hgR _⟩, rfl⟩
        simp [readV, HCV.out, results, Tryd.results16, go_sem, f0, f1, f2]
      · subst hnv
        go_wp2_with fail
        refine (CS.out U (Lt.base U)).mono ?_; rintro e w' ⟨rfl, y, rfl⟩
        have kr2 := kr.below y.2
        have hb2 := below_then hbU y.2
        have q0 := kr2.cell 0 _ rfl
        have q1 := kr2.cell 1 _ rfl
        have q2 := kr2.cell 2 _ rfl
        have qf := kr2.free
        go_wp2_with fail
        have fR := ((kr2.set1 (j := 0) (by simp) (.bool false)).set1 (j := 1) (by simp) (.int .i64 0)).set1 (j := 2) (by simp) (.string ⟨#[]⟩)
        have f0 := fR.cell 0 _ rfl
        have f1 := fR.cell 1 _ rfl
        have f2 := fR.cell 2 _ rfl
        refine bodyPost_ret (v := readV none) ?_ rfl ⟨rfl, ⟨_, ((hb2.setCell hgR _).setCell hgR _).setCell hgR _⟩, rfl⟩
        simp [readV, results, Tryd.results16, go_sem, f0, f1, f2]

set_option maxHeartbeats 2000000 in
theorem rread_text {s : ByteArray} (hs : s.size ≤ 1000) (hx : s.data.toList.head? = some 120) (x : Lt W) : Calls Tryd.prog 16 #[.string s] x.1 fun e w' => e = .returned (readV (readOf s.data.toList)) ∧ ∃ y : Lt W, w' = y.1 := by
  obtain ⟨nv, hnv⟩ : ∃ nv, readOf s.data.toList = nv := ⟨_, rfl⟩
  rw [hnv]
  obtain ⟨l, hl⟩ : ∃ l, s.data.toList.tail = l := ⟨_, rfl⟩
  have hcand : candOf s.data.toList = ⟨true, 0, ⟨(V.pairs l).toArray⟩⟩ := by unfold candOf; rw [if_pos hx, hl]
  obtain ⟨ps, hps⟩ : ∃ ps : ByteArray, ⟨(V.pairs l).toArray⟩ = ps := ⟨_, rfl⟩
  rw [hps] at hcand
  obtain ⟨S, hS⟩ : ∃ S : ByteArray, ⟨(Val.shows ⟨true, 0, ps⟩).toArray⟩ = S := ⟨_, rfl⟩
  have hend := read_end hcand (show Num.is 0 = true by decide) hS hnv
  have hsz : l.length + 1 = s.size := by
    rw [← hl, List.length_tail, size_data]
    have : 0 < s.size := by
      rw [← size_data]
      cases hq : s.data.toList with
      | nil => rw [hq] at hx; cases hx
      | cons c r => simp
    omega
  have hpl : ps.size ≤ 1000 := by
    rw [← hps]
    show (V.pairs l).length ≤ 1000
    rw [pairs_short (l.length / 2) l (by omega) (by omega), V.pairs_length (l.length / 2) _ (by rw [List.length_take]; omega)]; omega
  have CS := Lib.hid (show ∀ (U : World) (z : Lt U), Calls Tryd.prog 18 #[.agg #[.bool true, .int .i64 0, .string ps]] z.1 fun e w' => e = .returned (.string S) ∧ ∃ y : Lt U, w' = y.1 from fun U z => hS ▸ rshow_any (v := ⟨true, 0, ps⟩) (show Num.is 0 = true by decide) hpl z)
  have hget : ∀ (k : Nat) (h : k + 1 < s.size), l[k]? = some (s[k + 1]'h) := fun k h => by
    rw [← hl, List.getElem?_tail, Array.getElem?_toList]; exact Array.getElem?_eq_getElem h
  have h0 : 0 < s.size := by omega
  have q1 : (((s[0]'h0).toNat : Int) == 120) = true := by
    have h1 : s.data.toList[0]? = some (s[0]'h0) := by rw [Array.getElem?_toList]; exact Array.getElem?_eq_getElem h0
    rw [← List.head?_eq_getElem?, hx] at h1
    injection h1 with h1
    rw [← h1]; rfl
  clear hx hcand hS hl hnv hpl
  obtain ⟨z, hz⟩ : ∃ z, s.size = z := ⟨_, rfl⟩
  rw [hz] at hs hsz h0
  obtain ⟨cv, hcv⟩ : ∃ cv : Val, ⟨true, 0, ps⟩ = cv := ⟨_, rfl⟩
  rw [hcv] at hend
  have HCV := Lib.hid hcv.symm
  have HEND := Lib.hid hend
  have HGET := Lib.hid hget
  have HSZ := Lib.hid hsz
  have HPS := Lib.hid hps
  clear hcv hend hget hsz hps
  obtain ⟨i0, hi, hz0, hz1, hz2⟩ := info_bytes
  go_enter Tryd.func16, Tryd.ntmps16
  go_upto_region 2 with fail
  refine wp_here fun W1 hW1 => ?_
  obtain ⟨g, hgg⟩ : ∃ g, x.1.heap.size = g := ⟨_, rfl⟩
  have hb1 : Below W.heap.size W W1 := by rw [hW1]; exact x.more2 _ _
  have kr : Blk W1 g [.bool false, .int .i64 0, .string ⟨#[]⟩] := by rw [hW1]; refine Blk.alloc ?_ _; exact Blk.new' (l := #[.bool false, .int .i64 0, .string ⟨#[]⟩]) hgg.symm
  have kv : Blk W1 (g + 1) [.bool false, .int .i64 0, .string ⟨#[]⟩] := by rw [hW1]; exact Blk.new' (l := #[.bool false, .int .i64 0, .string ⟨#[]⟩]) (by simp [hgg])
  have hgR := x.2.size
  rw [hgg] at hgR ⊢
  clear hW1 hgg
  have e2 : decide ((0 : Int) < (z : Int)) = true := decide_eq_true (by omega)
  have e3 : (0 : Int) < (z : Int) := by omega
  obtain ⟨B, hB⟩ : ∃ B, W1.heap.size = B := ⟨_, rfl⟩
  have hgB : g + 1 < B := by have := kv.lt; omega
  have hWB : W.heap.size ≤ B := by have := hb1.size; omega
  have hb0 := kv.cell 0 _ rfl
  have vf := kv.free
  go_upto_region 4 with fail
  refine wp_here fun W2 hW2 => ?_
  have hb2 : Below W.heap.size W W2 := by rw [hW2]; exact hb1.setCell (by show _ ≤ g + 1; omega) _
  have kr : Blk W2 g [.bool false, .int .i64 0, .string ⟨#[]⟩] := by rw [hW2]; exact kr.setOther (by show g ≠ g + 1; omega) _
  have kv : Blk W2 (g + 1) [.bool true, .int .i64 0, .string ⟨#[]⟩] := by rw [hW2]; exact kv.set1 (j := 0) (by simp) _
  have hin : BInv W B (V.pairs (l.take (2 * 0))) 0 none 0 W2 := ⟨hb2, ⟨hWB, by rw [hW2]; simp [World.setCell, hB]⟩, rfl, World.ownsRow_nil _ _ _ _⟩
  clear hW2 hb0 vf hB hb1
  go_wp2_with fail
  go_loopw [6, 5, 7, 8] (fun i sl _ _ wr => ∃ (k j : Nat) (A : Option Addr) (ca : Nat), i = .int .i64 j ∧ j = 1 + 2 * k ∧ 2 * k ≤ l.length ∧ sl = .slice A k ca ∧ BInv W B (V.pairs (l.take (2 * k))) k A ca wr ∧ Blk wr g [.bool false, .int .i64 0, .string ⟨#[]⟩] ∧ Blk wr (g + 1) [.bool true, .int .i64 0, .string ⟨#[]⟩]) (fun i _ _ _ _ => z + 1 - (intOf i).toNat)
  case atStart => exact ⟨0, 1, none, 0, rfl, rfl, by omega, rfl, hin, kr, kv⟩
  case round =>
    clear hin kr kv
    rename_i wr
    obtain ⟨k, j, A, ca, rfl, hj, hk, rfl, hin, kr, kv⟩ := hrel
    have HJ := Lib.hid hj
    have i0' : (0 : Int) ≤ (j : Int) := by omega
    have i0'' : (0 : Int) ≤ (j : Int) + 1 := by omega
    by_cases hlt : j + 1 < z
    · have i1 : (j : Int) + 1 < (z : Int) := by omega
      have i2 : (j : Int) < (z : Int) := by omega
      have i3 : decide ((j : Int) + 1 < (z : Int)) = true := decide_eq_true i1
      have hj1 : j < s.size := by omega
      have hj2 : j + 1 < s.size := by omega
      obtain ⟨c, hc⟩ : ∃ c, s[j]'hj1 = c := ⟨_, rfl⟩
      obtain ⟨d, hd⟩ : ∃ d, s[j + 1]'hj2 = d := ⟨_, rfl⟩
      have HLC := Lib.hid (show l[2 * k]? = some c by
        have h1 := HGET.out (2 * k) (by omega)
        rw [h1, ← hc]; congr 2; omega)
      have HLD := Lib.hid (show l[2 * k + 1]? = some d by
        have h1 := HGET.out (2 * k + 1) (by omega)
        rw [h1, ← hd]; congr 2; omega)
      have C1 := Lib.hid (show ∀ w : World, Calls Tryd.prog 30 #[.int .u8 (c.toNat : Int)] w fun e w' => e = .returned (.int .u8 (V.part (c.toNat : Int))) ∧ w' = w from fun w => rpart_any c (Lt.base w))
      have C2 := Lib.hid (show ∀ w : World, Calls Tryd.prog 30 #[.int .u8 (d.toNat : Int)] w fun e w' => e = .returned (.int .u8 (V.part (d.toNat : Int))) ∧ w' = w from fun w => rpart_any d (Lt.base w))
      have hrow4 := fun ob => hin.row.alloc ob
      have hov := hin.base.2
      have hk9 : k ≤ 1000 := by omega
      clear hj
      go_wp2_with fail
      with_reducible refine Calls.mono (C1.out _) ?_; rintro e w' ⟨rfl, hw⟩; rw [hw]; clear hw w'
      go_wp2_with fail
      with_reducible refine Calls.mono (C2.out _) ?_; rintro e w' ⟨rfl, hw⟩; rw [hw]; clear hw w'
      have pr1 := V.part_range (c.toNat : Int)
      have pr2 := V.part_range (d.toNat : Int)
      have pm1 := V.part_mod (c.toNat : Int)
      have pm2 := V.part_mod (d.toNat : Int)
      rw [← V.num_int] at pm1 pm2
      obtain ⟨pc, hpc⟩ : ∃ p, V.part (c.toNat : Int) = p := ⟨_, rfl⟩
      obtain ⟨pd, hpd⟩ : ∃ p, V.part (d.toNat : Int) = p := ⟨_, rfl⟩
      rw [hpc] at pr1 pm1
      rw [hpd] at pr2 pm2
      rw [hpc, hpd]
      go_upto_region 10 with fail
      have hnew := new_lit (w := wr) (t := 5) (.int .u8 ((V.num c : Int) * 16 + (V.num d : Int)))
      go_wp2_with (at_builtin; refine wpList_append_lies _ (by rfl) (.tmp 37) (.tmp 44) 45 (by rfl) B 5 i0 _ 1 1 Tryd.underlying45 hi hz0 hz1 hz2 rfl (by omega) (.slice A k ca) k _ (by rfl) (hrow4 _) ⟨wr.heap.size, 0, none⟩ 1 1 [.int .u8 ((V.num c : Int) * 16 + (V.num d : Int))] (by rfl) rfl hnew (fun u hu => by rw [List.mem_singleton] at hu; rw [hu]; rfl) (by omega) (by unfold maxLen; omega) (by omega) (by simp; omega) _ rfl ?_; intro g5 cap w5 hrow5 hgrow5 hat5 hlt5)
      have hby : Value.int .u8 ((V.num c : Int) * 16 + (V.num d : Int)) = byteV (V.two c d) := by unfold byteV; rw [V.two_nat]; rfl
      rw [hby] at hrow5
      go_wp2_with fail
      go_roundw
      case rel => exact ⟨k + 1, j + 2, some ⟨g5, 0, none⟩, cap, by go_num, by have := HJ.out; omega, by have := HJ.out; have := HSZ.out; omega, rfl, by
        have h := hin.step (w4 := wr) (Below.refl _ _) (news := [V.two c d]) rfl hrow5 hgrow5
        rw [take_two HLC.out HLD.out, V.pairs_append k _ _ (by rw [List.length_take]; have := HJ.out; have := HSZ.out; omega)]
        exact h, hin.keep (w4 := wr) (Below.refl _ _) hgrow5 kr (by omega), hin.keep (w4 := wr) (Below.refl _ _) hgrow5 kv hgB⟩
      case measure => simp [intOf]; omega
    · have i3 : decide ((j : Int) + 1 < (z : Int)) = false := decide_eq_false (by omega)
      have i1 : ¬ ((j : Int) + 1 < (z : Int)) := by omega
      have i2 : (z : Int) ≤ (j : Int) + 1 := by omega
      have i4 : j ≤ 2000 := by have := HSZ.out; omega
      have hstr := hin.str
      rw [← pairs_short k l hk (by have := HSZ.out; omega), HPS.out] at hstr
      have hbW := hin.below
      clear hin hj
      have hb0 := kv.cell 2 _ rfl
      have vf := kv.free
      go_upto_region 22 with fail
      refine wp_here fun U hU => ?_
      have hbU : Below W.heap.size W U := by rw [hU]; exact hbW.setCell (by show _ ≤ g + 1; omega) _
      have kr : Blk U g [.bool false, .int .i64 0, .string ⟨#[]⟩] := by rw [hU]; exact kr.setOther (by show g ≠ g + 1; omega) _
      have kv : Blk U (g + 1) [.bool true, .int .i64 0, .string ps] := by rw [hU]; exact kv.set1 (j := 2) (by simp) _
      clear hU hb0 vf
      have hend := HEND.out
      clear HEND
      have v0 := kv.cell 0 _ rfl
      have v1 := kv.cell 1 _ rfl
      have v2 := kv.cell 2 _ rfl
      rcases hend with ⟨hie, hnv⟩ | ⟨hie, hse, hnv⟩ | ⟨hie, hse, hnv⟩
      · subst hnv
        have q0 := kr.cell 0 _ rfl
        have q1 := kr.cell 1 _ rfl
        have q2 := kr.cell 2 _ rfl
        have qf := kr.free
        go_wp2_with fail
        have fR := ((kr.set1 (j := 0) (by simp) (.bool false)).set1 (j := 1) (by simp) (.int .i64 0)).set1 (j := 2) (by simp) (.string ⟨#[]⟩)
        have f0 := fR.cell 0 _ rfl
        have f1 := fR.cell 1 _ rfl
        have f2 := fR.cell 2 _ rfl
        refine bodyPost_ret (v := readV none) ?_ rfl ⟨rfl, ⟨_, ((hbU.setCell hgR _).setCell hgR _).setCell hgR _⟩, rfl⟩
        simp [readV, results, Tryd.results16, go_sem, f0, f1, f2]
      · subst hnv
        go_wp2_with fail
        refine (CS.out U (Lt.base U)).mono ?_; rintro e w' ⟨rfl, y, rfl⟩
        have kr2 := kr.below y.2
        have hb2 := below_then hbU y.2
        have kv2 := kv.below y.2
        have w0 := kv2.cell 0 _ rfl
        have w1 := kv2.cell 1 _ rfl
        have w2 := kv2.cell 2 _ rfl
        have q0 := kr2.cell 0 _ rfl
        have q1 := kr2.cell 1 _ rfl
        have q2 := kr2.cell 2 _ rfl
        have qf := kr2.free
        go_wp2_with fail
        have fR := ((kr2.set1 (j := 0) (by simp) (.bool true)).set1 (j := 1) (by simp) (.int .i64 0)).set1 (j := 2) (by simp) (.string ps)
        have f0 := fR.cell 0 _ rfl
        have f1 := fR.cell 1 _ rfl
        have f2 := fR.cell 2 _ rfl
        refine bodyPost_ret (v := readV (some cv)) ?_ rfl ⟨rfl, ⟨_, ((hb2.setCell hgR _).setCell hgR _).setCell hgR _⟩, rfl⟩
        simp [readV, HCV.out, results, Tryd.results16, go_sem, f0, f1, f2]
      · subst hnv
        go_wp2_with fail
        refine (CS.out U (Lt.base U)).mono ?_; rintro e w' ⟨rfl, y, rfl⟩
        have kr2 := kr.below y.2
        have hb2 := below_then hbU y.2
        have q0 := kr2.cell 0 _ rfl
        have q1 := kr2.cell 1 _ rfl
        have q2 := kr2.cell 2 _ rfl
        have qf := kr2.free
        go_wp2_with fail
        have fR := ((kr2.set1 (j := 0) (by simp) (.bool false)).set1 (j := 1) (by simp) (.int .i64 0)).set1 (j := 2) (by simp) (.string ⟨#[]⟩)
        have f0 := fR.cell 0 _ rfl
        have f1 := fR.cell 1 _ rfl
        have f2 := fR.cell 2 _ rfl
        refine bodyPost_ret (v := readV none) ?_ rfl ⟨rfl, ⟨_, ((hb2.setCell hgR _).setCell hgR _).setCell hgR _⟩, rfl⟩
        simp [readV, results, Tryd.results16, go_sem, f0, f1, f2]

theorem rread_any {s : ByteArray} (hs : s.size ≤ 1000) (x : Lt W) : Calls Tryd.prog 16 #[.string s] x.1 fun e w' => e = .returned (readV (readOf s.data.toList)) ∧ ∃ y : Lt W, w' = y.1 := by
  by_cases hx : s.data.toList.head? = some 120
  · exact rread_text hs hx x
  · exact rread_num hs hx x
end Go.Proofs.YtlfdiafpmlcmdaaDoor
