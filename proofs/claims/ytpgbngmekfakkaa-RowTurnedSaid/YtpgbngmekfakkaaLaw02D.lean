/-
  The statement RowTurned, walked: sets in another order change nothing, no sets change nothing; it returns true. Conditions: table, row and update lie in memory as they read, their numbers are of 64 bits.
-/
import Derived.Test.YtpgbngmekfakkaaOpen
import Derived.Test.YtpgbngmekfakkaaRowLaw
namespace Go.Proofs.Ytpgbngmekfakkaa
open Go.RowKit
variable {W : World}

/-- An update's cells. -/
def setCells (l : List SetV) : List Value := l.flatMap fun s => [.int .i64 s.col, .int .i64 s.op, .int .i64 s.src, .int .i64 s.oth, .bool s.v.t, .int .i64 s.v.n, .string s.v.s]
theorem setCells_cons (s : SetV) (l : List SetV) : setCells (s :: l) = .int .i64 s.col :: .int .i64 s.op :: .int .i64 s.src :: .int .i64 s.oth :: .bool s.v.t :: .int .i64 s.v.n :: .string s.v.s :: setCells l := rfl
theorem setCells_append (l m : List SetV) : setCells (l ++ m) = setCells l ++ setCells m := by simp [setCells]
theorem setCells_length (l : List SetV) : (setCells l).length = l.length * 7 := by
  induction l with
  | nil => rfl
  | cons u r ih => rw [setCells_cons]; simp [ih]; omega
theorem setCells_one (l : List SetV) : ∀ u ∈ setCells l, u.oneCell' = true := by
  intro u hu
  simp only [setCells, List.mem_flatMap] at hu
  obtain ⟨v, _, hv⟩ := hu
  simp at hv
  rcases hv with rfl | rfl | rfl | rfl | rfl | rfl | rfl <;> rfl
theorem setCells_get (l : List SetV) : ∀ (i : Nat) (s : SetV), l[i]? = some s → (setCells l)[i * 7]? = some (.int .i64 s.col) ∧ (setCells l)[i * 7 + 1]? = some (.int .i64 s.op) ∧ (setCells l)[i * 7 + 2]? = some (.int .i64 s.src) ∧
    (setCells l)[i * 7 + 3]? = some (.int .i64 s.oth) ∧ (setCells l)[i * 7 + 4]? = some (.bool s.v.t) ∧ (setCells l)[i * 7 + 5]? = some (.int .i64 s.v.n) ∧ (setCells l)[i * 7 + 6]? = some (.string s.v.s) := by
  induction l with
  | nil => intro i u h; simp at h
  | cons v r ih =>
    intro i u h
    rw [setCells_cons]
    match i, h with
    | 0, h => simp at h; subst h; simp
    | i + 1, h =>
      have := ih i u (by simpa using h)
      rw [show (i + 1) * 7 = i * 7 + 7 by omega]
      simpa using this
/-- A slice of sets that is the call's own, in memory from block B on. -/
def OwnsSets (B : Nat) (w : World) (v : Value) (l : List SetV) : Prop := w.ownsRow B 42 7 v l.length (setCells l)
theorem OwnsSets.at_ {B : Nat} {w : World} {v : Value} {l : List SetV} (h : OwnsSets B w v l) : ∃ A ca, v = .slice A l.length ca ∧ SetsAt w A l := by
  have h : w.ownsRow B 42 7 v l.length (setCells l) := h
  rcases Nat.eq_zero_or_pos l.length with h0 | h0
  · have hr := List.eq_nil_of_length_eq_zero h0
    subst hr
    rcases h.2 with ⟨rfl, _⟩ | ⟨g, cap, cur, rfl, _⟩
    · exact ⟨_, _, rfl, fun e => absurd rfl e⟩
    · exact ⟨_, _, rfl, fun e => absurd rfl e⟩
  · rcases id h.2 with ⟨_, hz⟩ | ⟨g, cap, cur, rfl, hb, hh, _⟩
    · omega
    · refine ⟨_, _, rfl, fun _ => ⟨g, 0, rfl, fun i s hu => ?_⟩⟩
      have hi := (List.getElem?_eq_some_iff.1 hu).1
      obtain ⟨e0, e1, e2, e3, e4, e5, e6⟩ := setCells_get l i s hu
      simp only [Nat.zero_add]
      exact ⟨by rw [World.ownsRow.cellAt h _ (by omega), e0], by rw [World.ownsRow.cellAt h _ (by omega), e1], by rw [World.ownsRow.cellAt h _ (by omega), e2], by rw [World.ownsRow.cellAt h _ (by omega), e3],
        by rw [World.ownsRow.cellAt h _ (by omega), e4], by rw [World.ownsRow.cellAt h _ (by omega), e5], by rw [World.ownsRow.cellAt h _ (by omega), e6]⟩
theorem info_set : (Try.prog.info? 42).map (fun i => (i.zero, i.size, i.bytes)) = some (some (.agg #[.int .i64 0, .int .i64 0, .int .i64 0, .int .i64 0, .bool false, .int .i64 0, .string ⟨#[]⟩]), 7, 64) := by kernel_rfl

set_option maxHeartbeats 1000000 in
theorem rowTurned_any {A B C : Option Addr} {c : List Bool} {r : List Val} {l : List SetV} {ca cb cc : Nat} (hc : ColsAt W A c) (hr : RowAt W B r) (hs : SetsAt W C l) (hn : Nums r) (hsn : SetNums l) (hnil : B = none → cb = 0) (x : Lt W) :
    Calls Try.prog 6 #[.agg #[.slice A c.length ca], .slice B r.length cb, .slice C l.length cc] x.1 fun e w' => e = .returned (.bool true) ∧ ∃ y : Lt W, w' = y.1 := by
  obtain ⟨i0, hi, hz0, hz1, hz2⟩ := info_parts info_set
  go_enter Try.func6, Try.ntmps6
  go_wp2_with fail
  refine calls_here fun W1 hW1 => ?_
  have hb0 : Below W.heap.size W W1 := hW1 ▸ x.more _
  have hw1 : W1.cell? ⟨x.1.heap.size, 0, none⟩ = some (.slice A c.length ca) := by rw [hW1]; simp
  have zt := fun z : Lt W1 => z.cell hw1
  have hc1 := hc.below hb0
  have hr1 := hr.below hb0
  have hs1 := hs.below hb0
  clear hW1 hc hr hs
  refine (awake_any (Lt.base W1)).mono ?_; rintro e w' ⟨rfl, y, rfl⟩
  go_wp2_with fail
  by_cases hbig : c.length ≤ 1000 ∧ r.length ≤ 1000 ∧ l.length ≤ 1000
  · refine (long_any hbig y).mono ?_; rintro e w' ⟨rfl, y, rfl⟩
    have hrl : r.length ≤ 1000 := hbig.2.1
    have hll : l.length ≤ 1000 := hbig.2.2
    go_wp2_with fail
    go_loopw [9, 10] (fun v i wr => ∃ (k : Nat), OwnsSets y.1.heap.size wr v (l.drop k).reverse ∧ Below y.1.heap.size y.1 wr ∧ i = .int .i64 ((k : Int) - 1) ∧ k ≤ l.length) (fun _ i _ => (intOf i + 1).toNat)
    case atStart =>
      refine ⟨l.length, ?_, Below.refl _ _, by simp [go_sem], Nat.le_refl _⟩
      rw [List.drop_of_length_le (Nat.le_refl _)]
      exact ⟨rfl, .inl ⟨rfl, rfl⟩⟩
    case round =>
      obtain ⟨k, ho, hbw, rfl, hk⟩ := hrel
      by_cases hk0 : 0 < k
      · have hlt : k - 1 < l.length := by omega
        obtain ⟨b, o, s, rfl, hsk, c0, c1, c2, c3, c4, c5, c6⟩ := hs1.at_ hlt
        have hb2 : Below W1.heap.size W1 wr := y.2.trans (hbw.mono y.2.size)
        have y0 := (hb2.cell (cell_lt c0)).trans c0
        have y1 := (hb2.cell (cell_lt c1)).trans c1
        have y2 := (hb2.cell (cell_lt c2)).trans c2
        have y3 := (hb2.cell (cell_lt c3)).trans c3
        have y4 := (hb2.cell (cell_lt c4)).trans c4
        have y5 := (hb2.cell (cell_lt c5)).trans c5
        have y6 := (hb2.cell (cell_lt c6)).trans c6
        clear c0 c1 c2 c3 c4 c5 c6
        have HSK := Lib.hid hsk
        have hown : wr.ownsRow y.1.heap.size 42 7 u9 (l.drop k).reverse.length (setCells (l.drop k).reverse) := ho
        have HO := Lib.hid (hown.alloc (.cells #[.int .i64 s.col, .int .i64 s.op, .int .i64 s.src, .int .i64 s.oth, .bool s.v.t, .int .i64 s.v.n, .string s.v.s] 42))
        have hlt9 := hown.lt
        have HN := Lib.hid (show ∀ j u, (setCells [s])[j]? = some u → (wr.alloc (.cells #[.int .i64 s.col, .int .i64 s.op, .int .i64 s.src, .int .i64 s.oth, .bool s.v.t, .int .i64 s.v.n, .string s.v.s] 42)).cell? ((⟨wr.heap.size, 0, none⟩ : Addr).add j) = some u from fun j u hj => by
          rw [add_mk, Nat.zero_add, cell_new rfl]
          simpa [setCells] using hj)
        have hlen : (l.drop k).reverse.length ≤ 1000 := by simp; omega
        have hsz := hbw.size
        clear hsk ho hown
        go_wp2_with (at_builtin; go_must (refine wpList_append_own_at _ rfl _ _ 27 rfl y.1.heap.size 42 i0 _ 7 64 Try.underlying27 hi hz0 hz1 hz2 rfl (by omega) u9 (l.drop k).reverse.length (setCells (l.drop k).reverse) rfl HO.out ⟨wr.heap.size, 0, none⟩ 1 1 (setCells [s]) rfl (setCells_length [s]) HN.out (setCells_one [s]) (by unfold maxLen; omega) (by omega) (by simp; omega) ?_); intro v' w2 hown hgrow hq1 hq2)
        have hgrow2 : (wr.alloc (.cells #[.int .i64 s.col, .int .i64 s.op, .int .i64 s.src, .int .i64 s.oth, .bool s.v.t, .int .i64 s.v.n, .string s.v.s] 42)).grownBy w2 u9.ownBlock := hgrow
        have hb3 : Below y.1.heap.size y.1 w2 := (hbw.alloc hsz _).grown hgrow2 (by simp; omega) fun j hj => (hlt9 j hj).1
        go_roundw
        case rel =>
          refine ⟨k - 1, ?_, hb3, by go_num, by omega⟩
          have he : (l.drop (k - 1)).reverse = (l.drop k).reverse ++ [s] := by
            rw [List.drop_eq_getElem_cons hlt, List.reverse_cons, show k - 1 + 1 = k by omega]
            have := HSK.out
            rw [List.getElem?_eq_getElem hlt] at this
            rw [Option.some.inj this]
          unfold OwnsSets
          rw [he, setCells_append, List.length_append]
          exact hown
        case measure => simp [intOf]; omega
      · obtain rfl : k = 0 := by omega
        have hb2 : Below W1.heap.size W1 wr := y.2.trans (hbw.mono y.2.size)
        have hzw := fun z : Lt wr => z.old hb2 hw1
        have hzw0 : wr.cell? ⟨x.1.heap.size, 0, none⟩ = some (.slice A c.length ca) := hzw (Lt.base wr)
        rw [List.drop_zero] at ho
        obtain ⟨A2, ca2, rfl, hs2⟩ := ho.at_
        clear ho
        go_wp2_with fail
        refine (update_any (hc1.below hb2) (hr1.below hb2) (hs1.below hb2) hn hsn hnil (Lt.base wr)).mono ?_
        rintro e w3 ⟨v, rfl, hown, hb3⟩
        have hb3 : Below wr.heap.size wr w3 := hb3
        have hby3 : Below W1.heap.size W1 w3 := hb2.trans (hb3.mono hb2.size)
        have hx3 : ∀ z : Lt w3, z.1.cell? ⟨x.1.heap.size, 0, none⟩ = some (.slice A c.length ca) := fun z => z.old hby3 hw1
        have hx30 : w3.cell? ⟨x.1.heap.size, 0, none⟩ = some (.slice A c.length ca) := hx3 (Lt.base w3)
        have hs3 := hs2.below hb3
        have hsn3 : SetNums l.reverse := fun s hs => hsn s (List.mem_reverse.1 hs)
        go_wp2_with fail
        have key := update_any (cc := ca2) (ca := ca) (hc1.below hby3) (hr1.below hby3) hs3 hn hsn3 hnil (Lt.base w3)
        rw [List.length_reverse] at key
        refine key.mono ?_
        clear key
        rintro e w4 ⟨v4, rfl, hown4, hb4⟩
        have hb4 : Below w3.heap.size w3 w4 := hb4
        have hby4 : Below W1.heap.size W1 w4 := hby3.trans (hb4.mono hby3.size)
        have hx4 : ∀ z : Lt w4, z.1.cell? ⟨x.1.heap.size, 0, none⟩ = some (.slice A c.length ca) := fun z => z.old hby4 hw1
        have hx40 : w4.cell? ⟨x.1.heap.size, 0, none⟩ = some (.slice A c.length ca) := hx4 (Lt.base w4)
        have hb34 := hb4
        obtain ⟨A3, ca3, rfl, _, hra3⟩ := hown.row
        have hra3 := hra3.below hb34
        rw [(R.err_reverse c r l).2] at hown4
        obtain ⟨A4, ca4, rfl, _, hra4⟩ := hown4.row
        rw [(R.err_reverse c r l).1]
        have hout : (R.out c r l).length ≤ 1000000000 := by
          unfold R.out
          split
          · cases hu : R.upd r l l.length with
            | none => simp
            | some out => simp only [Option.getD_some]; rw [R.upd_length hu]; omega
          · simp
        obtain ⟨er, her⟩ : ∃ er, er = R.err c r l := ⟨_, rfl⟩
        obtain ⟨ou, hou⟩ : ∃ ou, ou = R.out c r l := ⟨_, rfl⟩
        rw [← her]
        rw [← hou] at hout hra3 hra4 ⊢
        clear her hou hown hown4
        cases hf : R.fits c r
        · have HE := Lib.hid (show R.err c r [] = 1 by simp [R.err, hf])
          have HO := Lib.hid (show R.out c r [] = [] by simp [R.out, hf])
          have HF := Lib.hid hf
          clear hf
          go_wp2_with fail
          refine ((HE.out ▸ update_any (hc1.below hby4) (hr1.below hby4) (C := none) (l := []) (cc := 0) (fun e => absurd rfl e) hn (fun s hs => by simp at hs) hnil (Lt.base w4) : Calls Try.prog 18 _ w4 fun e w' => ∃ v, e = .returned (.tuple #[v, .int .i64 1]) ∧ OwnRow w4.heap.size w' v (R.out c r []) ∧ Below w4.heap.size w4 w')).mono ?_
          rintro e w5 ⟨v5, rfl, hown5, hb5⟩
          rw [HO.out] at hown5
          obtain ⟨A5, ca5, rfl, _, hra5⟩ := hown5.row
          have hby5 : Below W1.heap.size W1 w5 := hby4.trans (hb5.mono hby4.size)
          have hx5 : ∀ z : Lt w5, z.1.cell? ⟨x.1.heap.size, 0, none⟩ = some (.slice A c.length ca) := fun z => z.old hby5 hw1
          go_wp2_with fail
          refine (rsame_any (hra3.below hb5) (hra4.below hb5) hout (Lt.base w5)).mono ?_
          rintro e w6 ⟨rfl, z, rfl⟩
          have hd : decide (ou = ou) = true := decide_eq_true rfl
          go_wp2_with fail
          refine ((HF.out ▸ fits_any (hc1.below (hby5.trans (z.2.mono hby5.size))) (hr1.below (hby5.trans (z.2.mono hby5.size))) (Lt.base z.1) : Calls Try.prog 15 _ z.1 fun e w' => e = .returned (.bool false) ∧ ∃ y : Lt z.1, w' = y.1)).mono ?_; rintro e w' ⟨rfl, z2, rfl⟩
          go_wp2_with fail
          go_ret
          exact ⟨rfl, z2.via (below_then hb0 (hby5.trans (z.2.mono hby5.size))), rfl⟩
        · have HE := Lib.hid (show R.err c r [] = 0 by simp [R.err, hf, R.sets, R.upd])
          have HO := Lib.hid (show R.out c r [] = r by simp [R.out, hf, R.sets, R.upd])
          have HF := Lib.hid hf
          clear hf
          go_wp2_with fail
          refine ((HE.out ▸ update_any (hc1.below hby4) (hr1.below hby4) (C := none) (l := []) (cc := 0) (fun e => absurd rfl e) hn (fun s hs => by simp at hs) hnil (Lt.base w4) : Calls Try.prog 18 _ w4 fun e w' => ∃ v, e = .returned (.tuple #[v, .int .i64 0]) ∧ OwnRow w4.heap.size w' v (R.out c r []) ∧ Below w4.heap.size w4 w')).mono ?_
          rintro e w5 ⟨v5, rfl, hown5, hb5⟩
          rw [HO.out] at hown5
          obtain ⟨A5, ca5, rfl, _, hra5⟩ := hown5.row
          have hby5 : Below W1.heap.size W1 w5 := hby4.trans (hb5.mono hby4.size)
          have hx5 : ∀ z : Lt w5, z.1.cell? ⟨x.1.heap.size, 0, none⟩ = some (.slice A c.length ca) := fun z => z.old hby5 hw1
          go_wp2_with fail
          refine (rsame_any (hra3.below hb5) (hra4.below hb5) hout (Lt.base w5)).mono ?_
          rintro e w6 ⟨rfl, z, rfl⟩
          have hd : decide (ou = ou) = true := decide_eq_true rfl
          go_wp2_with fail
          refine ((HF.out ▸ fits_any (hc1.below (hby5.trans (z.2.mono hby5.size))) (hr1.below (hby5.trans (z.2.mono hby5.size))) (Lt.base z.1) : Calls Try.prog 15 _ z.1 fun e w' => e = .returned (.bool true) ∧ ∃ y : Lt z.1, w' = y.1)).mono ?_; rintro e w' ⟨rfl, z2, rfl⟩
          have hby6 : Below W1.heap.size W1 z2.1 := (hby5.trans (z.2.mono hby5.size)).trans (z2.2.mono (hby5.trans (z.2.mono hby5.size)).size)
          go_wp2_with fail
          refine (rsame_any ((hra5.below z.2).below z2.2) (hr1.below hby6) (by omega) (Lt.base z2.1)).mono ?_
          rintro e w7 ⟨rfl, z3, rfl⟩
          have hd2 : decide (r = r) = true := decide_eq_true rfl
          go_wp2_with fail
          go_ret
          exact ⟨ret_bool hd2, z3.via (below_then hb0 hby6), rfl⟩
  · refine (long_big hbig y).mono ?_; rintro e w' ⟨rfl, y, rfl⟩
    go_wp2_with fail
    go_ret
    exact ⟨rfl, y.via hb0, rfl⟩
end Go.Proofs.Ytpgbngmekfakkaa
