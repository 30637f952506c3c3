/-
  The statement RowBack, walked: what is added is taken off again, columns can be changed about; it returns true. Conditions: the numbers are of 64 bits.
-/
import Derived.Test.YtpgbngmekfakkaaOpen
import Derived.Test.YtpgbngmekfakkaaBackLaw
import Derived.Test.YtpgbngmekfakkaaAppRow
namespace Go.Proofs.Ytpgbngmekfakkaa
open Go.RowKit
variable {W : World}

def bkN (a : Int) : Val := ⟨false, a, ⟨#[]⟩⟩
def bkT (k : Val) : List Bool := [k.t, false, false]
def bkR (k : Val) (a b : Int) : List Val := [k, bkN a, bkN b]
def bkAdd (b : Int) : List SetV := [⟨1, 3, 1, 0, bkN b⟩]
def bkSub (b : Int) : List SetV := [⟨1, 4, 1, 0, bkN b⟩]
def bkBoth : List SetV := [⟨1, 2, 2, 0, bkN 0⟩, ⟨2, 2, 1, 0, bkN 0⟩]
theorem bk_fits (k : Val) (a b : Int) : R.fits (bkT k) (bkR k a b) = k.right := by
  show (R.may 3 && decide (3 = 3) && ([0, 1, 2] : List Nat).all (R.cellOk (bkT k) (bkR k a b))) = _
  have h0 : R.cellOk (bkT k) (bkR k a b) 0 = k.right := by simp [R.cellOk, bkT, bkR]
  have h1 : R.cellOk (bkT k) (bkR k a b) 1 = true := by simp [R.cellOk, bkT, bkR, bkN, Val.right]; rfl
  have h2 : R.cellOk (bkT k) (bkR k a b) 2 = true := by simp [R.cellOk, bkT, bkR, bkN, Val.right]; rfl
  simp [h0, h1, h2, R.may]
theorem bk_sets (k : Val) : R.sets (bkT k) bkBoth = true := by rfl
theorem bk_addok (k : Val) (b : Int) : R.sets (bkT k) (bkAdd b) = true := by rfl
theorem bk_subok (k : Val) (b : Int) : R.sets (bkT k) (bkSub b) = true := by rfl
theorem bk_upd (k : Val) (a b : Int) : R.upd (bkR k a b) bkBoth bkBoth.length = some (bkR k b a) := by rfl
theorem bk_updadd (k : Val) (a b : Int) : R.upd (bkR k a b) (bkAdd b) (bkAdd b).length = if Num.is (a + b) then some (bkR k (Num.of (a + b)) b) else none := by rfl
theorem bk_updsub (k : Val) (a b : Int) : R.upd (bkR k a b) (bkSub b) (bkSub b).length = if Num.is (a - b) then some (bkR k (Num.of (a - b)) b) else none := by rfl
theorem bk_no {k : Val} {a b : Int} (h : k.right = false) (l : List SetV) : R.err (bkT k) (bkR k a b) l = 1 ∧ R.out (bkT k) (bkR k a b) l = [] := by
  unfold R.err R.out
  rw [bk_fits, h]; exact ⟨rfl, rfl⟩
theorem bk_both {k : Val} {a b : Int} (h : k.right = true) : R.err (bkT k) (bkR k a b) bkBoth = 0 ∧ R.out (bkT k) (bkR k a b) bkBoth = bkR k b a := by
  unfold R.err R.out
  rw [bk_fits, h, bk_sets, bk_upd]; exact ⟨rfl, rfl⟩
theorem bk_add_yes {k : Val} {a b : Int} (h : k.right = true) (hs : Num.is (a + b) = true) : R.err (bkT k) (bkR k a b) (bkAdd b) = 0 ∧ R.out (bkT k) (bkR k a b) (bkAdd b) = bkR k (a + b) b := by
  unfold R.err R.out
  rw [bk_fits, h, bk_addok, bk_updadd, hs, Num.of_yes hs]; exact ⟨rfl, rfl⟩
theorem bk_add_no {k : Val} {a b : Int} (h : k.right = true) (hs : Num.is (a + b) = false) : R.err (bkT k) (bkR k a b) (bkAdd b) = 21 ∧ R.out (bkT k) (bkR k a b) (bkAdd b) = [] := by
  unfold R.err R.out
  rw [bk_fits, h, bk_addok, bk_updadd, hs]; exact ⟨rfl, rfl⟩
theorem bk_sub {k : Val} {a b : Int} (h : k.right = true) (ha : Num.is a = true) : R.err (bkT k) (bkR k (a + b) b) (bkSub b) = 0 ∧ R.out (bkT k) (bkR k (a + b) b) (bkSub b) = bkR k a b := by
  have hs : Num.is (a + b - b) = true := by rw [Int.add_sub_cancel]; exact ha
  unfold R.err R.out
  rw [bk_fits, h, bk_subok, bk_updsub, hs, Num.of_yes hs, Int.add_sub_cancel]; exact ⟨rfl, rfl⟩
theorem bk_nums {k : Val} {a b : Int} (hk : Num.is k.n = true) (ha : Num.is a = true) (hb : Num.is b = true) : Nums (bkR k a b) := fun u hu => by
  simp [bkR] at hu
  rcases hu with rfl | rfl | rfl
  · exact hk
  · exact ha
  · exact hb
theorem bk_sn {o : Int} {b : Int} (hb : Num.is b = true) : SetNums [⟨1, o, 1, 0, bkN b⟩] := fun t ht => by
  simp at ht; subst ht; exact hb
theorem bk_sn2 : SetNums bkBoth := fun t ht => by
  simp [bkBoth] at ht
  rcases ht with rfl | rfl <;> (show Num.is 0 = true; decide)

set_option maxHeartbeats 4000000 in
theorem rowBack_any (k : Val) {a b : Int} (hk : Num.is k.n = true) (ha : Num.is a = true) (hb : Num.is b = true) (x : Lt W) :
    Calls Try.prog 7 #[.agg #[.bool k.t, .int .i64 k.n, .string k.s], .int .i64 a, .int .i64 b] x.1 fun e w' => e = .returned (.bool true) ∧ ∃ y : Lt W, w' = y.1 := by
  go_enter Try.func7, Try.ntmps7
  go_wp2_with fail
  refine calls_here fun W1 hW1 => ?_
  have hb0 : Below W.heap.size W W1 := hW1 ▸ x.more _
  have e0 : W1.cell? ⟨x.1.heap.size, 0, none⟩ = some (.bool k.t) := by rw [hW1]; simp
  have e1 : W1.cell? ⟨x.1.heap.size, 1, none⟩ = some (.int .i64 k.n) := by rw [hW1]; simp
  have e2 : W1.cell? ⟨x.1.heap.size, 2, none⟩ = some (.string k.s) := by rw [hW1]; simp
  clear hW1
  refine (awake_any (Lt.base W1)).mono ?_; rintro e w' ⟨rfl, y, rfl⟩
  have y0 := y.cell e0
  have q0 := fun o1 o2 : Obj => cell_old (o := o2) (cell_old (o := o1) (y.cell e0))
  have q1 := fun o1 o2 : Obj => cell_old (o := o2) (cell_old (o := o1) (y.cell e1))
  have q2 := fun o1 o2 : Obj => cell_old (o := o2) (cell_old (o := o1) (y.cell e2))
  clear e0 e1 e2
  go_wp2_with fail
  refine calls_here fun W2 hW2 => ?_
  have hb2 : Below W1.heap.size W1 W2 := by
    rw [hW2]
    exact below_then (below_then (below_then (below_then (below_then (y.more _) (below_alloc _)) (below_alloc _)) (below_alloc _)) (below_alloc _)) (below_alloc _)
  have hc : ColsAt W2 (some ⟨y.1.heap.size, 0, none⟩) (bkT k) := fun _ => ⟨_, 0, rfl, fun i u hu => by
    match i, hu with
    | 0, hu | 1, hu | 2, hu => simp [bkT] at hu; subst hu; rw [hW2]; exact cell_old (cell_old (cell_old (cell_old (cell_old (by rw [cell_new rfl]; rfl)))))
    | i + 3, hu => simp [bkT] at hu⟩
  have hbox : W2.cell? ⟨y.1.heap.size + 1, 0, none⟩ = some (.slice (some ⟨y.1.heap.size, 0, none⟩) 3 3) := by
    rw [hW2]; exact cell_old (cell_old (cell_old (cell_old (by rw [cell_new (by simp)]; rfl))))
  have hr : RowAt W2 (some ⟨y.1.heap.size + 1 + 1, 0, none⟩) (bkR k a b) := fun _ => ⟨_, 0, rfl, fun i u hu => by
    match i, hu with
    | 0, hu | 1, hu | 2, hu => simp [bkR] at hu; subst hu; rw [hW2]; exact ⟨cell_old (cell_old (cell_old (by rw [cell_new (by simp)]; rfl))), cell_old (cell_old (cell_old (by rw [cell_new (by simp)]; rfl))), cell_old (cell_old (cell_old (by rw [cell_new (by simp)]; rfl)))⟩
    | i + 3, hu => simp [bkR] at hu⟩
  have hla : SetsAt W2 (some ⟨y.1.heap.size + 1 + 1 + 1, 0, none⟩) (bkAdd b) := fun _ => ⟨_, 0, rfl, fun i u hu => by
    match i, hu with
    | 0, hu => simp [bkAdd] at hu; subst hu; rw [hW2]; exact ⟨cell_old (cell_old (by rw [cell_new (by simp)]; rfl)), cell_old (cell_old (by rw [cell_new (by simp)]; rfl)), cell_old (cell_old (by rw [cell_new (by simp)]; rfl)), cell_old (cell_old (by rw [cell_new (by simp)]; rfl)), cell_old (cell_old (by rw [cell_new (by simp)]; rfl)), cell_old (cell_old (by rw [cell_new (by simp)]; rfl)), cell_old (cell_old (by rw [cell_new (by simp)]; rfl))⟩
    | i + 1, hu => simp [bkAdd] at hu⟩
  have hls : SetsAt W2 (some ⟨y.1.heap.size + 1 + 1 + 1 + 1, 0, none⟩) (bkSub b) := fun _ => ⟨_, 0, rfl, fun i u hu => by
    match i, hu with
    | 0, hu => simp [bkSub] at hu; subst hu; rw [hW2]; exact ⟨cell_old (by rw [cell_new (by simp)]; rfl), cell_old (by rw [cell_new (by simp)]; rfl), cell_old (by rw [cell_new (by simp)]; rfl), cell_old (by rw [cell_new (by simp)]; rfl), cell_old (by rw [cell_new (by simp)]; rfl), cell_old (by rw [cell_new (by simp)]; rfl), cell_old (by rw [cell_new (by simp)]; rfl)⟩
    | i + 1, hu => simp [bkSub] at hu⟩
  have hlb : SetsAt W2 (some ⟨y.1.heap.size + 1 + 1 + 1 + 1 + 1, 0, none⟩) bkBoth := fun _ => ⟨_, 0, rfl, fun i u hu => by
    match i, hu with
    | 0, hu | 1, hu => simp [bkBoth] at hu; subst hu; rw [hW2]; exact ⟨by rw [cell_new (by simp)]; rfl, by rw [cell_new (by simp)]; rfl, by rw [cell_new (by simp)]; rfl, by rw [cell_new (by simp)]; rfl, by rw [cell_new (by simp)]; rfl, by rw [cell_new (by simp)]; rfl, by rw [cell_new (by simp)]; rfl⟩
    | i + 2, hu => simp [bkBoth] at hu⟩
  clear hW2 q0 q1 q2 y0
  have key := update_any (c := bkT k) (r := bkR k a b) (l := bkAdd b) (ca := 3) (cb := 3) (cc := 1) hc hr hla (bk_nums hk ha hb) (bk_sn hb) (fun e => by cases e) (Lt.base W2)
  refine key.mono ?_
  rintro e w3 ⟨v3, rfl, hown3, hb3⟩
  clear key
  have hb3 : Below W2.heap.size W2 w3 := hb3
  have hbox3 := (hb3.cell (cell_lt hbox)).trans hbox
  have hfit := fits_any (c := bkT k) (r := bkR k a b) (ca := 3) (cb := 3) (hc.below hb3) (hr.below hb3) (Lt.base w3)
  rw [bk_fits] at hfit
  have HFIT := Lib.hid hfit
  clear hfit
  obtain ⟨A3, ca3, rfl, hn3, hr3⟩ := hown3.row
  cases hri : k.right
  · rw [hri] at HFIT
    rw [(bk_no hri _).1]
    clear hri hr3
    go_wp2_with fail
    refine HFIT.out.mono ?_; rintro e w' ⟨rfl, z, rfl⟩
    go_wp2_with fail
    go_ret
    exact ⟨rfl, z.via (below_then hb0 (below_then hb2 hb3)), rfl⟩
  · rw [hri] at HFIT
    obtain ⟨er, her⟩ : ∃ er, er = R.err (bkT k) (bkR k a b) (bkAdd b) := ⟨_, rfl⟩
    rw [← her]
    have HER := Lib.hid her
    have HRI := Lib.hid hri
    have HR3 := Lib.hid hr3
    clear her hri hr3 hown3
    go_wp2_with fail
    refine HFIT.out.mono ?_; rintro e w' ⟨rfl, z, rfl⟩
    have hbz : Below W2.heap.size W2 z.1 := below_then hb3 z.2
    have hboxz := (hbz.cell (cell_lt hbox)).trans hbox
    go_wp2_with fail
    have key := update_any (c := bkT k) (r := bkR k a b) (l := bkBoth) (ca := 3) (cb := 3) (cc := 2) (hc.below hbz) (hr.below hbz) (hlb.below hbz) (bk_nums hk ha hb) bk_sn2 (fun e => by cases e) (Lt.base z.1)
    refine key.mono ?_
    rintro e w4 ⟨v4, rfl, hown4, hb4⟩
    clear key
    have hb4 : Below z.1.heap.size z.1 w4 := hb4
    rw [(bk_both HRI.out).1]
    rw [(bk_both HRI.out).2] at hown4
    obtain ⟨A4, ca4, rfl, _, ho4⟩ := hown4
    obtain ⟨g4, rfl, _, hog4⟩ := ho4 (by simp [bkR])
    have p1 : w4.cell? ⟨g4, 4, none⟩ = some (.int .i64 b) := (hog4.cell 1 _ rfl).2.1
    have p2 : w4.cell? ⟨g4, 7, none⟩ = some (.int .i64 a) := (hog4.cell 2 _ rfl).2.1
    clear ho4
    have hbw4 : Below W2.heap.size W2 w4 := below_then hbz hb4
    have hbox4 := (hbw4.cell (cell_lt hbox)).trans hbox
    have nb : (b != b) = false := by simp
    have na : (a != a) = false := by simp
    cases hs : Num.is (a + b)
    · obtain rfl : er = 21 := HER.out.trans (bk_add_no HRI.out hs).1
      clear hs
      go_wp2_with fail
      go_ret
      exact ⟨rfl, (Lt.base w4).via (below_then hb0 (below_then hb2 hbw4)), rfl⟩
    · obtain rfl : er = 0 := HER.out.trans (bk_add_yes HRI.out hs).1
      have hx := HR3.out
      rw [(bk_add_yes HRI.out hs).2] at hx ⊢
      have hx4 := hx.below (below_then z.2 hb4)
      have HS := Lib.hid hs
      clear hs hx
      go_wp2_with fail
      have key := update_any (c := bkT k) (r := bkR k (a + b) b) (l := bkSub b) (ca := 3) (cb := ca3) (cc := 1) (hc.below hbw4) hx4 (hls.below hbw4) (bk_nums hk HS.out hb) (bk_sn hb) hn3 (Lt.base w4)
      refine key.mono ?_
      rintro e w5 ⟨v5, rfl, hown5, hb5⟩
      clear key
      have hb5 : Below w4.heap.size w4 w5 := hb5
      rw [(bk_sub HRI.out ha).1]
      rw [(bk_sub HRI.out ha).2] at hown5
      obtain ⟨A5, ca5, rfl, _, hr5⟩ := hown5.row
      clear hown5
      have hbw5 : Below W2.heap.size W2 w5 := below_then hbw4 hb5
      have hsame := rsame_any (r := bkR k a b) (s := bkR k a b) (ca := ca5) (cb := 3) hr5 (hr.below hbw5) (by simp [bkR]) (Lt.base w5)
      rw [decide_eq_true rfl] at hsame
      have HSA := Lib.hid hsame
      clear hsame p1 p2
      go_wp2_with fail
      refine HSA.out.mono ?_; rintro e w' ⟨rfl, z6, rfl⟩
      go_wp2_with fail
      go_ret
      exact ⟨rfl, z6.via (below_then hb0 (below_then hb2 hbw5)), rfl⟩
end Go.Proofs.Ytpgbngmekfakkaa
