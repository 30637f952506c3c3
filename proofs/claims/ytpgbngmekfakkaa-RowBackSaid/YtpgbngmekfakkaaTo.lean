/-
  What a set's column comes to: the program's answer and the document's. Conditions: row and set lie in memory as they read, their numbers are of 64 bits, and the set may be a table's whose columns are as many as the row's values.
-/
import Derived.Test.YtpgbngmekfakkaaCheckRef
namespace Go.Proofs.Ytpgbngmekfakkaa
open Go.RowKit
variable {W : World}

namespace R
def zero : Val := ⟨false, 0, ⟨#[]⟩⟩
def num (z : Int) : Val := ⟨false, Num.of z, ⟨#[]⟩⟩
def nth (r : List Val) (i : Int) : Val := r.getD i.toNat zero
def toV (r : List Val) (s : SetV) : Val := if s.op = 1 then s.v else if s.op = 2 then nth r s.src else if s.op = 3 then num ((nth r s.src).n + s.v.n) else if s.op = 4 then num ((nth r s.src).n - s.v.n)
  else if s.op = 5 then num ((nth r s.src).n * s.v.n) else num ((nth r s.src).n + (nth r s.oth).n)
def toIs (r : List Val) (s : SetV) : Bool := if s.op = 1 then true else if s.op = 2 then true else if s.op = 3 then Num.is ((nth r s.src).n + s.v.n) else if s.op = 4 then Num.is ((nth r s.src).n - s.v.n)
  else if s.op = 5 then Num.is ((nth r s.src).n * s.v.n) else Num.is ((nth r s.src).n + (nth r s.oth).n)
end R
/-- All of a row's numbers are of 64 bits. -/
def Nums (r : List Val) : Prop := ∀ u ∈ r, Num.is u.n = true

theorem RowAt.nth {A : Option Addr} {r : List Val} (h : RowAt W A r) {i : Int} (h0 : 0 ≤ i) (h1 : i < r.length) : ∃ b o, A = some ⟨b, o, none⟩ ∧
    W.cell? ⟨b, o + i.toNat * 3, none⟩ = some (.bool (R.nth r i).t) ∧ W.cell? ⟨b, o + i.toNat * 3 + 1, none⟩ = some (.int .i64 (R.nth r i).n) ∧ W.cell? ⟨b, o + i.toNat * 3 + 2, none⟩ = some (.string (R.nth r i).s) := by
  have hlt : i.toNat < r.length := by omega
  obtain ⟨b, o, hA, hc⟩ := h (fun e => by subst e; simp at hlt)
  have hu : r[i.toNat]? = some (R.nth r i) := by
    unfold R.nth
    rw [List.getElem?_eq_getElem hlt, List.getD_eq_getElem?_getD, List.getElem?_eq_getElem hlt]; rfl
  exact ⟨b, o, hA, hc _ _ hu⟩
theorem Nums.nth {r : List Val} (h : Nums r) (i : Int) : Num.is (R.nth r i).n = true := by
  unfold R.nth
  rw [List.getD_eq_getElem?_getD]
  cases hg : r[i.toNat]? with
  | none => decide
  | some u => exact h u (List.mem_of_getElem? hg)

theorem ret_to {r : List Val} {s : SetV} {v : Val} {b : Bool} (hv : R.toV r s = v) (hi : R.toIs r s = b) :
    Ending.returned (.tuple #[.agg #[.bool v.t, .int .i64 v.n, .string v.s], .bool b]) = .returned (.tuple #[.agg #[.bool (R.toV r s).t, .int .i64 (R.toV r s).n, .string (R.toV r s).s], .bool (R.toIs r s)]) := by rw [hv, hi]
theorem add_lit {a b : Int} (ha : Num.is a = true) (hb : Num.is b = true) (x : Lt W) : Calls Try.prog 33 #[.int .i64 a, .int .i64 b] x.1 fun e w' => e = .returned (.tuple #[.int .i64 (Num.of (a + b)), .bool (Num.is (a + b))]) ∧ ∃ y : Lt W, w' = y.1 := add_any ha hb x
theorem sub_lit {a b : Int} (ha : Num.is a = true) (hb : Num.is b = true) (x : Lt W) : Calls Try.prog 34 #[.int .i64 a, .int .i64 b] x.1 fun e w' => e = .returned (.tuple #[.int .i64 (Num.of (a - b)), .bool (Num.is (a - b))]) ∧ ∃ y : Lt W, w' = y.1 := sub_any ha hb x
theorem times_lit {a b : Int} (ha : Num.is a = true) (hb : Num.is b = true) (x : Lt W) : Calls Try.prog 35 #[.int .i64 a, .int .i64 b] x.1 fun e w' => e = .returned (.tuple #[.int .i64 (Num.of (a * b)), .bool (Num.is (a * b))]) ∧ ∃ y : Lt W, w' = y.1 := times_any ha hb x
theorem radd_lit {a b : Int} (ha : Num.is a = true) (hb : Num.is b = true) (x : Lt W) : Calls Try.prog 36 #[.int .i64 a, .int .i64 b] x.1 fun e w' => e = .returned (.tuple #[.int .i64 (Num.of (a + b)), .bool (Num.is (a + b))]) ∧ ∃ y : Lt W, w' = y.1 := radd_any ha hb x
theorem rsub_lit {a b : Int} (ha : Num.is a = true) (hb : Num.is b = true) (x : Lt W) : Calls Try.prog 37 #[.int .i64 a, .int .i64 b] x.1 fun e w' => e = .returned (.tuple #[.int .i64 (Num.of (a - b)), .bool (Num.is (a - b))]) ∧ ∃ y : Lt W, w' = y.1 := rsub_any ha hb x
theorem rtimes_lit {a b : Int} (ha : Num.is a = true) (hb : Num.is b = true) (x : Lt W) : Calls Try.prog 38 #[.int .i64 a, .int .i64 b] x.1 fun e w' => e = .returned (.tuple #[.int .i64 (Num.of (a * b)), .bool (Num.is (a * b))]) ∧ ∃ y : Lt W, w' = y.1 := rtimes_any ha hb x
set_option maxHeartbeats 1000000 in
theorem to_1 {A : Option Addr} {r : List Val} {s : SetV} {ca : Nat} (hop : s.op = 1) (x : Lt W) :
    Calls Try.prog 27 #[.slice A r.length ca, .agg #[.int .i64 s.col, .int .i64 s.op, .int .i64 s.src, .int .i64 s.oth, .bool s.v.t, .int .i64 s.v.n, .string s.v.s]] x.1 fun e w' => e = .returned (.tuple #[.agg #[.bool (R.toV r s).t, .int .i64 (R.toV r s).n, .string (R.toV r s).s], .bool (R.toIs r s)]) ∧ ∃ y : Lt W, w' = y.1 := by
  have HV := Lib.hid (show R.toV r s = s.v by simp [R.toV, hop])
  have HI := Lib.hid (show R.toIs r s = true by simp [R.toIs, hop])
  go_enter Try.func27, Try.ntmps27
  go_wp2_with fail
  refine bodyPost_ret (v := .tuple #[.agg #[.bool s.v.t, .int .i64 s.v.n, .string s.v.s], .bool true]) (by simp [results, Try.results27, go_sem]) rfl ⟨ret_to HV.out HI.out, x.end_ ((below_alloc _).alloc (by simp) _)⟩
set_option maxHeartbeats 1000000 in
theorem to_2 {A : Option Addr} {r : List Val} {s : SetV} {ca : Nat} (hr : RowAt W A r) (h0 : 0 ≤ s.src) (h1 : s.src < r.length) (hop : s.op = 2) (x : Lt W) :
    Calls Try.prog 27 #[.slice A r.length ca, .agg #[.int .i64 s.col, .int .i64 s.op, .int .i64 s.src, .int .i64 s.oth, .bool s.v.t, .int .i64 s.v.n, .string s.v.s]] x.1 fun e w' => e = .returned (.tuple #[.agg #[.bool (R.toV r s).t, .int .i64 (R.toV r s).n, .string (R.toV r s).s], .bool (R.toIs r s)]) ∧ ∃ y : Lt W, w' = y.1 := by
  have HV := Lib.hid (show R.toV r s = R.nth r s.src by simp [R.toV, hop])
  have HI := Lib.hid (show R.toIs r s = true by simp [R.toIs, hop])
  obtain ⟨b, o, rfl, c0, c1, c2⟩ := hr.nth h0 h1
  have x0 : ∀ o1 o2, ((x.1.alloc o1).alloc o2).cell? ⟨b, o + s.src.toNat * 3, none⟩ = _ := fun o1 o2 => ((x.more2 o1 o2).cell (cell_lt c0)).trans c0
  have x1 : ∀ o1 o2, ((x.1.alloc o1).alloc o2).cell? ⟨b, o + s.src.toNat * 3 + 1, none⟩ = _ := fun o1 o2 => ((x.more2 o1 o2).cell (cell_lt c1)).trans c1
  have x2 : ∀ o1 o2, ((x.1.alloc o1).alloc o2).cell? ⟨b, o + s.src.toNat * 3 + 2, none⟩ = _ := fun o1 o2 => ((x.more2 o1 o2).cell (cell_lt c2)).trans c2
  clear c0 c1 c2 hr
  go_enter Try.func27, Try.ntmps27
  go_wp2_with fail
  refine bodyPost_ret (v := .tuple #[.agg #[.bool (R.nth r s.src).t, .int .i64 (R.nth r s.src).n, .string (R.nth r s.src).s], .bool true]) (by simp [results, Try.results27, go_sem]) rfl ⟨ret_to HV.out HI.out, x.end_ ((below_alloc _).alloc (by simp) _)⟩
set_option maxHeartbeats 1000000 in
theorem to_3 {A : Option Addr} {r : List Val} {s : SetV} {ca : Nat} (hr : RowAt W A r) (hn : Nums r) (hsn : Num.is s.v.n = true) (h0 : 0 ≤ s.src) (h1 : s.src < r.length) (hop : s.op = 3) (x : Lt W) :
    Calls Try.prog 27 #[.slice A r.length ca, .agg #[.int .i64 s.col, .int .i64 s.op, .int .i64 s.src, .int .i64 s.oth, .bool s.v.t, .int .i64 s.v.n, .string s.v.s]] x.1 fun e w' => e = .returned (.tuple #[.agg #[.bool (R.toV r s).t, .int .i64 (R.toV r s).n, .string (R.toV r s).s], .bool (R.toIs r s)]) ∧ ∃ y : Lt W, w' = y.1 := by
  have HV := Lib.hid (show R.toV r s = R.num ((R.nth r s.src).n + s.v.n) by simp [R.toV, hop])
  have HI := Lib.hid (show R.toIs r s = Num.is ((R.nth r s.src).n + s.v.n) by simp [R.toIs, hop])
  obtain ⟨b, o, hA, c0, c1, c2⟩ := hr.nth h0 h1
  have H1 := Lib.hid (hn.nth s.src)
  subst hA
  have H2 := Lib.hid hsn
  clear hr hn hsn c0 c2
  go_enter Try.func27, Try.ntmps27
  go_wp2_with fail
  refine wp_here fun W1 hW1 => ?_
  have hb0 : Below W.heap.size W W1 := hW1 ▸ x.more2 _ _
  have w1 : W1.cell? ⟨x.1.heap.size, 2, none⟩ = some (.int .i64 s.src) := by rw [hW1]; simp
  have w2 : W1.cell? ⟨x.1.heap.size, 3, none⟩ = some (.int .i64 s.oth) := by rw [hW1]; simp
  have w3 : W1.cell? ⟨x.1.heap.size, 5, none⟩ = some (.int .i64 s.v.n) := by rw [hW1]; simp
  have w4 : W1.cell? ⟨x.1.heap.size + 1, 0, none⟩ = some (.bool false) := by rw [hW1]; simp
  have w5 : W1.cell? ⟨x.1.heap.size + 1, 1, none⟩ = some (.int .i64 0) := by rw [hW1]; simp
  have w6 : W1.cell? ⟨x.1.heap.size + 1, 2, none⟩ = some (.string ⟨#[]⟩) := by rw [hW1]; simp
  have hsz : x.1.heap.size + 1 < W1.heap.size := cell_lt w4
  have f0 : ∀ j, W1.frozen? ⟨x.1.heap.size + 1, j, none⟩ = false := fun j => by rw [hW1, frozen?_alloc_cells, frozen?_alloc_cells]; simp [World.frozen?]
  have z1 := fun z : Lt W1 => z.cell w1
  have z2 := fun z : Lt W1 => z.cell w2
  have z3 := fun z : Lt W1 => z.cell w3
  have z4 := fun z : Lt W1 => z.cell w4
  have z5 := fun z : Lt W1 => z.cell w5
  have z6 := fun z : Lt W1 => z.cell w6
  have z7 : ∀ z : Lt W1, ∀ j, z.1.frozen? ⟨x.1.heap.size + 1, j, none⟩ = false := fun z j => (z.2.frozen hsz).trans (f0 j)
  have zc := fun z : Lt W1 => z.old hb0 c1
  clear hW1 w1 w2 w3 w4 w5 w6 f0
  refine wp_region_here (by kernel_rfl) (by kernel_rfl) ?_
  repeat (go_big_quiet_step ((go_at_call 33; exact add_lit H1.out H2.out _)))
  refine wpQuiet_nil ?_; intro _ hw'; obtain ⟨z, rfl⟩ := hw'
  go_wp2_with fail
  refine bodyPost_ret (v := .tuple #[.agg #[.bool false, .int .i64 (Num.of ((R.nth r s.src).n + s.v.n)), .string ⟨#[]⟩], .bool (Num.is ((R.nth r s.src).n + s.v.n))]) (by simp [results, Try.results27, go_sem, z4, z5, z6]) rfl ⟨ret_to HV.out HI.out, ?_⟩
  have hge : W.heap.size ≤ x.1.heap.size + 1 := by have := x.2.size; omega
  exact ⟨⟨_, (((z.via hb0).2.setCell hge _).setCell hge _).setCell hge _⟩, rfl⟩
set_option maxHeartbeats 1000000 in
theorem to_4 {A : Option Addr} {r : List Val} {s : SetV} {ca : Nat} (hr : RowAt W A r) (hn : Nums r) (hsn : Num.is s.v.n = true) (h0 : 0 ≤ s.src) (h1 : s.src < r.length) (hop : s.op = 4) (x : Lt W) :
    Calls Try.prog 27 #[.slice A r.length ca, .agg #[.int .i64 s.col, .int .i64 s.op, .int .i64 s.src, .int .i64 s.oth, .bool s.v.t, .int .i64 s.v.n, .string s.v.s]] x.1 fun e w' => e = .returned (.tuple #[.agg #[.bool (R.toV r s).t, .int .i64 (R.toV r s).n, .string (R.toV r s).s], .bool (R.toIs r s)]) ∧ ∃ y : Lt W, w' = y.1 := by
  have HV := Lib.hid (show R.toV r s = R.num ((R.nth r s.src).n - s.v.n) by simp [R.toV, hop])
  have HI := Lib.hid (show R.toIs r s = Num.is ((R.nth r s.src).n - s.v.n) by simp [R.toIs, hop])
  obtain ⟨b, o, hA, c0, c1, c2⟩ := hr.nth h0 h1
  have H1 := Lib.hid (hn.nth s.src)
  subst hA
  have H2 := Lib.hid hsn
  clear hr hn hsn c0 c2
  go_enter Try.func27, Try.ntmps27
  go_wp2_with fail
  refine wp_here fun W1 hW1 => ?_
  have hb0 : Below W.heap.size W W1 := hW1 ▸ x.more2 _ _
  have w1 : W1.cell? ⟨x.1.heap.size, 2, none⟩ = some (.int .i64 s.src) := by rw [hW1]; simp
  have w2 : W1.cell? ⟨x.1.heap.size, 3, none⟩ = some (.int .i64 s.oth) := by rw [hW1]; simp
  have w3 : W1.cell? ⟨x.1.heap.size, 5, none⟩ = some (.int .i64 s.v.n) := by rw [hW1]; simp
  have w4 : W1.cell? ⟨x.1.heap.size + 1, 0, none⟩ = some (.bool false) := by rw [hW1]; simp
  have w5 : W1.cell? ⟨x.1.heap.size + 1, 1, none⟩ = some (.int .i64 0) := by rw [hW1]; simp
  have w6 : W1.cell? ⟨x.1.heap.size + 1, 2, none⟩ = some (.string ⟨#[]⟩) := by rw [hW1]; simp
  have hsz : x.1.heap.size + 1 < W1.heap.size := cell_lt w4
  have f0 : ∀ j, W1.frozen? ⟨x.1.heap.size + 1, j, none⟩ = false := fun j => by rw [hW1, frozen?_alloc_cells, frozen?_alloc_cells]; simp [World.frozen?]
  have z1 := fun z : Lt W1 => z.cell w1
  have z2 := fun z : Lt W1 => z.cell w2
  have z3 := fun z : Lt W1 => z.cell w3
  have z4 := fun z : Lt W1 => z.cell w4
  have z5 := fun z : Lt W1 => z.cell w5
  have z6 := fun z : Lt W1 => z.cell w6
  have z7 : ∀ z : Lt W1, ∀ j, z.1.frozen? ⟨x.1.heap.size + 1, j, none⟩ = false := fun z j => (z.2.frozen hsz).trans (f0 j)
  have zc := fun z : Lt W1 => z.old hb0 c1
  clear hW1 w1 w2 w3 w4 w5 w6 f0
  refine wp_region_here (by kernel_rfl) (by kernel_rfl) ?_
  repeat (go_big_quiet_step ((go_at_call 34; exact sub_lit H1.out H2.out _)))
  refine wpQuiet_nil ?_; intro _ hw'; obtain ⟨z, rfl⟩ := hw'
  go_wp2_with fail
  refine bodyPost_ret (v := .tuple #[.agg #[.bool false, .int .i64 (Num.of ((R.nth r s.src).n - s.v.n)), .string ⟨#[]⟩], .bool (Num.is ((R.nth r s.src).n - s.v.n))]) (by simp [results, Try.results27, go_sem, z4, z5, z6]) rfl ⟨ret_to HV.out HI.out, ?_⟩
  have hge : W.heap.size ≤ x.1.heap.size + 1 := by have := x.2.size; omega
  exact ⟨⟨_, (((z.via hb0).2.setCell hge _).setCell hge _).setCell hge _⟩, rfl⟩
set_option maxHeartbeats 1000000 in
theorem to_5 {A : Option Addr} {r : List Val} {s : SetV} {ca : Nat} (hr : RowAt W A r) (hn : Nums r) (hsn : Num.is s.v.n = true) (h0 : 0 ≤ s.src) (h1 : s.src < r.length) (hop : s.op = 5) (x : Lt W) :
    Calls Try.prog 27 #[.slice A r.length ca, .agg #[.int .i64 s.col, .int .i64 s.op, .int .i64 s.src, .int .i64 s.oth, .bool s.v.t, .int .i64 s.v.n, .string s.v.s]] x.1 fun e w' => e = .returned (.tuple #[.agg #[.bool (R.toV r s).t, .int .i64 (R.toV r s).n, .string (R.toV r s).s], .bool (R.toIs r s)]) ∧ ∃ y : Lt W, w' = y.1 := by
  have HV := Lib.hid (show R.toV r s = R.num ((R.nth r s.src).n * s.v.n) by simp [R.toV, hop])
  have HI := Lib.hid (show R.toIs r s = Num.is ((R.nth r s.src).n * s.v.n) by simp [R.toIs, hop])
  obtain ⟨b, o, hA, c0, c1, c2⟩ := hr.nth h0 h1
  have H1 := Lib.hid (hn.nth s.src)
  subst hA
  have H2 := Lib.hid hsn
  clear hr hn hsn c0 c2
  go_enter Try.func27, Try.ntmps27
  go_wp2_with fail
  refine wp_here fun W1 hW1 => ?_
  have hb0 : Below W.heap.size W W1 := hW1 ▸ x.more2 _ _
  have w1 : W1.cell? ⟨x.1.heap.size, 2, none⟩ = some (.int .i64 s.src) := by rw [hW1]; simp
  have w2 : W1.cell? ⟨x.1.heap.size, 3, none⟩ = some (.int .i64 s.oth) := by rw [hW1]; simp
  have w3 : W1.cell? ⟨x.1.heap.size, 5, none⟩ = some (.int .i64 s.v.n) := by rw [hW1]; simp
  have w4 : W1.cell? ⟨x.1.heap.size + 1, 0, none⟩ = some (.bool false) := by rw [hW1]; simp
  have w5 : W1.cell? ⟨x.1.heap.size + 1, 1, none⟩ = some (.int .i64 0) := by rw [hW1]; simp
  have w6 : W1.cell? ⟨x.1.heap.size + 1, 2, none⟩ = some (.string ⟨#[]⟩) := by rw [hW1]; simp
  have hsz : x.1.heap.size + 1 < W1.heap.size := cell_lt w4
  have f0 : ∀ j, W1.frozen? ⟨x.1.heap.size + 1, j, none⟩ = false := fun j => by rw [hW1, frozen?_alloc_cells, frozen?_alloc_cells]; simp [World.frozen?]
  have z1 := fun z : Lt W1 => z.cell w1
  have z2 := fun z : Lt W1 => z.cell w2
  have z3 := fun z : Lt W1 => z.cell w3
  have z4 := fun z : Lt W1 => z.cell w4
  have z5 := fun z : Lt W1 => z.cell w5
  have z6 := fun z : Lt W1 => z.cell w6
  have z7 : ∀ z : Lt W1, ∀ j, z.1.frozen? ⟨x.1.heap.size + 1, j, none⟩ = false := fun z j => (z.2.frozen hsz).trans (f0 j)
  have zc := fun z : Lt W1 => z.old hb0 c1
  clear hW1 w1 w2 w3 w4 w5 w6 f0
  refine wp_region_here (by kernel_rfl) (by kernel_rfl) ?_
  repeat (go_big_quiet_step ((go_at_call 35; exact times_lit H1.out H2.out _)))
  refine wpQuiet_nil ?_; intro _ hw'; obtain ⟨z, rfl⟩ := hw'
  go_wp2_with fail
  refine bodyPost_ret (v := .tuple #[.agg #[.bool false, .int .i64 (Num.of ((R.nth r s.src).n * s.v.n)), .string ⟨#[]⟩], .bool (Num.is ((R.nth r s.src).n * s.v.n))]) (by simp [results, Try.results27, go_sem, z4, z5, z6]) rfl ⟨ret_to HV.out HI.out, ?_⟩
  have hge : W.heap.size ≤ x.1.heap.size + 1 := by have := x.2.size; omega
  exact ⟨⟨_, (((z.via hb0).2.setCell hge _).setCell hge _).setCell hge _⟩, rfl⟩
set_option maxHeartbeats 1000000 in
theorem to_6 {A : Option Addr} {r : List Val} {s : SetV} {ca : Nat} (hr : RowAt W A r) (hn : Nums r) (h0 : 0 ≤ s.src) (h1 : s.src < r.length) (k0 : 0 ≤ s.oth) (k1 : s.oth < r.length) (hop : s.op = 6) (x : Lt W) :
    Calls Try.prog 27 #[.slice A r.length ca, .agg #[.int .i64 s.col, .int .i64 s.op, .int .i64 s.src, .int .i64 s.oth, .bool s.v.t, .int .i64 s.v.n, .string s.v.s]] x.1 fun e w' => e = .returned (.tuple #[.agg #[.bool (R.toV r s).t, .int .i64 (R.toV r s).n, .string (R.toV r s).s], .bool (R.toIs r s)]) ∧ ∃ y : Lt W, w' = y.1 := by
  have HV := Lib.hid (show R.toV r s = R.num ((R.nth r s.src).n + (R.nth r s.oth).n) by simp [R.toV, hop])
  have HI := Lib.hid (show R.toIs r s = Num.is ((R.nth r s.src).n + (R.nth r s.oth).n) by simp [R.toIs, hop])
  obtain ⟨b, o, hA, c0, c1, c2⟩ := hr.nth h0 h1
  have H1 := Lib.hid (hn.nth s.src)
  obtain ⟨b', o', hA', d0, d1, d2⟩ := hr.nth k0 k1
  rw [hA] at hA'
  simp only [Option.some.injEq, Addr.mk.injEq, and_true] at hA'
  obtain ⟨rfl, rfl⟩ := hA'
  subst hA
  have H2 := Lib.hid (hn.nth s.oth)
  clear hr hn d0 d2 c0 c2
  go_enter Try.func27, Try.ntmps27
  go_wp2_with fail
  refine wp_here fun W1 hW1 => ?_
  have hb0 : Below W.heap.size W W1 := hW1 ▸ x.more2 _ _
  have w1 : W1.cell? ⟨x.1.heap.size, 2, none⟩ = some (.int .i64 s.src) := by rw [hW1]; simp
  have w2 : W1.cell? ⟨x.1.heap.size, 3, none⟩ = some (.int .i64 s.oth) := by rw [hW1]; simp
  have w3 : W1.cell? ⟨x.1.heap.size, 5, none⟩ = some (.int .i64 s.v.n) := by rw [hW1]; simp
  have w4 : W1.cell? ⟨x.1.heap.size + 1, 0, none⟩ = some (.bool false) := by rw [hW1]; simp
  have w5 : W1.cell? ⟨x.1.heap.size + 1, 1, none⟩ = some (.int .i64 0) := by rw [hW1]; simp
  have w6 : W1.cell? ⟨x.1.heap.size + 1, 2, none⟩ = some (.string ⟨#[]⟩) := by rw [hW1]; simp
  have hsz : x.1.heap.size + 1 < W1.heap.size := cell_lt w4
  have f0 : ∀ j, W1.frozen? ⟨x.1.heap.size + 1, j, none⟩ = false := fun j => by rw [hW1, frozen?_alloc_cells, frozen?_alloc_cells]; simp [World.frozen?]
  have z1 := fun z : Lt W1 => z.cell w1
  have z2 := fun z : Lt W1 => z.cell w2
  have z3 := fun z : Lt W1 => z.cell w3
  have z4 := fun z : Lt W1 => z.cell w4
  have z5 := fun z : Lt W1 => z.cell w5
  have z6 := fun z : Lt W1 => z.cell w6
  have z7 : ∀ z : Lt W1, ∀ j, z.1.frozen? ⟨x.1.heap.size + 1, j, none⟩ = false := fun z j => (z.2.frozen hsz).trans (f0 j)
  have zc := fun z : Lt W1 => z.old hb0 c1
  have zd := fun z : Lt W1 => z.old hb0 d1
  clear hW1 w1 w2 w3 w4 w5 w6 f0
  refine wp_region_here (by kernel_rfl) (by kernel_rfl) ?_
  repeat (go_big_quiet_step ((go_at_call 33; exact add_lit H1.out H2.out _)))
  refine wpQuiet_nil ?_; intro _ hw'; obtain ⟨z, rfl⟩ := hw'
  go_wp2_with fail
  refine bodyPost_ret (v := .tuple #[.agg #[.bool false, .int .i64 (Num.of ((R.nth r s.src).n + (R.nth r s.oth).n)), .string ⟨#[]⟩], .bool (Num.is ((R.nth r s.src).n + (R.nth r s.oth).n))]) (by simp [results, Try.results27, go_sem, z4, z5, z6]) rfl ⟨ret_to HV.out HI.out, ?_⟩
  have hge : W.heap.size ≤ x.1.heap.size + 1 := by have := x.2.size; omega
  exact ⟨⟨_, (((z.via hb0).2.setCell hge _).setCell hge _).setCell hge _⟩, rfl⟩
theorem to_any {A : Option Addr} {c : List Bool} {r : List Val} {s : SetV} {ca : Nat} (hr : RowAt W A r) (hn : Nums r) (hsn : Num.is s.v.n = true) (hl : r.length = c.length) (hm : R.maySet c s = true) (x : Lt W) :
    Calls Try.prog 27 #[.slice A r.length ca, .agg #[.int .i64 s.col, .int .i64 s.op, .int .i64 s.src, .int .i64 s.oth, .bool s.v.t, .int .i64 s.v.n, .string s.v.s]] x.1 fun e w' => e = .returned (.tuple #[.agg #[.bool (R.toV r s).t, .int .i64 (R.toV r s).n, .string (R.toV r s).s], .bool (R.toIs r s)]) ∧ ∃ y : Lt W, w' = y.1 := by
  have col : ∀ i b, R.colAt c i = some b → 0 ≤ i ∧ i < r.length := fun i b h => by
    obtain ⟨h0, h1, _⟩ := R.colAt_some h
    exact ⟨h0, by omega⟩
  have num : ∀ i, R.isNum c i = true → 0 ≤ i ∧ i < r.length := fun i h => col i false (by simpa [R.isNum] using h)
  unfold R.maySet at hm
  cases hk : R.colAt c s.col with
  | none => rw [hk] at hm; cases hm
  | some k =>
    rw [hk] at hm
    simp only [Bool.and_eq_true, decide_eq_true_eq] at hm
    obtain ⟨_, hm⟩ := hm
    by_cases o1 : s.op = 1
    · exact to_1 o1 x
    rw [if_neg o1] at hm
    by_cases o2 : s.op = 2
    · rw [if_pos o2] at hm
      obtain ⟨a, b⟩ := col _ _ (of_decide_eq_true hm)
      exact to_2 hr a b o2 x
    rw [if_neg o2] at hm
    by_cases o3 : s.op = 3 ∨ s.op = 4 ∨ s.op = 5
    · rw [if_pos o3] at hm
      simp only [Bool.and_eq_true] at hm
      obtain ⟨a, b⟩ := num _ hm.2.1
      rcases o3 with h | h | h
      · exact to_3 hr hn hsn a b h x
      · exact to_4 hr hn hsn a b h x
      · exact to_5 hr hn hsn a b h x
    rw [if_neg o3] at hm
    by_cases o6 : s.op = 6
    · rw [if_pos o6] at hm
      simp only [Bool.and_eq_true] at hm
      obtain ⟨a, b⟩ := num _ hm.2.1
      obtain ⟨a', b'⟩ := num _ hm.2.2
      exact to_6 hr hn a b a' b' o6 x
    · rw [if_neg o6] at hm
      cases hm
set_option maxHeartbeats 1000000 in
theorem rto_1 {A : Option Addr} {r : List Val} {s : SetV} {ca : Nat} (hop : s.op = 1) (x : Lt W) :
    Calls Try.prog 28 #[.slice A r.length ca, .agg #[.int .i64 s.col, .int .i64 s.op, .int .i64 s.src, .int .i64 s.oth, .bool s.v.t, .int .i64 s.v.n, .string s.v.s]] x.1 fun e w' => e = .returned (.tuple #[.agg #[.bool (R.toV r s).t, .int .i64 (R.toV r s).n, .string (R.toV r s).s], .bool (R.toIs r s)]) ∧ ∃ y : Lt W, w' = y.1 := by
  have HV := Lib.hid (show R.toV r s = s.v by simp [R.toV, hop])
  have HI := Lib.hid (show R.toIs r s = true by simp [R.toIs, hop])
  go_enter Try.func28, Try.ntmps28
  go_wp2_with fail
  refine bodyPost_ret (v := .tuple #[.agg #[.bool s.v.t, .int .i64 s.v.n, .string s.v.s], .bool true]) (by simp [results, Try.results28, go_sem]) rfl ⟨ret_to HV.out HI.out, x.end_ ((below_alloc _).alloc (by simp) _)⟩
set_option maxHeartbeats 1000000 in
theorem rto_2 {A : Option Addr} {r : List Val} {s : SetV} {ca : Nat} (hr : RowAt W A r) (h0 : 0 ≤ s.src) (h1 : s.src < r.length) (hop : s.op = 2) (x : Lt W) :
    Calls Try.prog 28 #[.slice A r.length ca, .agg #[.int .i64 s.col, .int .i64 s.op, .int .i64 s.src, .int .i64 s.oth, .bool s.v.t, .int .i64 s.v.n, .string s.v.s]] x.1 fun e w' => e = .returned (.tuple #[.agg #[.bool (R.toV r s).t, .int .i64 (R.toV r s).n, .string (R.toV r s).s], .bool (R.toIs r s)]) ∧ ∃ y : Lt W, w' = y.1 := by
  have HV := Lib.hid (show R.toV r s = R.nth r s.src by simp [R.toV, hop])
  have HI := Lib.hid (show R.toIs r s = true by simp [R.toIs, hop])
  obtain ⟨b, o, rfl, c0, c1, c2⟩ := hr.nth h0 h1
  have x0 : ∀ o1 o2, ((x.1.alloc o1).alloc o2).cell? ⟨b, o + s.src.toNat * 3, none⟩ = _ := fun o1 o2 => ((x.more2 o1 o2).cell (cell_lt c0)).trans c0
  have x1 : ∀ o1 o2, ((x.1.alloc o1).alloc o2).cell? ⟨b, o + s.src.toNat * 3 + 1, none⟩ = _ := fun o1 o2 => ((x.more2 o1 o2).cell (cell_lt c1)).trans c1
  have x2 : ∀ o1 o2, ((x.1.alloc o1).alloc o2).cell? ⟨b, o + s.src.toNat * 3 + 2, none⟩ = _ := fun o1 o2 => ((x.more2 o1 o2).cell (cell_lt c2)).trans c2
  clear c0 c1 c2 hr
  go_enter Try.func28, Try.ntmps28
  go_wp2_with fail
  refine bodyPost_ret (v := .tuple #[.agg #[.bool (R.nth r s.src).t, .int .i64 (R.nth r s.src).n, .string (R.nth r s.src).s], .bool true]) (by simp [results, Try.results28, go_sem]) rfl ⟨ret_to HV.out HI.out, x.end_ ((below_alloc _).alloc (by simp) _)⟩
set_option maxHeartbeats 1000000 in
theorem rto_3 {A : Option Addr} {r : List Val} {s : SetV} {ca : Nat} (hr : RowAt W A r) (hn : Nums r) (hsn : Num.is s.v.n = true) (h0 : 0 ≤ s.src) (h1 : s.src < r.length) (hop : s.op = 3) (x : Lt W) :
    Calls Try.prog 28 #[.slice A r.length ca, .agg #[.int .i64 s.col, .int .i64 s.op, .int .i64 s.src, .int .i64 s.oth, .bool s.v.t, .int .i64 s.v.n, .string s.v.s]] x.1 fun e w' => e = .returned (.tuple #[.agg #[.bool (R.toV r s).t, .int .i64 (R.toV r s).n, .string (R.toV r s).s], .bool (R.toIs r s)]) ∧ ∃ y : Lt W, w' = y.1 := by
  have HV := Lib.hid (show R.toV r s = R.num ((R.nth r s.src).n + s.v.n) by simp [R.toV, hop])
  have HI := Lib.hid (show R.toIs r s = Num.is ((R.nth r s.src).n + s.v.n) by simp [R.toIs, hop])
  obtain ⟨b, o, hA, c0, c1, c2⟩ := hr.nth h0 h1
  have H1 := Lib.hid (hn.nth s.src)
  subst hA
  have H2 := Lib.hid hsn
  clear hr hn hsn c0 c2
  go_enter Try.func28, Try.ntmps28
  go_wp2_with fail
  refine wp_here fun W1 hW1 => ?_
  have hb0 : Below W.heap.size W W1 := hW1 ▸ x.more2 _ _
  have w1 : W1.cell? ⟨x.1.heap.size, 2, none⟩ = some (.int .i64 s.src) := by rw [hW1]; simp
  have w2 : W1.cell? ⟨x.1.heap.size, 3, none⟩ = some (.int .i64 s.oth) := by rw [hW1]; simp
  have w3 : W1.cell? ⟨x.1.heap.size, 5, none⟩ = some (.int .i64 s.v.n) := by rw [hW1]; simp
  have w4 : W1.cell? ⟨x.1.heap.size + 1, 0, none⟩ = some (.bool false) := by rw [hW1]; simp
  have w5 : W1.cell? ⟨x.1.heap.size + 1, 1, none⟩ = some (.int .i64 0) := by rw [hW1]; simp
  have w6 : W1.cell? ⟨x.1.heap.size + 1, 2, none⟩ = some (.string ⟨#[]⟩) := by rw [hW1]; simp
  have hsz : x.1.heap.size + 1 < W1.heap.size := cell_lt w4
  have f0 : ∀ j, W1.frozen? ⟨x.1.heap.size + 1, j, none⟩ = false := fun j => by rw [hW1, frozen?_alloc_cells, frozen?_alloc_cells]; simp [World.frozen?]
  have z1 := fun z : Lt W1 => z.cell w1
  have z2 := fun z : Lt W1 => z.cell w2
  have z3 := fun z : Lt W1 => z.cell w3
  have z4 := fun z : Lt W1 => z.cell w4
  have z5 := fun z : Lt W1 => z.cell w5
  have z6 := fun z : Lt W1 => z.cell w6
  have z7 : ∀ z : Lt W1, ∀ j, z.1.frozen? ⟨x.1.heap.size + 1, j, none⟩ = false := fun z j => (z.2.frozen hsz).trans (f0 j)
  have zc := fun z : Lt W1 => z.old hb0 c1
  clear hW1 w1 w2 w3 w4 w5 w6 f0
  refine wp_region_here (by kernel_rfl) (by kernel_rfl) ?_
  repeat (go_big_quiet_step ((go_at_call 36; exact radd_lit H1.out H2.out _)))
  refine wpQuiet_nil ?_; intro _ hw'; obtain ⟨z, rfl⟩ := hw'
  go_wp2_with fail
  refine bodyPost_ret (v := .tuple #[.agg #[.bool false, .int .i64 (Num.of ((R.nth r s.src).n + s.v.n)), .string ⟨#[]⟩], .bool (Num.is ((R.nth r s.src).n + s.v.n))]) (by simp [results, Try.results28, go_sem, z4, z5, z6]) rfl ⟨ret_to HV.out HI.out, ?_⟩
  have hge : W.heap.size ≤ x.1.heap.size + 1 := by have := x.2.size; omega
  exact ⟨⟨_, (((z.via hb0).2.setCell hge _).setCell hge _).setCell hge _⟩, rfl⟩
set_option maxHeartbeats 1000000 in
theorem rto_4 {A : Option Addr} {r : List Val} {s : SetV} {ca : Nat} (hr : RowAt W A r) (hn : Nums r) (hsn : Num.is s.v.n = true) (h0 : 0 ≤ s.src) (h1 : s.src < r.length) (hop : s.op = 4) (x : Lt W) :
    Calls Try.prog 28 #[.slice A r.length ca, .agg #[.int .i64 s.col, .int .i64 s.op, .int .i64 s.src, .int .i64 s.oth, .bool s.v.t, .int .i64 s.v.n, .string s.v.s]] x.1 fun e w' => e = .returned (.tuple #[.agg #[.bool (R.toV r s).t, .int .i64 (R.toV r s).n, .string (R.toV r s).s], .bool (R.toIs r s)]) ∧ ∃ y : Lt W, w' = y.1 := by
  have HV := Lib.hid (show R.toV r s = R.num ((R.nth r s.src).n - s.v.n) by simp [R.toV, hop])
  have HI := Lib.hid (show R.toIs r s = Num.is ((R.nth r s.src).n - s.v.n) by simp [R.toIs, hop])
  obtain ⟨b, o, hA, c0, c1, c2⟩ := hr.nth h0 h1
  have H1 := Lib.hid (hn.nth s.src)
  subst hA
  have H2 := Lib.hid hsn
  clear hr hn hsn c0 c2
  go_enter Try.func28, Try.ntmps28
  go_wp2_with fail
  refine wp_here fun W1 hW1 => ?_
  have hb0 : Below W.heap.size W W1 := hW1 ▸ x.more2 _ _
  have w1 : W1.cell? ⟨x.1.heap.size, 2, none⟩ = some (.int .i64 s.src) := by rw [hW1]; simp
  have w2 : W1.cell? ⟨x.1.heap.size, 3, none⟩ = some (.int .i64 s.oth) := by rw [hW1]; simp
  have w3 : W1.cell? ⟨x.1.heap.size, 5, none⟩ = some (.int .i64 s.v.n) := by rw [hW1]; simp
  have w4 : W1.cell? ⟨x.1.heap.size + 1, 0, none⟩ = some (.bool false) := by rw [hW1]; simp
  have w5 : W1.cell? ⟨x.1.heap.size + 1, 1, none⟩ = some (.int .i64 0) := by rw [hW1]; simp
  have w6 : W1.cell? ⟨x.1.heap.size + 1, 2, none⟩ = some (.string ⟨#[]⟩) := by rw [hW1]; simp
  have hsz : x.1.heap.size + 1 < W1.heap.size := cell_lt w4
  have f0 : ∀ j, W1.frozen? ⟨x.1.heap.size + 1, j, none⟩ = false := fun j => by rw [hW1, frozen?_alloc_cells, frozen?_alloc_cells]; simp [World.frozen?]
  have z1 := fun z : Lt W1 => z.cell w1
  have z2 := fun z : Lt W1 => z.cell w2
  have z3 := fun z : Lt W1 => z.cell w3
  have z4 := fun z : Lt W1 => z.cell w4
  have z5 := fun z : Lt W1 => z.cell w5
  have z6 := fun z : Lt W1 => z.cell w6
  have z7 : ∀ z : Lt W1, ∀ j, z.1.frozen? ⟨x.1.heap.size + 1, j, none⟩ = false := fun z j => (z.2.frozen hsz).trans (f0 j)
  have zc := fun z : Lt W1 => z.old hb0 c1
  clear hW1 w1 w2 w3 w4 w5 w6 f0
  refine wp_region_here (by kernel_rfl) (by kernel_rfl) ?_
  repeat (go_big_quiet_step ((go_at_call 37; exact rsub_lit H1.out H2.out _)))
  refine wpQuiet_nil ?_; intro _ hw'; obtain ⟨z, rfl⟩ := hw'
  go_wp2_with fail
  refine bodyPost_ret (v := .tuple #[.agg #[.bool false, .int .i64 (Num.of ((R.nth r s.src).n - s.v.n)), .string ⟨#[]⟩], .bool (Num.is ((R.nth r s.src).n - s.v.n))]) (by simp [results, Try.results28, go_sem, z4, z5, z6]) rfl ⟨ret_to HV.out HI.out, ?_⟩
  have hge : W.heap.size ≤ x.1.heap.size + 1 := by have := x.2.size; omega
  exact ⟨⟨_, (((z.via hb0).2.setCell hge _).setCell hge _).setCell hge _⟩, rfl⟩
set_option maxHeartbeats 1000000 in
theorem rto_5 {A : Option Addr} {r : List Val} {s : SetV} {ca : Nat} (hr : RowAt W A r) (hn : Nums r) (hsn : Num.is s.v.n = true) (h0 : 0 ≤ s.src) (h1 : s.src < r.length) (hop : s.op = 5) (x : Lt W) :
    Calls Try.prog 28 #[.slice A r.length ca, .agg #[.int .i64 s.col, .int .i64 s.op, .int .i64 s.src, .int .i64 s.oth, .bool s.v.t, .int .i64 s.v.n, .string s.v.s]] x.1 fun e w' => e = .returned (.tuple #[.agg #[.bool (R.toV r s).t, .int .i64 (R.toV r s).n, .string (R.toV r s).s], .bool (R.toIs r s)]) ∧ ∃ y : Lt W, w' = y.1 := by
  have HV := Lib.hid (show R.toV r s = R.num ((R.nth r s.src).n * s.v.n) by simp [R.toV, hop])
  have HI := Lib.hid (show R.toIs r s = Num.is ((R.nth r s.src).n * s.v.n) by simp [R.toIs, hop])
  obtain ⟨b, o, hA, c0, c1, c2⟩ := hr.nth h0 h1
  have H1 := Lib.hid (hn.nth s.src)
  subst hA
  have H2 := Lib.hid hsn
  clear hr hn hsn c0 c2
  go_enter Try.func28, Try.ntmps28
  go_wp2_with fail
  refine wp_here fun W1 hW1 => ?_
  have hb0 : Below W.heap.size W W1 := hW1 ▸ x.more2 _ _
  have w1 : W1.cell? ⟨x.1.heap.size, 2, none⟩ = some (.int .i64 s.src) := by rw [hW1]; simp
  have w2 : W1.cell? ⟨x.1.heap.size, 3, none⟩ = some (.int .i64 s.oth) := by rw [hW1]; simp
  have w3 : W1.cell? ⟨x.1.heap.size, 5, none⟩ = some (.int .i64 s.v.n) := by rw [hW1]; simp
  have w4 : W1.cell? ⟨x.1.heap.size + 1, 0, none⟩ = some (.bool false) := by rw [hW1]; simp
  have w5 : W1.cell? ⟨x.1.heap.size + 1, 1, none⟩ = some (.int .i64 0) := by rw [hW1]; simp
  have w6 : W1.cell? ⟨x.1.heap.size + 1, 2, none⟩ = some (.string ⟨#[]⟩) := by rw [hW1]; simp
  have hsz : x.1.heap.size + 1 < W1.heap.size := cell_lt w4
  have f0 : ∀ j, W1.frozen? ⟨x.1.heap.size + 1, j, none⟩ = false := fun j => by rw [hW1, frozen?_alloc_cells, frozen?_alloc_cells]; simp [World.frozen?]
  have z1 := fun z : Lt W1 => z.cell w1
  have z2 := fun z : Lt W1 => z.cell w2
  have z3 := fun z : Lt W1 => z.cell w3
  have z4 := fun z : Lt W1 => z.cell w4
  have z5 := fun z : Lt W1 => z.cell w5
  have z6 := fun z : Lt W1 => z.cell w6
  have z7 : ∀ z : Lt W1, ∀ j, z.1.frozen? ⟨x.1.heap.size + 1, j, none⟩ = false := fun z j => (z.2.frozen hsz).trans (f0 j)
  have zc := fun z : Lt W1 => z.old hb0 c1
  clear hW1 w1 w2 w3 w4 w5 w6 f0
  refine wp_region_here (by kernel_rfl) (by kernel_rfl) ?_
  repeat (go_big_quiet_step ((go_at_call 38; exact rtimes_lit H1.out H2.out _)))
  refine wpQuiet_nil ?_; intro _ hw'; obtain ⟨z, rfl⟩ := hw'
  go_wp2_with fail
  refine bodyPost_ret (v := .tuple #[.agg #[.bool false, .int .i64 (Num.of ((R.nth r s.src).n * s.v.n)), .string ⟨#[]⟩], .bool (Num.is ((R.nth r s.src).n * s.v.n))]) (by simp [results, Try.results28, go_sem, z4, z5, z6]) rfl ⟨ret_to HV.out HI.out, ?_⟩
  have hge : W.heap.size ≤ x.1.heap.size + 1 := by have := x.2.size; omega
  exact ⟨⟨_, (((z.via hb0).2.setCell hge _).setCell hge _).setCell hge _⟩, rfl⟩
set_option maxHeartbeats 1000000 in
theorem rto_6 {A : Option Addr} {r : List Val} {s : SetV} {ca : Nat} (hr : RowAt W A r) (hn : Nums r) (h0 : 0 ≤ s.src) (h1 : s.src < r.length) (k0 : 0 ≤ s.oth) (k1 : s.oth < r.length) (hop : s.op = 6) (x : Lt W) :
    Calls Try.prog 28 #[.slice A r.length ca, .agg #[.int .i64 s.col, .int .i64 s.op, .int .i64 s.src, .int .i64 s.oth, .bool s.v.t, .int .i64 s.v.n, .string s.v.s]] x.1 fun e w' => e = .returned (.tuple #[.agg #[.bool (R.toV r s).t, .int .i64 (R.toV r s).n, .string (R.toV r s).s], .bool (R.toIs r s)]) ∧ ∃ y : Lt W, w' = y.1 := by
  have HV := Lib.hid (show R.toV r s = R.num ((R.nth r s.src).n + (R.nth r s.oth).n) by simp [R.toV, hop])
  have HI := Lib.hid (show R.toIs r s = Num.is ((R.nth r s.src).n + (R.nth r s.oth).n) by simp [R.toIs, hop])
  obtain ⟨b, o, hA, c0, c1, c2⟩ := hr.nth h0 h1
  have H1 := Lib.hid (hn.nth s.src)
  obtain ⟨b', o', hA', d0, d1, d2⟩ := hr.nth k0 k1
  rw [hA] at hA'
  simp only [Option.some.injEq, Addr.mk.injEq, and_true] at hA'
  obtain ⟨rfl, rfl⟩ := hA'
  subst hA
  have H2 := Lib.hid (hn.nth s.oth)
  clear hr hn d0 d2 c0 c2
  go_enter Try.func28, Try.ntmps28
  go_wp2_with fail
  refine wp_here fun W1 hW1 => ?_
  have hb0 : Below W.heap.size W W1 := hW1 ▸ x.more2 _ _
  have w1 : W1.cell? ⟨x.1.heap.size, 2, none⟩ = some (.int .i64 s.src) := by rw [hW1]; simp
  have w2 : W1.cell? ⟨x.1.heap.size, 3, none⟩ = some (.int .i64 s.oth) := by rw [hW1]; simp
  have w3 : W1.cell? ⟨x.1.heap.size, 5, none⟩ = some (.int .i64 s.v.n) := by rw [hW1]; simp
  have w4 : W1.cell? ⟨x.1.heap.size + 1, 0, none⟩ = some (.bool false) := by rw [hW1]; simp
  have w5 : W1.cell? ⟨x.1.heap.size + 1, 1, none⟩ = some (.int .i64 0) := by rw [hW1]; simp
  have w6 : W1.cell? ⟨x.1.heap.size + 1, 2, none⟩ = some (.string ⟨#[]⟩) := by rw [hW1]; simp
  have hsz : x.1.heap.size + 1 < W1.heap.size := cell_lt w4
  have f0 : ∀ j, W1.frozen? ⟨x.1.heap.size + 1, j, none⟩ = false := fun j => by rw [hW1, frozen?_alloc_cells, frozen?_alloc_cells]; simp [World.frozen?]
  have z1 := fun z : Lt W1 => z.cell w1
  have z2 := fun z : Lt W1 => z.cell w2
  have z3 := fun z : Lt W1 => z.cell w3
  have z4 := fun z : Lt W1 => z.cell w4
  have z5 := fun z : Lt W1 => z.cell w5
  have z6 := fun z : Lt W1 => z.cell w6
  have z7 : ∀ z : Lt W1, ∀ j, z.1.frozen? ⟨x.1.heap.size + 1, j, none⟩ = false := fun z j => (z.2.frozen hsz).trans (f0 j)
  have zc := fun z : Lt W1 => z.old hb0 c1
  have zd := fun z : Lt W1 => z.old hb0 d1
  clear hW1 w1 w2 w3 w4 w5 w6 f0
  refine wp_region_here (by kernel_rfl) (by kernel_rfl) ?_
  repeat (go_big_quiet_step ((go_at_call 36; exact radd_lit H1.out H2.out _)))
  refine wpQuiet_nil ?_; intro _ hw'; obtain ⟨z, rfl⟩ := hw'
  go_wp2_with fail
  refine bodyPost_ret (v := .tuple #[.agg #[.bool false, .int .i64 (Num.of ((R.nth r s.src).n + (R.nth r s.oth).n)), .string ⟨#[]⟩], .bool (Num.is ((R.nth r s.src).n + (R.nth r s.oth).n))]) (by simp [results, Try.results28, go_sem, z4, z5, z6]) rfl ⟨ret_to HV.out HI.out, ?_⟩
  have hge : W.heap.size ≤ x.1.heap.size + 1 := by have := x.2.size; omega
  exact ⟨⟨_, (((z.via hb0).2.setCell hge _).setCell hge _).setCell hge _⟩, rfl⟩
theorem rto_any {A : Option Addr} {c : List Bool} {r : List Val} {s : SetV} {ca : Nat} (hr : RowAt W A r) (hn : Nums r) (hsn : Num.is s.v.n = true) (hl : r.length = c.length) (hm : R.maySet c s = true) (x : Lt W) :
    Calls Try.prog 28 #[.slice A r.length ca, .agg #[.int .i64 s.col, .int .i64 s.op, .int .i64 s.src, .int .i64 s.oth, .bool s.v.t, .int .i64 s.v.n, .string s.v.s]] x.1 fun e w' => e = .returned (.tuple #[.agg #[.bool (R.toV r s).t, .int .i64 (R.toV r s).n, .string (R.toV r s).s], .bool (R.toIs r s)]) ∧ ∃ y : Lt W, w' = y.1 := by
  have col : ∀ i b, R.colAt c i = some b → 0 ≤ i ∧ i < r.length := fun i b h => by
    obtain ⟨h0, h1, _⟩ := R.colAt_some h
    exact ⟨h0, by omega⟩
  have num : ∀ i, R.isNum c i = true → 0 ≤ i ∧ i < r.length := fun i h => col i false (by simpa [R.isNum] using h)
  unfold R.maySet at hm
  cases hk : R.colAt c s.col with
  | none => rw [hk] at hm; cases hm
  | some k =>
    rw [hk] at hm
    simp only [Bool.and_eq_true, decide_eq_true_eq] at hm
    obtain ⟨_, hm⟩ := hm
    by_cases o1 : s.op = 1
    · exact rto_1 o1 x
    rw [if_neg o1] at hm
    by_cases o2 : s.op = 2
    · rw [if_pos o2] at hm
      obtain ⟨a, b⟩ := col _ _ (of_decide_eq_true hm)
      exact rto_2 hr a b o2 x
    rw [if_neg o2] at hm
    by_cases o3 : s.op = 3 ∨ s.op = 4 ∨ s.op = 5
    · rw [if_pos o3] at hm
      simp only [Bool.and_eq_true] at hm
      obtain ⟨a, b⟩ := num _ hm.2.1
      rcases o3 with h | h | h
      · exact rto_3 hr hn hsn a b h x
      · exact rto_4 hr hn hsn a b h x
      · exact rto_5 hr hn hsn a b h x
    rw [if_neg o3] at hm
    by_cases o6 : s.op = 6
    · rw [if_pos o6] at hm
      simp only [Bool.and_eq_true] at hm
      obtain ⟨a, b⟩ := num _ hm.2.1
      obtain ⟨a', b'⟩ := num _ hm.2.2
      exact rto_6 hr hn a b a' b' o6 x
    · rw [if_neg o6] at hm
      cases hm
end Go.Proofs.Ytpgbngmekfakkaa
