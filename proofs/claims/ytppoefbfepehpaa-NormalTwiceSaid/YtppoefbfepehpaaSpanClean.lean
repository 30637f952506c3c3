/-
  A span as it is told, walked: clean and Clean. Conditions: a value's text is no longer than an int holds (the document's side).
-/
import Derived.Test.YtppoefbfepehpaaSpanFn
import Derived.Test.YtppoefbfepehpaaPrOwn
import Derived.Test.YtppoefbfepehpaaSpanLaw
namespace Go.Proofs.Ytppoefbfepehpaa
open Go.RowKit
variable {W : World}

theorem run_eql_span (a b : Sp) (w : World) : (binOp .eql 35 a.val b.val).run Try.prog w = .ok (.bool (decide (a = b))) w := by
  obtain ⟨an, alo, aolo, al, ahi, aohi, ah⟩ := a
  obtain ⟨bn, blo, bolo, bl, bhi, bohi, bh⟩ := b
  rw [show decide ((⟨an, alo, aolo, al, ahi, aohi, ah⟩ : Sp) = ⟨bn, blo, bolo, bl, bhi, bohi, bh⟩) = decide (an = bn ∧ alo = blo ∧ aolo = bolo ∧ (al.t = bl.t ∧ al.n = bl.n ∧ al.s.toList = bl.s.toList) ∧ ahi = bhi ∧ aohi = bohi ∧ (ah.t = bh.t ∧ ah.n = bh.n ∧ ah.s.toList = bh.s.toList)) from decide_eq_decide.2 (by rw [Sp.same_iff]; simp only [Val.same_iff])]
  simp only [binOp]
  simp [go_sem, Op.equal, Op.maxDepth]
  repeat' split
  all_goals simp_all
theorem Blk.puts {w : World} {g : Nat} {l l' : List Value} (h : Blk w g l) (hl : l'.length = l.length) : Blk (puts w g 0 l') g l' := by
  refine ⟨by rw [puts_size]; exact h.lt, fun j => by rw [puts_frozen]; exact h.free j, fun j v hj => ?_⟩
  have := puts_same w g l' 0 (fun i hi => ⟨l[i]'(by omega), by rw [Nat.zero_add]; exact h.cell i _ (List.getElem?_eq_getElem (by omega))⟩) j v hj
  rwa [Nat.zero_add] at this
/-- The eleven cells of a span's block. -/
theorem Blk.c11 {w : World} {g : Nat} {s : Sp} (h : Blk w g s.cells) : w.cell? ⟨g, 0, none⟩ = some (.bool s.none) ∧ w.cell? ⟨g, 1, none⟩ = some (.bool s.lo) ∧ w.cell? ⟨g, 2, none⟩ = some (.bool s.olo) ∧
    w.cell? ⟨g, 3, none⟩ = some (.bool s.l.t) ∧ w.cell? ⟨g, 4, none⟩ = some (.int .i64 s.l.n) ∧ w.cell? ⟨g, 5, none⟩ = some (.string s.l.s) ∧ w.cell? ⟨g, 6, none⟩ = some (.bool s.hi) ∧ w.cell? ⟨g, 7, none⟩ = some (.bool s.ohi) ∧
    w.cell? ⟨g, 8, none⟩ = some (.bool s.h.t) ∧ w.cell? ⟨g, 9, none⟩ = some (.int .i64 s.h.n) ∧ w.cell? ⟨g, 10, none⟩ = some (.string s.h.s) :=
  ⟨h.cell 0 _ rfl, h.cell 1 _ rfl, h.cell 2 _ rfl, h.cell 3 _ rfl, h.cell 4 _ rfl, h.cell 5 _ rfl, h.cell 6 _ rfl, h.cell 7 _ rfl, h.cell 8 _ rfl, h.cell 9 _ rfl, h.cell 10 _ rfl⟩
/-- A span's eleven stores. -/
abbrev sput (w : World) (g : Nat) (s : Sp) : World :=
  ((((((((((w.setCell ⟨g, 0, none⟩ (.bool s.none)).setCell ⟨g, 1, none⟩ (.bool s.lo)).setCell ⟨g, 2, none⟩ (.bool s.olo)).setCell ⟨g, 3, none⟩ (.bool s.l.t)).setCell ⟨g, 4, none⟩ (.int .i64 s.l.n)).setCell ⟨g, 5, none⟩ (.string s.l.s)).setCell ⟨g, 6, none⟩ (.bool s.hi)).setCell
    ⟨g, 7, none⟩ (.bool s.ohi)).setCell ⟨g, 8, none⟩ (.bool s.h.t)).setCell ⟨g, 9, none⟩ (.int .i64 s.h.n)).setCell ⟨g, 10, none⟩ (.string s.h.s)
theorem sput_eq (w : World) (g : Nat) (s : Sp) : sput w g s = puts w g 0 s.cells := rfl
theorem sput_blk {w : World} {g : Nat} {s : Sp} (h : Blk w g s.cells) (s' : Sp) : Blk (sput w g s') g s'.cells := by rw [sput_eq]; exact h.puts rfl
theorem sput_other {w : World} {g g' : Nat} {l : List Value} (h : Blk w g' l) (hne : g' ≠ g) (s' : Sp) : Blk (sput w g s') g' l := by
  rw [sput_eq]
  exact h.other (by rw [puts_size]; exact Nat.le_refl _) (puts_block w g 0 _ g' hne)
theorem sput_below {B : Nat} {w0 w : World} (h : Below B w0 w) {g : Nat} (hg : B ≤ g) (s' : Sp) : Below B w0 (sput w g s') := by rw [sput_eq]; exact puts_below h hg 0 _
/-- A span that a function hands back out of its block. -/
theorem span_out {fn : Func} {k : Nat} (hr : fn.results = #[.cell k 35]) {tmps : Array Value} {g : Nat} (ht : tmps[k]? = some (.pointer (some ⟨g, 0, none⟩))) {w : World} {s : Sp} (h : Blk w g s.cells) : (results fn tmps).run Try.prog w = .ok s.val w := by
  obtain ⟨f0, f1, f2, f3, f4, f5, f6, f7, f8, f9, f10⟩ := h.c11
  simp [results, hr, ht, go_sem, f0, f1, f2, f3, f4, f5, f6, f7, f8, f9, f10]
theorem ret_span {a b : Sp} (h : a = b) : Ending.returned a.val = Ending.returned b.val := by rw [h]
theorem undrew {w w' : World} (h : Below w.drew.heap.size w.drew w') : Below w.heap.size w w' := ⟨h.os, h.tape, h.output, h.size, h.block⟩
theorem Blk.drew {w : World} {g : Nat} {l : List Value} (h : Blk w g l) : Blk w.drew g l := h.below (Below.drew (Below.refl _ _))

set_option maxHeartbeats 2000000 in
theorem clean_none_any (lo olo : Bool) (l : Val) (hi ohi : Bool) (h : Val) (x : Lt W) : Calls Try.prog 36 #[Sp.val ⟨true, lo, olo, l, hi, ohi, h⟩] x.1 fun e w' => e = .returned Sp.nothing.val ∧ ∃ y : Lt W, w' = y.1 := by
  go_enter Try.func36, Try.ntmps36
  go_wp2_with fail
  refine calls_here fun W1 hW1 => ?_
  have hb0 : Below W.heap.size W W1 := hW1 ▸ x.more2 _ _
  have hB : Blk W1 (x.1.heap.size + 1) (Sp.cells ⟨false, false, false, Sp.z, false, false, Sp.z⟩) := by rw [hW1]; exact Blk.new' (by simp)
  have hg : W.heap.size ≤ x.1.heap.size + 1 := by have := x.2.size; omega
  clear hW1
  refine (nothing_any (Lt.base W1)).mono ?_; rintro e w' ⟨rfl, y, rfl⟩
  have hB2 := hB.below y.2
  obtain ⟨r0, r1, r2, r3, r4, r5, r6, r7, r8, r9, r10⟩ := hB2.c11
  have rf := hB2.free
  go_wp2_with fail
  exact bodyPost_ret (span_out rfl rfl (sput_blk hB2 Sp.nothing)) rfl ⟨rfl, ⟨_, sput_below (y.via hb0).2 hg Sp.nothing⟩, rfl⟩

set_option maxHeartbeats 2000000 in
theorem clean_open_any (lo olo : Bool) (l : Val) (hi ohi : Bool) (h : Val) (h2 : lo = false ∨ hi = false) (x : Lt W) : Calls Try.prog 36 #[Sp.val ⟨false, lo, olo, l, hi, ohi, h⟩] x.1 fun e w' => e = .returned (Sp.clean ⟨false, lo, olo, l, hi, ohi, h⟩).val ∧ ∃ y : Lt W, w' = y.1 := by
  rcases h2 with rfl | rfl
  · cases hi
    · go_enter Try.func36, Try.ntmps36
      go_wp2_with fail
      refine bodyPost_ret (v := Sp.full.val) ?_ rfl ⟨rfl, x.end_ ?_⟩
      · simp [results, Try.results36, go_sem]
      · repeat (first | with_reducible exact Below.refl _ _ | refine below_then ?_ (below_alloc _) | refine Below.drew ?_)
    · go_enter Try.func36, Try.ntmps36
      go_wp2_with fail
      go_region
      go_wp2_with fail
      refine bodyPost_ret (v := Sp.val ⟨false, false, false, Sp.z, true, ohi, h⟩) ?_ rfl ⟨rfl, x.end_ ?_⟩
      · simp [results, Try.results36, go_sem]
      · repeat (first | with_reducible exact Below.refl _ _ | refine below_then ?_ (below_alloc _) | refine Below.drew ?_)
  · cases lo
    · go_enter Try.func36, Try.ntmps36
      go_wp2_with fail
      refine bodyPost_ret (v := Sp.full.val) ?_ rfl ⟨rfl, x.end_ ?_⟩
      · simp [results, Try.results36, go_sem]
      · repeat (first | with_reducible exact Below.refl _ _ | refine below_then ?_ (below_alloc _) | refine Below.drew ?_)
    · go_enter Try.func36, Try.ntmps36
      go_wp2_with fail
      go_region
      go_wp2_with fail
      refine bodyPost_ret (v := Sp.val ⟨false, true, olo, l, false, false, Sp.z⟩) ?_ rfl ⟨rfl, x.end_ ?_⟩
      · simp [results, Try.results36, go_sem]
      · repeat (first | with_reducible exact Below.refl _ _ | refine below_then ?_ (below_alloc _) | refine Below.drew ?_)

theorem both_cases {olo ohi : Bool} {i : Int} (hri : i = -1 ∨ i = 0 ∨ i = 1) : i = 1 ∨ (i = 0 ∧ olo = true) ∨ (i = 0 ∧ olo = false ∧ ohi = true) ∨ (i = 0 ∧ olo = false ∧ ohi = false) ∨ i = -1 := by
  rcases hri with h | h | h
  · exact .inr (.inr (.inr (.inr h)))
  · cases olo <;> cases ohi <;> simp [h]
  · exact .inl h
set_option maxHeartbeats 4000000 in
theorem clean_both_any (olo : Bool) (l : Val) (ohi : Bool) (h : Val) (x : Lt W) : Calls Try.prog 36 #[Sp.val ⟨false, true, olo, l, true, ohi, h⟩] x.1 fun e w' => e = .returned (Sp.clean ⟨false, true, olo, l, true, ohi, h⟩).val ∧ ∃ y : Lt W, w' = y.1 := by
  obtain ⟨i, hi1⟩ : ∃ i, cmpV l h = i := ⟨_, rfl⟩
  have key := both_cases (olo := olo) (ohi := ohi) (hi1 ▸ cmpV_range l h)
  have C1 := Lib.hid (fun (W : World) (z : Lt W) => compare_is hi1 z)
  have hw : (⟨false, true, olo, l, true, ohi, h⟩ : Sp).clean = if (decide (0 < i) || decide (i = 0) && (olo || ohi)) = true then Sp.nothing else ⟨false, true, olo, l, true, ohi, h⟩ := by rw [← hi1]; rfl
  have HW := Lib.hid hw
  clear hi1 hw
  go_enter Try.func36, Try.ntmps36
  go_wp2_with fail
  refine calls_here fun W1 hW1 => ?_
  have hb0 : Below W.heap.size W W1 := hW1 ▸ x.more2 _ _
  have hA : Blk W1 x.1.heap.size (Sp.cells ⟨false, true, olo, l, true, ohi, h⟩) := by rw [hW1]; exact (Blk.new' rfl).alloc _
  have hB : Blk W1 (x.1.heap.size + 1) (Sp.cells ⟨false, false, false, Sp.z, false, false, Sp.z⟩) := by rw [hW1]; exact Blk.new' (by simp)
  have hg : W.heap.size ≤ x.1.heap.size + 1 := by have := x.2.size; omega
  clear hW1
  refine (C1.out W1 (Lt.base W1)).mono ?_; rintro e w' ⟨rfl, y, rfl⟩
  have hA2 := hA.below y.2
  have hB2 := hB.below y.2
  obtain ⟨a0, a1, a2, a3, a4, a5, a6, a7, a8, a9, a10⟩ := hA2.c11
  obtain ⟨r0, r1, r2, r3, r4, r5, r6, r7, r8, r9, r10⟩ := hB2.c11
  have rf := hB2.free
  rcases key with rfl | ⟨rfl, rfl⟩ | ⟨rfl, rfl, rfl⟩ | ⟨rfl, rfl, rfl⟩ | rfl
  case inl | inr.inl | inr.inr.inl =>
    go_wp2_with fail
    clear a0 a1 a2 a3 a4 a5 a6 a7 a8 a9 a10 r0 r1 r2 r3 r4 r5 r6 r7 r8 r9 r10 rf
    refine (nothing_any (W := W1) y).mono ?_; rintro e w' ⟨rfl, y, rfl⟩
    have hB2 := hB.below y.2
    obtain ⟨r0, r1, r2, r3, r4, r5, r6, r7, r8, r9, r10⟩ := hB2.c11
    have rf := hB2.free
    go_wp2_with fail
    exact bodyPost_ret (span_out rfl rfl (sput_blk hB2 Sp.nothing)) rfl ⟨ret_span (HW.out.trans (if_pos rfl)).symm, ⟨_, sput_below (y.via hb0).2 hg Sp.nothing⟩, rfl⟩
  case inr.inr.inr.inl =>
    have p0 := fun o => cell_old (o := o) a0
    have s0 := fun o => cell_old (o := o) r0
    have p1 := fun o => cell_old (o := o) a1
    have s1 := fun o => cell_old (o := o) r1
    have p2 := fun o => cell_old (o := o) a2
    have s2 := fun o => cell_old (o := o) r2
    have p3 := fun o => cell_old (o := o) a3
    have s3 := fun o => cell_old (o := o) r3
    have p4 := fun o => cell_old (o := o) a4
    have s4 := fun o => cell_old (o := o) r4
    have p5 := fun o => cell_old (o := o) a5
    have s5 := fun o => cell_old (o := o) r5
    have p6 := fun o => cell_old (o := o) a6
    have s6 := fun o => cell_old (o := o) r6
    have p7 := fun o => cell_old (o := o) a7
    have s7 := fun o => cell_old (o := o) r7
    have p8 := fun o => cell_old (o := o) a8
    have s8 := fun o => cell_old (o := o) r8
    have p9 := fun o => cell_old (o := o) a9
    have s9 := fun o => cell_old (o := o) r9
    have p10 := fun o => cell_old (o := o) a10
    have s10 := fun o => cell_old (o := o) r10
    have sf := fun o => (hB2.alloc o).free
    go_wp2_with fail
    go_region
    go_wp2_with fail
    go_region
    go_wp2_with fail
    exact bodyPost_ret (span_out rfl rfl (sput_blk (hB2.alloc _) ⟨false, true, false, l, true, false, h⟩).drew.drew) rfl ⟨ret_span (HW.out.trans (if_neg (by simp))).symm, ⟨_, Below.drew (Below.drew (sput_below (below_then (y.via hb0).2 (below_alloc _)) hg ⟨false, true, false, l, true, false, h⟩))⟩, rfl⟩
  case inr.inr.inr.inr =>
    have p0 := fun o => cell_old (o := o) a0
    have s0 := fun o => cell_old (o := o) r0
    have p1 := fun o => cell_old (o := o) a1
    have s1 := fun o => cell_old (o := o) r1
    have p2 := fun o => cell_old (o := o) a2
    have s2 := fun o => cell_old (o := o) r2
    have p3 := fun o => cell_old (o := o) a3
    have s3 := fun o => cell_old (o := o) r3
    have p4 := fun o => cell_old (o := o) a4
    have s4 := fun o => cell_old (o := o) r4
    have p5 := fun o => cell_old (o := o) a5
    have s5 := fun o => cell_old (o := o) r5
    have p6 := fun o => cell_old (o := o) a6
    have s6 := fun o => cell_old (o := o) r6
    have p7 := fun o => cell_old (o := o) a7
    have s7 := fun o => cell_old (o := o) r7
    have p8 := fun o => cell_old (o := o) a8
    have s8 := fun o => cell_old (o := o) r8
    have p9 := fun o => cell_old (o := o) a9
    have s9 := fun o => cell_old (o := o) r9
    have p10 := fun o => cell_old (o := o) a10
    have s10 := fun o => cell_old (o := o) r10
    have sf := fun o => (hB2.alloc o).free
    go_wp2_with fail
    go_region
    go_wp2_with fail
    go_region
    go_wp2_with fail
    exact bodyPost_ret (span_out rfl rfl (sput_blk (hB2.alloc _) ⟨false, true, olo, l, true, ohi, h⟩).drew.drew) rfl ⟨ret_span (HW.out.trans (if_neg (by simp))).symm, ⟨_, Below.drew (Below.drew (sput_below (below_then (y.via hb0).2 (below_alloc _)) hg ⟨false, true, olo, l, true, ohi, h⟩))⟩, rfl⟩

theorem clean_any (s : Sp) (x : Lt W) : Calls Try.prog 36 #[s.val] x.1 fun e w' => e = .returned s.clean.val ∧ ∃ y : Lt W, w' = y.1 := by
  obtain ⟨none, lo, olo, l, hi, ohi, h⟩ := s
  cases none
  case true => exact clean_none_any lo olo l hi ohi h x
  by_cases hlh : lo = true ∧ hi = true
  · obtain ⟨rfl, rfl⟩ := hlh
    exact clean_both_any olo l ohi h x
  · exact clean_open_any lo olo l hi ohi h (by cases lo <;> cases hi <;> simp at hlh ⊢) x
end Go.Proofs.Ytppoefbfepehpaa
