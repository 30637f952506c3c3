/-
  A claim of one's own, walked: the program's Clone. Conditions: the claim lies in memory as it reads and is of a size that can be walked.
-/
import Derived.Test.YtghpildnajdlpaaDoorClmOwn
import Derived.Deep.AppendLies
import Derived.Deep.DeepCutAuto
namespace Go.Proofs.YtghpildnajdlpaaDoor
open Go.RowKit
variable {W : World}

/-- The same row in new memory. -/
def RCloned (W : World) (r : List Val) (e : Ending) (w' : World) : Prop := ∃ (A : Option Addr) (ca : Nat), e = .returned (.slice A r.length ca) ∧ RowAt w' A r ∧ (A = none → ca = 0) ∧ SlOwn (fun b => W.heap.size ≤ b) w' A (r.length * 3) ∧ Below W.heap.size W w'
theorem rowclone_any {A : Option Addr} {r : List Val} {ca : Nat} (w : World) (hr : RowAt w A r) (hn : A = none → ca = 0) (hl : r.length ≤ 1000000000) : Calls Tryd.prog 50 #[.slice A r.length ca] w (RCloned w r) :=
  (clone_any w hr hn hl).mono fun e w' ⟨v, he, ho, hb⟩ => by
    obtain ⟨A', ca', rfl, h1, h2, h3⟩ := ho.row
    exact ⟨A', ca', he, h1, h2, h3, hb⟩
/-- A claim's cells with other rows. -/
def Cl.box (c : Cl) (A : Option Addr) (n ca : Nat) (P : Option Addr) (pa : Nat) : List Value := [.int .i64 c.kind, .int .i64 c.table, .int .i64 c.mode, .bool c.key.t, .int .i64 c.key.n, .string c.key.s, .slice A n ca, .int .i64 c.p.op, .int .i64 c.p.col, .bool c.p.v.t, .int .i64 c.p.v.n, .string c.p.v.s, .bool c.p.w.t, .int .i64 c.p.w.n, .string c.p.w.s, .slice P c.p.l.length pa]
def zeroC : List Value := [.int .i64 0, .int .i64 0, .int .i64 0, .bool false, .int .i64 0, .string ⟨#[]⟩, .slice none 0 0, .int .i64 0, .int .i64 0, .bool false, .int .i64 0, .string ⟨#[]⟩, .bool false, .int .i64 0, .string ⟨#[]⟩, .slice none 0 0]
theorem undrew' {w w' : World} (h : Below w.drew.heap.size w.drew w') : Below w.heap.size w w' := ⟨h.os, h.tape, h.output, h.size, h.block⟩
theorem ImInv.step' {W : World} {B : Nat} {G : Nat → Prop} {l : List (List Val)} {K : List RK} {A2 : Option Addr} {ca2 k : Nat} {wr : World} (h : ImInv W B G l K A2 ca2 wr) (hk : l.length = k) {x : List Val} {w4 w5 : World} (hb4 : Below wr.heap.size wr w4) {A4 : Option Addr} {ca4 : Nat} (hat : RowAt w4 A4 x) (hn : A4 = none → ca4 = 0) (hown : SlOwn (fun b => wr.heap.size ≤ b) w4 A4 (x.length * 3)) {ob : Obj}
    {g cap : Nat} (hrow5 : w5.ownsRow B 43 1 (.slice (some ⟨g, 0, none⟩) (k + 1) cap) (k + 1) (rcells K ++ [.slice A4 x.length ca4])) (hgrow : (w4.alloc ob).grownBy w5 (Value.slice A2 k ca2).ownBlock) (hat5 : (Value.slice A2 k ca2).ownBlock = some g ∨ g = (w4.alloc ob).heap.size)
    {a : Addr} (ha : W.heap.size ≤ a.block ∧ (a.block < B ∨ G a.block)) (v : Value) : ImInv W B G (l ++ [x]) (K ++ [⟨x, A4, ca4⟩]) (some ⟨g, 0, none⟩) cap (w5.setCell a v) := by
  subst hk
  exact h.step hb4 hat hn hown hrow5 hgrow hat5 ha v
theorem ImInv.old' {W : World} {B : Nat} {G : Nat → Prop} {l : List (List Val)} {K : List RK} {A2 : Option Addr} {ca2 k : Nat} {wr w4 w5 : World} (h : ImInv W B G l K A2 ca2 wr) (hk : l.length = k) (hb4 : Below wr.heap.size wr w4) {ob : Obj} (hgrow : (w4.alloc ob).grownBy w5 (Value.slice A2 k ca2).ownBlock) : ∀ b, b < B ∨ G b → w5.heap[b]? = wr.heap[b]? := by
  subst hk
  exact h.old hb4 hgrow
theorem ImInv.row' {W : World} {B : Nat} {G : Nat → Prop} {l : List (List Val)} {K : List RK} {A2 : Option Addr} {ca2 k : Nat} {wr : World} (h : ImInv W B G l K A2 ca2 wr) (hk : l.length = k) : wr.ownsRow B 43 1 (.slice A2 k ca2) k (rcells K) := by
  subst hk
  exact h.row
theorem new_lit {w : World} {t : TypeId} (v : Value) (j : Nat) (u : Value) (h : [v][j]? = some u) : (w.alloc (.cells #[v] t)).cell? ((⟨w.heap.size, 0, none⟩ : Addr).add j) = some u := by
  cases j with
  | zero =>
    simp at h; subst h
    rw [add_mk, cell_new rfl]; rfl
  | succ j => simp at h
/-- What Clone's loop keeps. -/
structure CloneInv (W : World) (c : Cl) (P : Option Addr) (pa k : Nat) (K : List RK) (A2 : Option Addr) (ca2 : Nat) (wr : World) : Prop where
  im : ImInv W (W.heap.size + 2) (fun _ => False) (c.im.take k) K A2 ca2 wr
  box : Blk wr W.heap.size (c.box A2 k ca2 P pa)
  res : Blk wr (W.heap.size + 1) zeroC
set_option maxHeartbeats 4000000 in
theorem cclone_any {c : Cl} {A : Option Addr} {ca : Nat} {P : Option Addr} {pa : Nat} (W : World) (hc : c.At W A ca P pa) (fc : c.Fits) : Calls Tryd.prog 24 #[c.arg A ca P pa] W (COwn W c) := by
  obtain ⟨i0, hi, hz0, hz1, hz2⟩ := info_parts info_row
  have HC := Lib.hid hc
  have FC := Lib.hid fc
  clear hc fc
  unfold Cl.arg
  go_enter Tryd.func24, Tryd.ntmps24
  go_upto_region 1 with fail
  refine wp_here fun W1 hW1 => ?_
  have hb1 : Below W.heap.size W W1 := by rw [hW1]; exact below_then (below_alloc _) (below_alloc _)
  have kb1 : Blk W1 W.heap.size (c.box A c.im.length ca P pa) := by rw [hW1]; refine Blk.alloc ?_ _; exact Blk.new' (l := #[.int .i64 c.kind, .int .i64 c.table, .int .i64 c.mode, .bool c.key.t, .int .i64 c.key.n, .string c.key.s, .slice A c.im.length ca, .int .i64 c.p.op, .int .i64 c.p.col, .bool c.p.v.t, .int .i64 c.p.v.n, .string c.p.v.s, .bool c.p.w.t, .int .i64 c.p.w.n, .string c.p.w.s, .slice P c.p.l.length pa]) rfl
  have kr1 : Blk W1 (W.heap.size + 1) zeroC := by rw [hW1]; exact Blk.new' (l := #[.int .i64 0, .int .i64 0, .int .i64 0, .bool false, .int .i64 0, .string ⟨#[]⟩, .slice none 0 0, .int .i64 0, .int .i64 0, .bool false, .int .i64 0, .string ⟨#[]⟩, .bool false, .int .i64 0, .string ⟨#[]⟩, .slice none 0 0]) (by simp)
  have hs1 : W1.heap.size = W.heap.size + 2 := by rw [hW1]; simp
  clear hW1
  have f6 : W1.cell? ⟨W.heap.size, 6, none⟩ = some (.slice A c.im.length ca) := kb1.cell 6 _ rfl
  have ff := kb1.free
  go_wp2_with fail
  refine wp_here fun w3 hw3 => ?_
  have hinv : CloneInv W c P pa 0 [] none 0 w3 := by
    rw [hw3]
    refine ⟨(ImInv.start hb1 ⟨by omega, by omega⟩).set (a := ⟨W.heap.size, 6, none⟩) ⟨Nat.le_refl _, .inl (by show W.heap.size < W.heap.size + 2; omega)⟩ _, ?_, kr1.setOther (by show W.heap.size + 1 ≠ W.heap.size; omega) _⟩
    exact kb1.set1 (j := 6) (by show 6 < 16; omega) _
  clear hw3 f6 ff kb1 kr1 hb1 hs1
  go_loopw [11] (fun i wr => ∃ (k : Nat) (K : List RK) (A2 : Option Addr) (ca2 : Nat), i = .int .i64 k ∧ k ≤ c.im.length ∧ CloneInv W c P pa k K A2 ca2 wr) (fun i _ => c.im.length - (intOf i).toNat)
  case atStart => exact ⟨0, [], none, 0, rfl, by omega, hinv⟩
  case round =>
    rename_i wr
    obtain ⟨k, K, A2, ca2, rfl, hk, hin⟩ := hrel
    have HIN := Lib.hid hin
    have hk9 : k ≤ 1000000 := by have := FC.out.im; omega
    have h6 : wr.cell? ⟨W.heap.size, 6, none⟩ = some (.slice A2 k ca2) := hin.box.cell 6 _ rfl
    have hbf := hin.box.free
    have hbl : W.heap.size + 1 < wr.heap.size := hin.res.lt
    by_cases hlt : k < c.im.length
    · obtain ⟨b, off, x, A', ca', hx, hmem, rfl, hc0, hxat, hxn⟩ := (HC.out.im.below hin.im.below).at_ hlt
      have hlk : (c.im.take k).length = k := by rw [List.length_take]; omega
      have HLK := Lib.hid hlk
      have HX := Lib.hid hx
      have HXN := Lib.hid hxn
      have HXL := Lib.hid (show x.length ≤ 1000000000 by have := FC.out.row x hmem; omega)
      have hrow := hin.im.row' hlk
      have hcell5 : ∀ (w4 w5 : World) (ob : Obj), Below wr.heap.size wr w4 → (w4.alloc ob).grownBy w5 (Value.slice A2 k ca2).ownBlock → w5.cell? ⟨W.heap.size, 6, none⟩ = some (.slice A2 k ca2) ∧ w5.frozen? ⟨W.heap.size, 6, none⟩ = false := fun w4 w5 ob h4 h5 => by
        have e5 := HIN.out.im.old' HLK.out h4 h5 W.heap.size (.inl (by omega))
        exact ⟨(World.cell?_of_block (a := ⟨W.heap.size, 6, none⟩) e5).trans h6, (World.frozen?_of_block (a := ⟨W.heap.size, 6, none⟩) e5).trans (hbf 6)⟩
      have i1 : (0 : Int) ≤ (k : Int) := by omega
      have i2 : (k : Int) < (c.im.length : Int) := by omega
      clear hx hin hinv hlk hxn hmem
      go_wp2_with fail
      go_region_law (first
        | (refine step_append_lies _ (by rfl) (.tmp 16) (.tmp 19) 26 (by rfl) (W.heap.size + 2) 43 i0 _ 1 24 Tryd.underlying26 hi hz0 hz1 hz2 rfl (by omega) (.slice A2 k ca2) k (rcells K) (by simp [Act.eval]) (hrow4 _) ⟨w4.heap.size, 0, none⟩ 1 1 [.slice A4 x.length ca4] (by simp [Act.eval]) rfl (new_lit _) (fun u hu => by rw [List.mem_singleton] at hu; rw [hu]; rfl) (by omega) (by unfold maxLen; omega) (by omega) (by simp; omega) _ rfl ?_; intro g cap w5 hrow5 hgrow5 hat5 hlt5; obtain ⟨b85, bf5⟩ := hcell5 _ _ _ hbx4 hgrow5)
        | (go_simp; go_at_call 50; refine (rowclone_any _ (hxat.below ((Below.refl _ _).drew)) HXN.out HXL.out).mono ?_; rintro e w4 ⟨A4, ca4, rfl, hat4, hn4, hown4, hb4⟩; have hbx4 := undrew' hb4; have hb64 := (hbx4.cell (cell_lt h6)).trans h6; have hb6a : ∀ ob, (w4.alloc ob).cell? ⟨W.heap.size, 6, none⟩ = some (.slice A2 k ca2) := fun ob => cell_old hb64; have hrow4 := fun ob => (row_below hrow hbx4).alloc ob; have hs4 := hbx4.size))
      all_goals
        go_wp2_with fail
        go_roundw
        case rel => exact ⟨k + 1, K ++ [⟨x, A4, ca4⟩], some ⟨g, 0, none⟩, cap, by go_num, by omega, by
          have e5 := HIN.out.im.old' HLK.out hbx4 hgrow5
          refine ⟨?_, ?_, ?_⟩
          · rw [List.take_add_one, HX.out]
            exact HIN.out.im.step' HLK.out hbx4 hat4 hn4 hown4 hrow5 hgrow5 hat5 (a := ⟨W.heap.size, 6, none⟩) ⟨Nat.le_refl _, .inl (by show W.heap.size < W.heap.size + 2; omega)⟩ _
          · exact (HIN.out.box.other (by have := hgrow5.size; simp at this; omega) (e5 _ (.inl (by omega)))).set1 (j := 6) (by show 6 < 16; omega) _
          · exact (HIN.out.res.other (by have := hgrow5.size; simp at this; omega) (e5 _ (.inl (by omega)))).setOther (by show W.heap.size + 1 ≠ W.heap.size; omega) _⟩
        case measure => simp [intOf]; omega
    · obtain rfl : k = c.im.length := by omega
      have him : ImInv W (W.heap.size + 2) (fun _ => False) c.im K A2 ca2 wr := by have := hin.im; rwa [List.take_length] at this
      have kb := hin.box
      have kr := hin.res
      have HIM := Lib.hid him
      clear hin hinv hbf
      have q6 := kb.cell 6 _ rfl
      have q7 := kb.cell 7 _ rfl
      have q8 := kb.cell 8 _ rfl
      have q9 := kb.cell 9 _ rfl
      have q10 := kb.cell 10 _ rfl
      have q11 := kb.cell 11 _ rfl
      have q12 := kb.cell 12 _ rfl
      have q13 := kb.cell 13 _ rfl
      have q14 := kb.cell 14 _ rfl
      have q15 := kb.cell 15 _ rfl
      go_wp2_with fail
      have CP := pclone_all c.p (by have := FC.out.p; omega) wr P pa (HC.out.p.below him.below)
      refine CP.mono ?_; rintro e w7 ⟨P7, pa7, rfl, hat7, hown7, hb7⟩
      clear CP q6 q7 q8 q9 q10 q11 q12 q13 q14 q15
      have kb7 := kb.below hb7
      have kr7 := kr.below hb7
      have him7 : ImInv W (W.heap.size + 2) (fun b => wr.heap.size ≤ b ∧ b < w7.heap.size) c.im K A2 ca2 w7 := him.protect hb7 (fun _ hb => .inr hb)
      have q7 := kb7.cell 7 _ rfl
      have q8 := kb7.cell 8 _ rfl
      have q9 := kb7.cell 9 _ rfl
      have q10 := kb7.cell 10 _ rfl
      have q11 := kb7.cell 11 _ rfl
      have q12 := kb7.cell 12 _ rfl
      have q13 := kb7.cell 13 _ rfl
      have q14 := kb7.cell 14 _ rfl
      have q15 := kb7.cell 15 _ rfl
      have qf := kb7.free
      go_upto_region 9 with fail
      refine wp_here fun w8 hw8 => ?_
      have e8 : w8 = puts w7 W.heap.size 7 (PK.cells ⟨c.p, P7, pa7⟩) := hw8
      have kb8 : Blk w8 W.heap.size (c.box A2 c.im.length ca2 P7 pa7) := by rw [e8]; exact kb7.putsAt 7 (PK.cells ⟨c.p, P7, pa7⟩) (by show 7 + 9 ≤ 16; omega)
      have kr8 : Blk w8 (W.heap.size + 1) zeroC := by rw [e8]; exact kr7.putsOther (by omega) _ _
      have him8 : ImInv W (W.heap.size + 2) (fun b => wr.heap.size ≤ b ∧ b < w7.heap.size) c.im K A2 ca2 w8 := by rw [e8]; exact him7.puts ⟨Nat.le_refl _, .inl (by omega)⟩ _ _
      have hk8 : ∀ b, W.heap.size + 2 ≤ b → w8.heap[b]? = w7.heap[b]? := fun b hb => by rw [e8]; exact puts_block _ _ _ _ _ (by omega)
      have hs8 : w8.heap.size = w7.heap.size := by rw [e8, puts_size]
      have hb2 := him.base.2
      have H7 := Lib.hid (show c.p.At w8 P7 pa7 ∧ c.p.Own (fun b => wr.heap.size ≤ b ∧ b < w7.heap.size) w8 P7 from by
        have ho := hown7.there
        exact ⟨hat7.keep (fun b hb _ => hk8 b (by omega)) ho, ho.keep (fun _ h => h) (by omega) (fun b hb _ => hk8 b (by omega))⟩)
      clear hw8 e8 kb7 kr7 him7 q7 q8 q9 q10 q11 q12 q13 q14 q15 qf hat7 hown7 hb7 h6 kb kr hk8
      have q0 := kb8.cell 0 _ rfl
      have r0 := kr8.cell 0 _ rfl
      have q1 := kb8.cell 1 _ rfl
      have r1 := kr8.cell 1 _ rfl
      have q2 := kb8.cell 2 _ rfl
      have r2 := kr8.cell 2 _ rfl
      have q3 := kb8.cell 3 _ rfl
      have r3 := kr8.cell 3 _ rfl
      have q4 := kb8.cell 4 _ rfl
      have r4 := kr8.cell 4 _ rfl
      have q5 := kb8.cell 5 _ rfl
      have r5 := kr8.cell 5 _ rfl
      have q6 := kb8.cell 6 _ rfl
      have r6 := kr8.cell 6 _ rfl
      have q7 := kb8.cell 7 _ rfl
      have r7 := kr8.cell 7 _ rfl
      have q8 := kb8.cell 8 _ rfl
      have r8 := kr8.cell 8 _ rfl
      have q9 := kb8.cell 9 _ rfl
      have r9 := kr8.cell 9 _ rfl
      have q10 := kb8.cell 10 _ rfl
      have r10 := kr8.cell 10 _ rfl
      have q11 := kb8.cell 11 _ rfl
      have r11 := kr8.cell 11 _ rfl
      have q12 := kb8.cell 12 _ rfl
      have r12 := kr8.cell 12 _ rfl
      have q13 := kb8.cell 13 _ rfl
      have r13 := kr8.cell 13 _ rfl
      have q14 := kb8.cell 14 _ rfl
      have r14 := kr8.cell 14 _ rfl
      have q15 := kb8.cell 15 _ rfl
      have r15 := kr8.cell 15 _ rfl
      have rf := kr8.free
      go_wp2_with fail
      have hfin : Blk (cput w8 (W.heap.size + 1) c A2 ca2 P7 pa7) (W.heap.size + 1) (c.cells A2 ca2 P7 pa7) := by rw [cput_eq]; exact kr8.puts0 rfl
      have hpost : COwn W c (.returned (c.arg A2 ca2 P7 pa7)) (cput w8 (W.heap.size + 1) c A2 ca2 P7 pa7) := by
        have hi9 : ImInv W (W.heap.size + 2) (fun b => wr.heap.size ≤ b ∧ b < w7.heap.size) c.im K A2 ca2 (cput w8 (W.heap.size + 1) c A2 ca2 P7 pa7) := by rw [cput_eq]; exact him8.puts ⟨by omega, .inl (by omega)⟩ _ _
        have hk9 : ∀ b, W.heap.size + 2 ≤ b → (cput w8 (W.heap.size + 1) c A2 ca2 P7 pa7).heap[b]? = w8.heap[b]? := fun b hb => by rw [cput_eq]; exact puts_block _ _ _ _ _ (by omega)
        have hs9 : (cput w8 (W.heap.size + 1) c A2 ca2 P7 pa7).heap.size = w8.heap.size := by rw [cput_eq, puts_size]
        refine ⟨A2, ca2, P7, pa7, rfl, ⟨hi9.at_.1, H7.out.1.keep (fun b hb _ => hk9 b (by omega)) H7.out.2⟩, ⟨_, _, K, hi9, H7.out.2.keep (fun b hb => ⟨by omega, hb⟩) (by omega) (fun b hb _ => hk9 b (by omega))⟩, hi9.below⟩
      exact bodyPost_ret (claim_out rfl rfl hfin) rfl hpost
end Go.Proofs.YtghpildnajdlpaaDoor
