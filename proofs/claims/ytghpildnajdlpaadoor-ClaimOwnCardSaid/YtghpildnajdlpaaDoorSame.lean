/-
  Whether two predicates are the same, walked: the document's Same and the program's. Conditions: both lie in memory as they read; at most a billion parts.
-/
import Derived.Test.YtghpildnajdlpaaDoorPrSize
import Derived.Test.YtghpildnajdlpaaDoorRowAt
namespace Go.Proofs.YtghpildnajdlpaaDoor
open Go.RowKit

theorem Pr.same_no {o c o' c' : Int} {v w v' w' : Val} {l l' : List Pr} (h : o ≠ o' ∨ c ≠ c' ∨ v ≠ v' ∨ w ≠ w' ∨ l.length ≠ l'.length) : (Pr.mk o c v w l).same (.mk o' c' v' w' l') = false := by
  rw [← Bool.not_eq_true, Pr.same_iff]
  intro e
  injection e with h1 h2 h3 h4 h5
  rcases h with h | h | h | h | h
  · exact h h1
  · exact h h2
  · exact h h3
  · exact h h4
  · exact h (by rw [h5])
theorem Pr.same_kid {o c : Int} {v w : Val} {l l' : List Pr} {k : Nat} {q q' : Pr} (h : l[k]? = some q) (h' : l'[k]? = some q') (hs : q.same q' = false) : (Pr.mk o c v w l).same (.mk o c v w l') = false := by
  rw [← Bool.not_eq_true, Pr.same_iff]
  intro e
  injection e with _ _ _ _ h5
  subst h5
  rw [h] at h'
  injection h' with h'
  subst h'
  rw [Pr.same_self] at hs; cases hs
theorem Pr.take_same {l l' : List Pr} {k : Nat} {q q' : Pr} (ht : l.take k = l'.take k) (h : l[k]? = some q) (h' : l'[k]? = some q') (hs : q.same q' = true) : l.take (k + 1) = l'.take (k + 1) := by
  rw [List.take_add_one, List.take_add_one, ht, h, h', (Pr.same_iff _ _).1 hs]
theorem Pr.same_end {o c : Int} {v w : Val} {l l' : List Pr} (hl : l.length = l'.length) (ht : l.take l.length = l'.take l.length) : (Pr.mk o c v w l).same (.mk o c v w l') = true := by
  rw [Pr.same_iff]
  rw [List.take_length, hl, List.take_length] at ht
  rw [ht]

set_option maxHeartbeats 2000000 in
theorem rpsame_any (p : Pr) : ∀ {W : World} (x : Lt W) (q : Pr) {A A' : Option Addr} {ca ca' : Nat}, p.At W A ca → q.At W A' ca' → p.size ≤ 1000000000 →
    Calls Tryd.prog 37 #[p.arg A ca, q.arg A' ca'] x.1 fun e w' => e = .returned (.bool (p.same q)) ∧ ∃ y : Lt W, w' = y.1 := by
  refine Pr.ind (P := fun p => ∀ {W : World} (x : Lt W) (q : Pr) {A A' : Option Addr} {ca ca' : Nat}, p.At W A ca → q.At W A' ca' → p.size ≤ 1000000000 →
    Calls Tryd.prog 37 #[p.arg A ca, q.arg A' ca'] x.1 fun e w' => e = .returned (.bool (p.same q)) ∧ ∃ y : Lt W, w' = y.1) ?_ p
  rintro ⟨o, c, v, w, l⟩ ih W x ⟨o', c', v', w', l'⟩ A A' ca ca' hat hat' hsz
  have IH := Lib.hid ih
  have hlen : l.length ≤ 1000000000 := by have h1 := Pr.len_le l; have h2 := Pr.size_mk o c v w l; omega
  clear ih
  show Calls Tryd.prog 37 #[.agg #[.int .i64 o, .int .i64 c, .bool v.t, .int .i64 v.n, .string v.s, .bool w.t, .int .i64 w.n, .string w.s, .slice A l.length ca], .agg #[.int .i64 o', .int .i64 c', .bool v'.t, .int .i64 v'.n, .string v'.s, .bool w'.t, .int .i64 w'.n, .string w'.s, .slice A' l'.length ca']] x.1 _
  by_cases h1 : o = o'
  case neg =>
    have HF := Lib.hid (Pr.same_no (o := o) (c := c) (v := v) (w := w) (l := l) (o' := o') (c' := c') (v' := v') (w' := w') (l' := l') (.inl h1))
    have g1 : (o != o') = true := by simpa using h1
    clear h1 hat hat'
    go_enter Tryd.func37, Tryd.ntmps37
    go_wp2_with fail
    go_ret
    exact ⟨ret_bool HF.out.symm, x.end_ (below_then (below_alloc _) (below_alloc _))⟩
  subst h1
  by_cases h2 : c = c'
  case neg =>
    have HF := Lib.hid (Pr.same_no (o := o) (c := c) (v := v) (w := w) (l := l) (o' := o) (c' := c') (v' := v') (w' := w') (l' := l') (.inr (.inl h2)))
    have g1 : (c != c') = true := by simpa using h2
    clear h2 hat hat'
    go_enter Tryd.func37, Tryd.ntmps37
    go_wp2_with fail
    go_ret
    exact ⟨ret_bool HF.out.symm, x.end_ (below_then (below_alloc _) (below_alloc _))⟩
  subst h2
  by_cases h3 : v = v'
  case neg =>
    have HF := Lib.hid (Pr.same_no (o := o) (c := c) (v := v) (w := w) (l := l) (o' := o) (c' := c) (v' := v') (w' := w') (l' := l') (.inr (.inr (.inl h3))))
    have g1 := run_neq_val v v'
    rw [decide_eq_false h3] at g1
    clear h3 hat hat'
    go_enter Tryd.func37, Tryd.ntmps37
    go_wp2_with fail
    go_ret
    exact ⟨ret_bool HF.out.symm, x.end_ (below_then (below_alloc _) (below_alloc _))⟩
  subst h3
  have e3 := run_neq_val v v
  rw [decide_eq_true rfl] at e3
  by_cases h4 : w = w'
  case neg =>
    have HF := Lib.hid (Pr.same_no (o := o) (c := c) (v := v) (w := w) (l := l) (o' := o) (c' := c) (v' := v) (w' := w') (l' := l') (.inr (.inr (.inr (.inl h4)))))
    have g1 := run_neq_val w w'
    rw [decide_eq_false h4] at g1
    clear h4 hat hat'
    go_enter Tryd.func37, Tryd.ntmps37
    go_wp2_with fail
    go_ret
    exact ⟨ret_bool HF.out.symm, x.end_ (below_then (below_alloc _) (below_alloc _))⟩
  subst h4
  have e4 := run_neq_val w w
  rw [decide_eq_true rfl] at e4
  by_cases hl : l.length = l'.length
  case neg =>
    have HF := Lib.hid (Pr.same_no (o := o) (c := c) (v := v) (w := w) (l := l) (o' := o) (c' := c) (v' := v) (w' := w) (l' := l') (.inr (.inr (.inr (.inr hl)))))
    have g1 : ((l.length : Int) != (l'.length : Int)) = true := by simpa using (show ¬ (l.length : Int) = (l'.length : Int) by omega)
    clear hl hat hat'
    go_enter Tryd.func37, Tryd.ntmps37
    go_wp2_with fail
    go_ret
    exact ⟨ret_bool HF.out.symm, x.end_ (below_then (below_alloc _) (below_alloc _))⟩
  have hne : ((l.length : Int) != (l'.length : Int)) = false := by simp [hl]
  have HL := Lib.hid hl
  clear hl
  go_enter Tryd.func37, Tryd.ntmps37
  go_wp2_with fail
  refine wp_here fun W1 hW1 => ?_
  have hb0 : Below W.heap.size W W1 := hW1 ▸ x.more2 _ _
  have g8 : W1.cell? ⟨x.1.heap.size, 8, none⟩ = some (.slice A l.length ca) := by rw [hW1]; exact cell_old (by rw [cell_new rfl]; rfl)
  have g8' : W1.cell? ⟨x.1.heap.size + 1, 8, none⟩ = some (.slice A' l'.length ca') := by rw [hW1, cell_new (by simp)]; rfl
  have hbox := fun z : Lt W1 => z.cell g8
  have hbox' := fun z : Lt W1 => z.cell g8'
  clear hW1 g8 g8' e3 e4
  go_loopw [5, 6] (fun i _ wr => ∃ (k : Nat) (y : Lt W1), wr = y.1 ∧ i = .int .i64 k ∧ k ≤ l.length ∧ l.take k = l'.take k) (fun i _ _ => l.length - (intOf i).toNat)
  case atStart => exact ⟨0, Lt.base W1, rfl, rfl, by omega, rfl⟩
  case round =>
    obtain ⟨k, y, rfl, rfl, hk, htake⟩ := hrel
    have HT := Lib.hid htake
    clear htake
    by_cases hlt : k < l.length
    · have hlt' : k < l'.length := by have := HL.out; omega
      obtain ⟨b, off, q, B, cb, hq, hmem, rfl, hcells, hqat⟩ := hat.kid hlt
      obtain ⟨b', off', q', B', cb', hq', hmem', rfl, hcells', hqat'⟩ := hat'.kid hlt'
      have hqs : q.size ≤ 1000000000 := by have := Pr.size_kid (p := .mk o c v w l) hmem; omega
      have HQ := Lib.hid hq
      have HQ' := Lib.hid hq'
      obtain ⟨d0, d1, d2, d3, d4, d5, d6, d7, d8⟩ := hcells.below hb0
      obtain ⟨f0, f1, f2, f3, f4, f5, f6, f7, f8⟩ := hcells'.below hb0
      obtain ⟨bs, hbs⟩ : ∃ bs, bs = q.same q' := ⟨_, rfl⟩
      have hcall : ∀ z : Lt W1, Calls Tryd.prog 37 #[q.arg B cb, q'.arg B' cb'] z.1 fun e w' => e = .returned (.bool bs) ∧ ∃ y : Lt W1, w' = y.1 := fun z => hbs ▸ IH.out q hmem z q' (hqat.below hb0) (hqat'.below hb0) hqs
      have HC := Lib.hid hcall
      have HB := Lib.hid hbs
      have z0 := fun z : Lt W1 => z.cell d0
      have y0 := fun z : Lt W1 => z.cell f0
      have z1 := fun z : Lt W1 => z.cell d1
      have y1 := fun z : Lt W1 => z.cell f1
      have z2 := fun z : Lt W1 => z.cell d2
      have y2 := fun z : Lt W1 => z.cell f2
      have z3 := fun z : Lt W1 => z.cell d3
      have y3 := fun z : Lt W1 => z.cell f3
      have z4 := fun z : Lt W1 => z.cell d4
      have y4 := fun z : Lt W1 => z.cell f4
      have z5 := fun z : Lt W1 => z.cell d5
      have y5 := fun z : Lt W1 => z.cell f5
      have z6 := fun z : Lt W1 => z.cell d6
      have y6 := fun z : Lt W1 => z.cell f6
      have z7 := fun z : Lt W1 => z.cell d7
      have y7 := fun z : Lt W1 => z.cell f7
      have z8 := fun z : Lt W1 => z.cell d8
      have y8 := fun z : Lt W1 => z.cell f8
      clear hq hq' hcall hbs hcells hcells' d0 d1 d2 d3 d4 d5 d6 d7 d8 f0 f1 f2 f3 f4 f5 f6 f7 f8
      cases bs
      · have HF := Lib.hid (Pr.same_kid (o := o) (c := c) (v := v) (w := w) HQ.out HQ'.out HB.out.symm)
        go_wp2_with fail
        refine wp_region_pure _ (by kernel_rfl) (by kernel_rfl) ?_
        repeat (go_big_quiet_step ((go_at_call 37; exact HC.out _)))
        refine wpQuiet_nil ?_; intro _ hw'; obtain ⟨z, rfl⟩ := hw'
        go_wp2_with fail
        go_ret
        exact ⟨ret_bool HF.out.symm, z.via hb0, rfl⟩
      · go_wp2_with fail
        refine wp_region_pure _ (by kernel_rfl) (by kernel_rfl) ?_
        repeat (go_big_quiet_step ((go_at_call 37; exact HC.out _)))
        refine wpQuiet_nil ?_; intro _ hw'; obtain ⟨z, rfl⟩ := hw'
        go_wp2_with fail
        go_roundw
        case rel => exact ⟨k + 1, z, rfl, by go_num, by omega, Pr.take_same HT.out HQ.out HQ'.out HB.out.symm⟩
        case measure => simp [intOf]; omega
    · obtain rfl : k = l.length := by omega
      have HF := Lib.hid (Pr.same_end (o := o) (c := c) (v := v) (w := w) HL.out HT.out)
      go_wp2_with fail
      go_ret
      exact ⟨ret_bool HF.out.symm, y.via hb0, rfl⟩


/-- What the program's Same says of one predicate. -/
def SameAt (p : Pr) : Prop := ∀ (W : World) (x : Lt W) (q : Pr) (A A' : Option Addr) (ca ca' : Nat), p.At W A ca → q.At W A' ca' → Calls Tryd.prog 36 #[p.arg A ca, q.arg A' ca'] x.1 fun e w' => e = .returned (.bool (p.same q)) ∧ ∃ y : Lt W, w' = y.1

set_option maxHeartbeats 2000000 in
theorem equalfunc_any {W : World} {o c : Int} {v w : Val} {l l' : List Pr} {A A' : Option Addr} {ca ca' : Nat} (ih : ∀ q ∈ l, SameAt q) (hlen : l.length ≤ 1000000000) (hat : (Pr.mk o c v w l).At W A ca) (hat' : (Pr.mk o c v w l').At W A' ca') (x : Lt W) :
    Calls Tryd.prog 63 #[.slice A l.length ca, .slice A' l'.length ca', .func (.func 36) #[] #[]] x.1 fun e w' => e = .returned (.bool ((Pr.mk o c v w l).same (.mk o c v w l'))) ∧ ∃ y : Lt W, w' = y.1 := by
  have IH := Lib.hid ih
  clear ih
  by_cases hl : l.length = l'.length
  case neg =>
    have HF := Lib.hid (Pr.same_no (o := o) (c := c) (v := v) (w := w) (l := l) (o' := o) (c' := c) (v' := v) (w' := w) (l' := l') (.inr (.inr (.inr (.inr hl)))))
    have g1 : ((l.length : Int) != (l'.length : Int)) = true := by simpa using (show ¬ (l.length : Int) = (l'.length : Int) by omega)
    clear hl hat hat'
    go_enter Tryd.func63, Tryd.ntmps63
    go_wp2_with fail
    go_ret
    exact ⟨ret_bool HF.out.symm, x, rfl⟩
  have hne : ((l.length : Int) != (l'.length : Int)) = false := by simp [hl]
  have HL := Lib.hid hl
  clear hl
  go_enter Tryd.func63, Tryd.ntmps63
  go_wp2_with fail
  go_loopw [17] (fun i wr => ∃ (k : Nat) (y : Lt W), wr = y.1 ∧ i = .int .i64 k ∧ k ≤ l.length ∧ l.take k = l'.take k) (fun i _ => l.length - (intOf i).toNat)
  case atStart => exact ⟨0, x, rfl, rfl, by omega, rfl⟩
  case round =>
    obtain ⟨k, y, rfl, rfl, hk, htake⟩ := hrel
    have HT := Lib.hid htake
    clear htake
    by_cases hlt : k < l.length
    · have hlt' : k < l'.length := by have := HL.out; omega
      obtain ⟨b, off, q, B, cb, hq, hmem, rfl, hcells, hqat⟩ := hat.kid hlt
      obtain ⟨b', off', q', B', cb', hq', hmem', rfl, hcells', hqat'⟩ := hat'.kid hlt'
      have HQ := Lib.hid hq
      have HQ' := Lib.hid hq'
      obtain ⟨d0, d1, d2, d3, d4, d5, d6, d7, d8⟩ := hcells.lt y
      obtain ⟨f0, f1, f2, f3, f4, f5, f6, f7, f8⟩ := hcells'.lt y
      have y0 := fun o : Obj => cell_old (o := o) f0
      have y1 := fun o : Obj => cell_old (o := o) f1
      have y2 := fun o : Obj => cell_old (o := o) f2
      have y3 := fun o : Obj => cell_old (o := o) f3
      have y4 := fun o : Obj => cell_old (o := o) f4
      have y5 := fun o : Obj => cell_old (o := o) f5
      have y6 := fun o : Obj => cell_old (o := o) f6
      have y7 := fun o : Obj => cell_old (o := o) f7
      have y8 := fun o : Obj => cell_old (o := o) f8
      obtain ⟨bs, hbs⟩ : ∃ bs, bs = q.same q' := ⟨_, rfl⟩
      have HB := Lib.hid hbs
      clear hq hq' hbs hcells hcells' f0 f1 f2 f3 f4 f5 f6 f7 f8
      cases bs
      · have HF := Lib.hid (Pr.same_kid (o := o) (c := c) (v := v) (w := w) HQ.out HQ'.out HB.out.symm)
        go_wp2_with fail
        refine calls_here fun W2 hW2 => ?_
        have hb2 : Below W.heap.size W W2 := hW2 ▸ y.more2 _ _
        have hcall := IH.out q hmem W2 (Lt.base W2) q' B B' cb cb' (hqat.below hb2) (hqat'.below hb2)
        rw [← HB.out] at hcall
        clear hW2
        refine hcall.mono ?_; rintro e w' ⟨rfl, z, rfl⟩
        clear hcall
        go_wp2_with fail
        go_ret
        exact ⟨ret_bool HF.out.symm, z.via hb2, rfl⟩
      · go_wp2_with fail
        refine calls_here fun W2 hW2 => ?_
        have hb2 : Below W.heap.size W W2 := hW2 ▸ y.more2 _ _
        have hcall := IH.out q hmem W2 (Lt.base W2) q' B B' cb cb' (hqat.below hb2) (hqat'.below hb2)
        rw [← HB.out] at hcall
        clear hW2
        refine hcall.mono ?_; rintro e w' ⟨rfl, z, rfl⟩
        clear hcall
        go_wp2_with fail
        go_roundw
        case rel => exact ⟨k + 1, z.via hb2, rfl, by go_num, by omega, Pr.take_same HT.out HQ.out HQ'.out HB.out.symm⟩
        case measure => simp [intOf]; omega
    · obtain rfl : k = l.length := by omega
      have HF := Lib.hid (Pr.same_end (o := o) (c := c) (v := v) (w := w) HL.out HT.out)
      go_wp2_with fail
      go_ret
      exact ⟨ret_bool HF.out.symm, y, rfl⟩

set_option maxHeartbeats 2000000 in
theorem psame_all : ∀ p : Pr, p.size ≤ 1000000000 → SameAt p := by
  refine Pr.ind fun p ih hsz W x q A A' ca ca' hat hat' => ?_
  obtain ⟨o, c, v, w, l⟩ := p
  obtain ⟨o', c', v', w', l'⟩ := q
  have IH := Lib.hid (show ∀ q ∈ l, SameAt q from fun q hq => ih q hq (by have := Pr.size_kid (p := .mk o c v w l) hq; omega))
  have hlen : l.length ≤ 1000000000 := by have h1 := Pr.len_le l; have h2 := Pr.size_mk o c v w l; omega
  clear ih
  show Calls Tryd.prog 36 #[.agg #[.int .i64 o, .int .i64 c, .bool v.t, .int .i64 v.n, .string v.s, .bool w.t, .int .i64 w.n, .string w.s, .slice A l.length ca], .agg #[.int .i64 o', .int .i64 c', .bool v'.t, .int .i64 v'.n, .string v'.s, .bool w'.t, .int .i64 w'.n, .string w'.s, .slice A' l'.length ca']] x.1 _
  by_cases h1 : o = o'
  case neg =>
    have HF := Lib.hid (Pr.same_no (o := o) (c := c) (v := v) (w := w) (l := l) (o' := o') (c' := c') (v' := v') (w' := w') (l' := l') (.inl h1))
    have g1 : (o == o') = false := by simpa using h1
    clear h1 hat hat'
    go_enter Tryd.func36, Tryd.ntmps36
    go_wp2_with fail
    go_ret
    exact ⟨ret_bool HF.out.symm, x.end_ (below_then (below_alloc _) (below_alloc _))⟩
  subst h1
  by_cases h2 : c = c'
  case neg =>
    have HF := Lib.hid (Pr.same_no (o := o) (c := c) (v := v) (w := w) (l := l) (o' := o) (c' := c') (v' := v') (w' := w') (l' := l') (.inr (.inl h2)))
    have g1 : (c == c') = false := by simpa using h2
    clear h2 hat hat'
    go_enter Tryd.func36, Tryd.ntmps36
    go_wp2_with fail
    go_ret
    exact ⟨ret_bool HF.out.symm, x.end_ (below_then (below_alloc _) (below_alloc _))⟩
  subst h2
  by_cases h3 : v = v'
  case neg =>
    have HF := Lib.hid (Pr.same_no (o := o) (c := c) (v := v) (w := w) (l := l) (o' := o) (c' := c) (v' := v') (w' := w') (l' := l') (.inr (.inr (.inl h3))))
    have g1 := run_eql_val v v'
    rw [decide_eq_false h3] at g1
    clear h3 hat hat'
    go_enter Tryd.func36, Tryd.ntmps36
    go_wp2_with fail
    go_ret
    exact ⟨ret_bool HF.out.symm, x.end_ (below_then (below_alloc _) (below_alloc _))⟩
  subst h3
  have e3 := run_eql_val v v
  rw [decide_eq_true rfl] at e3
  by_cases h4 : w = w'
  case neg =>
    have HF := Lib.hid (Pr.same_no (o := o) (c := c) (v := v) (w := w) (l := l) (o' := o) (c' := c) (v' := v) (w' := w') (l' := l') (.inr (.inr (.inr (.inl h4)))))
    have g1 := run_eql_val w w'
    rw [decide_eq_false h4] at g1
    clear h4 hat hat'
    go_enter Tryd.func36, Tryd.ntmps36
    go_wp2_with fail
    go_ret
    exact ⟨ret_bool HF.out.symm, x.end_ (below_then (below_alloc _) (below_alloc _))⟩
  subst h4
  have e4 := run_eql_val w w
  rw [decide_eq_true rfl] at e4
  go_enter Tryd.func36, Tryd.ntmps36
  go_wp2_with fail
  refine calls_here fun W1 hW1 => ?_
  have hb0 : Below W.heap.size W W1 := hW1 ▸ x.more2 _ _
  clear hW1 e3 e4
  refine (equalfunc_any IH.out hlen (hat.below hb0) (hat'.below hb0) (Lt.base W1)).mono ?_; rintro e w' ⟨rfl, y, rfl⟩
  go_wp2_with fail
  go_ret
  exact ⟨rfl, y.via hb0, rfl⟩
theorem psame_any {W : World} (x : Lt W) {p q : Pr} {A A' : Option Addr} {ca ca' : Nat} (hat : p.At W A ca) (hat' : q.At W A' ca') (hsz : p.size ≤ 1000000000) :
    Calls Tryd.prog 36 #[p.arg A ca, q.arg A' ca'] x.1 fun e w' => e = .returned (.bool (p.same q)) ∧ ∃ y : Lt W, w' = y.1 := psame_all p hsz W x q A A' ca ca' hat hat'

end Go.Proofs.YtghpildnajdlpaaDoor
