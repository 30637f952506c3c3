/-
  The span of a predicate's keys, walked on the program's side. Conditions: it has no PNot, its parts are of the right numbers; it lies in memory as it reads; at most a billion parts.
-/
import Derived.Test.YtppoefbfepehpaaFold
namespace Go.Proofs.Ytppoefbfepehpaa
open Go.RowKit

theorem calls_to {f : FuncId} {args : Array Value} {w : World} {a b : Sp} (h : Calls Try.prog f args w fun e w' => e = .returned a.val ∧ Below w.heap.size w w') (e : a = b) : Calls Try.prog f args w fun e w' => e = .returned b.val ∧ Below w.heap.size w w' := e ▸ h
set_option maxHeartbeats 2000000 in
theorem keys_leaf {o : Int} (c : Int) (v u : Val) (A : Option Addr) (ca : Nat) (ho : 1 ≤ o ∧ o ≤ 9) (W : World) : Calls Try.prog 32 #[.agg #[.int .i64 o, .int .i64 c, .bool v.t, .int .i64 v.n, .string v.s, .bool u.t, .int .i64 u.n, .string u.s, .slice A 0 ca]] W fun e w' => e = .returned (if o = 2 then Sp.nothing else if c ≠ 0 then Sp.full else Pr.leafSpan o v u).val ∧ Below W.heap.size W w' := by
  by_cases h2 : o = 2
  · subst h2
    go_enter Try.func32, Try.ntmps32
    go_wp2_with fail
    refine calls_here fun W1 hW1 => ?_
    have hb : Below W.heap.size W W1 := by rw [hW1]; exact below_then (below_alloc _) (below_alloc _)
    have hO : Blk W1 (W.heap.size + 1) Sp.full.cells := by rw [hW1]; exact Blk.new' (by simp)
    clear hW1
    refine (nothing_any (Lt.base W1)).mono ?_; rintro e w' ⟨rfl, y, rfl⟩
    have hO2 := hO.below y.2
    obtain ⟨r0, r1, r2, r3, r4, r5, r6, r7, r8, r9, r10⟩ := hO2.c11
    have rf := hO2.free
    go_wp2_with fail
    exact bodyPost_ret (span_out rfl rfl (sput_blk hO2 Sp.nothing)) rfl ⟨rfl, sput_below (below_then hb y.2) (by omega) Sp.nothing⟩
  refine calls_to (a := if c ≠ 0 then Sp.full else Pr.leafSpan o v u) ?_ (if_neg h2).symm
  have o2 : (o == 2) = false := by rw [beq_eq_false_iff_ne]; omega
  have o11 : (o == 11) = false := by rw [beq_eq_false_iff_ne]; omega
  have o12 : (o == 12) = false := by rw [beq_eq_false_iff_ne]; omega
  by_cases hc : c = 0
  · subst hc
    refine calls_to (a := Pr.leafSpan o v u) ?_ (if_neg (by simp)).symm
    obtain rfl | rfl | rfl | rfl | rfl | rfl | rfl | rfl : o = 1 ∨ o = 3 ∨ o = 4 ∨ o = 5 ∨ o = 6 ∨ o = 7 ∨ o = 8 ∨ o = 9 := by omega
    · clear o2 o11 o12 h2 ho
      go_enter Try.func32, Try.ntmps32
      go_wp2_with fail
      refine bodyPost_ret (v := Sp.val Sp.full) ?_ rfl ⟨rfl, ?_⟩
      · simp [results, Try.results32, go_sem]
      · repeat (first | with_reducible exact Below.refl _ _ | refine below_then ?_ (below_alloc _) | refine Below.drew ?_)
    · clear o2 o11 o12 h2 ho
      go_enter Try.func32, Try.ntmps32
      go_wp2_with fail
      refine bodyPost_ret (v := Sp.val ⟨false, true, false, v, true, false, v⟩) ?_ rfl ⟨rfl, ?_⟩
      · simp [results, Try.results32, go_sem]
      · repeat (first | with_reducible exact Below.refl _ _ | refine below_then ?_ (below_alloc _) | refine Below.drew ?_)
    · clear o2 o11 o12 h2 ho
      go_enter Try.func32, Try.ntmps32
      go_wp2_with fail
      refine bodyPost_ret (v := Sp.val Sp.full) ?_ rfl ⟨rfl, ?_⟩
      · simp [results, Try.results32, go_sem]
      · repeat (first | with_reducible exact Below.refl _ _ | refine below_then ?_ (below_alloc _) | refine Below.drew ?_)
    · clear o2 o11 o12 h2 ho
      go_enter Try.func32, Try.ntmps32
      go_wp2_with fail
      refine bodyPost_ret (v := Sp.val ⟨false, false, false, Pr.zv, true, true, v⟩) ?_ rfl ⟨rfl, ?_⟩
      · simp [results, Try.results32, go_sem]
      · repeat (first | with_reducible exact Below.refl _ _ | refine below_then ?_ (below_alloc _) | refine Below.drew ?_)
    · clear o2 o11 o12 h2 ho
      go_enter Try.func32, Try.ntmps32
      go_wp2_with fail
      refine bodyPost_ret (v := Sp.val ⟨false, false, false, Pr.zv, true, false, v⟩) ?_ rfl ⟨rfl, ?_⟩
      · simp [results, Try.results32, go_sem]
      · repeat (first | with_reducible exact Below.refl _ _ | refine below_then ?_ (below_alloc _) | refine Below.drew ?_)
    · clear o2 o11 o12 h2 ho
      go_enter Try.func32, Try.ntmps32
      go_wp2_with fail
      refine bodyPost_ret (v := Sp.val ⟨false, true, true, v, false, false, Pr.zv⟩) ?_ rfl ⟨rfl, ?_⟩
      · simp [results, Try.results32, go_sem]
      · repeat (first | with_reducible exact Below.refl _ _ | refine below_then ?_ (below_alloc _) | refine Below.drew ?_)
    · clear o2 o11 o12 h2 ho
      go_enter Try.func32, Try.ntmps32
      go_wp2_with fail
      refine bodyPost_ret (v := Sp.val ⟨false, true, false, v, false, false, Pr.zv⟩) ?_ rfl ⟨rfl, ?_⟩
      · simp [results, Try.results32, go_sem]
      · repeat (first | with_reducible exact Below.refl _ _ | refine below_then ?_ (below_alloc _) | refine Below.drew ?_)
    · clear o2 o11 o12 h2 ho
      go_enter Try.func32, Try.ntmps32
      go_wp2_with fail
      refine calls_here fun W1 hW1 => ?_
      have hb : Below W.heap.size W W1 := by rw [hW1]; exact below_then (below_alloc _) (below_alloc _)
      have hO : Blk W1 (W.heap.size + 1) Sp.full.cells := by rw [hW1]; exact Blk.new' (by simp)
      clear hW1
      obtain ⟨s, hs⟩ : ∃ s, Sp.clean ⟨false, true, false, v, true, false, u⟩ = s := ⟨_, rfl⟩
      refine (clean_from hs W1).mono ?_; rintro e w2 ⟨rfl, hb2⟩
      have HS := Lib.hid hs
      clear hs
      have hO2 := hO.below hb2
      obtain ⟨r0, r1, r2, r3, r4, r5, r6, r7, r8, r9, r10⟩ := hO2.c11
      have rf := hO2.free
      go_wp2_with fail
      exact bodyPost_ret (span_out rfl rfl (sput_blk hO2 s)) rfl ⟨ret_span HS.out.symm, sput_below (below_then hb hb2) (by omega) s⟩
  · refine calls_to (a := Sp.full) ?_ (if_pos hc).symm
    have hc' : (c == 0) = false := by rw [beq_eq_false_iff_ne]; exact hc
    clear h2 ho hc
    go_enter Try.func32, Try.ntmps32
    go_wp2_with fail
    refine bodyPost_ret (v := Sp.val Sp.full) ?_ rfl ⟨rfl, ?_⟩
    · simp [results, Try.results32, go_sem]
    · repeat (first | with_reducible exact Below.refl _ _ | refine below_then ?_ (below_alloc _) | refine Below.drew ?_)

set_option maxHeartbeats 1000000 in
theorem keys_all : ∀ p : Pr, p.shape = true → p.bare = true → p.size ≤ 1000000000 → ∀ (W : World) (A : Option Addr) (ca : Nat), p.At W A ca → Calls Try.prog 32 #[p.arg A ca] W fun e w' => e = .returned p.keys.val ∧ Below W.heap.size W w' := by
  refine Pr.ind fun p ih hs hb hsz W A ca hat => ?_
  obtain ⟨o, c, v, u, l⟩ := p
  have hlen : l.length ≤ 1000000000 := by have h1 := Pr.len_le l; have h2 := Pr.size_mk o c v u l; omega
  have hbl := hb
  rw [Pr.bare_mk, Bool.and_eq_true, List.all_eq_true, decide_eq_true_iff] at hbl
  show Calls Try.prog 32 #[.agg #[.int .i64 o, .int .i64 c, .bool v.t, .int .i64 v.n, .string v.s, .bool u.t, .int .i64 u.n, .string u.s, .slice A l.length ca]] W _
  rcases Pr.shape_cases hs with ⟨h1, h9, rfl⟩ | ⟨rfl, _⟩ | ⟨ho, hne, hl⟩
  · refine calls_to (keys_leaf c v u A ca ⟨h1, h9⟩ W) ?_
    rw [Pr.keys_mk, if_neg (by omega : ¬ o = 11), if_neg (by omega : ¬ o = 12)]
  · exact absurd rfl hbl.2
  · have IH : ∀ q ∈ l, ∀ (w : World) (A : Option Addr) (ca : Nat), q.At w A ca → Calls Try.prog 32 #[q.arg A ca] w fun e w' => e = .returned q.keys.val ∧ Below w.heap.size w w' := fun q hq => ih q hq (hl q hq) (hbl.1 q hq) (by have := Pr.size_kid (p := .mk o c v u l) hq; omega)
    rcases ho with rfl | rfl
    · rw [Pr.keys_mk, if_neg (by omega : ¬ (11 : Int) = 2), if_pos rfl]
      have CF := Lib.hid (fun (w : World) (hat : (Pr.mk 11 c v u l).At w A ca) => fold_meet_any IH hne hlen w A ca hat)
      obtain ⟨s, hs⟩ : ∃ s, Pr.fold1 Sp.meet (l.map Pr.keys) = s := ⟨_, rfl⟩
      rw [hs] at CF ⊢
      have HAT := Lib.hid hat
      clear hs IH ih hat hl hne hbl hb hlen hsz
      go_enter Try.func32, Try.ntmps32
      go_wp2_with fail
      refine calls_here fun W1 hW1 => ?_
      have hb1 : Below W.heap.size W W1 := by rw [hW1]; exact below_then (below_alloc _) (below_alloc _)
      have hO : Blk W1 (W.heap.size + 1) Sp.full.cells := by rw [hW1]; exact Blk.new' (by simp)
      clear hW1
      refine (CF.out W1 (HAT.out.below hb1)).mono ?_; rintro e w2 ⟨rfl, hb2⟩
      have hO2 := hO.below hb2
      obtain ⟨r0, r1, r2, r3, r4, r5, r6, r7, r8, r9, r10⟩ := hO2.c11
      have rf := hO2.free
      go_wp2_with fail
      exact bodyPost_ret (span_out rfl rfl (sput_blk hO2 s)) rfl ⟨rfl, sput_below (below_then hb1 hb2) (by omega) s⟩
    · rw [Pr.keys_mk, if_neg (by omega : ¬ (12 : Int) = 2), if_neg (by omega : ¬ (12 : Int) = 11), if_pos rfl]
      have CF := Lib.hid (fun (w : World) (hat : (Pr.mk 12 c v u l).At w A ca) => fold_hull_any IH hne hlen w A ca hat)
      obtain ⟨s, hs⟩ : ∃ s, Pr.fold1 Sp.hull (l.map Pr.keys) = s := ⟨_, rfl⟩
      rw [hs] at CF ⊢
      have HAT := Lib.hid hat
      clear hs IH ih hat hl hne hbl hb hlen hsz
      go_enter Try.func32, Try.ntmps32
      go_wp2_with fail
      refine calls_here fun W1 hW1 => ?_
      have hb1 : Below W.heap.size W W1 := by rw [hW1]; exact below_then (below_alloc _) (below_alloc _)
      have hO : Blk W1 (W.heap.size + 1) Sp.full.cells := by rw [hW1]; exact Blk.new' (by simp)
      clear hW1
      refine (CF.out W1 (HAT.out.below hb1)).mono ?_; rintro e w2 ⟨rfl, hb2⟩
      have hO2 := hO.below hb2
      obtain ⟨r0, r1, r2, r3, r4, r5, r6, r7, r8, r9, r10⟩ := hO2.c11
      have rf := hO2.free
      go_wp2_with fail
      exact bodyPost_ret (span_out rfl rfl (sput_blk hO2 s)) rfl ⟨rfl, sput_below (below_then hb1 hb2) (by omega) s⟩
end Go.Proofs.Ytppoefbfepehpaa
