/-
  The statement RowStays, walked: the row given stays, what is handed back fits, and what isn't set stays; it returns true. Conditions: table, row and update lie in memory as they read, their numbers are of 64 bits.
-/
import Derived.Test.YtpgbngmekfakkaaOpen
import Derived.Test.YtpgbngmekfakkaaRowLaw
import Derived.Test.YtpgbngmekfakkaaAppRow
namespace Go.Proofs.Ytpgbngmekfakkaa
open Go.RowKit
variable {W : World}

theorem R.err_cases (c : List Bool) (r : List Val) (l : List SetV) : (∃ out, R.err c r l = 0 ∧ R.out c r l = out ∧ R.fits c r = true ∧ R.sets c l = true ∧ R.upd r l l.length = some out) ∨ (R.out c r l = [] ∧ (R.err c r l = 1 ∨ R.err c r l = 20 ∨ R.err c r l = 21)) := by
  unfold R.err R.out
  cases R.fits c r
  · right; simp
  cases R.sets c l
  · right; simp
  cases hu : R.upd r l l.length with
  | none => right; simp
  | some out => left; exact ⟨out, by simp, by simp, rfl, rfl, rfl⟩
theorem R.met_all {l : List SetV} {j : Nat} (h : R.met l l.length j = false) : ∀ s ∈ l, s.col ≠ j := by
  intro s hs he
  obtain ⟨i, hi, hg⟩ := R.mem_get hs
  rw [R.met_iff.2 ⟨i, s, hi, hg, he⟩] at h
  cases h

set_option maxHeartbeats 1000000 in
theorem rowStays_any {A B C : Option Addr} {c : List Bool} {r : List Val} {l : List SetV} {ca cb cc : Nat} (hc : ColsAt W A c) (hr : RowAt W B r) (hs : SetsAt W C l) (hn : Nums r) (hsn : SetNums l) (hnil : B = none → cb = 0) (x : Lt W) :
    Calls Try.prog 5 #[.agg #[.slice A c.length ca], .slice B r.length cb, .slice C l.length cc] x.1 fun e w' => e = .returned (.bool true) ∧ ∃ y : Lt W, w' = y.1 := by
  go_enter Try.func5, Try.ntmps5
  go_wp2_with fail
  refine calls_here fun W1 hW1 => ?_
  have hb0 : Below W.heap.size W W1 := hW1 ▸ x.more _
  have hw1 : W1.cell? ⟨x.1.heap.size, 0, none⟩ = some (.slice A c.length ca) := by rw [hW1]; simp
  have zt := fun z : Lt W1 => z.cell hw1
  have hc1 := hc.below hb0
  have hr1 := hr.below hb0
  have hs1 := hs.below hb0
  clear hW1 hc hr hs
  refine (awake_any (Lt.base W1)).mono ?_; rintro e w' ⟨rfl, y, rfl⟩
  go_wp2_with fail
  by_cases hbig : c.length ≤ 1000 ∧ r.length ≤ 1000 ∧ l.length ≤ 1000
  · refine (long_any hbig y).mono ?_; rintro e w' ⟨rfl, y, rfl⟩
    have hrl : r.length ≤ 1000 := hbig.2.1
    have hll : l.length ≤ 1000 := hbig.2.2
    have hry := hr1.below y.2
    have hsz := y.2.size
    go_wp2_with (at_builtin; go_must (refine wpList_append_row rfl _ _ rfl rfl rfl hry hnil (by omega) ?_); intro v9 w2 hown9 hb2; have hby2 : Below W1.heap.size W1 w2 := y.2.trans (hb2.mono hsz); have hx20 : w2.cell? ⟨x.1.heap.size, 0, none⟩ = some (.slice A c.length ca) := (Lt.base w2).old hby2 hw1)
    obtain ⟨A9, ca9, rfl, _, hra9⟩ := hown9.row
    clear hown9
    refine (update_any (hc1.below hby2) (hr1.below hby2) (hs1.below hby2) hn hsn hnil (Lt.base w2)).mono ?_
    rintro e w3 ⟨v, rfl, hown, hb3⟩
    have hb3 : Below w2.heap.size w2 w3 := hb3
    have hby3 : Below W1.heap.size W1 w3 := hby2.trans (hb3.mono hby2.size)
    obtain ⟨A3, ca3, rfl, _, hra3⟩ := hown.row
    clear hown
    rcases R.err_cases c r l with ⟨out, he, ho, hf, hst, hu⟩ | ⟨ho, he⟩
    · rw [he, ho]
      rw [ho] at hra3
      obtain ⟨hfo, hlo, hkey⟩ := R.out_stays hf hst hu
      have hmay := R.fits_may hfo
      obtain ⟨q1, q2⟩ := R.may_iff.1 hmay.1
      have hol : out.length ≤ 4 := by omega
      have hop : 0 < out.length := by omega
      have HF := Lib.hid hfo
      have HLO := Lib.hid hlo
      have HK := Lib.hid hkey
      have hk0 : out[0]? = r[0]? := hkey 0 fun s hs he => by
        obtain ⟨_, hm, _⟩ := R.sets_iff.1 hst
        have := R.may_col (hm s hs)
        omega
      have HK0 := Lib.hid hk0
      clear he ho hf hst hu hfo hlo hkey hk0 hmay
      go_wp2_with fail
      refine (rsame_any (hr1.below hby3) (hra9.below hb3) (by omega) (Lt.base w3)).mono ?_
      rintro e w4 ⟨rfl, z, rfl⟩
      have hd : decide (r = r) = true := decide_eq_true rfl
      have hby4 : Below W1.heap.size W1 z.1 := hby3.trans (z.2.mono hby3.size)
      have hra4 := hra3.below z.2
      obtain ⟨bo, oo, rfl, hco⟩ := hra4 (fun e => by subst e; simp at hop)
      have hr4 := hr1.below hby4
      have hrp : 0 < r.length := by have := HLO.out; omega
      obtain ⟨br, or_, rfl, hcr⟩ := hr4 (fun e => by subst e; simp at hrp)
      have hu0 : out[0]? = some out[0] := List.getElem?_eq_getElem hop
      obtain ⟨a0, a1, a2⟩ := hco 0 _ hu0
      obtain ⟨b0, b1, b2⟩ := hcr 0 _ (HK0.out ▸ hu0)
      obtain ⟨u0, hu0'⟩ : ∃ u, u = out[0] := ⟨_, rfl⟩
      rw [← hu0'] at a0 a1 a2 b0 b1 b2
      have hs4 := hs1.below hby4
      have z0 := fun z2 : Lt z.1 => z2.old hby4 hw1
      simp only [Nat.zero_mul, Nat.add_zero] at a0 a1 a2 b0 b1 b2
      have p0 := fun z2 : Lt z.1 => z2.cell a0
      have p1 := fun z2 : Lt z.1 => z2.cell a1
      have p2 := fun z2 : Lt z.1 => z2.cell a2
      have p3 := fun z2 : Lt z.1 => z2.cell b0
      have p4 := fun z2 : Lt z.1 => z2.cell b1
      have p5 := fun z2 : Lt z.1 => z2.cell b2
      have hq := run_neq_val u0 u0
      rw [decide_eq_true rfl] at hq
      have hfit : ∀ z2 : Lt z.1, Calls Try.prog 15 #[.agg #[.slice A c.length ca], .slice (some ⟨bo, oo, none⟩) out.length ca3] z2.1 fun e w' => e = .returned (.bool true) ∧ ∃ y : Lt z.1, w' = y.1 := fun z2 => HF.out ▸ fits_any (hc1.below hby4) hra4 z2
      clear a0 a1 a2 b0 b1 b2 hu0 hu0' HK0
      go_wp2_with fail
      refine wp_region_here (by kernel_rfl) (by kernel_rfl) ?_
      repeat (go_big_quiet_step ((go_at_call 15; exact hfit _)))
      refine wpQuiet_nil ?_; intro _ hw'; obtain ⟨z2, rfl⟩ := hw'
      clear p0 p1 p2 p3 p4 p5 hq
      go_wp2_with fail
      go_loopw [12, 13, 14] (fun i _ _ wr => ∃ (k : Nat) (z2 : Lt z.1), wr = z2.1 ∧ i = .int .i64 k ∧ k ≤ out.length) (fun i _ _ _ => out.length - (intOf i).toNat)
      case atStart => exact ⟨0, z2, rfl, rfl, by omega⟩
      case round =>
        obtain ⟨k, z3, rfl, rfl, hk⟩ := hrel
        by_cases hlt : k < out.length
        · go_wp2_with fail
          go_loopw [13, 14] (fun st j wr => ∃ (m : Nat) (z4 : Lt z.1), wr = z4.1 ∧ j = .int .i64 m ∧ m ≤ l.length ∧ st = .bool (R.met l m k)) (fun _ j _ => l.length - (intOf j).toNat)
          case atStart => exact ⟨0, z3, rfl, rfl, by omega, rfl⟩
          case round =>
            obtain ⟨m, z4, rfl, rfl, hm, rfl⟩ := hrel
            by_cases hltm : m < l.length
            · obtain ⟨b, o, s, rfl, hsm, c0, _, _, _, _, _, _⟩ := hs4.at_ hltm
              have HSM := Lib.hid hsm
              have y0 := z4.cell c0
              clear hsm c0
              cases hmt : R.met l m k
              · have HM := Lib.hid hmt
                clear hmt
                go_wp2_with fail
                go_roundw
                case rel => exact ⟨m + 1, z4, rfl, by go_num, by omega, by rw [R.met_succ HSM.out, HM.out]; rfl⟩
                case measure => simp [intOf]; omega
              · have HM := Lib.hid hmt
                clear hmt
                go_wp2_with fail
                go_roundw
                case rel => exact ⟨m + 1, z4, rfl, by go_num, by omega, by rw [R.met_succ HSM.out, HM.out]; rfl⟩
                case measure => simp [intOf]; omega
            · obtain rfl : m = l.length := by omega
              cases hmt : R.met l l.length k
              · have HM := Lib.hid hmt
                clear hmt
                have hlr : k < r.length := by have := HLO.out; omega
                obtain ⟨a0, a1, a2⟩ := hco k out[k] (List.getElem?_eq_getElem hlt)
                obtain ⟨b0, b1, b2⟩ := hcr k out[k] (by rw [← HK.out k (R.met_all HM.out)]; exact List.getElem?_eq_getElem hlt)
                obtain ⟨u, hu⟩ : ∃ u, u = out[k] := ⟨_, rfl⟩
                rw [← hu] at a0 a1 a2 b0 b1 b2
                have p0 := fun z2 : Lt z.1 => z2.cell a0
                have p1 := fun z2 : Lt z.1 => z2.cell a1
                have p2 := fun z2 : Lt z.1 => z2.cell a2
                have p3 := fun z2 : Lt z.1 => z2.cell b0
                have p4 := fun z2 : Lt z.1 => z2.cell b1
                have p5 := fun z2 : Lt z.1 => z2.cell b2
                have hq := run_neq_val u u
                rw [decide_eq_true rfl] at hq
                clear a0 a1 a2 b0 b1 b2 hu
                go_wp2_with fail
                refine wp_region_pure _ (by kernel_rfl) (by kernel_rfl) ?_
                repeat (go_big_quiet_step (fail))
                refine wpQuiet_nil ?_; intro _ hw'; obtain ⟨z5, rfl⟩ := hw'
                go_wp2_with fail
                go_roundw
                case rel => exact ⟨k + 1, z5, rfl, by go_num, by omega⟩
                case measure => simp [intOf]; omega
              · clear hmt
                go_wp2_with fail
                refine wp_region_pure _ (by kernel_rfl) (by kernel_rfl) ?_
                repeat (go_big_quiet_step (fail))
                refine wpQuiet_nil ?_; intro _ hw'; obtain ⟨z5, rfl⟩ := hw'
                go_wp2_with fail
                go_roundw
                case rel => exact ⟨k + 1, z5, rfl, by go_num, by omega⟩
                case measure => simp [intOf]; omega
        · obtain rfl : k = out.length := by omega
          go_wp2_with fail
          go_ret
          exact ⟨rfl, z3.via (below_then hb0 hby4), rfl⟩
    · rw [ho] at hra3 ⊢
      clear ho hra3
      obtain ⟨er, her⟩ : ∃ er, er = R.err c r l := ⟨_, rfl⟩
      rw [← her] at he ⊢
      clear her
      have hd : decide (r = r) = true := decide_eq_true rfl
      rcases he with rfl | rfl | rfl
      all_goals
        go_wp2_with fail
        refine (rsame_any (hr1.below hby3) (hra9.below hb3) (by omega) (Lt.base w3)).mono ?_
        rintro e w4 ⟨rfl, z, rfl⟩
        go_wp2_with fail
        go_ret
        exact ⟨rfl, z.via (below_then hb0 hby3), rfl⟩
  · refine (long_big hbig y).mono ?_; rintro e w' ⟨rfl, y, rfl⟩
    go_wp2_with fail
    go_ret
    exact ⟨rfl, y.via hb0, rfl⟩
end Go.Proofs.Ytpgbngmekfakkaa
