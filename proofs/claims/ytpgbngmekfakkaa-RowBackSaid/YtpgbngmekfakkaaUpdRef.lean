/-
  A row as an update changes it: the document's answer. Conditions: as for the program's.
-/
import Derived.Test.YtpgbngmekfakkaaUpd
import Derived.RegionTactic
namespace Go.Proofs.Ytpgbngmekfakkaa
open Go.RowKit
variable {W : World}

set_option maxHeartbeats 4000000 in
theorem rupdate_any {A B C : Option Addr} {c : List Bool} {r : List Val} {l : List SetV} {ca cb cc : Nat} (hc : ColsAt W A c) (hr : RowAt W B r) (hs : SetsAt W C l) (hn : Nums r) (hsn : SetNums l) (x : Lt W) :
    Calls Try.prog 19 #[.agg #[.slice A c.length ca], .slice B r.length cb, .slice C l.length cc] x.1 fun e w' => ∃ v, e = .returned (.tuple #[v, .int .i64 (R.err c r l)]) ∧ OwnRow x.1.heap.size w' v (R.out c r l) ∧ Below x.1.heap.size x.1 w' := by
  cases hf : R.fits c r
  · have HE := Lib.hid (show R.err c r l = 1 by simp [R.err, hf])
    have HO := Lib.hid (show R.out c r l = [] by simp [R.out, hf])
    have HF := Lib.hid hf
    clear hf
    go_enter Try.func19, Try.ntmps19
    go_wp2_with fail
    refine calls_here fun W1 hW1 => ?_
    have hx1 : Below x.1.heap.size x.1 W1 := hW1 ▸ below_alloc _
    have hb0 : Below W.heap.size W W1 := hW1 ▸ x.more _
    have hw1 : W1.cell? ⟨x.1.heap.size, 0, none⟩ = some (.slice A c.length ca) := by rw [hW1]; simp
    have zt := fun z : Lt W1 => z.cell hw1
    have hc1 := hc.below hb0
    have hr1 := hr.below hb0
    have hs1 := hs.below hb0
    clear hW1 hw1 hc hr hs
    refine ((HF.out ▸ rfits_row hc1 hr1 (Lt.base W1) : Calls Try.prog 16 _ W1 fun e w' => e = .returned (.bool false) ∧ ∃ y : Lt W1, w' = y.1)).mono ?_; rintro e w' ⟨rfl, y, rfl⟩
    go_wp2_with fail
    go_ret2
    exact ⟨_, by rw [HE.out]; rfl, HO.out.symm ▸ OwnRow.nil _ _, hx1.trans (y.2.mono hx1.size)⟩
  obtain ⟨hmay, hlen⟩ := R.fits_may hf
  have HF := Lib.hid hf
  cases hst : R.sets c l
  · have HE := Lib.hid (show R.err c r l = 20 by simp [R.err, hf, hst])
    have HO := Lib.hid (show R.out c r l = [] by simp [R.out, hst])
    have HK := Lib.hid hst
    clear hf hst hmay hlen
    go_enter Try.func19, Try.ntmps19
    go_wp2_with fail
    refine calls_here fun W1 hW1 => ?_
    have hx1 : Below x.1.heap.size x.1 W1 := hW1 ▸ below_alloc _
    have hb0 : Below W.heap.size W W1 := hW1 ▸ x.more _
    have hw1 : W1.cell? ⟨x.1.heap.size, 0, none⟩ = some (.slice A c.length ca) := by rw [hW1]; simp
    have zt := fun z : Lt W1 => z.cell hw1
    have hc1 := hc.below hb0
    have hr1 := hr.below hb0
    have hs1 := hs.below hb0
    clear hW1 hw1 hc hr hs
    refine ((HF.out ▸ rfits_row hc1 hr1 (Lt.base W1) : Calls Try.prog 16 _ W1 fun e w' => e = .returned (.bool true) ∧ ∃ y : Lt W1, w' = y.1)).mono ?_; rintro e w' ⟨rfl, y, rfl⟩
    go_wp2_with fail
    refine ((HK.out ▸ rsets_any hc1 hs1 y : Calls Try.prog 17 _ y.1 fun e w' => e = .returned (.bool false) ∧ ∃ y : Lt W1, w' = y.1)).mono ?_; rintro e w' ⟨rfl, y, rfl⟩
    go_wp2_with fail
    go_ret2
    exact ⟨_, by rw [HE.out]; rfl, HO.out.symm ▸ OwnRow.nil _ _, hx1.trans (y.2.mono hx1.size)⟩
  have HE := Lib.hid (show R.err c r l = if (R.upd r l l.length).isSome then 0 else 21 by simp [R.err, hf, hst])
  have HO := Lib.hid (show R.out c r l = (R.upd r l l.length).getD [] by simp [R.out, hf, hst])
  have HL := Lib.hid hlen
  have HK := Lib.hid hst
  obtain ⟨q1, q2⟩ := R.may_iff.1 hmay
  have hrl : r.length ≤ 4 := by omega
  have hrp : 0 < r.length := by omega
  have hll : l.length ≤ 3 := by
    simp only [R.sets, Bool.and_eq_true, decide_eq_true_eq] at hst
    exact hst.1
  clear hf hst hmay hlen
  obtain ⟨rb, ro, rfl, hrc⟩ := hr (fun e => by subst e; simp at hrp)
  obtain ⟨i0, hi, hz0, hz1, hz2⟩ := info_parts info_val
  go_enter Try.func19, Try.ntmps19
  go_wp2_with fail
  refine calls_here fun W1 hW1 => ?_
  have hx1 : Below x.1.heap.size x.1 W1 := hW1 ▸ below_alloc _
  have hb0 : Below W.heap.size W W1 := hW1 ▸ x.more _
  have hw1 : W1.cell? ⟨x.1.heap.size, 0, none⟩ = some (.slice A c.length ca) := by rw [hW1]; simp
  have zt := fun z : Lt W1 => z.cell hw1
  have hc1 := hc.below hb0
  have hr1 := hr.below hb0
  have hs1 := hs.below hb0
  clear hW1 hw1 hc hr hs
  clear hrc
  refine ((HF.out ▸ rfits_row hc1 hr1 (Lt.base W1) : Calls Try.prog 16 _ W1 fun e w' => e = .returned (.bool true) ∧ ∃ y : Lt W1, w' = y.1)).mono ?_; rintro e w' ⟨rfl, y, rfl⟩
  go_wp2_with fail
  refine ((HK.out ▸ rsets_any hc1 hs1 y : Calls Try.prog 17 _ y.1 fun e w' => e = .returned (.bool true) ∧ ∃ y : Lt W1, w' = y.1)).mono ?_; rintro e w' ⟨rfl, y, rfl⟩
  have hr2 := hr1.below y.2
  have hs2 := hs1.below y.2
  have hby : Below x.1.heap.size x.1 y.1 := hx1.trans (y.2.mono hx1.size)
  have hnews : ∀ j c, (cellsOf r)[j]? = some c → y.1.cell? ((⟨rb, ro, none⟩ : Addr).add j) = some c := by
    obtain ⟨b', o', hA, hc⟩ := hr2 (fun e => by subst e; simp at hrp)
    simp only [Option.some.injEq, Addr.mk.injEq, and_true] at hA
    obtain ⟨rfl, rfl⟩ := hA
    exact RowAt.news hc
  have HN := Lib.hid hnews
  have hown0 : y.1.ownsRow y.1.heap.size 40 3 (.slice none 0 0) 0 [] := ⟨by simp, .inl ⟨rfl, rfl⟩⟩
  clear hr1 hs1 hc1 zt hnews
  go_wp2_with (at_builtin; go_must (refine wpList_append_own_at _ rfl _ _ 26 rfl y.1.heap.size 40 i0 _ 3 32 Try.underlying26 hi hz0 hz1 hz2 rfl (by omega) _ 0 [] rfl hown0 ⟨rb, ro, none⟩ r.length cb (cellsOf r) rfl (cellsOf_length r) HN.out (cellsOf_one r) (by unfold maxLen; omega) (by omega) (Nat.le_refl _) ?_); intro v' w2 hown hgrow hq1 hq2)
  have hown' : Owns y.1 w2 v' r := by unfold Owns; simpa using hown
  have hgrow2 : y.1.grownBy w2 none := hgrow
  have hb2 : Below y.1.heap.size y.1 w2 := (Below.refl _ _).grown hgrow2 (Nat.le_refl _) (fun k hk => by cases hk)
  obtain ⟨A2, ca2, hv, _, ho⟩ := OwnRow.of_owns hown'
  obtain ⟨g, hA2, hg, hog⟩ := ho (fun e => by subst e; simp at hrp)
  rw [hv, hA2]
  clear hq1 hq2 hown hown' hgrow hgrow2 hv hA2 ho v' hown0 hi hz0 hz1 hz2 i0
  go_loopw [11, 12, 13] (fun i _ _ wr => ∃ (k : Nat) (out : List Val), R.upd r l k = some out ∧ OwnG wr g out ∧ Below y.1.heap.size y.1 wr ∧ i = .int .i64 k ∧ k ≤ l.length) (fun i _ _ _ => l.length - (intOf i).toNat)
  case atStart => exact ⟨0, r, rfl, hog, hb2, rfl, by omega⟩
  case round =>
    obtain ⟨k, out, hu, ho, hbw, rfl, hk⟩ := hrel
    have HU := Lib.hid hu
    have hol : out.length = r.length := R.upd_length hu
    have HOL := Lib.hid hol
    clear hu hol hog hb2
    by_cases hlt : k < l.length
    · obtain ⟨b, o, s, rfl, hsk, c0, c1, c2, c3, c4, c5, c6⟩ := hs2.at_ hlt
      obtain ⟨hms, _⟩ := R.sets_ok HK.out hsk
      have hsv := hsn s (List.mem_of_getElem? hsk)
      obtain ⟨i1, i2⟩ := R.may_col hms
      have y0 := (hbw.cell (cell_lt c0)).trans c0
      have y1 := (hbw.cell (cell_lt c1)).trans c1
      have y2 := (hbw.cell (cell_lt c2)).trans c2
      have y3 := (hbw.cell (cell_lt c3)).trans c3
      have y4 := (hbw.cell (cell_lt c4)).trans c4
      have y5 := (hbw.cell (cell_lt c5)).trans c5
      have y6 := (hbw.cell (cell_lt c6)).trans c6
      clear c1 c2 c3 c4 c5 c6
      have HSK := Lib.hid hsk
      have HMS := Lib.hid hms
      have HSV := Lib.hid hsv
      have i0 : 0 ≤ s.col := by omega
      have i3 : s.col < r.length := by have := HL.out; omega
      clear hsk hms hsv
      go_wp2_with fail
      refine (rto_any (hr2.below hbw) hn HSV.out HL.out HMS.out (Lt.base wr)).mono ?_
      rintro e w' ⟨rfl, z, rfl⟩
      obtain ⟨u, hu⟩ : ∃ u, u = R.toV r s := ⟨_, rfl⟩
      rw [← hu]
      have HUV := Lib.hid hu
      clear hu y0 y1 y2 y3 y4 y5 y6
      have hz : Below y.1.heap.size y.1 z.1 := hbw.trans (z.2.mono hbw.size)
      cases hi : R.toIs r s
      · have hst := R.upd_stop HU.out HSK.out hi hlt
        have HE2 := Lib.hid (show R.err c r l = 21 by rw [HE.out, hst]; rfl)
        have HO2 := Lib.hid (show R.out c r l = [] by rw [HO.out, hst]; rfl)
        clear hi hst
        go_wp2_with fail
        go_ret2
        refine ⟨_, by rw [HE2.out]; rfl, HO2.out.symm ▸ OwnRow.nil _ _, ?_⟩
        exact (hby.trans (hz.mono hby.size)).alloc (by have := hz.size; have := hby.size; omega) _
      · have hsu := R.upd_some HU.out HSK.out hi
        have HSU := Lib.hid hsu
        have hoz := ho.below z.2
        have hcol : s.col.toNat < out.length := by have := HOL.out; omega
        clear hi hsu
        go_wp2_with fail
        refine wp_here fun W5 hW5 => ?_
        have hb5 : Below z.1.heap.size z.1 W5 := hW5 ▸ below_alloc _
        have ho5 := hoz.below hb5
        obtain ⟨g0, g1, g2⟩ := ho5.cell s.col.toNat out[s.col.toNat] (List.getElem?_eq_getElem hcol)
        have gf := ho5.free
        have v0 : W5.cell? ⟨z.1.heap.size, 0, none⟩ = some (.bool u.t) := by rw [hW5]; simp
        have v1 : W5.cell? ⟨z.1.heap.size, 1, none⟩ = some (.int .i64 u.n) := by rw [hW5]; simp
        have v2 : W5.cell? ⟨z.1.heap.size, 2, none⟩ = some (.string u.s) := by rw [hW5]; simp
        have hb6 : Below y.1.heap.size y.1 W5 := hz.trans (hb5.mono hz.size)
        have l0 := (hb6.cell (cell_lt c0)).trans c0
        clear hW5 c0
        have k0 : (0 : Int) ≤ k := by omega
        have k1 : (k : Int) < l.length := by omega
        go_region
        go_wp2_with fail
        go_roundw
        case rel => exact ⟨k + 1, _, HSU.out, HUV.out ▸ (ho5.set hcol u).below (Below.drew (Below.refl _ _)), (((hb6.setCell hg _).setCell hg _).setCell hg _).drew, by go_num, by omega⟩
        case measure => simp [intOf]; omega
    · obtain rfl : k = l.length := by omega
      have HE2 := Lib.hid (show R.err c r l = 0 by rw [HE.out, HU.out]; rfl)
      have HO2 := Lib.hid (show R.out c r l = out by rw [HO.out, HU.out]; rfl)
      go_wp2_with fail
      go_ret2
      refine ⟨_, by rw [HE2.out]; rfl, ?_, hby.trans (hbw.mono hby.size)⟩
      rw [HO2.out]
      exact ⟨_, ca2, by rw [HOL.out]; rfl, fun e => (by cases e), fun _ => ⟨g, rfl, by have := hby.size; omega, ho⟩⟩
end Go.Proofs.Ytpgbngmekfakkaa
