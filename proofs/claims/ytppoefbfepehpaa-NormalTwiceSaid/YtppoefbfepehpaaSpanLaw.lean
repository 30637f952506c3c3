/-
  What spans say, plain: what lies where two meet, and in their hull; what they are to themselves. No walk.
-/
import Derived.Test.YtppoefbfepehpaaSpan
namespace Go.Proofs.Ytppoefbfepehpaa
open Go.RowKit

/-- Who stands at one place stands alike to all others. -/
theorem cmpV_left {u v : Val} (h : cmpV u v = 0) (x : Val) : cmpV u x = cmpV v x := by
  have h' : cmpV v u = 0 := by rw [cmpV_turn u v, h]; rfl
  have r1 := cmpV_range u x
  have r2 := cmpV_range v x
  have t1 := cmpV_turn u x
  have t2 := cmpV_turn v x
  have k1 := @cmpV_trans v u x
  have k2 := @cmpV_trans u v x
  have k3 := @cmpV_trans x u v
  have k4 := @cmpV_trans x v u
  omega
theorem cmpV_right' {u v : Val} (h : cmpV u v = 0) (x : Val) : cmpV x u = cmpV x v := by
  rw [cmpV_turn u x, cmpV_turn v x, cmpV_left h]
namespace Sp
abbrev full : Sp := ⟨false, false, false, z, false, false, z⟩
/-- What a lower end leaves in. -/
def above (lo olo : Bool) (l x : Val) : Bool := !lo || decide (0 < cmpV x l) || decide (cmpV x l = 0) && !olo
def under (hi ohi : Bool) (h x : Val) : Bool := !hi || decide (cmpV x h < 0) || decide (cmpV x h = 0) && !ohi
theorem within_eq (s : Sp) (x : Val) : s.within x = (!s.none && above s.lo s.olo s.l x && under s.hi s.ohi s.h x) := by
  unfold within above under
  rcases cmpV_range x s.l with h | h | h <;> cases s.lo <;> cases s.olo <;> simp [h]
theorem above_false (olo : Bool) (l x : Val) : above false olo l x = true := rfl
theorem under_false (olo : Bool) (l x : Val) : under false olo l x = true := rfl
theorem shut_out {s : Sp} (h : s.shut = true) (x : Val) : (above s.lo s.olo s.l x && under s.hi s.ohi s.h x) = false := by
  unfold shut at h
  unfold above under
  have t := cmpV_turn x s.l
  have k1 := @cmpV_trans s.l x s.h
  have r1 := cmpV_range x s.l
  have r2 := cmpV_range x s.h
  have r3 := cmpV_range s.l s.h
  cases hlo : s.lo <;> cases hhi : s.hi <;> simp [hlo, hhi] at h ⊢
  cases ho : s.olo <;> cases ho' : s.ohi <;> simp [ho, ho'] at h ⊢ <;> omega
theorem within_clean (s : Sp) (x : Val) : s.clean.within x = s.within x := by
  rw [within_eq, within_eq]
  unfold clean
  cases hn : s.none
  · cases hs : s.shut
    · simp only [Bool.or_false, Bool.false_eq_true, if_false]
      cases s.lo <;> cases s.hi <;> simp [above, under]
    · simp only [Bool.or_true, if_true]
      simp [shut_out hs]
  · simp
theorem clean_is (s : Sp) : (s.clean = nothing ∧ (s.none || s.shut) = true) ∨ ((s.none || s.shut) = false ∧ s.clean = ⟨false, s.lo, s.lo && s.olo, if s.lo then s.l else z, s.hi, s.hi && s.ohi, if s.hi then s.h else z⟩) := by
  unfold clean
  cases h : (s.none || s.shut)
  · exact .inr ⟨rfl, by simp⟩
  · exact .inl ⟨by simp, rfl⟩
theorem clean_clean (s : Sp) : s.clean.clean = s.clean := by
  rcases clean_is s with ⟨h, _⟩ | ⟨hs, h⟩
  · rw [h]; rfl
  · rw [h]
    have : shut ⟨false, s.lo, s.lo && s.olo, if s.lo then s.l else z, s.hi, s.hi && s.ohi, if s.hi then s.h else z⟩ = false := by
      simp only [Bool.or_eq_false_iff] at hs
      have h2 := hs.2
      unfold shut at h2 ⊢
      cases h3 : s.lo <;> cases h4 : s.hi <;> simp [h3, h4] at h2 ⊢
      exact h2
    unfold clean
    rw [this]
    cases h3 : s.lo <;> cases h4 : s.hi <;> simp
theorem nothing_within (x : Val) : nothing.within x = false := rfl
theorem none_within {s : Sp} (h : s.clean.none = true) (x : Val) : s.within x = false := by
  rw [← within_clean, clean_nothing h]; rfl
theorem meetLo_above (a b : Sp) (x : Val) : above (meetLo a b).lo (meetLo a b).olo (meetLo a b).l x = (above a.lo a.olo a.l x && above b.lo b.olo b.l x) := by
  unfold meetLo
  have t := cmpV_turn b.l a.l
  have k1 := @cmpV_trans x b.l a.l
  have k2 := @cmpV_trans b.l a.l x
  have k3 := @cmpV_trans a.l b.l x
  have k4 := @cmpV_trans x a.l b.l
  have t1 := cmpV_turn x b.l
  have t2 := cmpV_turn x a.l
  have r1 := cmpV_range x a.l
  have r2 := cmpV_range x b.l
  have r3 := cmpV_range b.l a.l
  cases hb : b.lo
  · simp [above]
  · cases ha : a.lo
    · simp [above]
    · rcases r3 with h | h | h
      · simp [h, above]
        rcases r1 with q | q | q <;> rcases r2 with q' | q' | q' <;> first | (exfalso; omega) | (cases a.olo <;> cases b.olo <;> simp [q, q', ha])
      · simp [h, above]
        have e := cmpV_right' h x
        rw [e]
        rcases r1 with q | q | q <;> simp [q] <;> cases a.olo <;> cases b.olo <;> rfl
      · simp [h, above]
        rcases r1 with q | q | q <;> rcases r2 with q' | q' | q' <;> first | (exfalso; omega) | (cases a.olo <;> cases b.olo <;> simp [q, q'])
theorem meetHi_under (a b : Sp) (x : Val) : under (meetHi a b).hi (meetHi a b).ohi (meetHi a b).h x = (under a.hi a.ohi a.h x && under b.hi b.ohi b.h x) := by
  unfold meetHi
  have t := cmpV_turn b.h a.h
  have k1 := @cmpV_trans x b.h a.h
  have k2 := @cmpV_trans b.h a.h x
  have k3 := @cmpV_trans a.h b.h x
  have k4 := @cmpV_trans x a.h b.h
  have t1 := cmpV_turn x b.h
  have t2 := cmpV_turn x a.h
  have r1 := cmpV_range x a.h
  have r2 := cmpV_range x b.h
  have r3 := cmpV_range b.h a.h
  cases hb : b.hi
  · simp [under]
  · cases ha : a.hi
    · simp [under]
    · rcases r3 with h | h | h
      · simp [h, under]
        rcases r1 with q | q | q <;> rcases r2 with q' | q' | q' <;> first | (exfalso; omega) | (cases a.ohi <;> cases b.ohi <;> simp [q, q'])
      · simp [h, under]
        have e := cmpV_right' h x
        rw [e]
        rcases r1 with q | q | q <;> simp [q] <;> cases a.ohi <;> cases b.ohi <;> rfl
      · simp [h, under]
        rcases r1 with q | q | q <;> rcases r2 with q' | q' | q' <;> first | (exfalso; omega) | (cases a.ohi <;> cases b.ohi <;> simp [q, q', ha])
theorem meetLo_rest (a b : Sp) : (meetLo a b).none = a.none ∧ (meetLo a b).hi = a.hi ∧ (meetLo a b).ohi = a.ohi ∧ (meetLo a b).h = a.h := by
  unfold meetLo
  split
  · exact ⟨rfl, rfl, rfl, rfl⟩
  · split <;> exact ⟨rfl, rfl, rfl, rfl⟩
theorem meetHi_rest (a b : Sp) : (meetHi a b).none = a.none ∧ (meetHi a b).lo = a.lo ∧ (meetHi a b).olo = a.olo ∧ (meetHi a b).l = a.l := by
  unfold meetHi
  split
  · exact ⟨rfl, rfl, rfl, rfl⟩
  · split <;> exact ⟨rfl, rfl, rfl, rfl⟩
theorem within_meet (a b : Sp) (x : Val) : (meet a b).within x = (a.within x && b.within x) := by
  unfold meet
  cases ha : a.clean.none
  · cases hb : b.clean.none
    · simp only [Bool.or_false, Bool.false_eq_true, if_false]
      rw [within_clean, ← within_clean a, ← within_clean b, within_eq, within_eq a.clean, within_eq b.clean]
      obtain ⟨e1, e2, e3, e4⟩ := meetHi_rest (meetLo a.clean b.clean) b.clean
      obtain ⟨f1, f2, f3, f4⟩ := meetLo_rest a.clean b.clean
      rw [meetHi_under, e1, e2, e3, e4, f1, f2, f3, f4, meetLo_above, ha, hb]
      simp only [Bool.not_false, Bool.true_and]
      cases above a.clean.lo a.clean.olo a.clean.l x <;> cases above b.clean.lo b.clean.olo b.clean.l x <;> cases under a.clean.hi a.clean.ohi a.clean.h x <;> cases under b.clean.hi b.clean.ohi b.clean.h x <;> rfl
    · simp [none_within hb, nothing_within]
  · simp [none_within ha, nothing_within]
theorem meet_nothing {a b : Sp} (h : (meet a b).none = true) : meet a b = nothing := by
  unfold meet at h ⊢
  split
  · rfl
  · rename_i hn
    rw [if_neg hn] at h
    exact clean_nothing h
theorem hullLo_rest (a b : Sp) : (hullLo a b).none = a.none ∧ (hullLo a b).lo = a.lo ∧ (hullLo a b).hi = a.hi ∧ (hullLo a b).ohi = a.ohi ∧ (hullLo a b).h = a.h := by
  unfold hullLo
  split
  · exact ⟨rfl, rfl, rfl, rfl, rfl⟩
  · split <;> exact ⟨rfl, rfl, rfl, rfl, rfl⟩
theorem hullHi_rest (a b : Sp) : (hullHi a b).none = a.none ∧ (hullHi a b).hi = a.hi ∧ (hullHi a b).lo = a.lo ∧ (hullHi a b).olo = a.olo ∧ (hullHi a b).l = a.l := by
  unfold hullHi
  split
  · exact ⟨rfl, rfl, rfl, rfl, rfl⟩
  · split <;> exact ⟨rfl, rfl, rfl, rfl, rfl⟩
/-- What the ends of a hull leave in: what one of the two leaves in. -/
theorem hullLo_above (a b : Sp) (x : Val) (ha : a.lo = true) (hb : b.lo = true) : above true (hullLo a b).olo (hullLo a b).l x = (above a.lo a.olo a.l x || above b.lo b.olo b.l x) := by
  unfold hullLo
  have t := cmpV_turn b.l a.l
  have k1 := @cmpV_trans x b.l a.l
  have k2 := @cmpV_trans b.l a.l x
  have k3 := @cmpV_trans a.l b.l x
  have k4 := @cmpV_trans x a.l b.l
  have t1 := cmpV_turn x b.l
  have t2 := cmpV_turn x a.l
  have r1 := cmpV_range x a.l
  have r2 := cmpV_range x b.l
  have r3 := cmpV_range b.l a.l
  rw [ha, hb]
  rcases r3 with h | h | h
  · simp [h, above]
    cases a.olo <;> cases b.olo <;> simp <;> omega
  · simp [h, above]
    have e := cmpV_right' h x
    rw [e]
    cases a.olo <;> cases b.olo <;> simp <;> omega
  · simp [h, above]
    cases a.olo <;> cases b.olo <;> simp <;> omega
theorem hullHi_under (a b : Sp) (x : Val) (ha : a.hi = true) (hb : b.hi = true) : under true (hullHi a b).ohi (hullHi a b).h x = (under a.hi a.ohi a.h x || under b.hi b.ohi b.h x) := by
  unfold hullHi
  have t := cmpV_turn b.h a.h
  have k1 := @cmpV_trans x b.h a.h
  have k2 := @cmpV_trans b.h a.h x
  have k3 := @cmpV_trans a.h b.h x
  have k4 := @cmpV_trans x a.h b.h
  have t1 := cmpV_turn x b.h
  have t2 := cmpV_turn x a.h
  have r1 := cmpV_range x a.h
  have r2 := cmpV_range x b.h
  have r3 := cmpV_range b.h a.h
  rw [ha, hb]
  rcases r3 with h | h | h
  · simp [h, under]
    cases a.ohi <;> cases b.ohi <;> simp <;> omega
  · simp [h, under]
    have e := cmpV_right' h x
    rw [e]
    cases a.ohi <;> cases b.ohi <;> simp <;> omega
  · simp [h, under]
    cases a.ohi <;> cases b.ohi <;> simp <;> omega
/-- What lies in the hull of two spans with something in them. -/
theorem within_hull_ends (a b : Sp) (x : Val) (hn : a.none = false) : (hullEnds (hullHi (hullLo a b) b) b).within x = ((!a.lo || !b.lo || above a.lo a.olo a.l x || above b.lo b.olo b.l x) && (!a.hi || !b.hi || under a.hi a.ohi a.h x || under b.hi b.ohi b.h x)) := by
  obtain ⟨e1, e2, e3, e4, e5⟩ := hullHi_rest (hullLo a b) b
  obtain ⟨f1, f2, f3, f4, f5⟩ := hullLo_rest a b
  have g : ∀ s : Sp, (hullEnds s b).within x = (!s.none && above (s.lo && b.lo) s.olo s.l x && under (s.hi && b.hi) s.ohi s.h x) := fun s => within_eq (hullEnds s b) x
  rw [g, e1, f1, hn, e2, e3, f2, f3, e4, e5]
  have hlo : above (a.lo && b.lo) (hullLo a b).olo (hullLo a b).l x = (!a.lo || !b.lo || above a.lo a.olo a.l x || above b.lo b.olo b.l x) := by
    cases ha : a.lo
    · rfl
    · cases hb : b.lo
      · rfl
      · have := hullLo_above a b x ha hb
        rw [ha, hb] at this
        simpa using this
  have hhi : under (a.hi && b.hi) (hullHi (hullLo a b) b).ohi (hullHi (hullLo a b) b).h x = (!a.hi || !b.hi || under a.hi a.ohi a.h x || under b.hi b.ohi b.h x) := by
    cases ha : a.hi
    · rfl
    · cases hb : b.hi
      · rfl
      · have := hullHi_under (hullLo a b) b x (by rw [f3]; exact ha) hb
        rw [f3, f4, f5, ha, hb] at this
        simpa using this
  rw [hlo, hhi]
  simp
theorem within_hull (a b : Sp) (x : Val) : (hull a b).within x = (if a.clean.none then b.within x else if b.clean.none then a.within x else
    (!a.clean.lo || !b.clean.lo || above a.clean.lo a.clean.olo a.clean.l x || above b.clean.lo b.clean.olo b.clean.l x) && (!a.clean.hi || !b.clean.hi || under a.clean.hi a.clean.ohi a.clean.h x || under b.clean.hi b.clean.ohi b.clean.h x)) := by
  unfold hull
  cases ha : a.clean.none
  · cases hb : b.clean.none
    · simp only [Bool.false_eq_true, if_false]
      rw [within_clean, within_hull_ends _ _ _ ha]
    · simp only [Bool.false_eq_true, if_false, if_true]; rw [within_clean]
  · simp only [if_true]; rw [within_clean]
theorem hull_turn (a b : Sp) (x : Val) : (hull b a).within x = (hull a b).within x := by
  rw [within_hull, within_hull]
  cases ha : a.clean.none <;> cases hb : b.clean.none <;> simp only [Bool.false_eq_true, if_false, if_true]
  · cases a.clean.lo <;> cases b.clean.lo <;> cases a.clean.hi <;> cases b.clean.hi <;> simp [Bool.or_comm]
  · rw [none_within ha, none_within hb]
theorem hull_left {a b : Sp} {x : Val} (h : a.within x = true) : (hull a b).within x = true := by
  rw [within_hull]
  cases ha : a.clean.none
  · have h' := h
    rw [← within_clean, within_eq] at h'
    simp only [Bool.and_eq_true] at h'
    rw [h'.1.2, h'.2, h]
    simp
  · rw [none_within ha] at h; cases h
theorem hull_right {a b : Sp} {x : Val} (h : b.within x = true) : (hull a b).within x = true := by
  rw [hull_turn b a]; exact hull_left h
theorem meetLo_self (a : Sp) : meetLo a a = a := by
  obtain ⟨n, lo, olo, l, hi, ohi, h⟩ := a
  unfold meetLo
  simp only [cmpV_self]
  cases lo <;> simp
theorem meetHi_self (a : Sp) : meetHi a a = a := by
  obtain ⟨n, lo, olo, l, hi, ohi, h⟩ := a
  unfold meetHi
  simp only [cmpV_self]
  cases hi <;> simp
theorem hullLo_self (a : Sp) : hullLo a a = a := by
  obtain ⟨n, lo, olo, l, hi, ohi, h⟩ := a
  unfold hullLo
  simp only [cmpV_self]
  simp
theorem hullHi_self (a : Sp) : hullHi a a = a := by
  obtain ⟨n, lo, olo, l, hi, ohi, h⟩ := a
  unfold hullHi
  simp only [cmpV_self]
  simp
theorem hullEnds_self (a : Sp) : hullEnds a a = a := by
  obtain ⟨n, lo, olo, l, hi, ohi, h⟩ := a
  unfold hullEnds
  simp
theorem meet_self (s : Sp) : meet s s = s.clean := by
  unfold meet
  rw [meetLo_self, meetHi_self, clean_clean]
  split
  · rename_i h
    rw [Bool.or_self] at h
    exact (clean_nothing h).symm
  · rfl
theorem hull_self (s : Sp) : hull s s = s.clean := by
  unfold hull
  rw [hullLo_self, hullHi_self, hullEnds_self, clean_clean]
  simp
theorem meet_none (s : Sp) : meet s nothing = nothing := by
  unfold meet
  rw [show nothing.clean.none = true from rfl, Bool.or_true]
  rfl
theorem nothing_hull (s : Sp) : hull nothing s = s.clean := by
  unfold hull
  rw [show nothing.clean.none = true from rfl]
  rfl
theorem full_clean : full.clean = full := rfl
theorem hull_full (s : Sp) : hull s full = full := by
  unfold hull
  rw [full_clean]
  cases h : s.clean.none
  · simp only [Bool.false_eq_true, if_false]
    obtain ⟨e1, e2, e3, e4, e5⟩ := hullHi_rest (hullLo s.clean full) full
    obtain ⟨f1, f2, f3, f4, f5⟩ := hullLo_rest s.clean full
    have hn : (hullHi (hullLo s.clean full) full).none = false := by rw [e1, f1, h]
    generalize hullHi (hullLo s.clean full) full = t at hn
    unfold hullEnds clean shut
    rw [hn]
    simp
  · simp
theorem full_meet (s : Sp) : meet full s = s.clean := by
  unfold meet
  rw [full_clean]
  cases h : s.clean.none
  · simp only [Bool.or_false, Bool.false_eq_true, if_false]
    rcases clean_is s with ⟨h', _⟩ | ⟨_, h'⟩
    · rw [h'] at h; cases h
    · have key : meetHi (meetLo full s.clean) s.clean = s.clean := by
        rw [h']
        unfold meetLo meetHi
        cases s.lo <;> cases s.hi <;> simp
      rw [key, clean_clean]
  · simp [clean_nothing h]
end Sp
end Go.Proofs.Ytppoefbfepehpaa
