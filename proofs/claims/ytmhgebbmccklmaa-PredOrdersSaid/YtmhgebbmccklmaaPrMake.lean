/-
  Predicates that are made of others, walked: the program's And and Above. Conditions: the parts lie in memory as they read; at most a billion of them.
-/
import Derived.Test.YtmhgebbmccklmaaPrClone
namespace Go.Proofs.Ytmhgebbmccklmaa
open Go.RowKit

def zeroV : Val := ⟨false, 0, ⟨#[]⟩⟩
/-- All of some, in memory. -/
def Anded (W : World) (l : List Pr) (e : Ending) (w' : World) : Prop := ∃ (A' : Option Addr) (ca' : Nat), e = .returned (.agg #[.int .i64 11, .int .i64 0, .bool false, .int .i64 0, .string ⟨#[]⟩, .bool false, .int .i64 0, .string ⟨#[]⟩, .slice A' l.length ca']) ∧ (Pr.mk 11 0 zeroV zeroV l).At w' A' ca' ∧ Below W.heap.size W w'

set_option maxHeartbeats 2000000 in
theorem pand_any {W : World} {o c : Int} {v w : Val} {l : List Pr} {A : Option Addr} {ca : Nat} (hat : (Pr.mk o c v w l).At W A ca) (hl : l.length ≤ 1000000000) : Calls Try.prog 26 #[.slice A l.length ca] W (Anded W l) := by
  go_enter Try.func26, Try.ntmps26
  go_wp2_with fail
  refine calls_here fun W1 hW1 => ?_
  have hb1 : Below W.heap.size W W1 := hW1 ▸ below_alloc _
  have hres1 : OwnP W1 W.heap.size [⟨.mk 0 0 zeroV zeroV [], none, 0⟩] := hW1 ▸ OwnP.one (w := W) (t := 26) ⟨.mk 0 0 zeroV zeroV [], none, 0⟩ rfl
  clear hW1
  refine (psclone_any hb1 hat hl).mono ?_
  rintro e w2 ⟨A2, ca2, K, rfl, hn2, hb2, hK, hKat, hKo⟩
  have hres2 := hres1.below hb2
  have hb02 := below_then hb1 hb2
  obtain ⟨r0, r1, r2, r3, r4, r5, r6, r7, r8⟩ := hres2.first
  have rf := hres2.free
  simp only [Nat.zero_add] at r0 r1 r2 r3 r4 r5 r6 r7 r8
  have hs1 := hb1.size
  have hslt := hres1.lt
  have HE := Lib.hid (show (Pr.mk 11 0 zeroV zeroV l).At (puts w2 W.heap.size 0 (PK.cells ⟨.mk 11 0 zeroV zeroV l, A2, ca2⟩)) A2 ca2 from by
    rw [Pr.at_mk]
    refine ⟨hn2, fun hne => ?_⟩
    obtain ⟨g, hA, hg, ho⟩ := hKo hne
    have hbl : ∀ b, b ≠ W.heap.size → (puts w2 W.heap.size 0 (PK.cells ⟨.mk 11 0 zeroV zeroV l, A2, ca2⟩)).heap[b]? = w2.heap[b]? := fun b hb => puts_block _ _ _ _ _ hb
    have ho' := ho.other (by rw [puts_size]; exact Nat.le_refl _) (hbl g (by omega))
    have hbW : Below W.heap.size W (puts w2 W.heap.size 0 (PK.cells ⟨.mk 11 0 zeroV zeroV l, A2, ca2⟩)) := puts_below hb02 (Nat.le_refl _) _ _
    have := ho'.at_ hK (fun k hk => (hKat k hk).below hbW) 11 0 zeroV zeroV ca2
    rw [← hA] at this
    exact (Pr.at_mk.1 this).2 hne)
  have hbp : Below W.heap.size W (puts w2 W.heap.size 0 (PK.cells ⟨.mk 11 0 zeroV zeroV l, A2, ca2⟩)) := puts_below hb02 (Nat.le_refl _) _ _
  clear hK hKat hKo hat
  go_wp2_with fail
  have hfin : OwnP (puts w2 W.heap.size 0 (PK.cells ⟨.mk 11 0 zeroV zeroV l, A2, ca2⟩)) W.heap.size [⟨.mk 11 0 zeroV zeroV l, A2, ca2⟩] := hres2.set (i := 0) (by simp) ⟨.mk 11 0 zeroV zeroV l, A2, ca2⟩
  obtain ⟨f0, f1, f2, f3, f4, f5, f6, f7, f8⟩ := hfin.first
  simp only [Nat.zero_add] at f0 f1 f2 f3 f4 f5 f6 f7 f8
  refine bodyPost_ret (v := .agg #[.int .i64 11, .int .i64 0, .bool false, .int .i64 0, .string ⟨#[]⟩, .bool false, .int .i64 0, .string ⟨#[]⟩, .slice A2 l.length ca2]) ?_ rfl ?_
  · show (results _ _).run Try.prog (puts w2 W.heap.size 0 (PK.cells ⟨.mk 11 0 zeroV zeroV l, A2, ca2⟩)) = .ok _ (puts w2 W.heap.size 0 (PK.cells ⟨.mk 11 0 zeroV zeroV l, A2, ca2⟩))
    simp [results, Try.results26, go_sem, f0, f1, f2, f3, f4, f5, f6, f7, f8]
    exact ⟨rfl, rfl, rfl, rfl, rfl, rfl, rfl, rfl, rfl⟩
  · exact ⟨A2, ca2, rfl, HE.out, hbp⟩

theorem pabove_any {W : World} (v : Val) (x : Lt W) : Calls Try.prog 27 #[.agg #[.bool v.t, .int .i64 v.n, .string v.s]] x.1 fun e w' => e = .returned (.agg #[.int .i64 7, .int .i64 0, .bool v.t, .int .i64 v.n, .string v.s, .bool false, .int .i64 0, .string ⟨#[]⟩, .slice none 0 0]) ∧ ∃ y : Lt W, w' = y.1 := by
  go_enter Try.func27, Try.ntmps27
  go_wp2_with fail
  refine bodyPost_ret (v := .agg #[.int .i64 7, .int .i64 0, .bool v.t, .int .i64 v.n, .string v.s, .bool false, .int .i64 0, .string ⟨#[]⟩, .slice none 0 0]) ?_ rfl ⟨rfl, ?_⟩
  · simp [results, Try.results27, go_sem]
  · exact x.end_ (below_then (below_alloc _) (below_alloc _))
end Go.Proofs.Ytmhgebbmccklmaa
