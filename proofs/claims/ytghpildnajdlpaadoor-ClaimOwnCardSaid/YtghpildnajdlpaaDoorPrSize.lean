/-
  How many parts a predicate has, by the document: its walk. Conditions: it lies in memory as it reads, and has at most a billion parts.
-/
import Derived.Test.YtghpildnajdlpaaDoorProg
import Derived.Test.YtghpildnajdlpaaDoorPr
namespace Go.Proofs.YtghpildnajdlpaaDoor
open Go.RowKit

/-- A predicate as an argument; its parts lie behind A. -/
def Pr.arg (p : Pr) (A : Option Addr) (ca : Nat) : Value := .agg #[.int .i64 p.op, .int .i64 p.col, .bool p.v.t, .int .i64 p.v.n, .string p.v.s, .bool p.w.t, .int .i64 p.w.n, .string p.w.s, .slice A p.l.length ca]
theorem Pr.Cells.lt {W : World} (z : Lt W) {p : Pr} {A : Option Addr} {ca b o : Nat} (h : p.Cells W A ca b o) : p.Cells z.1 A ca b o := h.below z.2
theorem Pr.sum_succ {l : List Pr} {k : Nat} {q : Pr} (h : l[k]? = some q) : ((l.take (k + 1)).map Pr.size).sum = ((l.take k).map Pr.size).sum + q.size := by
  rw [List.take_add_one, h]; simp
theorem Pr.sum_all {l : List Pr} : ((l.take l.length).map Pr.size).sum = (l.map Pr.size).sum := by rw [List.take_length]

set_option maxHeartbeats 1000000 in
theorem rsize_any (p : Pr) : ∀ {W : World} (x : Lt W) {A : Option Addr} {ca : Nat}, p.At W A ca → p.size ≤ 1000000000 →
    Calls Tryd.prog 54 #[p.arg A ca] x.1 fun e w' => e = .returned (.int .i64 (p.size : Int)) ∧ ∃ y : Lt W, w' = y.1 := by
  refine Pr.ind (P := fun p => ∀ {W : World} (x : Lt W) {A : Option Addr} {ca : Nat}, p.At W A ca → p.size ≤ 1000000000 →
    Calls Tryd.prog 54 #[p.arg A ca] x.1 fun e w' => e = .returned (.int .i64 (p.size : Int)) ∧ ∃ y : Lt W, w' = y.1) ?_ p
  rintro ⟨o, c, v, w, l⟩ ih W x A ca hat hsz
  have IH := Lib.hid ih
  have hsm := Pr.size_mk o c v w l
  have HSM := Lib.hid hsm
  have hlen : l.length ≤ 1000000000 := by have := Pr.len_le l; omega
  have hsl : (l.map Pr.size).sum ≤ 1000000000 := by omega
  clear ih hsm
  show Calls Tryd.prog 54 #[.agg #[.int .i64 o, .int .i64 c, .bool v.t, .int .i64 v.n, .string v.s, .bool w.t, .int .i64 w.n, .string w.s, .slice A l.length ca]] x.1 _
  go_enter Tryd.func54, Tryd.ntmps54
  go_wp2_with fail
  refine wp_here fun W1 hW1 => ?_
  have hb0 : Below W.heap.size W W1 := hW1 ▸ x.more _
  have hw1 : W1.cell? ⟨x.1.heap.size, 8, none⟩ = some (.slice A l.length ca) := by rw [hW1]; simp
  have hbox := fun z : Lt W1 => z.cell hw1
  clear hW1 hw1
  go_loopw [3, 4] (fun n i wr => ∃ (k S : Nat) (y : Lt W1), wr = y.1 ∧ i = .int .i64 k ∧ n = .int .i64 S ∧ S = 1 + ((l.take k).map Pr.size).sum ∧ k ≤ l.length) (fun _ i _ => l.length - (intOf i).toNat)
  case atStart => exact ⟨0, 1, Lt.base W1, rfl, rfl, rfl, rfl, by omega⟩
  case round =>
    obtain ⟨k, S, y, rfl, rfl, rfl, hS, hk⟩ := hrel
    have hSb : S ≤ 1000000001 := by have := Pr.take_sum l k; omega
    have HS := Lib.hid hS
    clear hS
    by_cases hlt : k < l.length
    · obtain ⟨b, off, q, A', ca', hq, hmem, rfl, hcells, hqat⟩ := hat.kid hlt
      have hqs : q.size ≤ 1000000000 := by have := Pr.size_kid (p := .mk o c v w l) hmem; omega
      have HQ := Lib.hid hq
      clear hq
      obtain ⟨c0, c1, c2, c3, c4, c5, c6, c7, c8⟩ := (hcells.below hb0).lt y
      go_wp2_with fail
      refine (IH.out q hmem (Lt.base y.1) ((hqat.below hb0).below y.2) hqs).mono ?_; rintro e w' ⟨rfl, z, rfl⟩
      go_wp2_with fail
      go_roundw
      case rel => exact ⟨k + 1, S + q.size, z.via y.2, rfl, by go_num, by go_num, by rw [Pr.sum_succ HQ.out, HS.out]; omega, by omega⟩
      case measure => simp [intOf]; omega
    · obtain rfl : k = l.length := by omega
      go_wp2_with fail
      go_ret
      exact ⟨ret_int (by rw [HS.out, HSM.out, Pr.sum_all]), y.via hb0, rfl⟩
end Go.Proofs.YtghpildnajdlpaaDoor
