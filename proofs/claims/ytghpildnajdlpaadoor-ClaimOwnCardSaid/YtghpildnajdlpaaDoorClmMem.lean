/-
  Whole claims out of and into their blocks, in one step each. No walk.
-/
import Derived.Test.YtghpildnajdlpaaDoorClmClone
import Derived.Deep.MidRow
import Derived.BigQuiet
import Derived.OrdersHeld
namespace Go.Proofs.YtghpildnajdlpaaDoor
open Go.RowKit

theorem setCells_puts (g : Nat) : ∀ (l : List Value) (o : Nat) (w : World), w.setCells g o l = puts w g o l
  | [], _, _ => rfl
  | v :: l, o, w => setCells_puts g l (o + 1) (w.setCell ⟨g, o, none⟩ v)
theorem info_claim : (Tryd.prog.info? 31).map (·.size) = some 16 := by kernel_rfl
theorem Cl.range {c : Cl} {A : Option Addr} {ca : Nat} {P : Option Addr} {pa : Nat} {w : World} {g : Nat} (h : Blk w g (c.cells A ca P pa)) : w.rangeAt g 0 (c.cells A ca P pa) := fun j v hv => by rw [Nat.zero_add]; exact h.cell j v hv
/-- A claim's cells, with another number of rows than it has. -/
theorem Blk.range {l : List Value} {w : World} {g : Nat} (h : Blk w g l) : w.rangeAt g 0 l := fun j v hv => by rw [Nat.zero_add]; exact h.cell j v hv
theorem Blk.there {l : List Value} {w : World} {g : Nat} (h : Blk w g l) : w.there g 0 l.length := fun j hj => by
  rw [Nat.zero_add, h.cell j _ (List.getElem?_eq_getElem hj)]
  exact ⟨rfl, h.free j⟩
/-- A claim is read out of its block. -/
theorem claim_load {ops : Array Oper} {rest : List Oper} {op : Oper} {a : Act} {w : World} {Q : Exit → Act → World → Prop} (hw : Region.wanted op (yielded ops a.tmps) = true) (x : Operand) (ho : op.op = .load 31 x) {g : Nat} (hx : a.eval x = .pointer (some ⟨g, 0, none⟩)) {c : Cl} {A : Option Addr} {ca : Nat} {P : Option Addr} {pa : Nat} (h : Blk w g (c.cells A ca P pa)) (hK : wpList Tryd.prog ops Q rest (a.put op.dst (c.arg A ca P pa)) w) : wpList Tryd.prog ops Q (op :: rest) a w :=
  BigFrame.wpList_want hw fun _ hK' => wp_load_mid _ x ho g 0 hx _ _ h.range Tryd.underlying31 rfl info_claim (hK' _ _ hK)
theorem Cl.cells_one (c : Cl) (A : Option Addr) (ca : Nat) (P : Option Addr) (pa : Nat) : (c.cells A ca P pa).toArray.all (·.oneCell') = true := by simp [Cl.cells, Value.oneCell']
/-- A claim is laid into its block. -/
theorem claim_store {ops : Array Oper} {rest : List Oper} {op : Oper} {a : Act} {w : World} {Q : Exit → Act → World → Prop} (hw : Region.wanted op (yielded ops a.tmps) = true) (x y : Operand) (ho : op.op = .store 31 x y) {g : Nat} (hx : a.eval x = .pointer (some ⟨g, 0, none⟩)) {l : List Value} (h : Blk w g l) (hl : l.length = 16) {c : Cl} {A : Option Addr} {ca : Nat} {P : Option Addr} {pa : Nat} (hy : a.eval y = c.arg A ca P pa) (hK : ∀ w', w' = puts w g 0 (c.cells A ca P pa) → wpList Tryd.prog ops Q rest (a.put op.dst undef) w') : wpList Tryd.prog ops Q (op :: rest) a w :=
  BigFrame.wpList_want hw fun _ hK' => by
    have ht := h.there
    rw [hl] at ht
    exact wp_store_mid _ x y ho g 0 (c.cells A ca P pa).toArray hx hy ht info_claim (c.cells_one A ca P pa) (hK' _ _ (hK _ (setCells_puts g _ 0 w)))
/-- The same in a region that draws its order. -/
theorem claim_loadq {W : World} {ops : Array Oper} {rest : List Oper} {op : Oper} {a : Act} {Q : Act → Prop} (hw : Region.wanted op (yielded ops a.tmps) = true) (x : Operand) (ho : op.op = .load 31 x) {g : Nat} (hx : a.eval x = .pointer (some ⟨g, 0, none⟩)) {c : Cl} {A : Option Addr} {ca : Nat} {P : Option Addr} {pa : Nat} (h : Blk W g (c.cells A ca P pa)) (hK : wpQuiet Tryd.prog ops (fun w' => ∃ y : Lt W, w' = y.1) Q rest (a.put op.dst (c.arg A ca P pa))) : wpQuiet Tryd.prog ops (fun w' => ∃ y : Lt W, w' = y.1) Q (op :: rest) a :=
  BigFrame.wpQuiet_want hw fun _ hK' => ⟨c.arg A ca P pa, fun w hC => by
    obtain ⟨y, rfl⟩ := hC
    unfold Oper.quietAt execOp
    simp only [ho, hx, Instr.loadAt, Instr.sureAddr, Sem.run_bind, Sem.run_pure, Result.andThen_ok, run_loadVar_mid y.1 g 0 31 (c.cells A ca P pa) _ (h.below y.2).range Tryd.underlying31 rfl info_claim]
    exact ⟨rfl, rfl⟩, hK' _ hK⟩
/-- The same where a region that draws its order takes it first. -/
theorem claim_yields {ops : Array Oper} {S : World → Prop} {op : Oper} {a : Act} (hw : Region.wanted op (yielded ops a.tmps) = true) (x : Operand) (ho : op.op = .load 31 x) {g : Nat} (hx : a.eval x = .pointer (some ⟨g, 0, none⟩)) {c : Cl} {A : Option Addr} {ca : Nat} {P : Option Addr} {pa : Nat} (hS : ∀ w, S w → Blk w g (c.cells A ca P pa)) : YieldsIf Tryd.prog ops S op (c.arg A ca P pa) a :=
  yieldsIf_load_mid hw _ x ho g 0 hx _ _ (fun w h => (hS w h).range) Tryd.underlying31 rfl info_claim
/-- An operation taken first, its slot written out. -/
theorem take_at {P : Program} {md : Region.Mode} {ops : Array Oper} {Q : Exit → Act → World → Prop} {S : World → Prop} {i : Nat} {oi : Oper} (d : Nat) {v : Value} {fuel : Nat} {listed : Array Bool} {a : Act} {w : World} (hi : ops[i]? = some oi) (hd : oi.dst = some d)
    (hs : Region.noSelect ops = true) (hf : Region.free md ops listed i = true) (hr : (Region.ready md ops listed).contains i = true)
    (hQ : ∀ c a w, Q (.panic c) (a.put (some d) v) w → Q (.panic c) a w) (hy : YieldsIf P ops S oi v a) (hS : S w)
    (h : wpAnyH P md ops Q S fuel (listed.setIfInBounds i true) (a.put (some d) v) w) : wpAnyH P md ops Q S (fuel + 1) listed a w :=
  wpAnyH_take hi hs hf hr (by rw [hd]; exact hQ) hy hS (by rw [hd]; exact h)
end Go.Proofs.YtghpildnajdlpaaDoor
