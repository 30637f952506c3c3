/-
  All parts of a predicate gone through, walked: the program's each, and how many there are, its Size. Conditions: the predicate lies in memory as it reads; at most a billion parts.
-/
import Derived.Test.YtghpildnajdlpaaDoorPrSize
import Derived.Test.YtghpildnajdlpaaDoorRowAt
import Derived.Deep.AppendLies
import Derived.Maps.AppendAt
namespace Go.Proofs.YtghpildnajdlpaaDoor
open Go.RowKit

theorem grown_refl (w : World) (row : Option Nat) : w.grownBy w row := ⟨rfl, rfl, rfl, Nat.le_refl _, fun _ _ _ => rfl⟩
theorem grown_below {w w' : World} (h : Below w.heap.size w w') (row : Option Nat) : w.grownBy w' row := ⟨h.os, h.tape, h.output, h.size, fun k hk _ => h.block k hk⟩
theorem grown_trans {a b c : World} {row : Option Nat} (h : a.grownBy b row) (k : b.grownBy c row) : a.grownBy c row :=
  ⟨k.os.trans h.os, k.tape.trans h.tape, k.output.trans h.output, Nat.le_trans h.size k.size, fun i hi hn => (k.block i (Nat.lt_of_lt_of_le hi h.size) hn).trans (h.block i hi hn)⟩
theorem grown_cell {w w' : World} {g : Nat} (h : w.grownBy w' (some g)) {a : Addr} {v : Value} (hc : w.cell? a = some v) (hne : a.block ≠ g) : w'.cell? a = some v :=
  (World.cell?_of_block (h.block a.block (cell_lt hc) (fun e => hne (Option.some.inj e)))).trans hc

/-- What comes of a state when each part is met, ahead of its own parts. -/
def Pr.visit {σ : Type} (step : σ → Pr → σ) : Pr → σ → σ := Pr.fold fun o c v w l fs s => fs.foldl (fun s f => f s) (step s (.mk o c v w l))
theorem Pr.visit_mk {σ : Type} (step : σ → Pr → σ) (o c : Int) (v w : Val) (l : List Pr) (s : σ) : (Pr.mk o c v w l).visit step s = l.foldl (fun s q => q.visit step s) (step s (.mk o c v w l)) := by
  unfold Pr.visit
  rw [Pr.fold_mk, List.foldl_map]
theorem foldl_take {σ : Type} {f : σ → Pr → σ} {s : σ} {l : List Pr} {k : Nat} {q : Pr} (h : l[k]? = some q) : (l.take (k + 1)).foldl f s = f ((l.take k).foldl f s) q := by
  rw [List.take_add_one, h, List.foldl_append]; rfl

set_option maxHeartbeats 2000000 in
theorem each_any {W : World} {σ : Type} (I : σ → World → Prop) (step : σ → Pr → σ) {g F : Nat} {first caps : Array Value}
    (henter : ∀ (args : Array Value) (w : World), (callFunc F args).run Tryd.prog w = .ok (.enter F args) w)
    (hI : ∀ s w, I s w → Below W.heap.size W w ∧ g < w.heap.size) (hmore : ∀ s w w', I s w → Below w.heap.size w w' → I s w')
    (hdo : ∀ s w (q : Pr) A ca, I s w → Calls Tryd.prog F (first ++ #[q.arg A ca] ++ caps) w fun e w' => e = .returned (.tuple #[]) ∧ I (step s q) w' ∧ w.grownBy w' (some g)) (p : Pr) :
    ∀ (s : σ) (w : World) (A : Option Addr) (ca : Nat), p.At W A ca → p.size ≤ 1000000000 → I s w →
    Calls Tryd.prog 61 #[p.arg A ca, .func (.func F) first caps] w fun e w' => e = .returned (.tuple #[]) ∧ I (p.visit step s) w' ∧ w.grownBy w' (some g) := by
  refine Pr.ind (P := fun p => ∀ (s : σ) (w : World) (A : Option Addr) (ca : Nat), p.At W A ca → p.size ≤ 1000000000 → I s w →
    Calls Tryd.prog 61 #[p.arg A ca, .func (.func F) first caps] w fun e w' => e = .returned (.tuple #[]) ∧ I (p.visit step s) w' ∧ w.grownBy w' (some g)) ?_ p
  rintro ⟨o, c, v, w, l⟩ ih s w0 A ca hat hsz hi
  have IH := Lib.hid ih
  have HDO := Lib.hid hdo
  have HM := Lib.hid hmore
  have HI := Lib.hid hI
  have HV := Lib.hid (Pr.visit_mk step o c v w l s)
  have hlen : l.length ≤ 1000000000 := by have h1 := Pr.len_le l; have h2 := Pr.size_mk o c v w l; omega
  clear ih hdo hmore hI
  show Calls Tryd.prog 61 #[.agg #[.int .i64 o, .int .i64 c, .bool v.t, .int .i64 v.n, .string v.s, .bool w.t, .int .i64 w.n, .string w.s, .slice A l.length ca], .func (.func F) first caps] w0 _
  go_enter Tryd.func61, Tryd.ntmps61
  go_wp2_with fail
  refine calls_here fun W1 hW1 => ?_
  have hb0 : Below w0.heap.size w0 W1 := hW1 ▸ below_alloc _
  have g8 : W1.cell? ⟨w0.heap.size, 8, none⟩ = some (.slice A l.length ca) := by rw [hW1, cell_new rfl]; rfl
  have hne : w0.heap.size ≠ g := by have := (HI.out s w0 hi).2; omega
  have hi1 : I s W1 := HM.out s w0 W1 hi hb0
  clear hW1
  have hdo1 := HDO.out s W1 (.mk o c v w l) A ca hi1
  refine hdo1.mono ?_
  rintro e w1 ⟨rfl, hi2, hg2⟩
  clear hdo1
  have k8 := grown_cell hg2 g8 hne
  go_wp2_with fail
  go_loopw [12] (fun i wr => ∃ (k : Nat), i = .int .i64 k ∧ k ≤ l.length ∧ I ((l.take k).foldl (fun s q => q.visit step s) (step s (.mk o c v w l))) wr ∧ w1.grownBy wr (some g)) (fun i _ => l.length - (intOf i).toNat)
  case atStart => exact ⟨0, rfl, by omega, hi2, grown_refl _ _⟩
  case round =>
    rename_i wr
    obtain ⟨k, rfl, hk, hik, hgk⟩ := hrel
    obtain ⟨s1, hs1⟩ : ∃ s1, s1 = (l.take k).foldl (fun s q => q.visit step s) (step s (.mk o c v w l)) := ⟨_, rfl⟩
    rw [← hs1] at hik
    have HS := Lib.hid hs1
    clear hs1
    by_cases hlt : k < l.length
    · obtain ⟨b, off, q, A', ca', hq, hmem, rfl, hcells, hqat⟩ := hat.kid hlt
      have hqs : q.size ≤ 1000000000 := by have := Pr.size_kid (p := .mk o c v w l) hmem; omega
      have HQ := Lib.hid hq
      obtain ⟨c0, c1, c2, c3, c4, c5, c6, c7, c8⟩ := hcells.below (HI.out _ _ hik).1
      clear hq
      go_wp2_with fail
      refine calls_here fun W2 hW2 => ?_
      have hb2 : Below wr.heap.size wr W2 := hW2 ▸ below_alloc _
      clear hW2
      have hcall := IH.out q hmem s1 W2 A' ca' hqat hqs (HM.out _ _ _ hik hb2)
      refine hcall.mono ?_; rintro e w3 ⟨rfl, hi3, hg3⟩
      clear hcall
      go_wp2_with fail
      go_roundw
      case rel => exact ⟨k + 1, by go_num, by omega, by rw [foldl_take HQ.out, ← HS.out]; exact hi3, grown_trans (grown_trans hgk (grown_below hb2 _)) hg3⟩
      case measure => simp [intOf]; omega
    · obtain rfl : k = l.length := by omega
      have HT := Lib.hid (show I ((Pr.mk o c v w l).visit step s) wr by
        rw [HV.out]
        have h := HS.out
        rw [List.take_length] at h
        rw [← h]; exact hik)
      go_wp2_with fail
      go_end0
      exact ⟨rfl, HT.out, grown_trans (grown_trans (grown_below hb0 _) hg2) hgk⟩

/-- Block g holds a number that is counted in. -/
structure Counts (W : World) (g : Nat) (n : Int) (w : World) : Prop where
  below : Below W.heap.size W w
  lt : g < w.heap.size
  cell : w.cell? ⟨g, 0, none⟩ = some (.int .i64 n)
  free : w.frozen? ⟨g, 0, none⟩ = false
theorem Counts.more {W : World} {g : Nat} {n : Int} {w w' : World} (h : Counts W g n w) (hb : Below w.heap.size w w') : Counts W g n w' :=
  ⟨below_then h.below hb, Nat.lt_of_lt_of_le h.lt hb.size, (hb.cell h.lt).trans h.cell, (hb.frozen h.lt).trans h.free⟩
theorem grown_set (w : World) (g j : Nat) (u : Value) : w.grownBy (w.setCell ⟨g, j, none⟩ u) (some g) :=
  ⟨rfl, rfl, rfl, by simp [World.setCell], fun k _ hne => Below.heap_setCell w _ u k (fun e => hne (by rw [e]))⟩

theorem size1_any {W : World} {g : Nat} (hg : W.heap.size ≤ g) {n : Int} {w : World} (h : Counts W g n w) (q : Pr) (A : Option Addr) (ca : Nat) :
    Calls Tryd.prog 76 #[q.arg A ca, .pointer (some ⟨g, 0, none⟩)] w fun e w' => e = .returned (.tuple #[]) ∧ Counts W g (wrap64 (n + 1)) w' ∧ w.grownBy w' (some g) := by
  unfold Pr.arg
  have c0 := fun o : Obj => cell_old (o := o) h.cell
  have hf0 : ∀ o : Obj, (w.alloc o).frozen? ⟨g, 0, none⟩ = false := fun o => ((below_alloc (w := w) o).frozen h.lt).trans h.free
  go_enter Tryd.func76, Tryd.ntmps76
  go_wp2_with fail
  go_end0
  refine ⟨rfl, ?_, grown_trans (grown_below (below_alloc _) _) (grown_set _ _ _ _)⟩
  have hb := below_alloc (w := w) (.cells #[.int .i64 q.op, .int .i64 q.col, .bool q.v.t, .int .i64 q.v.n, .string q.v.s, .bool q.w.t, .int .i64 q.w.n, .string q.w.s, .slice A q.l.length ca] 29)
  have h1 := h.more hb
  exact ⟨h1.below.setCell hg _, by have := h1.lt; simpa [World.setCell] using this, World.cell?_setCell_same _ _ _ h1.cell, by rw [World.frozen?_setCell]; exact h1.free⟩

theorem Pr.visit_count (p : Pr) : ∀ n : Int, 0 ≤ n → n + p.size ≤ 4611686018427387904 → p.visit (fun (n : Int) _ => wrap64 (n + 1)) n = n + p.size := by
  refine Pr.ind (P := fun p => ∀ n : Int, 0 ≤ n → n + p.size ≤ 4611686018427387904 → p.visit (fun (n : Int) _ => wrap64 (n + 1)) n = n + p.size) ?_ p
  rintro ⟨o, c, v, w, l⟩ ih n h0 hn
  rw [Pr.visit_mk]
  rw [Pr.size_mk] at hn ⊢
  have key : ∀ l' : List Pr, (∀ q ∈ l', q ∈ l) → ∀ m : Int, 0 ≤ m → m + (l'.map Pr.size).sum ≤ 4611686018427387904 → l'.foldl (fun s q => q.visit (fun (n : Int) _ => wrap64 (n + 1)) s) m = m + (l'.map Pr.size).sum := by
    intro l'
    induction l' with
    | nil => intro _ m _ _; simp
    | cons q l' ihl =>
      intro hm m h0 hb
      rw [List.map_cons, List.sum_cons] at hb ⊢
      rw [List.foldl_cons, ih q (hm q (by simp)) m h0 (by omega), ihl (fun x hx => hm x (by simp [hx])) _ (by omega) (by omega)]
      omega
  have hw : wrap64 (n + 1) = n + 1 := by unfold wrap64; omega
  rw [hw, key l (fun _ h => h) (n + 1) (by omega) (by omega)]
  omega

theorem enters_size1 (args : Array Value) (w : World) : (callFunc 76 args).run Tryd.prog w = .ok (.enter 76 args) w := enters Tryd.func76 (by kernel_rfl) (by kernel_rfl) args w

set_option maxHeartbeats 1000000 in
theorem psize_any {W : World} (x : Lt W) {p : Pr} {A : Option Addr} {ca : Nat} (hat : p.At W A ca) (hsz : p.size ≤ 1000000000) :
    Calls Tryd.prog 62 #[p.arg A ca] x.1 fun e w' => e = .returned (.int .i64 (p.size : Int)) ∧ ∃ y : Lt W, w' = y.1 := by
  have HV := Lib.hid (Pr.visit_count p 0 (by omega) (by omega))
  have HA := Lib.hid hat
  clear hat
  unfold Pr.arg
  go_enter Tryd.func62, Tryd.ntmps62
  go_wp2_with fail
  refine calls_here fun W1 hW1 => ?_
  have hb0 : Below W.heap.size W W1 := hW1 ▸ x.more2 _ _
  have hc : Counts W (x.1.heap.size + 1) 0 W1 := by
    refine ⟨hb0, by rw [hW1]; simp, by rw [hW1, cell_new (by simp)]; rfl, ?_⟩
    rw [hW1]; simp
  clear hW1
  have key := each_any (W := W) (Counts W (x.1.heap.size + 1)) (fun (n : Int) _ => wrap64 (n + 1)) (g := x.1.heap.size + 1) (F := 76) (first := #[]) (caps := #[.pointer (some ⟨x.1.heap.size + 1, 0, none⟩)]) enters_size1
    (fun s w h => ⟨h.below, h.lt⟩) (fun s w w' h hb => h.more hb) (fun s w q A ca h => size1_any (by have := x.2.size; omega) h q A ca) p 0 W1 A ca HA.out hsz hc
  refine key.mono ?_
  rintro e w2 ⟨rfl, hc2, _⟩
  clear key
  rw [HV.out] at hc2
  have c2 := hc2.cell
  go_wp2_with fail
  go_ret
  exact ⟨ret_int (by omega), ⟨w2, hc2.below⟩, rfl⟩
end Go.Proofs.YtghpildnajdlpaaDoor
