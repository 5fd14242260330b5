/- Small lemmas on blocks and on a region that draws its order. -/
import Derived.Test.YthiebcecflpbnaaDoorProg
import Derived.Test.YthiebcecflpbnaaDoorZV1
import Derived.Laws.BitsAllLaws
import Derived.Laws.Bits128
import Derived.Handy
import Derived.Deep.Light
import Derived.RegionTactic
import Derived.ChangeAlike
import Derived.Deep.QuietTactic
import Derived.BigQuiet
import Derived.BigRegion
import Derived.Lib.Hide
import Derived.StillTailTactics
import Derived.Deep.RegionHeld3
import Derived.KernelRfl
namespace Go.Proofs.YthiebcecflpbnaaDoor.E
open Go.RowKit Go.Proofs.YthiebcecflpbnaaDoorW.PrintWords Go.Proofs.YthiebcecflpbnaaDoorW.PrintLast Go.Proofs.YthiebcecflpbnaaDoorW.PrintMore
set_option linter.unusedVariables false
set_option linter.unusedSimpArgs false

theorem ret_int {k : IntKind} {a b : Int} (h : a = b) : Ending.returned (.int k a) = .returned (.int k b) := by rw [h]
theorem ret_bool {a b : Bool} (h : a = b) : Ending.returned (.bool a) = .returned (.bool b) := by rw [h]
theorem ret_val {a b : Value} (h : a = b) : Ending.returned a = .returned b := by rw [h]
theorem bcell {W w1 : World} (hb : Below W.heap.size W w1) : (∀ b o, b < W.heap.size → w1.cell? ⟨b, o, none⟩ = W.cell? ⟨b, o, none⟩) ∧ (∀ b o, b < W.heap.size → w1.frozen? ⟨b, o, none⟩ = W.frozen? ⟨b, o, none⟩) :=
  ⟨fun b o h => hb.cell (p := ⟨b, o, none⟩) h, fun b o h => hb.frozen (p := ⟨b, o, none⟩) h⟩
theorem nil_toList (b : ByteArray) : b = ⟨#[]⟩ ↔ b.toList = [] := by
  rw [ByteArray.toList_eq]
  constructor
  · rintro rfl; rfl
  · intro h
    obtain ⟨d⟩ := b
    have : d = #[] := by simpa using h
    rw [this]

theorem empty_iff (b : ByteArray) : b = ByteArray.empty ↔ b.size = 0 := by
  constructor
  · rintro rfl; rfl
  · intro h
    obtain ⟨d⟩ := b
    have hd : d.size = 0 := h
    have : d = #[] := Array.eq_empty_of_size_eq_zero hd
    rw [this]; rfl

theorem blk_new1 (w : World) (a b : Obj) : ((w.alloc a).alloc b).heap[w.heap.size + 1]? = some b := by
  have := blk_new (w.alloc a) b
  rwa [show (w.alloc a).heap.size = w.heap.size + 1 by simp] at this
theorem blk_new2 (w : World) (a b c : Obj) : (((w.alloc a).alloc b).alloc c).heap[w.heap.size + 1 + 1]? = some c := by
  have := blk_new ((w.alloc a).alloc b) c
  rwa [show ((w.alloc a).alloc b).heap.size = w.heap.size + 1 + 1 by simp] at this

/-! Worlds that part in one block alone ('w.grownBy w' (some g)'). -/
section
variable {w w' : World} {g : Nat}
theorem gb_refl (w : World) (g : Nat) : w.grownBy w (some g) := ⟨rfl, rfl, rfl, Nat.le_refl _, fun _ _ _ => rfl⟩
theorem gb_drew (h : w.grownBy w' (some g)) : w.grownBy w'.drew (some g) := ⟨h.os, h.tape, h.output, h.size, h.block⟩
theorem gb_drewN (h : w.grownBy w' (some g)) (n : Nat) : w.grownBy (w'.drewN n) (some g) := ⟨h.os, h.tape, h.output, h.size, h.block⟩
theorem gb_set (h : w.grownBy w' (some g)) (i : Nat) (u : Value) : w.grownBy (w'.setCell ⟨g, i, none⟩ u) (some g) :=
  ⟨h.os, h.tape, h.output, by simpa [World.setCell] using h.size, fun k hk hne => (Below.heap_setCell _ _ _ _ (fun e => hne (by rw [e]))).trans (h.block k hk hne)⟩
theorem gb_new (h : w.grownBy w' (some g)) {p : Addr} (hp : w.heap.size ≤ p.block) (u : Value) : w.grownBy (w'.setCell p u) (some g) :=
  ⟨h.os, h.tape, h.output, by simpa [World.setCell] using h.size, fun k hk hne => (Below.heap_setCell _ _ _ _ (by omega)).trans (h.block k hk hne)⟩
theorem gb_alloc (h : w.grownBy w' (some g)) (o : Obj) : w.grownBy (w'.alloc o) (some g) :=
  ⟨h.os, h.tape, h.output, by have := h.size; simp; omega, fun k hk hne => (Below.heap_alloc _ _ _ (by have := h.size; omega)).trans (h.block k hk hne)⟩
theorem gb_below {w2 : World} (h : w.grownBy w' (some g)) (k : Below w'.heap.size w' w2) : w.grownBy w2 (some g) :=
  ⟨k.os.trans h.os, k.tape.trans h.tape, k.output.trans h.output, Nat.le_trans h.size k.size, fun i hi hne => (k.block i (by have := h.size; omega)).trans (h.block i hi hne)⟩
theorem gb_trans {w2 : World} (h : w.grownBy w' (some g)) (k : w'.grownBy w2 (some g)) : w.grownBy w2 (some g) :=
  ⟨k.os.trans h.os, k.tape.trans h.tape, k.output.trans h.output, Nat.le_trans h.size k.size, fun i hi hne => (k.block i (by have := h.size; omega) hne).trans (h.block i hi hne)⟩
theorem below_gb {w0 : World} (h : Below w0.heap.size w0 w) (k : w.grownBy w' (some g)) (hg : w0.heap.size ≤ g) : Below w0.heap.size w0 w' := h.grown k h.size (fun i hi => by injection hi with hi; omega)
end
/-! Steps of the lexical walk of a region that draws, without a look at the whole region. -/
section
variable {P : Program} {ops : Array Oper} {w : World} {Q : Act → Prop} {a : Act} {o : Oper} {rest : List Oper}
theorem wpStill_plain (hg : o.guard = none) (h : ∀ K : Act → Prop, (∀ a, wpStill P ops w Q rest a → K a) → o.still P a w K) : wpStill P ops w Q (o :: rest) a :=
  wpStill_step fun K hK => by rw [if_pos (by simp [Region.wanted, hg])]; exact h K hK
theorem wpStill_want (hw : Region.wanted o (yielded ops a.tmps) = true) (h : ∀ K : Act → Prop, (∀ a, wpStill P ops w Q rest a → K a) → o.still P a w K) : wpStill P ops w Q (o :: rest) a :=
  wpStill_step fun K hK => by rw [if_pos hw]; exact h K hK
theorem wpStill_skip (hw : Region.wanted o (yielded ops a.tmps) = false) (h : wpStill P ops w Q rest (a.put o.dst undef)) : wpStill P ops w Q (o :: rest) a :=
  wpStill_step fun K hK => by rw [if_neg (by simp [hw])]; exact hK _ h
end
end Go.Proofs.YthiebcecflpbnaaDoor.E
