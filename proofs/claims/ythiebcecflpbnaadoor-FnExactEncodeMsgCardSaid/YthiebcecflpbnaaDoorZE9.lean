/- MsgFault. -/
import Derived.Test.YthiebcecflpbnaaDoorZE8
namespace Go.Proofs.YthiebcecflpbnaaDoor.E
open Go.RowKit Go.Proofs.YthiebcecflpbnaaDoorW.PrintWords Go.Proofs.YthiebcecflpbnaaDoorW.PrintLast Go.Proofs.YthiebcecflpbnaaDoorW.PrintMore
set_option linter.unusedVariables false
set_option linter.unusedSimpArgs false

def SrvP (s d : Int) : Prop := 1 ≤ s ∧ s ≤ 7 ∧ 1 ≤ d ∧ d ≤ 7 ∧ s ≠ d
def PosP (k idx lt term : Int) : Prop := ((k = 1 ∨ k = 3 ∨ k = 5) ∧ 0 ≤ idx ∧ idx ≤ 4096 ∧ 0 ≤ lt ∧ lt ≤ term ∧ (idx = 0 ↔ lt = 0)) ∨ (k = 6 ∧ 0 ≤ idx ∧ idx ≤ 4096 ∧ lt = 0) ∨ (k ≠ 1 ∧ k ≠ 3 ∧ k ≠ 5 ∧ k ≠ 6 ∧ idx = 0 ∧ lt = 0)
def Mark1P (k commit ok : Int) : Prop := ((k = 5 ∧ 0 ≤ commit ∧ commit ≤ 4096) ∨ (k ≠ 5 ∧ commit = 0)) ∧ (ok = 0 ∨ (ok = 1 ∧ k ≠ 1 ∧ k ≠ 3 ∧ k ≠ 5))
def MarkP (k commit ok hint : Int) : Prop := ((k = 5 ∧ 0 ≤ commit ∧ commit ≤ 4096) ∨ (k ≠ 5 ∧ commit = 0)) ∧ (ok = 0 ∨ (ok = 1 ∧ k ≠ 1 ∧ k ≠ 3 ∧ k ≠ 5)) ∧ (hint = 0 ∨ (k = 6 ∧ ok = 0 ∧ 0 ≤ hint ∧ hint ≤ 4096))
def EntsP (k idx lt term : Int) (es : List Ent) : Prop := (k = 5 ∧ es.length ≤ 32 ∧ wrap64 (idx + es.length) ≤ 4096 ∧ rising es lt term = true) ∨ (k ≠ 5 ∧ es.length = 0)

noncomputable def msgFault (m : Msg) : Int :=
  open Classical in
  if ¬ (1 ≤ m.kind ∧ m.kind ≤ 6) then 1 else if ¬ SrvP m.src m.dst then 2 else if ¬ (1 ≤ m.term ∧ m.term ≤ 1073741824) then 3 else if ¬ PosP m.kind m.idx m.lterm m.term then 4 else
  if ¬ MarkP m.kind m.commit m.ok m.hint then 5 else if ¬ EntsP m.kind m.idx m.lterm m.term m.es then 6 else 0
theorem msgFault_eq (k a1 a2 a3 a4 a5 a6 a7 a8 : Int) (es : List Ent) (b0 b1 b2 b3 b4 b5 : Bool) (h0 : b0 = decide (1 ≤ k ∧ k ≤ 6)) (h1 : b1 = true ↔ SrvP a1 a2) (h2 : b2 = decide (1 ≤ a3 ∧ a3 ≤ 1073741824)) (h3 : b3 = true ↔ PosP k a4 a5 a3) (h4 : b4 = true ↔ MarkP k a6 a7 a8) (h5 : b5 = true ↔ EntsP k a4 a5 a3 es) :
    fb6 b0 b1 b2 b3 b4 b5 = msgFault ⟨k, a1, a2, a3, a4, a5, a6, a7, a8, es⟩ := by
  subst h0 h2
  simp only [fb6, msgFault, ← h1, ← h3, ← h4, ← h5, decide_eq_false_iff_not, Bool.not_eq_true]

end Go.Proofs.YthiebcecflpbnaaDoor.E
