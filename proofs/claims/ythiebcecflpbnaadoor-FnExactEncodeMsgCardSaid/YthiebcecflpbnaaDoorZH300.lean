/- The entries of a message, as the hand contracts name them. -/
import Derived.Test.YthiebcecflpbnaaDoorZPFnExactEncodeMsgx2
import Derived.Test.YthiebcecflpbnaaDoorZH30
namespace Go.Proofs.YthiebcecflpbnaaDoor.PFnExactEncodeMsg
open Go.RowKit Go.Proofs.YthiebcecflpbnaaDoorW.PrintWords Go.Proofs.YthiebcecflpbnaaDoorW.PrintLast Go.Proofs.YthiebcecflpbnaaDoorW.PrintMore
set_option linter.unusedVariables false
set_option linter.unusedSimpArgs false
open E

def ent (s : S76) : Ent := ⟨s.f0, ⟨s.f1.f0, s.f1.f1, s.f1.f2, s.f1.f3, s.f1.f4, s.f1.f5⟩⟩
def ents (l : List S76) : List Ent := l.map ent
theorem rd_ents (l : List S76) (j : Nat) (h : j < (ents l).length) : (ents l)[j] = ent (rd_T76 l (j : Int)) := by
  have hj : j < l.length := by simpa [ents] using h
  simp [ents, rd_T76, hj]
theorem entR_of {w : World} {A : Option Addr} {l : List S76} (h : Kd.C k76 w A l.length l) : EntR w A (ents l) := by
  intro j hj
  have hj2 : j < l.length := by simpa [ents] using hj
  obtain ⟨ad, e, c0, c1, c2, c3, c4, c5, c6⟩ := at_T76 h (j : Int) (by omega) (by omega)
  rw [rd_ents l j hj]
  rw [Int.toNat_natCast] at c0 c1 c2 c3 c4 c5 c6
  exact ⟨ad, e, c0, c1, c2, c3, c4, c5, c6⟩
theorem C_below0' {w w1 : World} {A : Option Addr} {n : Nat} {xs : List S76} (h : k76.C w A n xs) (hb : Below w.heap.size w w1) : k76.C w1 A n xs := Kd.C_below h hb
theorem mfl1 (m : Msg) (h : ¬(1 ≤ m.kind ∧ m.kind ≤ 6)) : msgFault m = 1 := by
  unfold msgFault
  rw [if_pos h]
theorem mfl2 (m : Msg) (h1 : (1 ≤ m.kind ∧ m.kind ≤ 6)) (h : ¬ SrvP m.src m.dst) : msgFault m = 2 := by
  unfold msgFault
  rw [if_neg (by simpa using h1), if_pos h]
theorem mfl3 (m : Msg) (h1 : (1 ≤ m.kind ∧ m.kind ≤ 6)) (h2 : SrvP m.src m.dst) (h : ¬(1 ≤ m.term ∧ m.term ≤ 1073741824)) : msgFault m = 3 := by
  unfold msgFault
  rw [if_neg (by simpa using h1), if_neg (not_not_intro h2), if_pos h]
theorem mfl4 (m : Msg) (h1 : (1 ≤ m.kind ∧ m.kind ≤ 6)) (h2 : SrvP m.src m.dst) (h3 : (1 ≤ m.term ∧ m.term ≤ 1073741824)) (h : ¬ PosP m.kind m.idx m.lterm m.term) : msgFault m = 4 := by
  unfold msgFault
  rw [if_neg (not_not_intro h1), if_neg (not_not_intro h2), if_neg (not_not_intro h3), if_pos h]
theorem mfl5 (m : Msg) (h1 : (1 ≤ m.kind ∧ m.kind ≤ 6)) (h2 : SrvP m.src m.dst) (h3 : (1 ≤ m.term ∧ m.term ≤ 1073741824)) (h4 : PosP m.kind m.idx m.lterm m.term) (h : ¬ MarkP m.kind m.commit m.ok m.hint) : msgFault m = 5 := by
  unfold msgFault
  rw [if_neg (not_not_intro h1), if_neg (not_not_intro h2), if_neg (not_not_intro h3), if_neg (not_not_intro h4), if_pos h]
theorem mfl6 (m : Msg) (h1 : (1 ≤ m.kind ∧ m.kind ≤ 6)) (h2 : SrvP m.src m.dst) (h3 : (1 ≤ m.term ∧ m.term ≤ 1073741824)) (h4 : PosP m.kind m.idx m.lterm m.term) (h5 : MarkP m.kind m.commit m.ok m.hint) (h : ¬ EntsP m.kind m.idx m.lterm m.term m.es) : msgFault m = 6 := by
  unfold msgFault
  rw [if_neg (not_not_intro h1), if_neg (not_not_intro h2), if_neg (not_not_intro h3), if_neg (not_not_intro h4), if_neg (not_not_intro h5), if_pos h]
theorem mfl0 (m : Msg) (h1 : (1 ≤ m.kind ∧ m.kind ≤ 6)) (h2 : SrvP m.src m.dst) (h3 : (1 ≤ m.term ∧ m.term ≤ 1073741824)) (h4 : PosP m.kind m.idx m.lterm m.term) (h5 : MarkP m.kind m.commit m.ok m.hint) (h6 : EntsP m.kind m.idx m.lterm m.term m.es) : msgFault m = 0 := by
  unfold msgFault
  rw [if_neg (not_not_intro h1), if_neg (not_not_intro h2), if_neg (not_not_intro h3), if_neg (not_not_intro h4), if_neg (not_not_intro h5), if_neg (not_not_intro h6)]
end Go.Proofs.YthiebcecflpbnaaDoor.PFnExactEncodeMsg
