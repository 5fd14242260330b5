/- For every message the law of EncodeMsg answers true. -/
import Derived.Test.YthiebcecflpbnaaDoorZNC
import Derived.Test.YthiebcecflpbnaaDoorZPFnExactEncodeMsgx6
namespace Go.Proofs.YthiebcecflpbnaaDoor.PFnExactEncodeMsg
open Go.RowKit Go.Proofs.YthiebcecflpbnaaDoorW.PrintWords Go.Proofs.YthiebcecflpbnaaDoorW.PrintLast Go.Proofs.YthiebcecflpbnaaDoorW.PrintMore
set_option linter.unusedVariables false
open E

theorem j0_true (a0 a1 a2 a3 a4 a5 a6 a7 a8 : Int) (l : List S85) (hl : l.length ≤ 1048576) (k : Nat) (hk : 4500000 ≤ k) :
    laws_FnExactEncodeMsg.j0 k (encM ⟨a0, a1, a2, a3, a4, a5, a6, a7, a8, ents (l.map cp)⟩) (encM ⟨a0, a1, a2, a3, a4, a5, a6, a7, a8, ents (l.map cp)⟩) false a0 a1 a2 a3 a4 a5 a6 a7 a8 l = some true := by
  obtain ⟨k, rfl⟩ : ∃ m, k = m + 1 := ⟨k - 1, by omega⟩
  have hc := copy_eq l hl k (by omega)
  have hel := encM_len ⟨a0, a1, a2, a3, a4, a5, a6, a7, a8, ents (l.map cp)⟩
  rw [laws_FnExactEncodeMsg.j0]
  have hm := mark_eq (encM ⟨a0, a1, a2, a3, a4, a5, a6, a7, a8, ents (l.map cp)⟩) k (by omega) (by omega)
  have hh := held_eq (encM ⟨a0, a1, a2, a3, a4, a5, a6, a7, a8, ents (l.map cp)⟩).length k (by omega) (by omega)
  have he := eq_self (encM ⟨a0, a1, a2, a3, a4, a5, a6, a7, a8, ents (l.map cp)⟩) k (by omega) (by omega)
  rw [if_neg (by decide)]
  simp only [laws_toMsg.f, Option.bind_some, hc, impl_EncodeMsg.f, he, if_true, hm, hh]
  rw [if_neg (by omega), if_neg (by omega)]
theorem pure (a0 a1 a2 a3 a4 a5 a6 a7 a8 : Int) (l : List S85) (hl : l.length ≤ 9223372036854775807) : laws_FnExactEncodeMsg.f 5000000 a0 a1 a2 a3 a4 a5 a6 a7 a8 l = some true := by
  obtain ⟨K, hK, hKe⟩ : ∃ K, 4500000 ≤ K ∧ (5000000 : Nat) = K := ⟨5000000, by omega, rfl⟩
  rw [hKe]
  clear hKe
  obtain ⟨t, ht, htl⟩ := sz_ok a0 a1 a2 a3 a4 a5 a6 a7 a8 l hl K (by omega)
  unfold laws_FnExactEncodeMsg.f
  rw [ht, Option.bind_some]
  by_cases h0 : t < 0
  · rw [if_pos h0]
  · have hl2 := htl (by omega)
    have hc := copy_eq l hl2 K (by omega)
    have hll : (l.map cp).length ≤ 1048576 := by simpa using hl2
    have hs := specMsg_eq a0 a1 a2 a3 a4 a5 a6 a7 a8 (l.map cp) hll K (by omega)
    have hel := encM_len ⟨a0, a1, a2, a3, a4, a5, a6, a7, a8, ents (l.map cp)⟩
    have he := eq_self (encM ⟨a0, a1, a2, a3, a4, a5, a6, a7, a8, ents (l.map cp)⟩) K (by omega) (by omega)
    have hq := eqMsg_self a0 a1 a2 a3 a4 a5 a6 a7 a8 (l.map cp) hll K (by omega)
    obtain ⟨L', hm⟩ := markMsg_some a0 a1 a2 a3 a4 a5 a6 a7 a8 (l.map cp) hll K (by omega)
    have hj := j0_true a0 a1 a2 a3 a4 a5 a6 a7 a8 l hl2 K hK
    rw [if_neg h0]
    simp only [laws_toMsg.f, Option.bind_some, hc, hs, impl_EncodeMsg.f, he, hq, hm, if_true]
    rw [if_neg (by omega)]
    exact hj
end Go.Proofs.YthiebcecflpbnaaDoor.PFnExactEncodeMsg
