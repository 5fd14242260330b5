/- For all records the law of EncodeRecords answers true. -/
import Derived.Test.YthiebcecflpbnaaDoorZQC
import Derived.Test.YthiebcecflpbnaaDoorZPFnExactEncodeRecordsx8
namespace Go.Proofs.YthiebcecflpbnaaDoor.PFnExactEncodeRecords
open Go.RowKit Go.Proofs.YthiebcecflpbnaaDoorW.PrintWords Go.Proofs.YthiebcecflpbnaaDoorW.PrintLast Go.Proofs.YthiebcecflpbnaaDoorW.PrintMore
set_option linter.unusedVariables false
open E

theorem j0_true (l : List S87) (hl : l.length ≤ 1048576) (k : Nat) (hk : 4500000 ≤ k) :
    laws_FnExactEncodeRecords.j0 k l (encRecs (rcs (l.map cr))) (encRecs (rcs (l.map cr))) false = some true := by
  obtain ⟨k, rfl⟩ : ∃ m, k = m + 1 := ⟨k - 1, by omega⟩
  have hc := copy_eq l hl k (by omega)
  have hel := encRecs_len (rcs (l.map cr))
  rw [laws_FnExactEncodeRecords.j0]
  have hm := mark_eq (encRecs (rcs (l.map cr))) k (by omega) (by omega)
  have hh := held_eq (encRecs (rcs (l.map cr))).length k (by omega) (by omega)
  have he := eq_self (encRecs (rcs (l.map cr))) k (by omega) (by omega)
  rw [if_neg (by decide)]
  simp only [Option.bind_some, hc, impl_EncodeRecords.f, he, if_true, hm, hh]
  rw [if_neg (by omega), if_neg (by omega)]
theorem pure (l : List S87) (hl : l.length ≤ 9223372036854775807) : laws_FnExactEncodeRecords.f 5000000 l = some true := by
  obtain ⟨K, hK, hKe⟩ : ∃ K, 4500000 ≤ K ∧ (5000000 : Nat) = K := ⟨5000000, by omega, rfl⟩
  rw [hKe]
  clear hKe
  obtain ⟨t, ht, htl⟩ := sz_ok l hl K (by omega)
  unfold laws_FnExactEncodeRecords.f
  rw [ht, Option.bind_some]
  by_cases h0 : t < 0
  · rw [if_pos h0]
  · have hl2 := htl (by omega)
    have hc := copy_eq l hl2 K (by omega)
    have hll : (l.map cr).length ≤ 1048576 := by simpa using hl2
    have hs := specRecs_eq (l.map cr) hll K (by omega)
    have hel := encRecs_len (rcs (l.map cr))
    have he := eq_self (encRecs (rcs (l.map cr))) K (by omega) (by omega)
    have hq := eqRecs_self (l.map cr) hll K (by omega)
    obtain ⟨L', hm⟩ := markRecs_some (l.map cr) hll K (by omega)
    have hj := j0_true l hl2 K hK
    rw [if_neg h0]
    simp only [Option.bind_some, hc, hs, impl_EncodeRecords.f, he, hq, hm, if_true]
    rw [if_neg (by omega)]
    exact hj
end Go.Proofs.YthiebcecflpbnaaDoor.PFnExactEncodeRecords
