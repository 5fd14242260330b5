/- For every command the law of EncodeCall answers true: in plain Lean. -/
import Derived.Test.YthiebcecflpbnaaDoorCA
namespace Go.Proofs.YthiebcecflpbnaaDoor.PFnExactEncodeCall
open Go.RowKit Go.Proofs.YthiebcecflpbnaaDoorW.PrintWords Go.Proofs.YthiebcecflpbnaaDoorW.PrintLast Go.Proofs.YthiebcecflpbnaaDoorW.PrintMore
set_option linter.unusedVariables false

theorem frame_len (l : List Int) : (E.frameB l).length = l.length + 8 := by simp [E.frameB, E.leI]
theorem encCall_len (c : E.Cmd) : (E.encCall c).length ≤ 1000 := by
  unfold E.encCall
  split
  · have := E.cmdB_len c (E.callIn_of c ‹_›)
    rw [frame_len]
    simp
    omega
  · simp
theorem callFault_iff (c : E.Cmd) : E.callFault c = 0 ↔ E.cmdFault c = 0 ∧ c.op ≠ 0 := by
  unfold E.callFault
  constructor
  · intro h
    by_cases hb : E.blankB c = true
    · rw [if_pos hb] at h; cases h
    · rw [if_neg hb] at h
      refine ⟨h, fun h0 => hb ?_⟩
      unfold E.cmdFault at h
      rw [if_neg (by omega), if_pos h0] at h
      simp only [E.blankB, decide_eq_true_eq]
      repeat' split at h
      all_goals first | (exfalso; omega) | omega
  · rintro ⟨h, h0⟩
    rw [if_neg (by simp [E.blankB]; intro _ _ h'; exact absurd h' h0)]
    exact h
theorem cmdBytes_eq (a0 a1 a2 : Int) (a3 a4 a5 : ByteArray) (k : Nat) (hk : 200 ≤ k) (hI : E.CmdIn ⟨a0, a1, a2, a3, a4, a5⟩) : spec_l1cmdBytes.f k a0 a1 a2 a3 a4 a5 = some (E.cmdB ⟨a0, a1, a2, a3, a4, a5⟩) := by
  have b0 := hI.n a0 (by simp)
  have b1 := hI.n a1 (by simp)
  have b2 := hI.n a2 (by simp)
  have b3 := hI.t a3 (by simp)
  have b4 := hI.t a4 (by simp)
  have b5 := hI.t a5 (by simp)
  have l0 := E.numI_len a0 b0.2
  have l1 := E.numI_len a1 b1.2
  have l2 := E.numI_len a2 b2.2
  have l3 := E.textI_len a3 b3
  have l4 := E.textI_len a4 b4
  have l5 := E.textI_len a5 b5
  unfold spec_l1cmdBytes.f
  rw [num_int a0 k b0.1 b0.2 (by omega), Option.bind_some,
    num_int a1 k b1.1 b1.2 (by omega), Option.bind_some, if_pos (by omega), Option.bind_some,
    num_int a2 k b2.1 b2.2 (by omega), Option.bind_some, if_pos (by simp; omega), Option.bind_some,
    text_eq a3 k b3 (by omega), Option.bind_some, if_pos (by simp; omega), Option.bind_some,
    text_eq a4 k b4 (by omega), Option.bind_some, if_pos (by simp; omega), Option.bind_some,
    text_eq a5 k b5 (by omega), Option.bind_some, if_pos (by simp; omega)]
  simp [E.cmdB, E.numsB, E.textsB]
theorem specCall_eq (a0 a1 a2 : Int) (a3 a4 a5 : ByteArray) (k : Nat) (hk : 20000 ≤ k) : spec_EncodeCall.f k a0 a1 a2 a3 a4 a5 = some (E.encCall ⟨a0, a1, a2, a3, a4, a5⟩) := by
  obtain ⟨k, rfl⟩ : ∃ m, k = m + 1 := ⟨k - 1, by omega⟩
  unfold spec_EncodeCall.f spec_CmdFault.f
  rw [Option.bind_some]
  by_cases hf : E.callFault ⟨a0, a1, a2, a3, a4, a5⟩ = 0
  · obtain ⟨h1, h2⟩ := (callFault_iff _).1 hf
    have hI := E.callIn_of _ hf
    have hl := E.cmdB_len _ hI
    have hd : (a2 == 0) = false := by simpa using h2
    unfold E.encCall
    rw [if_pos h1, if_pos hf, hd]
    simp only [spec_EncodeCall.j0, Bool.false_eq_true, if_false, Option.bind_some]
    rw [cmdBytes_eq a0 a1 a2 a3 a4 a5 k (by omega) hI, Option.bind_some, if_pos (by simp; omega)]
    rw [show ([7] : List Int) ++ E.cmdB ⟨a0, a1, a2, a3, a4, a5⟩ = 7 :: E.cmdB ⟨a0, a1, a2, a3, a4, a5⟩ from rfl,
      frame_eq _ k (by simp; omega) (fun x hx => by
        rcases List.mem_cons.1 hx with rfl | hx
        · decide
        · exact E.cmdB_byte _ x hx) (by simp; omega), Option.bind_some]
  · have hn : ¬ (E.cmdFault ⟨a0, a1, a2, a3, a4, a5⟩ = 0 ∧ a2 ≠ 0) := fun h => hf ((callFault_iff _).2 h)
    unfold E.encCall
    rw [if_neg hf]
    by_cases h1 : E.cmdFault ⟨a0, a1, a2, a3, a4, a5⟩ = 0
    · have h2 : a2 = 0 := by
        rcases Int.decEq a2 0 with h | h
        · exact absurd ⟨h1, h⟩ hn
        · exact h
      subst h2
      rw [if_pos h1]
      simp [spec_EncodeCall.j0]
    · rw [if_neg h1]
      simp [spec_EncodeCall.j0]
theorem pure (a0 a1 a2 : Int) (a3 a4 a5 : ByteArray) : laws_FnExactEncodeCall.f 20000 a0 a1 a2 a3 a4 a5 = some true := by
  have hsz : ∃ t, laws_szCmd.f a0 a1 a2 a3 a4 a5 1048576 = some t := by
    unfold laws_szCmd.f
    repeat' split
    all_goals exact ⟨_, rfl⟩
  obtain ⟨t, ht⟩ := hsz
  unfold laws_FnExactEncodeCall.f
  rw [ht, Option.bind_some]
  by_cases h0 : t < 0
  · rw [if_pos h0]
  · have hl := encCall_len ⟨a0, a1, a2, a3, a4, a5⟩
    have hm := mark_eq (E.encCall ⟨a0, a1, a2, a3, a4, a5⟩) 20000 (by omega) (by omega)
    have hh := held_eq (E.encCall ⟨a0, a1, a2, a3, a4, a5⟩).length 20000 (by omega) (by omega)
    have he := eq_self (E.encCall ⟨a0, a1, a2, a3, a4, a5⟩) 20000 (by omega) (by omega)
    rw [if_neg h0]
    simp only [laws_toCmd.f, Option.bind_some, specCall_eq a0 a1 a2 a3 a4 a5 20000 (by omega), impl_EncodeCall.f, he, if_true, hm, hh]
    rw [if_neg (by omega), if_neg (by omega)]
end Go.Proofs.YthiebcecflpbnaaDoor.PFnExactEncodeCall
