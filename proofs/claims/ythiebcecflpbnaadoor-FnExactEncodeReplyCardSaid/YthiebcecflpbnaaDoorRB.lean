/- For every reply the law of EncodeReply answers true: in plain Lean. -/
import Derived.Test.YthiebcecflpbnaaDoorRA
namespace Go.Proofs.YthiebcecflpbnaaDoor.PFnExactEncodeReply
open Go.RowKit Go.Proofs.YthiebcecflpbnaaDoorW.PrintWords Go.Proofs.YthiebcecflpbnaaDoorW.PrintLast Go.Proofs.YthiebcecflpbnaaDoorW.PrintMore
set_option linter.unusedVariables false

theorem frame_len (l : List Int) : (E.frameB l).length = l.length + 8 := by simp [E.frameB, E.leI]
theorem encReply_len (r : E.Reply) : (E.encReply r).length ≤ 1000 := by
  unfold E.encReply
  split
  · have := E.replyB_len r (E.replyIn_of r ‹_›)
    rw [frame_len]
    simp
    omega
  · simp
theorem specReply_eq (a0 a1 a2 a3 : Int) (a4 : ByteArray) (a5 : Int) (k : Nat) (hk : 20000 ≤ k) : spec_EncodeReply.f k a0 a1 a2 a3 a4 a5 = some (E.encReply ⟨a0, a1, a2, a3, a4, a5⟩) := by
  unfold spec_EncodeReply.f spec_l1replyFault.f E.encReply
  rw [Option.bind_some]
  by_cases hf : E.replyFault ⟨a0, a1, a2, a3, a4, a5⟩ = 0
  · rw [if_pos hf, if_pos hf]
    have hI := E.replyIn_of _ hf
    have b0 := hI.n a0 (by simp)
    have b1 := hI.n a1 (by simp)
    have b2 := hI.n a2 (by simp)
    have b3 := hI.n a3 (by simp)
    have b4 := hI.t a4 (by simp)
    have b5 := hI.m a5 (by simp)
    have l0 := E.numI_len a0 b0.2
    have l1 := E.numI_len a1 b1.2
    have l2 := E.numI_len a2 b2.2
    have l3 := E.numI_len a3 b3.2
    have l4 := E.textI_len a4 b4
    have l5 := E.numI_len a5 b5.2
    have hl := E.replyB_len _ hI
    have hbody : (((((([8] : List Int) ++ E.numI a0) ++ E.numI a1) ++ E.numI a2) ++ E.numI a3) ++ E.textI a4) ++ E.numI a5 = 8 :: E.replyB ⟨a0, a1, a2, a3, a4, a5⟩ := by
      simp [E.replyB, E.numsB, E.textsB]
    rw [Option.bind_some, num_int a0 k b0.1 b0.2 (by omega), Option.bind_some, if_pos (by simp; omega), Option.bind_some,
      num_int a1 k b1.1 b1.2 (by omega), Option.bind_some, if_pos (by simp; omega), Option.bind_some,
      num_int a2 k b2.1 b2.2 (by omega), Option.bind_some, if_pos (by simp; omega), Option.bind_some,
      num_int a3 k b3.1 b3.2 (by omega), Option.bind_some, if_pos (by simp; omega), Option.bind_some,
      text_eq a4 k b4 (by omega), Option.bind_some, if_pos (by simp; omega), Option.bind_some,
      num_int a5 k b5.1 b5.2 (by omega), Option.bind_some, if_pos (by simp; omega), hbody,
      frame_eq _ k (by simp; omega) (fun x hx => by
        rcases List.mem_cons.1 hx with rfl | hx
        · decide
        · exact E.replyB_byte _ x hx) (by simp; omega), Option.bind_some]
  · rw [if_neg hf, if_neg hf]
theorem pure (a0 a1 a2 a3 : Int) (a4 : ByteArray) (a5 : Int) : laws_FnExactEncodeReply.f 20000 a0 a1 a2 a3 a4 a5 = some true := by
  have hsz : ∃ t, laws_szReply.f a0 a1 a2 a3 a4 a5 1048576 = some t := by
    unfold laws_szReply.f
    split <;> exact ⟨_, rfl⟩
  obtain ⟨t, ht⟩ := hsz
  unfold laws_FnExactEncodeReply.f
  rw [ht, Option.bind_some]
  by_cases h0 : t < 0
  · rw [if_pos h0]
  · have hl := encReply_len ⟨a0, a1, a2, a3, a4, a5⟩
    have hm := mark_eq (E.encReply ⟨a0, a1, a2, a3, a4, a5⟩) 20000 (by omega) (by omega)
    have hh := held_eq (E.encReply ⟨a0, a1, a2, a3, a4, a5⟩).length 20000 (by omega) (by omega)
    have he := eq_self (E.encReply ⟨a0, a1, a2, a3, a4, a5⟩) 20000 (by omega) (by omega)
    rw [if_neg h0]
    simp only [laws_toReply.f, Option.bind_some, specReply_eq a0 a1 a2 a3 a4 a5 20000 (by omega), impl_EncodeReply.f, he, if_true, hm, hh]
    rw [if_neg (by omega), if_neg (by omega)]
end Go.Proofs.YthiebcecflpbnaaDoor.PFnExactEncodeReply
