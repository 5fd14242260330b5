/- What is wrong with a command, with a reply: what the reference answers, as the same plain functions. -/
import Derived.Test.YthiebcecflpbnaaDoorZF
namespace Go.Proofs.YthiebcecflpbnaaDoor.E
open Go.RowKit Go.Proofs.YthiebcecflpbnaaDoorW.PrintWords Go.Proofs.YthiebcecflpbnaaDoorW.PrintLast Go.Proofs.YthiebcecflpbnaaDoorW.PrintMore
set_option linter.unusedVariables false
set_option linter.unusedSimpArgs false
set_option maxHeartbeats 2000000 in
set_option maxRecDepth 100000 in
theorem l1in_spec (a b c : Int) (w : World) :
    Calls Tryd.prog 50 #[.int .i64 a, .int .i64 b, .int .i64 c] w fun e w' => e = .returned (.bool (decide (b ≤ a ∧ a ≤ c))) ∧ w = w' := by
  go_enter Tryd.func50, Tryd.ntmps50
  go_wp2
  all_goals (go_ret; exact ⟨ret_bool (by rw [Bool.eq_iff_iff]; simp; omega), rfl⟩)
set_option maxHeartbeats 2000000 in
set_option maxRecDepth 100000 in
theorem cmdFault_spec (a0 a1 a2 : Int) (a3 a4 a5 : ByteArray) (w : World) :
    Calls Tryd.prog 35 #[.agg #[.int .i64 a0, .int .i64 a1, .int .i64 a2, .string a3, .string a4, .string a5]] w fun e w' => e = .returned (.int .i64 (cmdFault ⟨a0, a1, a2, a3, a4, a5⟩)) ∧ w.alloc (.cells #[.int .i64 a0, .int .i64 a1, .int .i64 a2, .string a3, .string a4, .string a5] 36) = w' := by
  have hu := Tryd.underlying36
  go_enter Tryd.func35, Tryd.ntmps35
  go_wp2
  all_goals
    go_ret
    refine ⟨ret_int ?_, ?_⟩
    · go_light; clear hu
      try simp only [Bool.not_eq_true', Bool.not_eq_false', decide_eq_false_iff_not, decide_eq_true_eq, beq_iff_eq, bne_iff_ne, ne_eq, beq_eq_false_iff_ne, bne_eq_false_iff_eq, Bool.and_eq_true, Bool.or_eq_true, Bool.and_eq_false_iff, Bool.or_eq_false_iff] at *
      simp only [cmdFault]
      repeat' split
      all_goals omega
    · first | rfl | (go_light; clear hu; (try simp only [beq_iff_eq] at *); subst_vars; rfl)
set_option maxHeartbeats 2000000 in
set_option maxRecDepth 100000 in
theorem replyFault_spec (a0 a1 a2 a3 : Int) (a4 : ByteArray) (a5 : Int) (w : World) :
    Calls Tryd.prog 30 #[.agg #[.int .i64 a0, .int .i64 a1, .int .i64 a2, .int .i64 a3, .string a4, .int .i64 a5]] w fun e w' => e = .returned (.int .i64 (replyFault ⟨a0, a1, a2, a3, a4, a5⟩)) ∧ w.alloc (.cells #[.int .i64 a0, .int .i64 a1, .int .i64 a2, .int .i64 a3, .string a4, .int .i64 a5] 27) = w' := by
  have hu := Tryd.underlying27
  go_enter Tryd.func30, Tryd.ntmps30
  go_wp2_with (first | (go_at_call 50; refine (l1in_spec _ _ _ _).mono ?_; rintro e w' ⟨rfl, rfl⟩))
  all_goals
    go_ret
    refine ⟨ret_int ?_, ?_⟩
    · go_light; clear hu
      try simp only [Bool.not_eq_true', Bool.not_eq_false', decide_eq_false_iff_not, decide_eq_true_eq, beq_iff_eq, bne_iff_ne, ne_eq, beq_eq_false_iff_ne, bne_eq_false_iff_eq, Bool.and_eq_true, Bool.or_eq_true, Bool.and_eq_false_iff, Bool.or_eq_false_iff] at *
      simp only [replyFault]
      repeat' split
      all_goals omega
    · first | rfl | (go_light; clear hu; (try simp only [beq_iff_eq] at *); subst_vars; rfl)

end Go.Proofs.YthiebcecflpbnaaDoor.E
