/- spec.MsgFault at kind 0. -/
import Derived.Test.YthiebcecflpbnaaDoorZH300
namespace Go.Proofs.YthiebcecflpbnaaDoor.PFnExactEncodeMsg
open Go.RowKit Go.Proofs.YthiebcecflpbnaaDoorW.PrintWords Go.Proofs.YthiebcecflpbnaaDoorW.PrintLast Go.Proofs.YthiebcecflpbnaaDoorW.PrintMore
set_option linter.unusedVariables false
set_option linter.unusedSimpArgs false
open E

set_option maxHeartbeats 4000000 in
set_option maxRecDepth 100000 in
theorem mfs0 (n : Nat) (k a1 a2 a3 a4 a5 a6 a7 a8 : Int) (A : Option Addr) (c : Nat) (l : List S76) (w : World) (n1 : k ≠ 1) (n3 : k ≠ 3) (n5 : k ≠ 5) (n6 : k ≠ 6) (hr0 : Kd.C k76 w A l.length l) (hc0 : l.length ≤ c) (hr : spec_l1rising.f n l a5 a3 = some (rising (ents l) a5 a3)) :
    Calls Tryd.prog 38 #[.agg #[.int .i64 k, .int .i64 a1, .int .i64 a2, .int .i64 a3, .int .i64 a4, .int .i64 a5, .int .i64 a6, .int .i64 a7, .int .i64 a8, .slice A l.length c]] w fun e w' => e = .returned (.int .i64 (msgFault ⟨k, a1, a2, a3, a4, a5, a6, a7, a8, ents l⟩)) ∧ Below w.heap.size w w' := by
  have hu := Tryd.underlying46
  have HC := Aside0.mk hr0
  have HR := Aside0.mk hr
  have HB := Aside0.mk (below_alloc (Below.refl w.heap.size w) (.cells #[.int .i64 k, .int .i64 a1, .int .i64 a2, .int .i64 a3, .int .i64 a4, .int .i64 a5, .int .i64 a6, .int .i64 a7, .int .i64 a8, .slice A l.length c] 46))
  clear hr0 hr
  have HL := Aside0.mk (show (ents l).length = l.length by simp [ents])
  have q1 : (k == 1) = false := by simpa using n1
  have p1 : (k != 1) = true := by simpa using n1
  have q3 : (k == 3) = false := by simpa using n3
  have p3 : (k != 3) = true := by simpa using n3
  have q5 : (k == 5) = false := by simpa using n5
  have p5 : (k != 5) = true := by simpa using n5
  have q6 : (k == 6) = false := by simpa using n6
  have p6 : (k != 6) = true := by simpa using n6
  have QS := Aside0.mk (show k ≠ 1 ∧ k ≠ 3 ∧ k ≠ 5 ∧ k ≠ 6 from ⟨n1, n3, n5, n6⟩)
  clear n1 n3 n5 n6
  go_enter Tryd.func38, Tryd.ntmps38
  go_wp2_with (first | (go_at_call 50; refine (l1in_spec _ _ _ _).mono ?_; rintro e w' ⟨rfl, rfl⟩) | (go_at_call 57; refine (spec_l1rising.calls n A c l a5 a3 _ _ (C_below0' HC.out (below_alloc (Below.refl _ _) _)) hc0 HR.out).mono ?_; rintro e w2 ⟨rfl, hb⟩; have HB2 := Aside0.mk (below_step (below_alloc (Below.refl w.heap.size w) _) hb); clear hb; dsimp only))
  all_goals
    go_ret
    refine ⟨ret_int ?_, ?_⟩
    · go_light; clear hu
      have hl := HL.out
      obtain ⟨n1, n3, n5, n6⟩ := QS.out
      try simp only [Bool.not_eq_true', Bool.not_eq_false', decide_eq_false_iff_not, decide_eq_true_eq, beq_iff_eq, bne_iff_ne, ne_eq, beq_eq_false_iff_ne, bne_eq_false_iff_eq, Bool.and_eq_true, Bool.or_eq_true, Bool.and_eq_false_iff, Bool.or_eq_false_iff] at *
      symm
      first | refine mfl1 _ ?_ | refine mfl2 _ ?_ ?_ | refine mfl3 _ ?_ ?_ ?_ | refine mfl4 _ ?_ ?_ ?_ ?_ | refine mfl5 _ ?_ ?_ ?_ ?_ ?_ | refine mfl6 _ ?_ ?_ ?_ ?_ ?_ ?_ | refine mfl0 _ ?_ ?_ ?_ ?_ ?_ ?_
      all_goals
        dsimp only [SrvP, PosP, MarkP, EntsP]
        (try simp only [hl])
        (try go_unwrap)
        first | omega | grind
    · first | exact HB2.out | exact HB.out | (go_light; clear hu; (repeat (first | (with_reducible exact Below.refl _ _) | (with_reducible assumption) | (with_reducible apply below_alloc) | (with_reducible apply below_drew1) | (with_reducible apply pw_below_drewN) | (with_reducible refine Below.setCell ?_ (by first | exact Nat.le_refl _ | (simp; done) | (simp; omega)) _) | (with_reducible refine below_step ?_ (by with_reducible assumption)))))
end Go.Proofs.YthiebcecflpbnaaDoor.PFnExactEncodeMsg
