/- The laws' copies of a reply, of a command. -/
import Derived.Test.YthiebcecflpbnaaDoorZB
namespace Go.Proofs.YthiebcecflpbnaaDoor.E
open Go.RowKit Go.Proofs.YthiebcecflpbnaaDoorW.PrintWords Go.Proofs.YthiebcecflpbnaaDoorW.PrintLast Go.Proofs.YthiebcecflpbnaaDoorW.PrintMore
set_option linter.unusedVariables false
set_option linter.unusedSimpArgs false

set_option maxHeartbeats 2000000 in
set_option maxRecDepth 100000 in
theorem toReply_calls (a0 a1 a2 a3 : Int) (a4 : ByteArray) (a5 : Int) (w : World) :
    Calls Tryd.prog 9 #[.agg #[.int .i64 a0, .int .i64 a1, .int .i64 a2, .int .i64 a3, .string a4, .int .i64 a5]] w fun e w' => e = .returned (.agg #[.int .i64 a0, .int .i64 a1, .int .i64 a2, .int .i64 a3, .string a4, .int .i64 a5]) ∧ Below w.heap.size w w' := by
  have hu23 := Tryd.underlying23
  have hu27 := Tryd.underlying27
  go_enter Tryd.func9, Tryd.ntmps9
  (repeat (any_goals (first | (fail) | go_values | go_skip | go_guarded | go_step | go_upon)))
  refine bodyPost_ret (results_cell_row rfl _ _ (w.heap.size + 1) 27 #[.int .i64 a0, .int .i64 a1, .int .i64 a2, .int .i64 a3, .string a4, .int .i64 a5] (0, 0) _ rfl ?_ hu27 rfl (by kernel_rfl)) rfl ⟨rfl, ?_⟩
  · go_light; clear hu23 hu27
    exact blk_alloc (blk_new1 _ _ _) _
  · go_light; clear hu23 hu27; (repeat (first | (with_reducible exact Below.refl _ _) | (with_reducible assumption) | (with_reducible apply below_alloc) | (with_reducible apply below_drew1) | (with_reducible apply pw_below_drewN) | (with_reducible refine Below.setCell ?_ (by first | exact Nat.le_refl _ | (simp; done) | (simp; omega)) _) | (with_reducible refine below_step ?_ (by with_reducible assumption))))
set_option maxHeartbeats 2000000 in
set_option maxRecDepth 100000 in
theorem toCmd_calls (c0 c1 c2 : Int) (c3 c4 c5 : ByteArray) (w : World) :
    Calls Tryd.prog 16 #[.agg #[.int .i64 c0, .int .i64 c1, .int .i64 c2, .string c3, .string c4, .string c5]] w fun e w' => e = .returned (.agg #[.int .i64 c0, .int .i64 c1, .int .i64 c2, .string c3, .string c4, .string c5]) ∧ Below w.heap.size w w' := by
  have hu33 := Tryd.underlying33
  have hu36 := Tryd.underlying36
  go_enter Tryd.func16, Tryd.ntmps16
  (repeat (any_goals (first | (fail) | go_values | go_skip | go_guarded | go_step | go_upon)))
  refine bodyPost_ret (results_cell_row rfl _ _ (w.heap.size + 1) 36 #[.int .i64 c0, .int .i64 c1, .int .i64 c2, .string c3, .string c4, .string c5] (0, 0) _ rfl ?_ hu36 rfl (by kernel_rfl)) rfl ⟨rfl, ?_⟩
  · go_light; clear hu33 hu36
    exact blk_alloc (blk_new1 _ _ _) _
  · go_light; clear hu33 hu36; (repeat (first | (with_reducible exact Below.refl _ _) | (with_reducible assumption) | (with_reducible apply below_alloc) | (with_reducible apply below_drew1) | (with_reducible apply pw_below_drewN) | (with_reducible refine Below.setCell ?_ (by first | exact Nat.le_refl _ | (simp; done) | (simp; omega)) _) | (with_reducible refine below_step ?_ (by with_reducible assumption))))
end Go.Proofs.YthiebcecflpbnaaDoor.E
