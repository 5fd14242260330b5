/- Functions of the law of EncodeMsg, in the form in which the printed walks tell a function. -/
import Derived.Test.YthiebcecflpbnaaDoorZPFnExactEncodeMsgx0
import Derived.Test.YthiebcecflpbnaaDoorZE11
import Derived.Test.YthiebcecflpbnaaDoorZG
import Derived.Test.YthiebcecflpbnaaDoorZT
namespace Go.Proofs.YthiebcecflpbnaaDoor.PFnExactEncodeMsg
open Go.RowKit Go.Proofs.YthiebcecflpbnaaDoorW.PrintWords Go.Proofs.YthiebcecflpbnaaDoorW.PrintLast Go.Proofs.YthiebcecflpbnaaDoorW.PrintMore
set_option linter.unusedVariables false
set_option linter.unusedSimpArgs false

def spec_CmdFault.f (_k : Nat) (a0 a1 a2 : Int) (a3 a4 a5 : ByteArray) : Option Int := some (E.cmdFault ⟨a0, a1, a2, a3, a4, a5⟩)
theorem spec_CmdFault.mono : ∀ a0 a1 a2 a3 a4 a5 k, LeO (spec_CmdFault.f k a0 a1 a2 a3 a4 a5) (spec_CmdFault.f (k + 1) a0 a1 a2 a3 a4 a5) := fun _ _ _ _ _ _ _ => LeO.refl _
theorem spec_CmdFault.calls (k : Nat) (a0 a1 a2 : Int) (a3 a4 a5 : ByteArray) (r : Int) (w : World) (h : spec_CmdFault.f k a0 a1 a2 a3 a4 a5 = some r) :
    Calls Tryd.prog 35 #[.agg #[.int .i64 a0, .int .i64 a1, .int .i64 a2, .string a3, .string a4, .string a5]] w fun e w' => e = .returned (.int .i64 r) ∧ Below w.heap.size w w' := by
  have hr : E.cmdFault ⟨a0, a1, a2, a3, a4, a5⟩ = r := Option.some.inj h
  subst hr
  refine (E.cmdFault_spec a0 a1 a2 a3 a4 a5 w).mono ?_
  rintro e w' ⟨rfl, rfl⟩
  exact ⟨rfl, below_alloc (Below.refl _ _) _⟩
def laws_toCmd.f (a0 a1 a2 : Int) (a3 a4 a5 : ByteArray) : Option (Int × Int × Int × ByteArray × ByteArray × ByteArray) := some (a0, a1, a2, a3, a4, a5)
theorem laws_toCmd.calls (a0 a1 a2 : Int) (a3 a4 a5 : ByteArray) (r1 r2 r3 : Int) (r4 r5 r6 : ByteArray) (w : World) (h : laws_toCmd.f a0 a1 a2 a3 a4 a5 = some (r1, r2, r3, r4, r5, r6)) :
    Calls Tryd.prog 16 #[.agg #[.int .i64 a0, .int .i64 a1, .int .i64 a2, .string a3, .string a4, .string a5]] w fun e w' => e = .returned (.agg #[.int .i64 r1, .int .i64 r2, .int .i64 r3, .string r4, .string r5, .string r6]) ∧ Below w.heap.size w w' := by
  simp only [laws_toCmd.f, Option.some.injEq, Prod.mk.injEq] at h
  obtain ⟨rfl, rfl, rfl, rfl, rfl, rfl⟩ := h
  exact E.toCmd_calls _ _ _ _ _ _ w
/-- toEntry: the copy of an entry. -/
def laws_toEntry.f (a0 a1 a2 a3 : Int) (a4 a5 a6 : ByteArray) : Option (Int × Int × Int × Int × ByteArray × ByteArray × ByteArray) := some (a0, a1, a2, a3, a4, a5, a6)
set_option maxHeartbeats 2000000 in
set_option maxRecDepth 100000 in
theorem laws_toEntry.calls (a0 a1 a2 a3 : Int) (a4 a5 a6 : ByteArray) (r1 r2 r3 r4 : Int) (r5 r6 r7 : ByteArray) (w : World) (h : laws_toEntry.f a0 a1 a2 a3 a4 a5 a6 = some (r1, r2, r3, r4, r5, r6, r7)) :
    Calls Tryd.prog 58 #[.agg #[.int .i64 a0, .int .i64 a1, .int .i64 a2, .int .i64 a3, .string a4, .string a5, .string a6]] w fun e w' => e = .returned (.agg #[.int .i64 r1, .int .i64 r2, .int .i64 r3, .int .i64 r4, .string r5, .string r6, .string r7]) ∧ Below w.heap.size w w' := by
  simp only [laws_toEntry.f, Option.some.injEq, Prod.mk.injEq] at h
  obtain ⟨rfl, rfl, rfl, rfl, rfl, rfl, rfl⟩ := h
  have hu85 := Tryd.underlying85
  have hu76 := Tryd.underlying76
  have hu33 := Tryd.underlying33
  have hu36 := Tryd.underlying36
  go_enter Tryd.func58, Tryd.ntmps58
  (repeat (any_goals (first | (fail) | go_values | go_skip | go_guarded | go_step | go_upon)))
  go_at_call 16
  refine (E.toCmd_calls _ _ _ _ _ _ _).mono ?_
  rintro e w1 ⟨rfl, hb1⟩
  have HB1 := Aside0.mk hb1
  have R1 := Aside0.mk (blk_below (blk_alloc (E.blk_new1 _ _ _) _) hb1)
  have R2 := Aside0.mk (blk_below (E.blk_new2 _ _ _ _) hb1)
  clear hb1
  have C2 := blk_cell R2.out
  have F2 := blk_frozen R2.out
  have C1 := blk_cell R1.out
  have F1 := blk_frozen R1.out
  dsimp only
  (repeat (any_goals (first | (fail) | go_values | go_skip | go_guarded | go_step | go_upon)))
  have hb1 := HB1.out
  clear C1 C2 F1 F2
  refine bodyPost_ret (results_cell_row rfl _ _ (w.heap.size + 1) 76 #[.int .i64 a0, .int .i64 a1, .int .i64 a2, .int .i64 a3, .string a4, .string a5, .string a6] (0, 0) _ rfl ?_ hu76 rfl (by kernel_rfl)) rfl ⟨rfl, ?_⟩
  · go_light; clear hu85 hu76 hu33 hu36
    ((refine Eq.trans (by repeat (first | (with_reducible exact R1.out) | (with_reducible apply blk_set) | (with_reducible apply blk_far (hp := (show w.heap.size + 1 ≠ w.heap.size + 1 + 1 by omega))) | (with_reducible apply blk_drew) | (with_reducible apply blk_drewN) | (with_reducible apply blk_alloc))) ?_); first | (simp; done) | (simp [blank]; done) | rfl)
  · go_light; clear hu85 hu76 hu33 hu36; (repeat (first | (with_reducible exact Below.refl _ _) | (with_reducible assumption) | (with_reducible apply below_alloc) | (with_reducible apply below_drew1) | (with_reducible apply pw_below_drewN) | (with_reducible refine Below.setCell ?_ (by first | exact Nat.le_refl _ | (simp; done) | (simp; omega)) _) | (with_reducible refine below_step ?_ (by with_reducible assumption))))
end Go.Proofs.YthiebcecflpbnaaDoor.PFnExactEncodeMsg
