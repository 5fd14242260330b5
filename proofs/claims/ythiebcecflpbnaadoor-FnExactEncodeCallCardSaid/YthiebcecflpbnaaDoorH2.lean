/- EncodeCall in the form in which the printed walks tell a function. -/
import Derived.Test.YthiebcecflpbnaaDoorE6
import Derived.Test.YthiebcecflpbnaaDoorG
import Derived.Test.YthiebcecflpbnaaDoorT
namespace Go.Proofs.YthiebcecflpbnaaDoor.PFnExactEncodeCall
open Go.RowKit Go.Proofs.YthiebcecflpbnaaDoorW.PrintWords Go.Proofs.YthiebcecflpbnaaDoorW.PrintLast Go.Proofs.YthiebcecflpbnaaDoorW.PrintMore
set_option linter.unusedVariables false

theorem nibB {w W : World} (h : E.Nib w) (hb : Below w.heap.size w W) : E.Nib W := h.below h.pos hb
def impl_EncodeCall.f (_k : Nat) (a0 a1 a2 : Int) (a3 a4 a5 : ByteArray) : Option (List Int) := some (E.encCall ⟨a0, a1, a2, a3, a4, a5⟩)
theorem impl_EncodeCall.mono : ∀ a0 a1 a2 a3 a4 a5 k, LeO (impl_EncodeCall.f k a0 a1 a2 a3 a4 a5) (impl_EncodeCall.f (k + 1) a0 a1 a2 a3 a4 a5) := fun _ _ _ _ _ _ _ => LeO.refl _
theorem impl_EncodeCall.calls (k : Nat) (a0 a1 a2 : Int) (a3 a4 a5 : ByteArray) (r : List Int) (w : World) (hN : E.Nib w) (h : impl_EncodeCall.f k a0 a1 a2 a3 a4 a5 = some r) :
    Calls Tryd.prog 17 #[.agg #[.int .i64 a0, .int .i64 a1, .int .i64 a2, .string a3, .string a4, .string a5]] w fun e w' => ∃ v0_ : Value, e = .returned (v0_) ∧ Kd.R (Kd.int .u8) 5 w' w.heap.size (fun _ => True) v0_ r ∧ Below w.heap.size w w' := by
  have hr : E.encCall ⟨a0, a1, a2, a3, a4, a5⟩ = r := Option.some.inj h
  subst hr
  exact E.encodeCall_calls a0 a1 a2 a3 a4 a5 w hN
def spec_CmdFault.f (_k : Nat) (a0 a1 a2 : Int) (a3 a4 a5 : ByteArray) : Option Int := some (E.cmdFault ⟨a0, a1, a2, a3, a4, a5⟩)
theorem spec_CmdFault.mono : ∀ a0 a1 a2 a3 a4 a5 k, LeO (spec_CmdFault.f k a0 a1 a2 a3 a4 a5) (spec_CmdFault.f (k + 1) a0 a1 a2 a3 a4 a5) := fun _ _ _ _ _ _ _ => LeO.refl _
theorem spec_CmdFault.calls (k : Nat) (a0 a1 a2 : Int) (a3 a4 a5 : ByteArray) (r : Int) (w : World) (h : spec_CmdFault.f k a0 a1 a2 a3 a4 a5 = some r) :
    Calls Tryd.prog 35 #[.agg #[.int .i64 a0, .int .i64 a1, .int .i64 a2, .string a3, .string a4, .string a5]] w fun e w' => e = .returned (.int .i64 r) ∧ Below w.heap.size w w' := by
  have hr : E.cmdFault ⟨a0, a1, a2, a3, a4, a5⟩ = r := Option.some.inj h
  subst hr
  refine (E.cmdFault_spec a0 a1 a2 a3 a4 a5 w).mono ?_
  rintro e w' ⟨rfl, rfl⟩
  exact ⟨rfl, below_alloc (Below.refl _ _) _⟩
def laws_toCmd.f (a0 a1 a2 : Int) (a3 a4 a5 : ByteArray) : Option (Int × Int × Int × ByteArray × ByteArray × ByteArray) := some (a0, a1, a2, a3, a4, a5)
theorem laws_toCmd.calls (a0 a1 a2 : Int) (a3 a4 a5 : ByteArray) (r1 r2 r3 : Int) (r4 r5 r6 : ByteArray) (w : World) (h : laws_toCmd.f a0 a1 a2 a3 a4 a5 = some (r1, r2, r3, r4, r5, r6)) :
    Calls Tryd.prog 16 #[.agg #[.int .i64 a0, .int .i64 a1, .int .i64 a2, .string a3, .string a4, .string a5]] w fun e w' => e = .returned (.agg #[.int .i64 r1, .int .i64 r2, .int .i64 r3, .string r4, .string r5, .string r6]) ∧ Below w.heap.size w w' := by
  simp only [laws_toCmd.f, Option.some.injEq, Prod.mk.injEq] at h
  obtain ⟨rfl, rfl, rfl, rfl, rfl, rfl⟩ := h
  exact E.toCmd_calls _ _ _ _ _ _ w
end Go.Proofs.YthiebcecflpbnaaDoor.PFnExactEncodeCall
