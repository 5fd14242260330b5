/- EncodeReply in the form in which the printed walks tell a function. -/
import Derived.Test.YthiebcecflpbnaaDoorE6
import Derived.Test.YthiebcecflpbnaaDoorG
import Derived.Test.YthiebcecflpbnaaDoorT
namespace Go.Proofs.YthiebcecflpbnaaDoor.PFnExactEncodeReply
open Go.RowKit Go.Proofs.YthiebcecflpbnaaDoorW.PrintWords Go.Proofs.YthiebcecflpbnaaDoorW.PrintLast Go.Proofs.YthiebcecflpbnaaDoorW.PrintMore
set_option linter.unusedVariables false

theorem nibB {w W : World} (h : E.Nib w) (hb : Below w.heap.size w W) : E.Nib W := h.below h.pos hb
def impl_EncodeReply.f (_k : Nat) (a0 a1 a2 a3 : Int) (a4 : ByteArray) (a5 : Int) : Option (List Int) := some (E.encReply ⟨a0, a1, a2, a3, a4, a5⟩)
theorem impl_EncodeReply.mono : ∀ a0 a1 a2 a3 a4 a5 k, LeO (impl_EncodeReply.f k a0 a1 a2 a3 a4 a5) (impl_EncodeReply.f (k + 1) a0 a1 a2 a3 a4 a5) := fun _ _ _ _ _ _ _ => LeO.refl _
theorem impl_EncodeReply.calls (k : Nat) (a0 a1 a2 a3 : Int) (a4 : ByteArray) (a5 : Int) (r : List Int) (w : World) (hN : E.Nib w) (h : impl_EncodeReply.f k a0 a1 a2 a3 a4 a5 = some r) :
    Calls Tryd.prog 10 #[.agg #[.int .i64 a0, .int .i64 a1, .int .i64 a2, .int .i64 a3, .string a4, .int .i64 a5]] w fun e w' => ∃ v0_ : Value, e = .returned (v0_) ∧ Kd.R (Kd.int .u8) 5 w' w.heap.size (fun _ => True) v0_ r ∧ Below w.heap.size w w' := by
  have hr : E.encReply ⟨a0, a1, a2, a3, a4, a5⟩ = r := Option.some.inj h
  subst hr
  exact E.encodeReply_calls a0 a1 a2 a3 a4 a5 w hN
def spec_l1replyFault.f (_k : Nat) (a0 a1 a2 a3 : Int) (a4 : ByteArray) (a5 : Int) : Option Int := some (E.replyFault ⟨a0, a1, a2, a3, a4, a5⟩)
theorem spec_l1replyFault.mono : ∀ a0 a1 a2 a3 a4 a5 k, LeO (spec_l1replyFault.f k a0 a1 a2 a3 a4 a5) (spec_l1replyFault.f (k + 1) a0 a1 a2 a3 a4 a5) := fun _ _ _ _ _ _ _ => LeO.refl _
theorem spec_l1replyFault.calls (k : Nat) (a0 a1 a2 a3 : Int) (a4 : ByteArray) (a5 : Int) (r : Int) (w : World) (h : spec_l1replyFault.f k a0 a1 a2 a3 a4 a5 = some r) :
    Calls Tryd.prog 30 #[.agg #[.int .i64 a0, .int .i64 a1, .int .i64 a2, .int .i64 a3, .string a4, .int .i64 a5]] w fun e w' => e = .returned (.int .i64 r) ∧ Below w.heap.size w w' := by
  have hr : E.replyFault ⟨a0, a1, a2, a3, a4, a5⟩ = r := Option.some.inj h
  subst hr
  refine (E.replyFault_spec a0 a1 a2 a3 a4 a5 w).mono ?_
  rintro e w' ⟨rfl, rfl⟩
  exact ⟨rfl, below_alloc (Below.refl _ _) _⟩
def laws_toReply.f (a0 a1 a2 a3 : Int) (a4 : ByteArray) (a5 : Int) : Option (Int × Int × Int × Int × ByteArray × Int) := some (a0, a1, a2, a3, a4, a5)
theorem laws_toReply.calls (a0 a1 a2 a3 : Int) (a4 : ByteArray) (a5 : Int) (r1 r2 r3 r4 : Int) (r5 : ByteArray) (r6 : Int) (w : World) (h : laws_toReply.f a0 a1 a2 a3 a4 a5 = some (r1, r2, r3, r4, r5, r6)) :
    Calls Tryd.prog 9 #[.agg #[.int .i64 a0, .int .i64 a1, .int .i64 a2, .int .i64 a3, .string a4, .int .i64 a5]] w fun e w' => e = .returned (.agg #[.int .i64 r1, .int .i64 r2, .int .i64 r3, .int .i64 r4, .string r5, .int .i64 r6]) ∧ Below w.heap.size w w' := by
  simp only [laws_toReply.f, Option.some.injEq, Prod.mk.injEq] at h
  obtain ⟨rfl, rfl, rfl, rfl, rfl, rfl⟩ := h
  exact E.toReply_calls _ _ _ _ _ _ w
end Go.Proofs.YthiebcecflpbnaaDoor.PFnExactEncodeReply
