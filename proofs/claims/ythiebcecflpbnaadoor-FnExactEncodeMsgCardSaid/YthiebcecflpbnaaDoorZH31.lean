/- spec.MsgFault and impl.EncodeMsg in the form in which the printed walks tell a function. -/
import Derived.Test.YthiebcecflpbnaaDoorZS0
import Derived.Test.YthiebcecflpbnaaDoorZS1
import Derived.Test.YthiebcecflpbnaaDoorZS3
import Derived.Test.YthiebcecflpbnaaDoorZS5
import Derived.Test.YthiebcecflpbnaaDoorZS6
namespace Go.Proofs.YthiebcecflpbnaaDoor.PFnExactEncodeMsg
open Go.RowKit Go.Proofs.YthiebcecflpbnaaDoorW.PrintWords Go.Proofs.YthiebcecflpbnaaDoorW.PrintLast Go.Proofs.YthiebcecflpbnaaDoorW.PrintMore
set_option linter.unusedVariables false
set_option linter.unusedSimpArgs false
open E

instance (a b : Int) : Decidable (SrvP a b) := by unfold SrvP; infer_instance
instance (a b c d : Int) : Decidable (PosP a b c d) := by unfold PosP; infer_instance
instance (a b c d : Int) : Decidable (MarkP a b c d) := by unfold MarkP; infer_instance
instance (a b c d : Int) (es : List Ent) : Decidable (EntsP a b c d es) := by unfold EntsP; infer_instance
def msgF (m : Msg) : Int :=
  if ¬ (1 ≤ m.kind ∧ m.kind ≤ 6) then 1 else if ¬ SrvP m.src m.dst then 2 else if ¬ (1 ≤ m.term ∧ m.term ≤ 1073741824) then 3 else if ¬ PosP m.kind m.idx m.lterm m.term then 4 else
  if ¬ MarkP m.kind m.commit m.ok m.hint then 5 else if ¬ EntsP m.kind m.idx m.lterm m.term m.es then 6 else 0
theorem msgF_eq (m : Msg) : msgF m = msgFault m := by
  unfold msgF msgFault
  congr
def encM (m : Msg) : List Int := if msgF m = 0 then frameB (m.kind :: msgB m) else []
theorem encM_eq (m : Msg) : encM m = encMsg m := by unfold encM encMsg; rw [msgF_eq]
theorem nibB {w W : World} (h : E.Nib w) (hb : Below w.heap.size w W) : E.Nib W := h.below h.pos hb

def spec_MsgFault.f (k : Nat) (a0 a1 a2 a3 a4 a5 a6 a7 a8 : Int) (l : List S76) : Option Int := if spec_l1rising.f k l a5 a3 = some (rising (ents l) a5 a3) then some (msgF ⟨a0, a1, a2, a3, a4, a5, a6, a7, a8, ents l⟩) else none
theorem spec_MsgFault.mono : ∀ a0 a1 a2 a3 a4 a5 a6 a7 a8 a9 k, LeO (spec_MsgFault.f k a0 a1 a2 a3 a4 a5 a6 a7 a8 a9) (spec_MsgFault.f (k + 1) a0 a1 a2 a3 a4 a5 a6 a7 a8 a9) := by
  intro a0 a1 a2 a3 a4 a5 a6 a7 a8 l k r h
  unfold spec_MsgFault.f at h ⊢
  split at h
  · rename_i hx
    rw [if_pos (spec_l1rising.mono l a5 a3 k _ hx)]
    exact h
  · cases h
theorem spec_MsgFault.calls (k : Nat) (a0_0 a0_1 a0_2 a0_3 a0_4 a0_5 a0_6 a0_7 a0_8 : Int) (A0_9 : Option Addr) (c0_9 : Nat) (l0_9 : List S76) (r : Int) (w : World) (hr0_9 : Kd.C k76 w A0_9 l0_9.length l0_9) (hc0_9 : l0_9.length ≤ c0_9) (h : spec_MsgFault.f k a0_0 a0_1 a0_2 a0_3 a0_4 a0_5 a0_6 a0_7 a0_8 l0_9 = some r) :
    Calls Tryd.prog 38 #[.agg #[.int .i64 a0_0, .int .i64 a0_1, .int .i64 a0_2, .int .i64 a0_3, .int .i64 a0_4, .int .i64 a0_5, .int .i64 a0_6, .int .i64 a0_7, .int .i64 a0_8, .slice A0_9 l0_9.length c0_9]] w fun e w' => e = .returned (.int .i64 r) ∧ Below w.heap.size w w' := by
  unfold spec_MsgFault.f at h
  split at h
  · rename_i hx
    obtain rfl := Option.some.inj h
    rw [msgF_eq]
    by_cases h1 : a0_0 = 1
    · subst h1; exact mfs1 k _ _ _ _ _ _ _ _ _ _ _ _ hr0_9 hc0_9 hx
    by_cases h3 : a0_0 = 3
    · subst h3; exact mfs3 k _ _ _ _ _ _ _ _ _ _ _ _ hr0_9 hc0_9 hx
    by_cases h5 : a0_0 = 5
    · subst h5; exact mfs5 k _ _ _ _ _ _ _ _ _ _ _ _ hr0_9 hc0_9 hx
    by_cases h6 : a0_0 = 6
    · subst h6; exact mfs6 k _ _ _ _ _ _ _ _ _ _ _ _ hr0_9 hc0_9 hx
    exact mfs0 k _ _ _ _ _ _ _ _ _ _ _ _ _ h1 h3 h5 h6 hr0_9 hc0_9 hx
  · cases h

def impl_EncodeMsg.f (_k : Nat) (a0 a1 a2 a3 a4 a5 a6 a7 a8 : Int) (l : List S76) : Option (List Int) := some (encM ⟨a0, a1, a2, a3, a4, a5, a6, a7, a8, ents l⟩)
theorem impl_EncodeMsg.mono : ∀ a0 a1 a2 a3 a4 a5 a6 a7 a8 a9 k, LeO (impl_EncodeMsg.f k a0 a1 a2 a3 a4 a5 a6 a7 a8 a9) (impl_EncodeMsg.f (k + 1) a0 a1 a2 a3 a4 a5 a6 a7 a8 a9) := fun _ _ _ _ _ _ _ _ _ _ _ => LeO.refl _
theorem C_max {w : World} {A : Option Addr} {l : List S76} (h : Kd.C k76 w A l.length l) : l.length ≤ 9223372036854775807 := Kd.C_max h
theorem impl_EncodeMsg.calls (k : Nat) (a0_0 a0_1 a0_2 a0_3 a0_4 a0_5 a0_6 a0_7 a0_8 : Int) (A0_9 : Option Addr) (c0_9 : Nat) (l0_9 : List S76) (r : List Int) (w : World) (hN : E.Nib w) (hr0_9 : Kd.C k76 w A0_9 l0_9.length l0_9) (hc0_9 : l0_9.length ≤ c0_9) (h : impl_EncodeMsg.f k a0_0 a0_1 a0_2 a0_3 a0_4 a0_5 a0_6 a0_7 a0_8 l0_9 = some r) :
    Calls Tryd.prog 21 #[.agg #[.int .i64 a0_0, .int .i64 a0_1, .int .i64 a0_2, .int .i64 a0_3, .int .i64 a0_4, .int .i64 a0_5, .int .i64 a0_6, .int .i64 a0_7, .int .i64 a0_8, .slice A0_9 l0_9.length c0_9]] w fun e w' => ∃ v0_ : Value, e = .returned (v0_) ∧ Kd.R (Kd.int .u8) 5 w' w.heap.size (fun _ => True) v0_ r ∧ Below w.heap.size w w' := by
  obtain rfl := Option.some.inj h
  rw [encM_eq]
  have hl : (ents l0_9).length = l0_9.length := by simp [ents]
  have := encodeMsg_calls a0_0 a0_1 a0_2 a0_3 a0_4 a0_5 a0_6 a0_7 a0_8 A0_9 c0_9 (ents l0_9) w (entR_of hr0_9) (by rw [hl]; exact C_max hr0_9) hN
  rw [hl] at this
  exact this
end Go.Proofs.YthiebcecflpbnaaDoor.PFnExactEncodeMsg
