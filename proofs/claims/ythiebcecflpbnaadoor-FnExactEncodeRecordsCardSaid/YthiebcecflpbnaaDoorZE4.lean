/- A frame's body: its fault, its first byte; encode. -/
import Derived.Test.YthiebcecflpbnaaDoorZE3
namespace Go.Proofs.YthiebcecflpbnaaDoor.E
open Go.RowKit Go.Proofs.YthiebcecflpbnaaDoorW.PrintWords Go.Proofs.YthiebcecflpbnaaDoorW.PrintLast Go.Proofs.YthiebcecflpbnaaDoorW.PrintMore
set_option linter.unusedVariables false
set_option linter.unusedSimpArgs false

def blankB (c : Cmd) : Bool := decide (c.client = 0 ∧ c.seq = 0 ∧ c.op = 0 ∧ c.key.size = 0 ∧ c.val.size = 0 ∧ c.old.size = 0)
def callFault (c : Cmd) : Int := if blankB c = true then 1 else cmdFault c

set_option maxHeartbeats 2000000 in
set_option maxRecDepth 100000 in
theorem callFault_calls (c0 c1 c2 : Int) (c3 c4 c5 : ByteArray) (p : Nat) (w : World) (B : w.heap[p]? = some (.cells #[.int .i64 c0, .int .i64 c1, .int .i64 c2, .string c3, .string c4, .string c5] 70 (0, 0))) :
    Calls Tryd.prog 88 #[.pointer (some ⟨p, 0, none⟩)] w fun e w' => e = .returned (.int .i64 (callFault ⟨c0, c1, c2, c3, c4, c5⟩)) ∧ Below w.heap.size w w' := by
  have hu := Tryd.underlying36
  have hu2 := Tryd.underlying70
  have C := blk_cell B
  clear B
  go_enter Tryd.func88, Tryd.ntmps88
  (repeat (any_goals (first | (go_at_call 68; refine (cmdFault_impl _ _ _ _ _ _ _).mono ?_; rintro e w' ⟨rfl, hb⟩; have HB := Aside0.mk hb; clear hb; dsimp only) | go_values | go_skip | go_guarded | go_step | go_upon)))
  all_goals
    go_ret
    refine ⟨ret_int ?_, ?_⟩
    · go_light; clear hu hu2
      try simp only [toList_nil] at *
      simp_all [callFault, blankB]
    · first | exact HB.out | exact Below.refl _ _

set_option maxHeartbeats 2000000 in
set_option maxRecDepth 100000 in
theorem callWrite_calls (c0 c1 c2 : Int) (c3 c4 c5 : ByteArray) (p g b : Nat) (l : List Int) (w : World) (B : w.heap[p]? = some (.cells #[.int .i64 c0, .int .i64 c1, .int .i64 c2, .string c3, .string c4, .string c5] 70 (0, 0))) (hC : CmdIn ⟨c0, c1, c2, c3, c4, c5⟩) (hW : Wr w b g l) (hb : b ≤ w.heap.size) (hg : b ≤ g) (hl : l.length ≤ 800000) :
    Calls Tryd.prog 89 #[.pointer (some ⟨p, 0, none⟩), .pointer (some ⟨g, 0, none⟩)] w fun e w' => e = .returned (.tuple #[]) ∧ Wr w' b g (l ++ cmdB ⟨c0, c1, c2, c3, c4, c5⟩) ∧ Kp w w' b g := by
  have hu := Tryd.underlying36
  have hu2 := Tryd.underlying70
  have C := blk_cell B
  clear B
  have HC := Aside0.mk hC
  have HW := Aside0.mk hW
  clear hC hW
  go_enter Tryd.func89, Tryd.ntmps89
  (repeat (any_goals (first | (go_at_call 90; refine (cmd_calls _ _ _ _ _ _ g b l _ HC.out HW.out hb hg hl).mono ?_; rintro e w' ⟨rfl, hw2, hk2⟩; have W2 := Aside0.mk hw2; have K2 := Aside0.mk hk2; clear hw2 hk2; dsimp only) | go_values | go_skip | go_guarded | go_step | go_upon)))
  go_end0
  exact ⟨rfl, W2.out, K2.out⟩
theorem ta_64_78 (p : Nat) (w : World) : Sem.run Tryd.prog (Instr.typeAssert (.iface 64 (.pointer (some ⟨p, 0, none⟩))) 101 78 true) w = .ok (.tuple #[.pointer none, .bool false]) w := by kernel_rfl
theorem ta_64_68 (p : Nat) (w : World) : Sem.run Tryd.prog (Instr.typeAssert (.iface 64 (.pointer (some ⟨p, 0, none⟩))) 101 68 true) w = .ok (.tuple #[.pointer none, .bool false]) w := by kernel_rfl
theorem ta_64_64 (p : Nat) (w : World) : Sem.run Tryd.prog (Instr.typeAssert (.iface 64 (.pointer (some ⟨p, 0, none⟩))) 101 64 true) w = .ok (.tuple #[.pointer (some ⟨p, 0, none⟩), .bool true]) w := by kernel_rfl
theorem ta_68_78 (p : Nat) (w : World) : Sem.run Tryd.prog (Instr.typeAssert (.iface 68 (.pointer (some ⟨p, 0, none⟩))) 101 78 true) w = .ok (.tuple #[.pointer none, .bool false]) w := by kernel_rfl
theorem ta_68_68 (p : Nat) (w : World) : Sem.run Tryd.prog (Instr.typeAssert (.iface 68 (.pointer (some ⟨p, 0, none⟩))) 101 68 true) w = .ok (.tuple #[.pointer (some ⟨p, 0, none⟩), .bool true]) w := by kernel_rfl
theorem ta_78_78 (p : Nat) (w : World) : Sem.run Tryd.prog (Instr.typeAssert (.iface 78 (.pointer (some ⟨p, 0, none⟩))) 101 78 true) w = .ok (.tuple #[.pointer (some ⟨p, 0, none⟩), .bool true]) w := by kernel_rfl
theorem ta_93_78 (p : Nat) (w : World) : Sem.run Tryd.prog (Instr.typeAssert (.iface 93 (.pointer (some ⟨p, 0, none⟩))) 101 78 true) w = .ok (.tuple #[.pointer none, .bool false]) w := by kernel_rfl
theorem ta_93_68 (p : Nat) (w : World) : Sem.run Tryd.prog (Instr.typeAssert (.iface 93 (.pointer (some ⟨p, 0, none⟩))) 101 68 true) w = .ok (.tuple #[.pointer none, .bool false]) w := by kernel_rfl
theorem ta_93_64 (p : Nat) (w : World) : Sem.run Tryd.prog (Instr.typeAssert (.iface 93 (.pointer (some ⟨p, 0, none⟩))) 101 64 true) w = .ok (.tuple #[.pointer none, .bool false]) w := by kernel_rfl
theorem ta_93_93 (p : Nat) (w : World) : Sem.run Tryd.prog (Instr.typeAssert (.iface 93 (.pointer (some ⟨p, 0, none⟩))) 101 93 true) w = .ok (.tuple #[.pointer (some ⟨p, 0, none⟩), .bool true]) w := by kernel_rfl

set_option maxHeartbeats 2000000 in
set_option maxRecDepth 100000 in
theorem firstByte_reply (p : Nat) (w : World) : Calls Tryd.prog 53 #[.iface 64 (.pointer (some ⟨p, 0, none⟩))] w fun e w' => e = .returned (.int .u8 8) ∧ w = w' := by
  have t1 := ta_64_78 p
  have t2 := ta_64_68 p
  have t3 := ta_64_64 p
  go_enter Tryd.func53, Tryd.ntmps53
  go_wp2_with (fail)
  go_ret
  exact ⟨rfl, rfl⟩
set_option maxHeartbeats 2000000 in
set_option maxRecDepth 100000 in
theorem firstByte_call (p : Nat) (w : World) : Calls Tryd.prog 53 #[.iface 68 (.pointer (some ⟨p, 0, none⟩))] w fun e w' => e = .returned (.int .u8 7) ∧ w = w' := by
  have t1 := ta_68_78 p
  have t2 := ta_68_68 p
  go_enter Tryd.func53, Tryd.ntmps53
  go_wp2_with (fail)
  go_ret
  exact ⟨rfl, rfl⟩

def leI (x : Int) : List Int := [x % 256, (x / 256) % 256, (x / 65536) % 256, (x / 16777216) % 256]
theorem lit_R (W : World) (base : Nat) (xs : List Int) (hb : base ≤ W.heap.size) (hm : xs.length ≤ 9223372036854775807) :
    (Kd.int .u8).R 5 (W.alloc (.cells (xs.map (Value.int .u8)).toArray 5)) base (fun _ => True) (.slice (some ⟨W.heap.size, 0, none⟩) xs.length xs.length) xs := by
  have h := World.ownsRow_lit (base := base) (e := 5) (size := 1) W (xs.map (Value.int .u8)).toArray xs.length hb (by simpa [maxLen] using hm) (by simp)
  exact Kd.R_of_own (enc := Value.int .u8) (h1 := fun _ => rfl) (ok := fun _ => True) (by simpa [encs] using h) (fun _ _ => trivial)
set_option maxHeartbeats 2000000 in
set_option maxRecDepth 100000 in
theorem little_calls (x : Int) (w : World) :
    Calls Tryd.prog 54 #[.int .u32 x] w fun e w' => ∃ v : Value, e = .returned v ∧ (Kd.int .u8).R 5 w' w.heap.size (fun _ => True) v (leI x) ∧ Below w.heap.size w w' := by
  go_enter Tryd.func54, Tryd.ntmps54
  go_wp2
  go_ret
  exact ⟨_, rfl, lit_R w w.heap.size (leI x) (Nat.le_refl _) (by simp [leI]), below_alloc (Below.refl _ _) _⟩
end Go.Proofs.YthiebcecflpbnaaDoor.E
