/- What is wrong with a command, with a reply: what the program answers, as plain functions. -/
import Derived.Test.YthiebcecflpbnaaDoorZB
namespace Go.Proofs.YthiebcecflpbnaaDoor.E
open Go.RowKit Go.Proofs.YthiebcecflpbnaaDoorW.PrintWords Go.Proofs.YthiebcecflpbnaaDoorW.PrintLast Go.Proofs.YthiebcecflpbnaaDoorW.PrintMore
set_option linter.unusedVariables false
set_option linter.unusedSimpArgs false
structure Cmd where
  client : Int
  seq : Int
  op : Int
  key : ByteArray
  val : ByteArray
  old : ByteArray
def cmdFault (c : Cmd) : Int :=
  if c.op < 0 ∨ c.op > 4 then 1 else
  if c.op = 0 then (if c.client ≠ 0 then 2 else if c.seq ≠ 0 then 3 else if c.key.size ≠ 0 then 4 else if c.val.size ≠ 0 then 5 else if c.old.size ≠ 0 then 6 else 0) else
  if c.client < 1 ∨ c.client > 8 then 2 else if c.seq < 1 ∨ c.seq > 1073741824 then 3 else if c.key.size < 1 ∨ c.key.size > 64 then 4 else
  if c.val.size > 64 ∨ ((c.op = 1 ∨ c.op = 3) ∧ c.val.size > 0) then 5 else if c.old.size > 64 ∨ (c.op ≠ 4 ∧ c.old.size > 0) then 6 else 0

structure Reply where
  client : Int
  seq : Int
  status : Int
  code : Int
  val : ByteArray
  leader : Int
def replyFault (r : Reply) : Int :=
  if r.client < 1 ∨ r.client > 8 then 1 else if r.seq < 1 ∨ r.seq > 1073741824 then 2 else if r.status < 1 ∨ r.status > 2 then 3 else
  if (r.status = 1 ∧ (r.code < 1 ∨ r.code > 4)) ∨ (r.status ≠ 1 ∧ r.code ≠ 0) then 4 else if r.val.size > 64 ∨ (r.status ≠ 1 ∧ r.val.size > 0) then 5 else
  if (r.status = 1 ∧ r.leader ≠ 0) ∨ r.leader < 0 ∨ r.leader > 7 then 6 else 0

def fb6 (b0 b1 b2 b3 b4 b5 : Bool) : Int := if b0 = false then 1 else if b1 = false then 2 else if b2 = false then 3 else if b3 = false then 4 else if b4 = false then 5 else if b5 = false then 6 else 0

set_option maxHeartbeats 800000 in
theorem fb6_impl (w : World) (g : Nat) (b0 b1 b2 b3 b4 b5 : Bool) (B : w.heap[g]? = some (.cells #[.bool b0, .bool b1, .bool b2, .bool b3, .bool b4, .bool b5] 4 (0, 0))) :
    Calls Tryd.prog 67 #[.slice (some ⟨g, 0, none⟩) 6 6] w fun e w' => e = .returned (.int .i64 (fb6 b0 b1 b2 b3 b4 b5)) ∧ w = w' := by
  have C := blk_cell B
  clear B
  go_enter Tryd.func67, Tryd.ntmps67
  go_wp2
  go_rounds 7
  all_goals (go_ret; exact ⟨ret_int (by simp_all [fb6]), rfl⟩)

theorem within_impl (a b c : Int) (w : World) :
    Calls Tryd.prog 65 #[.int .i64 a, .int .i64 b, .int .i64 c] w fun e w' => e = .returned (.bool (decide (b ≤ a ∧ a ≤ c))) ∧ w = w' := by
  go_enter Tryd.func65, Tryd.ntmps65
  go_wp2
  all_goals (go_ret; exact ⟨ret_bool (by rw [Bool.eq_iff_iff]; simp; omega), rfl⟩)
theorem within_still (a b c : Int) (w : World) :
    Calls Tryd.prog 65 #[.int .i64 a, .int .i64 b, .int .i64 c] w fun e w' => e = .returned (.bool (decide (b ≤ a ∧ a ≤ c))) ∧ w' = w := (within_impl a b c w).mono fun _ _ h => ⟨h.1, h.2.symm⟩

theorem fault_eq (r : Reply) (b0 b1 b2 b3 b4 b5 : Bool) (h0 : b0 = false ↔ (r.client < 1 ∨ r.client > 8)) (h1 : b1 = false ↔ (r.seq < 1 ∨ r.seq > 1073741824)) (h2 : b2 = false ↔ (r.status < 1 ∨ r.status > 2))
    (h3 : b3 = false ↔ ((r.status = 1 ∧ (r.code < 1 ∨ r.code > 4)) ∨ (r.status ≠ 1 ∧ r.code ≠ 0))) (h4 : b4 = false ↔ (r.val.size > 64 ∨ (r.status ≠ 1 ∧ r.val.size > 0))) (h5 : b5 = false ↔ ((r.status = 1 ∧ r.leader ≠ 0) ∨ r.leader < 0 ∨ r.leader > 7)) :
    fb6 b0 b1 b2 b3 b4 b5 = replyFault r := by
  simp only [fb6, replyFault, h0, h1, h2, h3, h4, h5]

set_option maxHeartbeats 1600000 in
set_option maxRecDepth 100000 in
theorem fault_1 (w : World) (p : Nat) (a0 a1 a3 : Int) (a4 : ByteArray) (a5 : Int) (B : w.heap[p]? = some (.cells #[.int .i64 a0, .int .i64 a1, .int .i64 1, .int .i64 a3, .string a4, .int .i64 a5] 66 (0, 0))) (h1 : a3 < 1) (hd : decide (1 ≤ a3) = false) :
    Calls Tryd.prog 84 #[.pointer (some ⟨p, 0, none⟩)] w fun e w' => e = .returned (.int .i64 (replyFault ⟨a0, a1, 1, a3, a4, a5⟩)) ∧ Below w.heap.size w w' := by
  have C := blk_cell B
  clear B
  (go_enter Tryd.func84, Tryd.ntmps84 ; ((repeat (any_goals (first | (fail) | go_values | go_skip | go_guarded | go_step | go_upon)))) ; refine wp_region_still_tail 54 rfl (by kernel_rfl) ?_ ; simp only [List.take_succ_cons, List.take_zero, List.drop_succ_cons, List.drop_zero] ; (repeat (first | ((with_reducible refine wpStill_plain rfl (fun K hK => ?_)); go_simp; first | (with_reducible refine hK _ ?_; clear hK K) | (with_reducible refine ⟨_, within_still _ _ _ _, hK _ ?_⟩; clear hK K)) | ((with_reducible refine wpStill_skip ?hw ?_); (case hw => rfl); simp only [Act.put, List.setIfInBounds_toArray, List.set_cons_zero, List.set_cons_succ]) | ((with_reducible refine wpStill_want ?hw (fun K hK => ?_)); (case hw => rfl); go_simp; first | (with_reducible refine hK _ ?_; clear hK K) | (with_reducible refine ⟨_, within_still _ _ _ _, hK _ ?_⟩; clear hK K)))) ; refine wpStill_nil ?_ ; (try change wpList _ _ _ _ _ w.drew) ; clear C ; ((repeat (any_goals (first | (go_at_call 67; refine (fb6_impl _ w.heap.size _ _ _ _ _ _ (blk_new w.drew _)).mono ?_; rintro e w' ⟨rfl, rfl⟩; dsimp only) | go_values | go_skip | go_guarded | go_step | go_upon)))) ; go_ret ; refine ⟨ret_int ?_, ?_⟩)
  · go_light
    refine fault_eq _ _ _ _ _ _ _ ?_ ?_ ?_ ?_ ?_ ?_
    all_goals first | (simp only [decide_eq_false_iff_not, Bool.and_eq_false_iff]; omega) | (simp only [decide_eq_false_iff_not, empty_iff]; omega) | (simp; omega) | (simp; done) | (simp_all; omega) | (simp_all; done)
  · (repeat (first | (with_reducible exact Below.refl _ _) | (with_reducible assumption) | (with_reducible apply below_alloc) | (with_reducible apply below_drew1) | (with_reducible apply pw_below_drewN) | (with_reducible refine Below.setCell ?_ (by first | exact Nat.le_refl _ | (simp; done) | (simp; omega)) _) | (with_reducible refine below_step ?_ (by with_reducible assumption))))
set_option maxHeartbeats 1600000 in
set_option maxRecDepth 100000 in
theorem fault_2 (w : World) (p : Nat) (a0 a1 a3 : Int) (a4 : ByteArray) (a5 : Int) (B : w.heap[p]? = some (.cells #[.int .i64 a0, .int .i64 a1, .int .i64 1, .int .i64 a3, .string a4, .int .i64 a5] 66 (0, 0))) (h1 : 4 < a3) (hd : decide (a3 ≤ 4) = false) :
    Calls Tryd.prog 84 #[.pointer (some ⟨p, 0, none⟩)] w fun e w' => e = .returned (.int .i64 (replyFault ⟨a0, a1, 1, a3, a4, a5⟩)) ∧ Below w.heap.size w w' := by
  have C := blk_cell B
  clear B
  (go_enter Tryd.func84, Tryd.ntmps84 ; ((repeat (any_goals (first | (fail) | go_values | go_skip | go_guarded | go_step | go_upon)))) ; refine wp_region_still_tail 54 rfl (by kernel_rfl) ?_ ; simp only [List.take_succ_cons, List.take_zero, List.drop_succ_cons, List.drop_zero] ; (repeat (first | ((with_reducible refine wpStill_plain rfl (fun K hK => ?_)); go_simp; first | (with_reducible refine hK _ ?_; clear hK K) | (with_reducible refine ⟨_, within_still _ _ _ _, hK _ ?_⟩; clear hK K)) | ((with_reducible refine wpStill_skip ?hw ?_); (case hw => rfl); simp only [Act.put, List.setIfInBounds_toArray, List.set_cons_zero, List.set_cons_succ]) | ((with_reducible refine wpStill_want ?hw (fun K hK => ?_)); (case hw => rfl); go_simp; first | (with_reducible refine hK _ ?_; clear hK K) | (with_reducible refine ⟨_, within_still _ _ _ _, hK _ ?_⟩; clear hK K)))) ; refine wpStill_nil ?_ ; (try change wpList _ _ _ _ _ w.drew) ; clear C ; ((repeat (any_goals (first | (go_at_call 67; refine (fb6_impl _ w.heap.size _ _ _ _ _ _ (blk_new w.drew _)).mono ?_; rintro e w' ⟨rfl, rfl⟩; dsimp only) | go_values | go_skip | go_guarded | go_step | go_upon)))) ; go_ret ; refine ⟨ret_int ?_, ?_⟩)
  · go_light
    refine fault_eq _ _ _ _ _ _ _ ?_ ?_ ?_ ?_ ?_ ?_
    all_goals first | (simp only [decide_eq_false_iff_not, Bool.and_eq_false_iff]; omega) | (simp only [decide_eq_false_iff_not, empty_iff]; omega) | (simp; omega) | (simp; done) | (simp_all; omega) | (simp_all; done)
  · (repeat (first | (with_reducible exact Below.refl _ _) | (with_reducible assumption) | (with_reducible apply below_alloc) | (with_reducible apply below_drew1) | (with_reducible apply pw_below_drewN) | (with_reducible refine Below.setCell ?_ (by first | exact Nat.le_refl _ | (simp; done) | (simp; omega)) _) | (with_reducible refine below_step ?_ (by with_reducible assumption))))
set_option maxHeartbeats 1600000 in
set_option maxRecDepth 100000 in
theorem fault_3 (w : World) (p : Nat) (a0 a1 a3 : Int) (a4 : ByteArray) (a5 : Int) (B : w.heap[p]? = some (.cells #[.int .i64 a0, .int .i64 a1, .int .i64 1, .int .i64 a3, .string a4, .int .i64 a5] 66 (0, 0))) (h1 : 1 ≤ a3) (h2 : a3 ≤ 4) :
    Calls Tryd.prog 84 #[.pointer (some ⟨p, 0, none⟩)] w fun e w' => e = .returned (.int .i64 (replyFault ⟨a0, a1, 1, a3, a4, a5⟩)) ∧ Below w.heap.size w w' := by
  have C := blk_cell B
  clear B
  (go_enter Tryd.func84, Tryd.ntmps84 ; ((repeat (any_goals (first | (fail) | go_values | go_skip | go_guarded | go_step | go_upon)))) ; refine wp_region_still_tail 54 rfl (by kernel_rfl) ?_ ; simp only [List.take_succ_cons, List.take_zero, List.drop_succ_cons, List.drop_zero] ; (repeat (first | ((with_reducible refine wpStill_plain rfl (fun K hK => ?_)); go_simp; first | (with_reducible refine hK _ ?_; clear hK K) | (with_reducible refine ⟨_, within_still _ _ _ _, hK _ ?_⟩; clear hK K)) | ((with_reducible refine wpStill_skip ?hw ?_); (case hw => rfl); simp only [Act.put, List.setIfInBounds_toArray, List.set_cons_zero, List.set_cons_succ]) | ((with_reducible refine wpStill_want ?hw (fun K hK => ?_)); (case hw => rfl); go_simp; first | (with_reducible refine hK _ ?_; clear hK K) | (with_reducible refine ⟨_, within_still _ _ _ _, hK _ ?_⟩; clear hK K)))) ; refine wpStill_nil ?_ ; (try change wpList _ _ _ _ _ w.drew) ; clear C ; ((repeat (any_goals (first | (go_at_call 67; refine (fb6_impl _ w.heap.size _ _ _ _ _ _ (blk_new w.drew _)).mono ?_; rintro e w' ⟨rfl, rfl⟩; dsimp only) | go_values | go_skip | go_guarded | go_step | go_upon)))) ; go_ret ; refine ⟨ret_int ?_, ?_⟩)
  · go_light
    refine fault_eq _ _ _ _ _ _ _ ?_ ?_ ?_ ?_ ?_ ?_
    all_goals first | (simp only [decide_eq_false_iff_not, Bool.and_eq_false_iff]; omega) | (simp only [decide_eq_false_iff_not, empty_iff]; omega) | (simp; omega) | (simp; done) | (simp_all; omega) | (simp_all; done)
  · (repeat (first | (with_reducible exact Below.refl _ _) | (with_reducible assumption) | (with_reducible apply below_alloc) | (with_reducible apply below_drew1) | (with_reducible apply pw_below_drewN) | (with_reducible refine Below.setCell ?_ (by first | exact Nat.le_refl _ | (simp; done) | (simp; omega)) _) | (with_reducible refine below_step ?_ (by with_reducible assumption))))
set_option maxHeartbeats 1600000 in
set_option maxRecDepth 100000 in
theorem fault_4 (w : World) (p : Nat) (a0 a1 a2 a3 : Int) (a4 : ByteArray) (a5 : Int) (B : w.heap[p]? = some (.cells #[.int .i64 a0, .int .i64 a1, .int .i64 a2, .int .i64 a3, .string a4, .int .i64 a5] 66 (0, 0))) (hs : ¬ a2 = 1) (hs1 : (a2 == 1) = false) :
    Calls Tryd.prog 84 #[.pointer (some ⟨p, 0, none⟩)] w fun e w' => e = .returned (.int .i64 (replyFault ⟨a0, a1, a2, a3, a4, a5⟩)) ∧ Below w.heap.size w w' := by
  have C := blk_cell B
  clear B
  (go_enter Tryd.func84, Tryd.ntmps84 ; ((repeat (any_goals (first | (fail) | go_values | go_skip | go_guarded | go_step | go_upon)))) ; refine wp_region_still_tail 54 rfl (by kernel_rfl) ?_ ; simp only [List.take_succ_cons, List.take_zero, List.drop_succ_cons, List.drop_zero] ; (repeat (first | ((with_reducible refine wpStill_plain rfl (fun K hK => ?_)); go_simp; first | (with_reducible refine hK _ ?_; clear hK K) | (with_reducible refine ⟨_, within_still _ _ _ _, hK _ ?_⟩; clear hK K)) | ((with_reducible refine wpStill_skip ?hw ?_); (case hw => rfl); simp only [Act.put, List.setIfInBounds_toArray, List.set_cons_zero, List.set_cons_succ]) | ((with_reducible refine wpStill_want ?hw (fun K hK => ?_)); (case hw => rfl); go_simp; first | (with_reducible refine hK _ ?_; clear hK K) | (with_reducible refine ⟨_, within_still _ _ _ _, hK _ ?_⟩; clear hK K)))) ; refine wpStill_nil ?_ ; (try change wpList _ _ _ _ _ w.drew) ; clear C ; ((repeat (any_goals (first | (go_at_call 67; refine (fb6_impl _ w.heap.size _ _ _ _ _ _ (blk_new w.drew _)).mono ?_; rintro e w' ⟨rfl, rfl⟩; dsimp only) | go_values | go_skip | go_guarded | go_step | go_upon)))) ; go_ret ; refine ⟨ret_int ?_, ?_⟩)
  · go_light
    refine fault_eq _ _ _ _ _ _ _ ?_ ?_ ?_ ?_ ?_ ?_
    all_goals first | (simp only [decide_eq_false_iff_not, Bool.and_eq_false_iff]; omega) | (simp only [decide_eq_false_iff_not, empty_iff]; omega) | (simp; omega) | (simp; done) | (simp_all; omega) | (simp_all; done)
  · (repeat (first | (with_reducible exact Below.refl _ _) | (with_reducible assumption) | (with_reducible apply below_alloc) | (with_reducible apply below_drew1) | (with_reducible apply pw_below_drewN) | (with_reducible refine Below.setCell ?_ (by first | exact Nat.le_refl _ | (simp; done) | (simp; omega)) _) | (with_reducible refine below_step ?_ (by with_reducible assumption))))
set_option maxHeartbeats 1600000 in
set_option maxRecDepth 100000 in
theorem fault_impl (w : World) (p : Nat) (a0 a1 a2 a3 : Int) (a4 : ByteArray) (a5 : Int) (B : w.heap[p]? = some (.cells #[.int .i64 a0, .int .i64 a1, .int .i64 a2, .int .i64 a3, .string a4, .int .i64 a5] 66 (0, 0))) :
    Calls Tryd.prog 84 #[.pointer (some ⟨p, 0, none⟩)] w fun e w' => e = .returned (.int .i64 (replyFault ⟨a0, a1, a2, a3, a4, a5⟩)) ∧ Below w.heap.size w w' := by
  by_cases hs : a2 = 1
  · subst hs
    rcases Int.lt_or_le a3 1 with h1 | h1
    · exact fault_1 w p a0 a1 a3 a4 a5 B h1 (by simp; omega)
    · rcases Int.lt_or_le 4 a3 with h4 | h4
      · exact fault_2 w p a0 a1 a3 a4 a5 B h4 (by simp; omega)
      · exact fault_3 w p a0 a1 a3 a4 a5 B h1 h4
  · exact fault_4 w p a0 a1 a2 a3 a4 a5 B hs (by simpa using hs)
theorem cmdFault_eq (c : Cmd) (b0 b1 b2 b3 b4 b5 : Bool) (hop : c.op ≠ 0) (h0 : b0 = false ↔ (c.op < 0 ∨ c.op > 4)) (h1 : b1 = false ↔ (c.client < 1 ∨ c.client > 8)) (h2 : b2 = false ↔ (c.seq < 1 ∨ c.seq > 1073741824))
    (h3 : b3 = false ↔ (c.key.size < 1 ∨ c.key.size > 64)) (h4 : ¬ (c.op < 0 ∨ c.op > 4) → (b4 = false ↔ (c.val.size > 64 ∨ ((c.op = 1 ∨ c.op = 3) ∧ c.val.size > 0)))) (h5 : ¬ (c.op < 0 ∨ c.op > 4) → (b5 = false ↔ (c.old.size > 64 ∨ (c.op ≠ 4 ∧ c.old.size > 0)))) :
    fb6 b0 b1 b2 b3 b4 b5 = cmdFault c := by
  by_cases hin : c.op < 0 ∨ c.op > 4
  · simp only [fb6, cmdFault, if_pos hin, if_pos (h0.2 hin)]
  · simp only [fb6, cmdFault, if_neg hop, h0, h1, h2, h3, h4 hin, h5 hin]
theorem cmdFault_eq0 (c : Cmd) (b0 b1 b2 b3 b4 b5 : Bool) (hop : c.op = 0) (h0 : b0 = true) (h1 : b1 = false ↔ c.client ≠ 0) (h2 : b2 = false ↔ c.seq ≠ 0)
    (h3 : b3 = false ↔ c.key.size ≠ 0) (h4 : b4 = false ↔ c.val.size ≠ 0) (h5 : b5 = false ↔ c.old.size ≠ 0) :
    fb6 b0 b1 b2 b3 b4 b5 = cmdFault c := by
  simp only [fb6, cmdFault, if_pos hop, h0, h1, h2, h3, h4, h5, hop]
  simp
theorem toList_nil (b : ByteArray) : b.toList = [] ↔ b.size = 0 := by rw [← nil_toList, ← empty_iff]; rfl

set_option maxHeartbeats 4000000 in
set_option maxRecDepth 100000 in
theorem cmdFault_impl (a0 a1 a2 : Int) (a3 a4 a5 : ByteArray) (w : World) :
    Calls Tryd.prog 68 #[.agg #[.int .i64 a0, .int .i64 a1, .int .i64 a2, .string a3, .string a4, .string a5]] w fun e w' => e = .returned (.int .i64 (cmdFault ⟨a0, a1, a2, a3, a4, a5⟩)) ∧ Below w.heap.size w w' := by
  have hu := Tryd.underlying36
  go_enter Tryd.func68, Tryd.ntmps68
  (repeat (any_goals (first | (fail) | go_values | go_skip | go_guarded | go_step | go_upon)))
  · refine (fb6_impl _ (w.heap.size + 1) _ _ _ _ _ _ (blk_new1 _ _ _)).mono ?_
    rintro e w' ⟨rfl, rfl⟩
    dsimp only
    (repeat (any_goals (first | (fail) | go_values | go_skip | go_guarded | go_step | go_upon)))
    go_ret
    refine ⟨ret_int ?_, ?_⟩
    · go_light; clear hu
      try simp only [Bool.not_eq_true', Bool.not_eq_false', decide_eq_false_iff_not, decide_eq_true_eq, beq_iff_eq, bne_iff_ne, ne_eq, beq_eq_false_iff_ne, bne_eq_false_iff_eq, Bool.and_eq_true, Bool.or_eq_true, Bool.and_eq_false_iff, Bool.or_eq_false_iff] at *
      refine cmdFault_eq0 _ _ _ _ _ _ _ ?_ ?_ ?_ ?_ ?_ ?_ ?_
      all_goals first | assumption | rfl | (simp only [List.isEmpty_iff, beq_eq_false_iff_ne, toList_nil, ne_eq]; done) | (simp [toList_nil]; done)
    · go_light; clear hu
      (repeat (first | (with_reducible exact Below.refl _ _) | (with_reducible assumption) | (with_reducible apply below_alloc) | (with_reducible apply below_drew1) | (with_reducible apply pw_below_drewN) | (with_reducible refine Below.setCell ?_ (by first | exact Nat.le_refl _ | (simp; done) | (simp; omega)) _) | (with_reducible refine below_step ?_ (by with_reducible assumption))))
  all_goals
    have R := blk_new w (.cells #[.int .i64 a0, .int .i64 a1, .int .i64 a2, .string a3, .string a4, .string a5] 36)
    have HB := Aside0.mk (below_alloc (Below.refl w.heap.size w) (.cells #[.int .i64 a0, .int .i64 a1, .int .i64 a2, .string a3, .string a4, .string a5] 36))
    generalize w.alloc (.cells #[.int .i64 a0, .int .i64 a1, .int .i64 a2, .string a3, .string a4, .string a5] 36) = W at *
    have C := blk_cell R
    clear R
    refine wp_region_still_tail 23 rfl (by kernel_rfl) ?_
    simp only [List.take_succ_cons, List.take_zero, List.drop_succ_cons, List.drop_zero]
    (repeat (first | ((with_reducible refine wpStill_plain rfl (fun K hK => ?_)); go_simp; first | (with_reducible refine hK _ ?_; clear hK K) | (with_reducible refine ⟨_, within_still _ _ _ _, hK _ ?_⟩; clear hK K)) | ((with_reducible refine wpStill_skip ?hw ?_); (case hw => rfl); simp only [Act.put, List.setIfInBounds_toArray, List.set_cons_zero, List.set_cons_succ]) | ((with_reducible refine wpStill_want ?hw (fun K hK => ?_)); (case hw => rfl); go_simp; first | (with_reducible refine hK _ ?_; clear hK K) | (with_reducible refine ⟨_, within_still _ _ _ _, hK _ ?_⟩; clear hK K))))
    refine wpStill_nil ?_
    change wpList _ _ _ _ _ W.drew
    clear C
    (repeat (any_goals (first | (go_at_call 67; refine (fb6_impl _ W.heap.size _ _ _ _ _ _ (blk_new W.drew _)).mono ?_; rintro e w' ⟨rfl, rfl⟩; dsimp only) | go_values | go_skip | go_guarded | go_step | go_upon)))
    go_ret
    refine ⟨ret_int ?_, ?_⟩
    · go_light; clear hu
      try simp only [Bool.not_eq_true', Bool.not_eq_false', decide_eq_false_iff_not, decide_eq_true_eq, beq_iff_eq, bne_iff_ne, ne_eq, beq_eq_false_iff_ne, bne_eq_false_iff_eq, Bool.and_eq_true, Bool.or_eq_true, Bool.and_eq_false_iff, Bool.or_eq_false_iff] at *
      refine cmdFault_eq _ _ _ _ _ _ _ ?_ ?_ ?_ ?_ ?_ ?_ ?_
      all_goals first | assumption | (simp only [decide_eq_false_iff_not, Bool.and_eq_false_iff]; omega) | (simp only [decide_eq_false_iff_not, empty_iff]; omega) | (simp; omega) | (simp_all; omega)
    · go_light; clear hu
      have hb := HB.out
      (repeat (first | (with_reducible exact Below.refl _ _) | (with_reducible assumption) | (with_reducible apply below_alloc) | (with_reducible apply below_drew1) | (with_reducible apply pw_below_drewN) | (with_reducible refine Below.setCell ?_ (by first | exact Nat.le_refl _ | (simp; done) | (simp; omega)) _) | (with_reducible refine below_step ?_ (by with_reducible assumption))))
end Go.Proofs.YthiebcecflpbnaaDoor.E
