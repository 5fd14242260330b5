/- A record of the journal: what is wrong with it, what it writes. -/
import Derived.Test.YthiebcecflpbnaaDoorZE8
namespace Go.Proofs.YthiebcecflpbnaaDoor.E
open Go.RowKit Go.Proofs.YthiebcecflpbnaaDoorW.PrintWords Go.Proofs.YthiebcecflpbnaaDoorW.PrintLast Go.Proofs.YthiebcecflpbnaaDoorW.PrintMore
set_option linter.unusedVariables false
set_option linter.unusedSimpArgs false

structure Rec where
  kind : Int
  term : Int
  vote : Int
  idx : Int
  ent : Ent
/-- A record lies in memory, eleven cells. -/
structure RecR (w : World) (a : Addr) (r : Rec) : Prop where
  c0 : w.cell? a = some (.int .i64 r.kind)
  c1 : w.cell? ⟨a.block, a.off + 1, none⟩ = some (.int .i64 r.term)
  c2 : w.cell? ⟨a.block, a.off + 2, none⟩ = some (.int .i64 r.vote)
  c3 : w.cell? ⟨a.block, a.off + 3, none⟩ = some (.int .i64 r.idx)
  c4 : w.cell? ⟨a.block, a.off + 4, none⟩ = some (.int .i64 r.ent.term)
  c5 : w.cell? ⟨a.block, a.off + 5, none⟩ = some (.int .i64 r.ent.cmd.client)
  c6 : w.cell? ⟨a.block, a.off + 6, none⟩ = some (.int .i64 r.ent.cmd.seq)
  c7 : w.cell? ⟨a.block, a.off + 7, none⟩ = some (.int .i64 r.ent.cmd.op)
  c8 : w.cell? ⟨a.block, a.off + 8, none⟩ = some (.string r.ent.cmd.key)
  c9 : w.cell? ⟨a.block, a.off + 9, none⟩ = some (.string r.ent.cmd.val)
  c10 : w.cell? ⟨a.block, a.off + 10, none⟩ = some (.string r.ent.cmd.old)
theorem RecR.below {w w1 : World} {a : Addr} {r : Rec} (h : RecR w a r) (hb : Below w.heap.size w w1) : RecR w1 a r :=
  ⟨(hb.cell (World.block_lt_of_cell? w _ h.c0)).trans h.c0, (hb.cell (World.block_lt_of_cell? w _ h.c1)).trans h.c1, (hb.cell (World.block_lt_of_cell? w _ h.c2)).trans h.c2, (hb.cell (World.block_lt_of_cell? w _ h.c3)).trans h.c3, (hb.cell (World.block_lt_of_cell? w _ h.c4)).trans h.c4, (hb.cell (World.block_lt_of_cell? w _ h.c5)).trans h.c5, (hb.cell (World.block_lt_of_cell? w _ h.c6)).trans h.c6, (hb.cell (World.block_lt_of_cell? w _ h.c7)).trans h.c7, (hb.cell (World.block_lt_of_cell? w _ h.c8)).trans h.c8, (hb.cell (World.block_lt_of_cell? w _ h.c9)).trans h.c9, (hb.cell (World.block_lt_of_cell? w _ h.c10)).trans h.c10⟩
def blankE (e : Ent) : Prop := e.term = 0 ∧ e.cmd.client = 0 ∧ e.cmd.seq = 0 ∧ e.cmd.op = 0 ∧ e.cmd.key.size = 0 ∧ e.cmd.val.size = 0 ∧ e.cmd.old.size = 0
instance (e : Ent) : Decidable (blankE e) := by unfold blankE; infer_instance
def HardP (t v : Int) : Prop := 0 ≤ t ∧ t ≤ 1073741824 ∧ 0 ≤ v ∧ v ≤ 7 ∧ (t > 0 ∨ v = 0)
instance (t v : Int) : Decidable (HardP t v) := by unfold HardP; infer_instance
def RecOk (r : Rec) : Prop := (r.kind = 1 ∧ r.idx = 0 ∧ blankE r.ent ∧ HardP r.term r.vote) ∨ (r.kind = 2 ∧ r.term = 0 ∧ r.vote = 0 ∧ 1 ≤ r.idx ∧ r.idx ≤ 4096 ∧ EntOk r.ent) ∨ (r.kind = 3 ∧ r.term = 0 ∧ r.vote = 0 ∧ blankE r.ent ∧ 0 ≤ r.idx ∧ r.idx ≤ 4096)
instance (r : Rec) : Decidable (RecOk r) := by unfold RecOk; infer_instance

set_option maxHeartbeats 2000000 in
set_option maxRecDepth 100000 in
theorem hardOk_impl (t v : Int) (w : World) : Calls Tryd.prog 64 #[.int .i64 t, .int .i64 v] w fun e w' => e = .returned (.bool (decide (HardP t v))) ∧ w = w' := by
  go_enter Tryd.func64, Tryd.ntmps64
  go_wp2_with (go_at_call 65; refine (within_impl _ _ _ _).mono ?_; rintro e w' ⟨rfl, rfl⟩; dsimp only)
  all_goals
    go_ret
    refine ⟨ret_bool ?_, rfl⟩
    go_light
    try simp only [Bool.not_eq_true', Bool.not_eq_false', decide_eq_false_iff_not, decide_eq_true_eq, beq_iff_eq, bne_iff_ne, ne_eq, beq_eq_false_iff_ne, bne_eq_false_iff_eq, Bool.and_eq_true, Bool.or_eq_true, Bool.and_eq_false_iff, Bool.or_eq_false_iff] at *
    unfold HardP
    rw [Bool.eq_iff_iff]
    simp
    try omega
def fb1 (b : Bool) : Int := if b = true then 0 else 1
def recFault (r : Rec) : Int := if RecOk r then 0 else 1
theorem fb1_impl (w : World) (g : Nat) (b0 : Bool) (B : w.heap[g]? = some (.cells #[.bool b0] 4 (0, 0))) :
    Calls Tryd.prog 67 #[.slice (some ⟨g, 0, none⟩) 1 1] w fun e w' => e = .returned (.int .i64 (fb1 b0)) ∧ w = w' := by
  have C := blk_cell B
  clear B
  go_enter Tryd.func67, Tryd.ntmps67
  go_wp2
  go_rounds 2
  all_goals (go_ret; exact ⟨ret_int (by simp_all [fb1]), rfl⟩)
theorem rf_fin (b : Bool) (r : Rec) (h : b = true ↔ RecOk r) : fb1 b = recFault r := by
  unfold fb1 recFault
  by_cases hp : RecOk r
  · rw [if_pos hp, if_pos (h.2 hp)]
  · rw [if_neg hp, if_neg (fun hb => hp (h.1 hb))]
set_option maxHeartbeats 4000000 in
set_option maxRecDepth 100000 in
theorem rf2 (a1 a2 a3 e0 c0 c1 c2 : Int) (c3 c4 c5 : ByteArray) (a : Addr) (w : World) (R : RecR w a ⟨2, a1, a2, a3, ⟨e0, ⟨c0, c1, c2, c3, c4, c5⟩⟩⟩) :
    Calls Tryd.prog 61 #[.pointer (some a)] w fun e w' => e = .returned (.int .i64 (recFault ⟨2, a1, a2, a3, ⟨e0, ⟨c0, c1, c2, c3, c4, c5⟩⟩⟩)) ∧ Below w.heap.size w w' := by
  have hu := Tryd.underlying91
  have hu2 := Tryd.underlying76
  have hu3 := Tryd.underlying36
  obtain ⟨k0, k1, k2, k3, k4, k5, k6, k7, k8, k9, k10⟩ := R
  dsimp only at k0 k1 k2 k3 k4 k5 k6 k7 k8 k9 k10
  go_enter Tryd.func61, Tryd.ntmps61
  go_wp2_with (first | (go_at_call 65; refine (within_impl _ _ _ _).mono ?_; rintro e w' ⟨rfl, rfl⟩; dsimp only) | (go_at_call 64; refine (hardOk_impl _ _ _).mono ?_; rintro e w' ⟨rfl, rfl⟩; dsimp only) | (go_at_call 66; refine (entOk_impl e0 c0 c1 c2 c3 c4 c5 _).mono ?_; rintro e w3 ⟨rfl, hb⟩; have HB3 := Aside0.mk hb; clear hb; dsimp only) | (go_at_call 67; refine (fb1_impl _ _ _ (blk_new _ _)).mono ?_; rintro e w' ⟨rfl, rfl⟩; dsimp only))
  all_goals
    go_ret
    refine ⟨ret_int (rf_fin _ _ ?_), ?_⟩
    · go_light; clear hu hu2 hu3 k0 k1 k2 k3 k4 k5 k6 k7 k8 k9 k10
      unfold RecOk
      try simp only [toList_nil] at *
      try simp only [Bool.not_eq_true', Bool.not_eq_false', decide_eq_false_iff_not, decide_eq_true_eq, beq_iff_eq, bne_iff_ne, ne_eq, beq_eq_false_iff_ne, bne_eq_false_iff_eq, Bool.and_eq_true, Bool.or_eq_true, Bool.and_eq_false_iff, Bool.or_eq_false_iff] at *
      simp_all [blankE, HardP]
      try (intros; omega)
    · first | exact below_step HB3.out (below_alloc (Below.refl _ _) _) | exact below_alloc HB3.out _ | exact below_alloc (Below.refl _ _) _
set_option maxHeartbeats 4000000 in
set_option maxRecDepth 100000 in
theorem rf3 (a1 a2 a3 e0 c0 c1 c2 : Int) (c3 c4 c5 : ByteArray) (a : Addr) (w : World) (R : RecR w a ⟨3, a1, a2, a3, ⟨e0, ⟨c0, c1, c2, c3, c4, c5⟩⟩⟩) :
    Calls Tryd.prog 61 #[.pointer (some a)] w fun e w' => e = .returned (.int .i64 (recFault ⟨3, a1, a2, a3, ⟨e0, ⟨c0, c1, c2, c3, c4, c5⟩⟩⟩)) ∧ Below w.heap.size w w' := by
  have hu := Tryd.underlying91
  have hu2 := Tryd.underlying76
  have hu3 := Tryd.underlying36
  obtain ⟨k0, k1, k2, k3, k4, k5, k6, k7, k8, k9, k10⟩ := R
  dsimp only at k0 k1 k2 k3 k4 k5 k6 k7 k8 k9 k10
  go_enter Tryd.func61, Tryd.ntmps61
  go_wp2_with (first | (go_at_call 65; refine (within_impl _ _ _ _).mono ?_; rintro e w' ⟨rfl, rfl⟩; dsimp only) | (go_at_call 64; refine (hardOk_impl _ _ _).mono ?_; rintro e w' ⟨rfl, rfl⟩; dsimp only) | (go_at_call 66; refine (entOk_impl e0 c0 c1 c2 c3 c4 c5 _).mono ?_; rintro e w3 ⟨rfl, hb⟩; have HB3 := Aside0.mk hb; clear hb; dsimp only) | (go_at_call 67; refine (fb1_impl _ _ _ (blk_new _ _)).mono ?_; rintro e w' ⟨rfl, rfl⟩; dsimp only))
  all_goals
    go_ret
    refine ⟨ret_int (rf_fin _ _ ?_), ?_⟩
    · go_light; clear hu hu2 hu3 k0 k1 k2 k3 k4 k5 k6 k7 k8 k9 k10
      unfold RecOk
      try simp only [toList_nil] at *
      try simp only [Bool.not_eq_true', Bool.not_eq_false', decide_eq_false_iff_not, decide_eq_true_eq, beq_iff_eq, bne_iff_ne, ne_eq, beq_eq_false_iff_ne, bne_eq_false_iff_eq, Bool.and_eq_true, Bool.or_eq_true, Bool.and_eq_false_iff, Bool.or_eq_false_iff] at *
      simp_all [blankE, HardP]
      try (intros; omega)
    · first | exact below_step HB3.out (below_alloc (Below.refl _ _) _) | exact below_alloc HB3.out _ | exact below_alloc (Below.refl _ _) _
set_option maxHeartbeats 4000000 in
set_option maxRecDepth 100000 in
theorem rf0 (k a1 a2 a3 e0 c0 c1 c2 : Int) (c3 c4 c5 : ByteArray) (a : Addr) (w : World) (n1 : k ≠ 1) (n2 : k ≠ 2) (n3 : k ≠ 3) (R : RecR w a ⟨k, a1, a2, a3, ⟨e0, ⟨c0, c1, c2, c3, c4, c5⟩⟩⟩) :
    Calls Tryd.prog 61 #[.pointer (some a)] w fun e w' => e = .returned (.int .i64 (recFault ⟨k, a1, a2, a3, ⟨e0, ⟨c0, c1, c2, c3, c4, c5⟩⟩⟩)) ∧ Below w.heap.size w w' := by
  have hu := Tryd.underlying91
  have hu2 := Tryd.underlying76
  have hu3 := Tryd.underlying36
  obtain ⟨k0, k1, k2, k3, k4, k5, k6, k7, k8, k9, k10⟩ := R
  dsimp only at k0 k1 k2 k3 k4 k5 k6 k7 k8 k9 k10
  have q1 : (k == 1) = false := by simpa using n1
  have q2 : (k == 2) = false := by simpa using n2
  have q3 : (k == 3) = false := by simpa using n3
  go_enter Tryd.func61, Tryd.ntmps61
  go_wp2_with (first | (go_at_call 65; refine (within_impl _ _ _ _).mono ?_; rintro e w' ⟨rfl, rfl⟩; dsimp only) | (go_at_call 64; refine (hardOk_impl _ _ _).mono ?_; rintro e w' ⟨rfl, rfl⟩; dsimp only) | (go_at_call 66; refine (entOk_impl e0 c0 c1 c2 c3 c4 c5 _).mono ?_; rintro e w3 ⟨rfl, hb⟩; have HB3 := Aside0.mk hb; clear hb; dsimp only) | (go_at_call 67; refine (fb1_impl _ _ _ (blk_new _ _)).mono ?_; rintro e w' ⟨rfl, rfl⟩; dsimp only))
  all_goals
    go_ret
    refine ⟨ret_int (rf_fin _ _ ?_), ?_⟩
    · go_light; clear hu hu2 hu3 k0 k1 k2 k3 k4 k5 k6 k7 k8 k9 k10
      unfold RecOk
      try simp only [toList_nil] at *
      try simp only [Bool.not_eq_true', Bool.not_eq_false', decide_eq_false_iff_not, decide_eq_true_eq, beq_iff_eq, bne_iff_ne, ne_eq, beq_eq_false_iff_ne, bne_eq_false_iff_eq, Bool.and_eq_true, Bool.or_eq_true, Bool.and_eq_false_iff, Bool.or_eq_false_iff] at *
      simp_all [blankE, HardP]
      try (intros; omega)
    · first | exact below_step HB3.out (below_alloc (Below.refl _ _) _) | exact below_alloc HB3.out _ | exact below_alloc (Below.refl _ _) _
end Go.Proofs.YthiebcecflpbnaaDoor.E
