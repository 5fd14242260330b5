/- Functions of the law of EncodeRecords, in the form in which the printed walks tell a function. -/
import Derived.Test.YthiebcecflpbnaaDoorZPFnExactEncodeRecordsx0
import Derived.Test.YthiebcecflpbnaaDoorZE25
import Derived.Test.YthiebcecflpbnaaDoorZG
import Derived.Test.YthiebcecflpbnaaDoorZT
namespace Go.Proofs.YthiebcecflpbnaaDoor.PFnExactEncodeRecords
open Go.RowKit Go.Proofs.YthiebcecflpbnaaDoorW.PrintWords Go.Proofs.YthiebcecflpbnaaDoorW.PrintLast Go.Proofs.YthiebcecflpbnaaDoorW.PrintMore
set_option linter.unusedVariables false
set_option linter.unusedSimpArgs false

def spec_CmdFault.f (_k : Nat) (a0 a1 a2 : Int) (a3 a4 a5 : ByteArray) : Option Int := some (E.cmdFault ⟨a0, a1, a2, a3, a4, a5⟩)
theorem spec_CmdFault.mono : ∀ a0 a1 a2 a3 a4 a5 k, LeO (spec_CmdFault.f k a0 a1 a2 a3 a4 a5) (spec_CmdFault.f (k + 1) a0 a1 a2 a3 a4 a5) := fun _ _ _ _ _ _ _ => LeO.refl _
theorem spec_CmdFault.calls (k : Nat) (a0 a1 a2 : Int) (a3 a4 a5 : ByteArray) (r : Int) (w : World) (h : spec_CmdFault.f k a0 a1 a2 a3 a4 a5 = some r) :
    Calls Tryd.prog 35 #[.agg #[.int .i64 a0, .int .i64 a1, .int .i64 a2, .string a3, .string a4, .string a5]] w fun e w' => e = .returned (.int .i64 r) ∧ Below w.heap.size w w' := by
  have hr : E.cmdFault ⟨a0, a1, a2, a3, a4, a5⟩ = r := Option.some.inj h
  subst hr
  refine (E.cmdFault_spec a0 a1 a2 a3 a4 a5 w).mono ?_
  rintro e w' ⟨rfl, rfl⟩
  exact ⟨rfl, below_alloc (Below.refl _ _) _⟩
def laws_toCmd.f (a0 a1 a2 : Int) (a3 a4 a5 : ByteArray) : Option (Int × Int × Int × ByteArray × ByteArray × ByteArray) := some (a0, a1, a2, a3, a4, a5)
theorem laws_toCmd.calls (a0 a1 a2 : Int) (a3 a4 a5 : ByteArray) (r1 r2 r3 : Int) (r4 r5 r6 : ByteArray) (w : World) (h : laws_toCmd.f a0 a1 a2 a3 a4 a5 = some (r1, r2, r3, r4, r5, r6)) :
    Calls Tryd.prog 16 #[.agg #[.int .i64 a0, .int .i64 a1, .int .i64 a2, .string a3, .string a4, .string a5]] w fun e w' => e = .returned (.agg #[.int .i64 r1, .int .i64 r2, .int .i64 r3, .string r4, .string r5, .string r6]) ∧ Below w.heap.size w w' := by
  simp only [laws_toCmd.f, Option.some.injEq, Prod.mk.injEq] at h
  obtain ⟨rfl, rfl, rfl, rfl, rfl, rfl⟩ := h
  exact E.toCmd_calls _ _ _ _ _ _ w
/-- toEntry: the copy of an entry. -/
def laws_toEntry.f (a0 a1 a2 a3 : Int) (a4 a5 a6 : ByteArray) : Option (Int × Int × Int × Int × ByteArray × ByteArray × ByteArray) := some (a0, a1, a2, a3, a4, a5, a6)
set_option maxHeartbeats 2000000 in
set_option maxRecDepth 100000 in
theorem laws_toEntry.calls (a0 a1 a2 a3 : Int) (a4 a5 a6 : ByteArray) (r1 r2 r3 r4 : Int) (r5 r6 r7 : ByteArray) (w : World) (h : laws_toEntry.f a0 a1 a2 a3 a4 a5 a6 = some (r1, r2, r3, r4, r5, r6, r7)) :
    Calls Tryd.prog 58 #[.agg #[.int .i64 a0, .int .i64 a1, .int .i64 a2, .int .i64 a3, .string a4, .string a5, .string a6]] w fun e w' => e = .returned (.agg #[.int .i64 r1, .int .i64 r2, .int .i64 r3, .int .i64 r4, .string r5, .string r6, .string r7]) ∧ Below w.heap.size w w' := by
  simp only [laws_toEntry.f, Option.some.injEq, Prod.mk.injEq] at h
  obtain ⟨rfl, rfl, rfl, rfl, rfl, rfl, rfl⟩ := h
  have hu85 := Tryd.underlying85
  have hu76 := Tryd.underlying76
  have hu33 := Tryd.underlying33
  have hu36 := Tryd.underlying36
  go_enter Tryd.func58, Tryd.ntmps58
  (repeat (any_goals (first | (fail) | go_values | go_skip | go_guarded | go_step | go_upon)))
  go_at_call 16
  refine (E.toCmd_calls _ _ _ _ _ _ _).mono ?_
  rintro e w1 ⟨rfl, hb1⟩
  have HB1 := Aside0.mk hb1
  have R1 := Aside0.mk (blk_below (blk_alloc (E.blk_new1 _ _ _) _) hb1)
  have R2 := Aside0.mk (blk_below (E.blk_new2 _ _ _ _) hb1)
  clear hb1
  have C2 := blk_cell R2.out
  have F2 := blk_frozen R2.out
  have C1 := blk_cell R1.out
  have F1 := blk_frozen R1.out
  dsimp only
  (repeat (any_goals (first | (fail) | go_values | go_skip | go_guarded | go_step | go_upon)))
  have hb1 := HB1.out
  clear C1 C2 F1 F2
  refine bodyPost_ret (results_cell_row rfl _ _ (w.heap.size + 1) 76 #[.int .i64 a0, .int .i64 a1, .int .i64 a2, .int .i64 a3, .string a4, .string a5, .string a6] (0, 0) _ rfl ?_ hu76 rfl (by kernel_rfl)) rfl ⟨rfl, ?_⟩
  · go_light; clear hu85 hu76 hu33 hu36
    ((refine Eq.trans (by repeat (first | (with_reducible exact R1.out) | (with_reducible apply blk_set) | (with_reducible apply blk_far (hp := (show w.heap.size + 1 ≠ w.heap.size + 1 + 1 by omega))) | (with_reducible apply blk_drew) | (with_reducible apply blk_drewN) | (with_reducible apply blk_alloc))) ?_); first | (simp; done) | (simp [blank]; done) | rfl)
  · go_light; clear hu85 hu76 hu33 hu36; (repeat (first | (with_reducible exact Below.refl _ _) | (with_reducible assumption) | (with_reducible apply below_alloc) | (with_reducible apply below_drew1) | (with_reducible apply pw_below_drewN) | (with_reducible refine Below.setCell ?_ (by first | exact Nat.le_refl _ | (simp; done) | (simp; omega)) _) | (with_reducible refine below_step ?_ (by with_reducible assumption))))
/-- toRecord: the copy of a record. -/
def laws_toRecord.f (a0_0 a0_1 a0_2 a0_3 a0_4 a0_5 a0_6 a0_7 : Int) (a0_8 a0_9 a0_10 : ByteArray) : Option (Int × Int × Int × Int × Int × Int × Int × Int × ByteArray × ByteArray × ByteArray) := some (a0_0, a0_1, a0_2, a0_3, a0_4, a0_5, a0_6, a0_7, a0_8, a0_9, a0_10)
set_option maxHeartbeats 2000000 in
set_option maxRecDepth 100000 in
theorem laws_toRecord.calls (a0 a1 a2 a3 b0 b1 b2 b3 : Int) (b4 b5 b6 : ByteArray) (r1 r2 r3 r4 r5 r6 r7 r8 : Int) (r9 r10 r11 : ByteArray) (w : World) (h : laws_toRecord.f a0 a1 a2 a3 b0 b1 b2 b3 b4 b5 b6 = some (r1, r2, r3, r4, r5, r6, r7, r8, r9, r10, r11)) :
    Calls Tryd.prog 46 #[.agg #[.int .i64 a0, .int .i64 a1, .int .i64 a2, .int .i64 a3, .int .i64 b0, .int .i64 b1, .int .i64 b2, .int .i64 b3, .string b4, .string b5, .string b6]] w fun e w' => e = .returned (.agg #[.int .i64 r1, .int .i64 r2, .int .i64 r3, .int .i64 r4, .int .i64 r5, .int .i64 r6, .int .i64 r7, .int .i64 r8, .string r9, .string r10, .string r11]) ∧ Below w.heap.size w w' := by
  simp only [laws_toRecord.f, Option.some.injEq, Prod.mk.injEq] at h
  obtain ⟨rfl, rfl, rfl, rfl, rfl, rfl, rfl, rfl, rfl, rfl, rfl⟩ := h
  have hu87 := Tryd.underlying87
  have hu91 := Tryd.underlying91
  have hu76 := Tryd.underlying76
  have hu85 := Tryd.underlying85
  go_enter Tryd.func46, Tryd.ntmps46
  (repeat (any_goals (first | (fail) | go_values | go_skip | go_guarded | go_step | go_upon)))
  go_at_call 58
  refine (laws_toEntry.calls b0 b1 b2 b3 b4 b5 b6 b0 b1 b2 b3 b4 b5 b6 _ rfl).mono ?_
  rintro e w1 ⟨rfl, hb1⟩
  have HB1 := Aside0.mk hb1
  have R1 := Aside0.mk (blk_below (blk_alloc (E.blk_new1 _ _ _) _) hb1)
  have R2 := Aside0.mk (blk_below (E.blk_new2 _ _ _ _) hb1)
  clear hb1
  have C2 := blk_cell R2.out
  have F2 := blk_frozen R2.out
  have C1 := blk_cell R1.out
  have F1 := blk_frozen R1.out
  dsimp only
  (repeat (any_goals (first | (fail) | go_values | go_skip | go_guarded | go_step | go_upon)))
  have hb1 := HB1.out
  clear C1 C2 F1 F2
  refine bodyPost_ret (results_cell_row rfl _ _ (w.heap.size + 1) 91 #[.int .i64 a0, .int .i64 a1, .int .i64 a2, .int .i64 a3, .int .i64 b0, .int .i64 b1, .int .i64 b2, .int .i64 b3, .string b4, .string b5, .string b6] (0, 0) _ rfl ?_ hu91 rfl (by kernel_rfl)) rfl ⟨rfl, ?_⟩
  · go_light; clear hu87 hu91 hu76 hu85
    ((refine Eq.trans (by repeat (first | (with_reducible exact R1.out) | (with_reducible apply blk_set) | (with_reducible apply blk_far (hp := (show w.heap.size + 1 ≠ w.heap.size + 1 + 1 by omega))) | (with_reducible apply blk_drew) | (with_reducible apply blk_drewN) | (with_reducible apply blk_alloc))) ?_); first | (simp; done) | (simp [blank]; done) | rfl)
  · go_light; clear hu87 hu91 hu76 hu85; (repeat (first | (with_reducible exact Below.refl _ _) | (with_reducible assumption) | (with_reducible apply below_alloc) | (with_reducible apply below_drew1) | (with_reducible apply pw_below_drewN) | (with_reducible refine Below.setCell ?_ (by first | exact Nat.le_refl _ | (simp; done) | (simp; omega)) _) | (with_reducible refine below_step ?_ (by with_reducible assumption))))

def ent (s : S76) : E.Ent := ⟨s.f0, ⟨s.f1.f0, s.f1.f1, s.f1.f2, s.f1.f3, s.f1.f4, s.f1.f5⟩⟩
def rc (s : S91) : E.Rec := ⟨s.f0, s.f1, s.f2, s.f3, ent s.f4⟩
def rcs (l : List S91) : List E.Rec := l.map rc
theorem rd_rcs (l : List S91) (j : Nat) (h : j < (rcs l).length) : (rcs l)[j] = rc (rd_T91 l (j : Int)) := by
  have hj : j < l.length := by simpa [rcs] using h
  simp [rcs, rd_T91, hj]
theorem recsR_of {w : World} {A : Option Addr} {l : List S91} (h : Kd.C k91 w A l.length l) : E.RecsR w A (rcs l) := by
  intro j hj
  have hj2 : j < l.length := by simpa [rcs] using hj
  obtain ⟨ad, e, c0, c1, c2, c3, c4, c5, c6, c7, c8, c9, c10⟩ := at_T91 h (j : Int) (by omega) (by omega)
  rw [rd_rcs l j hj]
  rw [Int.toNat_natCast] at c0 c1 c2 c3 c4 c5 c6 c7 c8 c9 c10
  exact ⟨ad, e, c0, c1, c2, c3, c4, c5, c6, c7, c8, c9, c10⟩
theorem nibB {w W : World} (h : E.Nib w) (hb : Below w.heap.size w W) : E.Nib W := h.below h.pos hb
def impl_EncodeRecords.f (_k : Nat) (l : List S91) : Option (List Int) := some (E.encRecs (rcs l))
theorem impl_EncodeRecords.mono : ∀ a0 k, LeO (impl_EncodeRecords.f k a0) (impl_EncodeRecords.f (k + 1) a0) := fun _ _ => LeO.refl _
theorem impl_EncodeRecords.calls (k : Nat) (A0 : Option Addr) (c0 : Nat) (l0 : List S91) (r : List Int) (w : World) (hN : E.Nib w) (hr0 : Kd.C k91 w A0 l0.length l0) (hc0 : l0.length ≤ c0) (h : impl_EncodeRecords.f k l0 = some r) :
    Calls Tryd.prog 27 #[.slice A0 l0.length c0] w fun e w' => ∃ v0_ : Value, e = .returned (v0_) ∧ Kd.R (Kd.int .u8) 5 w' w.heap.size (fun _ => True) v0_ r ∧ Below w.heap.size w w' := by
  obtain rfl := Option.some.inj h
  have hl : (rcs l0).length = l0.length := by simp [rcs]
  have := E.encodeRecords_calls A0 c0 (rcs l0) w (recsR_of hr0) (by rw [hl]; exact Kd.C_max hr0) hN
  rw [hl] at this
  exact this
end Go.Proofs.YthiebcecflpbnaaDoor.PFnExactEncodeRecords
