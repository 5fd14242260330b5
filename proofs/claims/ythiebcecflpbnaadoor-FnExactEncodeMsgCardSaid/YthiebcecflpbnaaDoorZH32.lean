/- laws.toMsg in the form in which the printed walks tell a function. -/
import Derived.Test.YthiebcecflpbnaaDoorZPFnExactEncodeMsgx3
namespace Go.Proofs.YthiebcecflpbnaaDoor.PFnExactEncodeMsg
open Go.RowKit Go.Proofs.YthiebcecflpbnaaDoorW.PrintWords Go.Proofs.YthiebcecflpbnaaDoorW.PrintLast Go.Proofs.YthiebcecflpbnaaDoorW.PrintMore
set_option linter.unusedVariables false
set_option linter.unusedSimpArgs false

def laws_toMsg.f (k : Nat) (a0_0 a0_1 a0_2 a0_3 a0_4 a0_5 a0_6 a0_7 a0_8 : Int) (l0_9 : List S85) : Option (Int × Int × Int × Int × Int × Int × Int × Int × Int × (List (S76))) := (laws_toEntryS.f k l0_9).bind fun t => (some (a0_0, a0_1, a0_2, a0_3, a0_4, a0_5, a0_6, a0_7, a0_8, t))
theorem laws_toMsg.mono : ∀ a0 a1 a2 a3 a4 a5 a6 a7 a8 a9 k, LeO (laws_toMsg.f k a0 a1 a2 a3 a4 a5 a6 a7 a8 a9) (laws_toMsg.f (k + 1) a0 a1 a2 a3 a4 a5 a6 a7 a8 a9) := by
  intro a0 a1 a2 a3 a4 a5 a6 a7 a8 a9 k
  unfold laws_toMsg.f
  exact LeO.bind (laws_toEntryS.mono _ _) (fun _ => LeO.refl _)
set_option maxHeartbeats 2000000 in
set_option maxRecDepth 100000 in
theorem laws_toMsg.calls (k : Nat) (a0_0 a0_1 a0_2 a0_3 a0_4 a0_5 a0_6 a0_7 a0_8 : Int) (A0_9 : Option Addr) (c0_9 : Nat) (l0_9 : List S85) (r1 r2 r3 r4 r5 r6 r7 r8 r9 : Int) (r10 : List S76) (w : World) (hr0_9 : Kd.C k85 w A0_9 l0_9.length l0_9) (hc0_9 : l0_9.length ≤ c0_9) (h : laws_toMsg.f k a0_0 a0_1 a0_2 a0_3 a0_4 a0_5 a0_6 a0_7 a0_8 l0_9 = some (r1, r2, r3, r4, r5, r6, r7, r8, r9, r10)) :
    Calls Tryd.prog 20 #[.agg #[.int .i64 a0_0, .int .i64 a0_1, .int .i64 a0_2, .int .i64 a0_3, .int .i64 a0_4, .int .i64 a0_5, .int .i64 a0_6, .int .i64 a0_7, .int .i64 a0_8, .slice A0_9 l0_9.length c0_9]] w fun e w' => ∃ v9_ : Value, e = .returned (.agg #[.int .i64 r1, .int .i64 r2, .int .i64 r3, .int .i64 r4, .int .i64 r5, .int .i64 r6, .int .i64 r7, .int .i64 r8, .int .i64 r9, v9_]) ∧ Kd.R k76 76 w' w.heap.size (fun _ => True) v9_ r10 ∧ Below w.heap.size w w' := by
  unfold laws_toMsg.f at h
  obtain ⟨t, ht, h⟩ := Option.bind_eq_some_iff.mp h
  simp only [Option.some.injEq, Prod.mk.injEq] at h
  obtain ⟨rfl, rfl, rfl, rfl, rfl, rfl, rfl, rfl, rfl, rfl⟩ := h
  have HT := Aside0.mk ht
  have HR := Aside0.mk hr0_9
  clear ht hr0_9
  have hu41 := Tryd.underlying41
  have hu46 := Tryd.underlying46
  go_enter Tryd.func20, Tryd.ntmps20
  (repeat (any_goals (first | (fail) | go_values | go_skip | go_guarded | go_step | go_upon)))
  go_at_call 40
  refine (laws_toEntryS.calls k A0_9 c0_9 l0_9 t _ (Kd.C_below HR.out (below_alloc (below_alloc (below_alloc (Below.refl _ _) _) _) _)) hc0_9 HT.out).mono ?_
  rintro e w1 ⟨v, rfl, ho, hb1⟩
  obtain ⟨A6, n6, c6, rfl⟩ := E.slice3 (Kd.R_slice ho)
  have HB1 := Aside0.mk hb1
  have R1 := Aside0.mk (blk_below (blk_alloc (E.blk_new1 _ _ _) _) hb1)
  have R2 := Aside0.mk (blk_below (E.blk_new2 _ _ _ _) hb1)
  have HO : Aside0 (Kd.R k76 76 w1 w.heap.size (fun q => q ≠ w.heap.size + 1 ∧ q ≠ w.heap.size + 1 + 1) (.slice A6 n6 c6) t) := ⟨Kd.R_mono (Kd.R_types (Kd.R_types (Kd.R_lower (base' := w.heap.size) ho (by simp; omega)) R2.out (by decide)) R1.out (by decide)) (fun _ hk => ⟨hk.2, hk.1.2⟩)⟩
  clear hb1 ho
  have C2 := blk_cell R2.out
  have F2 := blk_frozen R2.out
  have C1 := blk_cell R1.out
  have F1 := blk_frozen R1.out
  dsimp only
  (repeat (any_goals (first | (fail) | go_values | go_skip | go_guarded | go_step | go_upon)))
  have hb1 := HB1.out
  clear C1 C2 F1 F2
  refine bodyPost_ret (results_cell_row rfl _ _ (w.heap.size + 1) 46 #[.int .i64 a0_0, .int .i64 a0_1, .int .i64 a0_2, .int .i64 a0_3, .int .i64 a0_4, .int .i64 a0_5, .int .i64 a0_6, .int .i64 a0_7, .int .i64 a0_8, .slice A6 n6 c6] (0, 0) _ rfl ?_ hu46 rfl (by kernel_rfl)) rfl ⟨_, rfl, ?_, ?_⟩
  · go_light; clear hu41 hu46
    ((refine Eq.trans (by repeat (first | (with_reducible exact R1.out) | (with_reducible apply blk_set) | (with_reducible apply blk_far (hp := (show w.heap.size + 1 ≠ w.heap.size + 1 + 1 by omega))) | (with_reducible apply blk_drew) | (with_reducible apply blk_drewN) | (with_reducible apply blk_alloc))) ?_); first | (simp; done) | (simp [blank]; done) | rfl)
  · go_light; clear hu41 hu46
    refine Kd.R_mono (ok := fun q => q ≠ w.heap.size + 1 ∧ q ≠ w.heap.size + 1 + 1) ?_ (fun _ _ => trivial)
    (with_reducible repeat (refine Kd.R_far ?_ (fun _ hk => by first | exact hk.2 | exact hk.1) _))
    exact HO.out
  · go_light; clear hu41 hu46; (repeat (first | (with_reducible exact Below.refl _ _) | (with_reducible assumption) | (with_reducible apply below_alloc) | (with_reducible apply below_drew1) | (with_reducible apply pw_below_drewN) | (with_reducible refine Below.setCell ?_ (by first | exact Nat.le_refl _ | (simp; done) | (simp; omega)) _) | (with_reducible refine below_step ?_ (by with_reducible assumption))))
end Go.Proofs.YthiebcecflpbnaaDoor.PFnExactEncodeMsg
