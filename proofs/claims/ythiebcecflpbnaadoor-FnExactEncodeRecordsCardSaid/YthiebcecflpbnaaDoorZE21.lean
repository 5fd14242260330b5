/- A hard record. -/
import Derived.Test.YthiebcecflpbnaaDoorZE20
import Derived.Test.YthiebcecflpbnaaDoorZV2
namespace Go.Proofs.YthiebcecflpbnaaDoor.E
open Go.RowKit Go.Proofs.YthiebcecflpbnaaDoorW.PrintWords Go.Proofs.YthiebcecflpbnaaDoorW.PrintLast Go.Proofs.YthiebcecflpbnaaDoorW.PrintMore
set_option linter.unusedVariables false
set_option linter.unusedSimpArgs false

theorem eqA36 (d : Nat) (w : World) (x0 y0 : Int) (x1 y1 : Int) (x2 y2 : Int) (x3 y3 : ByteArray) (x4 y4 : ByteArray) (x5 y5 : ByteArray) :
    (Op.equalIn (d + 2) 36 (.agg #[.int .i64 x0, .int .i64 x1, .int .i64 x2, .string x3, .string x4, .string x5]) (.agg #[.int .i64 y0, .int .i64 y1, .int .i64 y2, .string y3, .string y4, .string y5])).run Tryd.prog w = .ok (x0 == y0 && (x1 == y1 && (x2 == y2 && (x3.toList == y3.toList && (x4.toList == y4.toList && (x5.toList == y5.toList)))))) w := by
  refine eqA_of Tryd.underlying36 (by kernel_rfl) ?_
  refine eqf_cons (by rfl) (by go_simp; rfl) (by go_simp; rfl) (by go_simp) ?_
  refine eqf_cons (by rfl) (by go_simp; rfl) (by go_simp; rfl) (by go_simp) ?_
  refine eqf_cons (by rfl) (by go_simp; rfl) (by go_simp; rfl) (by go_simp) ?_
  refine eqf_cons (by rfl) (by go_simp; rfl) (by go_simp; rfl) (by go_simp) ?_
  refine eqf_cons (by rfl) (by go_simp; rfl) (by go_simp; rfl) (by go_simp) ?_
  exact eqf_last (by rfl) (by go_simp; rfl) (by go_simp; rfl) (by go_simp)
theorem eqA76 (d : Nat) (w : World) (x0 y0 : Int) (x1 y1 : Int) (x2 y2 : Int) (x3 y3 : Int) (x4 y4 : ByteArray) (x5 y5 : ByteArray) (x6 y6 : ByteArray) :
    (Op.equalIn (d + 3) 76 (.agg #[.int .i64 x0, .int .i64 x1, .int .i64 x2, .int .i64 x3, .string x4, .string x5, .string x6]) (.agg #[.int .i64 y0, .int .i64 y1, .int .i64 y2, .int .i64 y3, .string y4, .string y5, .string y6])).run Tryd.prog w = .ok (x0 == y0 && (x1 == y1 && (x2 == y2 && (x3 == y3 && (x4.toList == y4.toList && (x5.toList == y5.toList && (x6.toList == y6.toList))))))) w := by
  refine eqA_of Tryd.underlying76 (by kernel_rfl) ?_
  refine eqf_cons (by rfl) (by go_simp; rfl) (by go_simp; rfl) (by go_simp) ?_
  exact eqf_last (by rfl) (by go_simp) (by go_simp) (eqA36 (d + 0) w _ _ _ _ _ _ _ _ _ _ _ _)
attribute [local go_sem high] eqA76
set_option maxHeartbeats 4000000 in
set_option maxRecDepth 100000 in
theorem rf1 (a1 a2 a3 e0 c0 c1 c2 : Int) (c3 c4 c5 : ByteArray) (a : Addr) (w : World) (R : RecR w a ⟨1, a1, a2, a3, ⟨e0, ⟨c0, c1, c2, c3, c4, c5⟩⟩⟩) :
    Calls Tryd.prog 61 #[.pointer (some a)] w fun e w' => e = .returned (.int .i64 (recFault ⟨1, a1, a2, a3, ⟨e0, ⟨c0, c1, c2, c3, c4, c5⟩⟩⟩)) ∧ Below w.heap.size w w' := by
  have hu := Tryd.underlying91
  have hu2 := Tryd.underlying76
  have hu3 := Tryd.underlying36
  obtain ⟨k0, k1, k2, k3, k4, k5, k6, k7, k8, k9, k10⟩ := R
  dsimp only at k0 k1 k2 k3 k4 k5 k6 k7 k8 k9 k10
  go_enter Tryd.func61, Tryd.ntmps61
  obtain ⟨bb, eb, HE⟩ : ∃ b : Bool, (e0 == 0 && (c0 == 0 && (c1 == 0 && (c2 == 0 && (c3.toList.isEmpty && (c4.toList.isEmpty && c5.toList.isEmpty)))))) = b ∧ Aside0 (b = true ↔ blankE ⟨e0, ⟨c0, c1, c2, c3, c4, c5⟩⟩) := ⟨_, rfl, ⟨by simp [blankE, toList_nil]⟩⟩
  obtain ⟨z3, e3, H3⟩ : ∃ z : Bool, (a3 == 0) = z ∧ Aside0 (z = true ↔ a3 = 0) := ⟨_, rfl, ⟨by simp⟩⟩
  cases z3
  · go_upto_region 4 with (fail)
    go_quiet (fail)
    go_wp2_with (first | (go_at_call 67; refine (fb1_impl _ _ _ (blk_new _ _)).mono ?_; rintro e w' ⟨rfl, rfl⟩; dsimp only))
    go_ret
    refine ⟨ret_int (rf_fin _ _ ?_), below_alloc (pw_below_drewN (Below.refl _ _) _) _⟩
    have h3 := H3.out
    clear hu hu2 hu3 k0 k1 k2 k3 k4 k5 k6 k7 k8 k9 k10
    simp_all [RecOk]
  · cases bb
    · go_upto_region 4 with (fail)
      go_quiet (fail)
      go_wp2_with (first | (go_at_call 67; refine (fb1_impl _ _ _ (blk_new _ _)).mono ?_; rintro e w' ⟨rfl, rfl⟩; dsimp only))
      go_ret
      refine ⟨ret_int (rf_fin _ _ ?_), below_alloc (pw_below_drewN (Below.refl _ _) _) _⟩
      have h3 := H3.out
      have hn : ¬ blankE ⟨e0, ⟨c0, c1, c2, c3, c4, c5⟩⟩ := fun h => by simpa using HE.out.2 h
      simp [RecOk, hn]
    · go_upto_region 4 with (fail)
      go_quiet (first | (go_at_call 64; exact Calls.quiet_of_same ((hardOk_impl _ _ _).mono fun _ _ h => ⟨h.1, h.2.symm⟩)))
      go_wp2_with (first | (go_at_call 67; refine (fb1_impl _ _ _ (blk_new _ _)).mono ?_; rintro e w' ⟨rfl, rfl⟩; dsimp only))
      go_ret
      refine ⟨ret_int (rf_fin _ _ ?_), below_alloc (pw_below_drewN (Below.refl _ _) _) _⟩
      have h3 := H3.out
      have hp : blankE ⟨e0, ⟨c0, c1, c2, c3, c4, c5⟩⟩ := HE.out.1 (by trivial)
      have h30 : a3 = 0 := h3.1 (by trivial)
      simp [RecOk, hp, h30]
end Go.Proofs.YthiebcecflpbnaaDoor.E
