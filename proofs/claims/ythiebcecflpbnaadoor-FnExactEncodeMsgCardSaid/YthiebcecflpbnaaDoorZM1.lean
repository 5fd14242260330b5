/- MsgFault at kind 1. -/
import Derived.Test.YthiebcecflpbnaaDoorZE9
namespace Go.Proofs.YthiebcecflpbnaaDoor.E
open Go.RowKit Go.Proofs.YthiebcecflpbnaaDoorW.PrintWords Go.Proofs.YthiebcecflpbnaaDoorW.PrintLast Go.Proofs.YthiebcecflpbnaaDoorW.PrintMore
set_option linter.unusedVariables false
set_option linter.unusedSimpArgs false

set_option maxHeartbeats 4000000 in
set_option maxRecDepth 100000 in
theorem mf1 (a1 a2 a3 a4 a5 a6 a7 a8 : Int) (A : Option Addr) (c : Nat) (es : List Ent) (w : World) (hE : EntR w A es) (hl : es.length ≤ 9223372036854775807) :
    Calls Tryd.prog 93 #[.agg #[.int .i64 1, .int .i64 a1, .int .i64 a2, .int .i64 a3, .int .i64 a4, .int .i64 a5, .int .i64 a6, .int .i64 a7, .int .i64 a8, .slice A es.length c]] w fun e w' => e = .returned (.int .i64 (msgFault ⟨1, a1, a2, a3, a4, a5, a6, a7, a8, es⟩)) ∧ Below w.heap.size w w' := by
  have hu := Tryd.underlying46
  have HE := Aside0.mk hE
  clear hE
  have HB := Aside0.mk (below_alloc (Below.refl w.heap.size w) (.cells #[.int .i64 1, .int .i64 a1, .int .i64 a2, .int .i64 a3, .int .i64 a4, .int .i64 a5, .int .i64 a6, .int .i64 a7, .int .i64 a8, .slice A es.length c] 46))
  have R := blk_new w (.cells #[.int .i64 1, .int .i64 a1, .int .i64 a2, .int .i64 a3, .int .i64 a4, .int .i64 a5, .int .i64 a6, .int .i64 a7, .int .i64 a8, .slice A es.length c] 46)
  obtain ⟨z4, e4, H4⟩ : ∃ z : Bool, (a4 == 0) = z ∧ Aside0 (z = true ↔ a4 = 0) := ⟨_, rfl, ⟨by simp⟩⟩
  obtain ⟨z5, e5, H5⟩ : ∃ z : Bool, (a5 == 0) = z ∧ Aside0 (z = true ↔ a5 = 0) := ⟨_, rfl, ⟨by simp⟩⟩
  obtain ⟨z6, e6, H6⟩ : ∃ z : Bool, (a6 == 0) = z ∧ Aside0 (z = true ↔ a6 = 0) := ⟨_, rfl, ⟨by simp⟩⟩
  obtain ⟨z7, e7, H7⟩ : ∃ z : Bool, (a7 == 0) = z ∧ Aside0 (z = true ↔ a7 = 0) := ⟨_, rfl, ⟨by simp⟩⟩
  obtain ⟨y7, f7, G7⟩ : ∃ z : Bool, (a7 == 1) = z ∧ Aside0 (z = true ↔ a7 = 1) := ⟨_, rfl, ⟨by simp⟩⟩
  obtain ⟨z8, e8, H8⟩ : ∃ z : Bool, (a8 == 0) = z ∧ Aside0 (z = true ↔ a8 = 0) := ⟨_, rfl, ⟨by simp⟩⟩
  obtain ⟨y1, f1, G1⟩ : ∃ z : Bool, (a1 != a2) = z ∧ Aside0 (z = true ↔ a1 ≠ a2) := ⟨_, rfl, ⟨by simp⟩⟩
  go_enter Tryd.func93, Tryd.ntmps93
  go_upto_region 1 with (fail)
  generalize w.alloc (.cells #[.int .i64 1, .int .i64 a1, .int .i64 a2, .int .i64 a3, .int .i64 a4, .int .i64 a5, .int .i64 a6, .int .i64 a7, .int .i64 a8, .slice A es.length c] 46) = W at *
  have C := blk_cell R
  have HR := Aside0.mk R
  clear R
  go_upto_region 2 with (fail)
  go_cut [4] (fun v4 wx => ∃ b : Bool, v4 = .bool b ∧ Aside0 (b = true ↔ (a4 = 0 ∧ a5 = 0)) ∧ W = wx)
  case first =>
    go_wp2_with (fail)
    all_goals
      go_meet
      go_light
      have g4 := H4.out
      have g5 := H5.out
      refine ⟨_, rfl, ⟨?_⟩, rfl⟩
      try simp only [Bool.not_eq_true', Bool.not_eq_false', decide_eq_false_iff_not, decide_eq_true_eq, beq_iff_eq, bne_iff_ne, ne_eq, beq_eq_false_iff_ne, bne_eq_false_iff_eq, Bool.and_eq_true, Bool.or_eq_true, Bool.and_eq_false_iff, Bool.or_eq_false_iff] at *
      grind
  case rest =>
    obtain ⟨b0, rfl, HP0, rfl⟩ := hcut
    go_upto_if 29 with (fail)
    go_cut [4] (fun v4 wx => ∃ b4 : Bool, v4 = .bool b4 ∧ Aside0 (b4 = true ↔ PosP 1 a4 a5 a3) ∧ W = wx)
    case first =>
      go_wp2_with (go_at_call 65; refine (within_impl _ _ _ _).mono ?_; rintro e w' ⟨rfl, rfl⟩; dsimp only)
      all_goals
        go_meet
        go_light
        have g4 := H4.out
        have g5 := H5.out
        have p0 := HP0.out
        refine ⟨_, rfl, ⟨?_⟩, rfl⟩
        unfold PosP
        try simp only [Bool.not_eq_true', Bool.not_eq_false', decide_eq_false_iff_not, decide_eq_true_eq, beq_iff_eq, bne_iff_ne, ne_eq, beq_eq_false_iff_ne, bne_eq_false_iff_eq, Bool.and_eq_true, Bool.or_eq_true, Bool.and_eq_false_iff, Bool.or_eq_false_iff] at *
        grind
    case rest =>
      obtain ⟨b4, rfl, HP, rfl⟩ := hcut
      go_upto_region 10 with (go_at_call 65; refine (within_impl _ _ _ _).mono ?_; rintro e w' ⟨rfl, rfl⟩; dsimp only)
      go_cut [5] (fun v5 wx => ∃ b5 : Bool, v5 = .bool b5 ∧ Aside0 (b5 = true ↔ Mark1P 1 a6 a7) ∧ W = wx)
      case first =>
        go_wp2_with (go_at_call 65; refine (within_impl _ _ _ _).mono ?_; rintro e w' ⟨rfl, rfl⟩; dsimp only)
        all_goals
          go_meet
          go_light
          have g6 := H6.out
          have g7 := H7.out
          have k7 := G7.out
          refine ⟨_, rfl, ⟨?_⟩, rfl⟩
          unfold Mark1P
          try simp only [Bool.not_eq_true', Bool.not_eq_false', decide_eq_false_iff_not, decide_eq_true_eq, beq_iff_eq, bne_iff_ne, ne_eq, beq_eq_false_iff_ne, bne_eq_false_iff_eq, Bool.and_eq_true, Bool.or_eq_true, Bool.and_eq_false_iff, Bool.or_eq_false_iff] at *
          grind
      case rest =>
        obtain ⟨b5, rfl, HM1, rfl⟩ := hcut
        go_upto_region 11 with (go_at_call 65; refine (within_impl _ _ _ _).mono ?_; rintro e w' ⟨rfl, rfl⟩; dsimp only)
        go_cut [5] (fun v5 wx => ∃ c5 : Bool, v5 = .bool c5 ∧ Aside0 (c5 = true ↔ MarkP 1 a6 a7 a8) ∧ W = wx)
        case first =>
          go_wp2_with (go_at_call 65; refine (within_impl _ _ _ _).mono ?_; rintro e w' ⟨rfl, rfl⟩; dsimp only)
          all_goals
            go_meet
            go_light
            have g7 := H7.out
            have g8 := H8.out
            have k7 := G7.out
            have hm1 := HM1.out
            refine ⟨_, rfl, ⟨?_⟩, rfl⟩
            unfold MarkP
            unfold Mark1P at hm1
            try simp only [Bool.not_eq_true', Bool.not_eq_false', decide_eq_false_iff_not, decide_eq_true_eq, beq_iff_eq, bne_iff_ne, ne_eq, beq_eq_false_iff_ne, bne_eq_false_iff_eq, Bool.and_eq_true, Bool.or_eq_true, Bool.and_eq_false_iff, Bool.or_eq_false_iff] at *
            grind
        case rest =>
          obtain ⟨c5, rfl, HMK, rfl⟩ := hcut
          go_upto_if 111 with (go_at_call 65; refine (within_impl _ _ _ _).mono ?_; rintro e w' ⟨rfl, rfl⟩; dsimp only)
          go_cut [6] (fun v6 wx => ∃ b6 : Bool, v6 = .bool b6 ∧ Aside0 (b6 = true ↔ EntsP 1 a4 a5 a3 es) ∧ Aside0 (wx.heap[w.heap.size]? = some (.cells #[.int .i64 1, .int .i64 a1, .int .i64 a2, .int .i64 a3, .int .i64 a4, .int .i64 a5, .int .i64 a6, .int .i64 a7, .int .i64 a8, .slice A es.length c] 46 (0, 0))) ∧ Aside0 (Below w.heap.size w wx))
          case first =>
            go_wp2_with (first | (go_at_call 95; refine (orderly_impl A c es a5 a3 _ (EntR.below HE.out HB.out) hl).mono ?_; rintro e w2 ⟨rfl, hb⟩; have HB2 := Aside0.mk (below_step HB.out hb); have HR2 := Aside0.mk (blk_below HR.out hb); clear hb; dsimp only) | (go_at_call 65; refine (within_impl _ _ _ _).mono ?_; rintro e w' ⟨rfl, rfl⟩; dsimp only))
            all_goals
              go_meet
              go_light
              refine ⟨_, rfl, ⟨?_⟩, ?_, ?_⟩
              · unfold EntsP
                try simp only [Bool.not_eq_true', Bool.not_eq_false', decide_eq_false_iff_not, decide_eq_true_eq, beq_iff_eq, bne_iff_ne, ne_eq, beq_eq_false_iff_ne, bne_eq_false_iff_eq, Bool.and_eq_true, Bool.or_eq_true, Bool.and_eq_false_iff, Bool.or_eq_false_iff] at *
                grind
              · first | exact HR2 | exact HR
              · first | exact HB2 | exact HB
          case rest =>
            obtain ⟨b6, rfl, HES, HR3, HB3⟩ := hcut
            have C3 := blk_cell HR3.out
            clear C HB HR
            go_upto_region 15 with (go_at_call 65; refine (within_impl _ _ _ _).mono ?_; rintro e w' ⟨rfl, rfl⟩; dsimp only)
            go_cut [7] (fun v7 wx => ∃ b7 : Bool, v7 = .bool b7 ∧ Aside0 (b7 = true ↔ SrvP a1 a2) ∧ wc = wx)
            case first =>
              go_wp2_with (go_at_call 65; refine (within_impl _ _ _ _).mono ?_; rintro e w' ⟨rfl, rfl⟩; dsimp only)
              all_goals
                go_meet
                go_light
                have k1 := G1.out
                refine ⟨_, rfl, ⟨?_⟩, rfl⟩
                unfold SrvP
                try simp only [Bool.not_eq_true', Bool.not_eq_false', decide_eq_false_iff_not, decide_eq_true_eq, beq_iff_eq, bne_iff_ne, ne_eq, beq_eq_false_iff_ne, bne_eq_false_iff_eq, Bool.and_eq_true, Bool.or_eq_true, Bool.and_eq_false_iff, Bool.or_eq_false_iff] at *
                grind
            case rest =>
              obtain ⟨b7, rfl, HSV, hw⟩ := hcut
              subst hw
              go_upto_region 16 with (go_at_call 65; refine (within_impl _ _ _ _).mono ?_; rintro e w' ⟨rfl, rfl⟩; dsimp only)
              refine wp_region_still_tail 10 rfl (by kernel_rfl) ?_
              simp only [List.take_succ_cons, List.take_zero, List.drop_succ_cons, List.drop_zero]
              (repeat (first | ((with_reducible refine wpStill_plain rfl (fun K hK => ?_)); go_simp; first | (with_reducible refine hK _ ?_; clear hK K) | (with_reducible refine ⟨_, within_still _ _ _ _, hK _ ?_⟩; clear hK K)) | ((with_reducible refine wpStill_skip ?hw ?_); (case hw => rfl); simp only [Act.put, List.setIfInBounds_toArray, List.set_cons_zero, List.set_cons_succ]) | ((with_reducible refine wpStill_want ?hw (fun K hK => ?_)); (case hw => rfl); go_simp; first | (with_reducible refine hK _ ?_; clear hK K) | (with_reducible refine ⟨_, within_still _ _ _ _, hK _ ?_⟩; clear hK K))))
              refine wpStill_nil ?_
              change wpList _ _ _ _ _ wc.drew
              clear C3
              (repeat (any_goals (first | (go_at_call 67; refine (fb6_impl _ wc.heap.size _ _ _ _ _ _ (blk_new wc.drew _)).mono ?_; rintro e w' ⟨rfl, rfl⟩; dsimp only) | go_values | go_skip | go_guarded | go_step | go_upon)))
              go_ret
              refine ⟨ret_int ?_, ?_⟩
              · go_light
                exact msgFault_eq 1 a1 a2 a3 a4 a5 a6 a7 a8 es _ _ _ _ _ _ rfl HSV.out (by simp) HP.out HMK.out HES.out
              · exact below_alloc HB3.out.drew _
end Go.Proofs.YthiebcecflpbnaaDoor.E
