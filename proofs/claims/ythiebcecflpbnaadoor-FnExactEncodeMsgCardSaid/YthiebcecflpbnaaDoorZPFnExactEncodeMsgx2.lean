-- a print of the walks of FnExactEncodeMsg by a program
import Derived.Test.YthiebcecflpbnaaDoorZH30
import Derived.Test.YthiebcecflpbnaaDoorZPFnExactEncodeMsgx1
namespace Go.Proofs.YthiebcecflpbnaaDoor.PFnExactEncodeMsg
open Go.RowKit Go.Proofs.YthiebcecflpbnaaDoorW.PrintWords Go.Proofs.YthiebcecflpbnaaDoorW.PrintLast Go.Proofs.YthiebcecflpbnaaDoorW.PrintMore
attribute [local go_sem] max2_int min2_int max_two min_two max_three min_three max_four min_four   -- for this text's walks alone
set_option linter.unusedVariables false
set_option linter.unusedSimpArgs false

/-! ### spec_Crc32: function 52 -/
mutual
def spec_Crc32.l0 : Nat → List Int → Int → Int → Option (Int)
  | 0, _, _, _ => none
  | k + 1, x0, x3, x4 => if x4 < (x0.length : Int) then (spec_Crc32.l1 k x0 x3 x4 0) else (some (Go.bits .xor .u32 x3 4294967295))
def spec_Crc32.l1 : Nat → List Int → Int → Int → Int → Option (Int)
  | 0, _, _, _, _ => none
  | k + 1, x0, x3, x4, x5 => if x5 < 8 then (if 0 ≤ x4 then (if x4 < (x0.length : Int) then (if 0 ≤ (IntKind.u64.wrap (x5)) then (if (Go.bits .and .u32 (Go.bits .xor .u32 x3 (Go.bits .and .u32 ((shr .u8 (rd x0 x4) (IntKind.u64.wrap (x5))) % 4294967296) 1)) 1) = 1 then (spec_Crc32.l1 k x0 (Go.bits .xor .u32 (x3 / 2) 3988292384) x4 (wrap64 (x5 + 1))) else (spec_Crc32.l1 k x0 (x3 / 2) x4 (wrap64 (x5 + 1)))) else (none)) else (none)) else (none)) else (spec_Crc32.l0 k x0 x3 (wrap64 (x4 + 1)))
end
def spec_Crc32.f (k : Nat) (l0 : List Int) : Option (Int) := spec_Crc32.l0 k l0 4294967295 0
theorem spec_Crc32.mono_l : ∀ k, (∀ y0 y1 y2, LeO (spec_Crc32.l0 k y0 y1 y2) (spec_Crc32.l0 (k + 1) y0 y1 y2)) ∧ (∀ y0 y1 y2 y3, LeO (spec_Crc32.l1 k y0 y1 y2 y3) (spec_Crc32.l1 (k + 1) y0 y1 y2 y3))
  | 0 => ⟨fun _ _ _ r h => by simp [spec_Crc32.l0] at h, fun _ _ _ _ r h => by simp [spec_Crc32.l1] at h⟩
  | k + 1 => by
    obtain ⟨ih0, ih1⟩ := spec_Crc32.mono_l k
    refine ⟨?_, ?_⟩
    · intro y0 y1 y2
      unfold spec_Crc32.l0
      repeat' first
      | (with_reducible exact ih0 _ _ _)
      | (with_reducible exact ih1 _ _ _ _)
      | (with_reducible exact LeO.refl _)
      | (with_reducible exact LeO.none _)
      | (with_reducible refine LeO.ite ?_ ?_)
      | (with_reducible refine LeO.bind ?_ (fun _ => ?_))
      | exact ih0 _ _ _
      | exact ih1 _ _ _ _
      | exact LeO.none _
      | refine LeO.ite ?_ ?_
      | refine LeO.bind ?_ (fun _ => ?_)
    · intro y0 y1 y2 y3
      unfold spec_Crc32.l1
      repeat' first
      | (with_reducible exact ih0 _ _ _)
      | (with_reducible exact ih1 _ _ _ _)
      | (with_reducible exact LeO.refl _)
      | (with_reducible exact LeO.none _)
      | (with_reducible refine LeO.ite ?_ ?_)
      | (with_reducible refine LeO.bind ?_ (fun _ => ?_))
      | exact ih0 _ _ _
      | exact ih1 _ _ _ _
      | exact LeO.none _
      | refine LeO.ite ?_ ?_
      | refine LeO.bind ?_ (fun _ => ?_)
theorem spec_Crc32.mono : ∀ a0 k, LeO (spec_Crc32.f k a0) (spec_Crc32.f (k + 1) a0) := by
  intro a0 k
  obtain ⟨ih0, ih1⟩ := spec_Crc32.mono_l k
  unfold spec_Crc32.f
  repeat' first
      | (with_reducible exact ih0 _ _ _)
      | (with_reducible exact ih1 _ _ _ _)
      | (with_reducible exact LeO.refl _)
      | (with_reducible exact LeO.none _)
      | (with_reducible refine LeO.ite ?_ ?_)
      | (with_reducible refine LeO.bind ?_ (fun _ => ?_))
      | exact ih0 _ _ _
      | exact ih1 _ _ _ _
      | exact LeO.none _
      | refine LeO.ite ?_ ?_
      | refine LeO.bind ?_ (fun _ => ?_)
set_option maxHeartbeats 8000000 in
set_option maxRecDepth 100000 in
theorem spec_Crc32.calls (k : Nat) (A0 : Option Addr) (c0 : Nat) (l0 : List Int) (r : Int) (w : World) (hr0 : Kd.C (Kd.int .u8) w A0 l0.length l0) (hc0 : l0.length ≤ c0) (h : spec_Crc32.f k l0 = some r) :
    Calls Tryd.prog 52 #[.slice A0 l0.length c0] w fun e w' => e = .returned (.int .u32 r) ∧ Drawn0 w w' := by
  have HR0 := Aside0.mk hr0
  have HC0 := Aside0.mk hc0
  clear hr0 hc0
  have H : (spec_Crc32.l0 k l0 4294967295 0) = some r := h
  clear h
  have H' := Aside0.mk H
  clear H
  go_enter Tryd.func52, Tryd.ntmps52
  go_wp2
  go_loopg [3, 4] k (fun kq v3 v4 w' => ∃ (x3_1 : Int) (x4_1 : Int), v3 = .int .u32 x3_1 ∧ v4 = .int .i64 x4_1 ∧ Aside0 (spec_Crc32.l0 kq l0 x3_1 x4_1 = some r) ∧ Aside0 (kq ≤ k) ∧ Drawn0 w w')
  case atStart => exact ⟨(4294967295), (0), (by first | rfl | (simp; done) | (simp [*]; done)), (by first | rfl | (simp; done) | (simp [*]; done)), H', ⟨Nat.le_refl _⟩, by repeat (first | exact Drawn0.refl _ | apply Drawn0.step)⟩
  case round =>
    clear H'
    obtain ⟨x3_1, x4_1, rfl, rfl, HA, HK1, ⟨m1, rfl⟩⟩ := hrel
    cases gk with
    | zero => exact absurd HA.out (by simp [spec_Crc32.l0])
    | succ k1 =>
      have H := HA.out
      clear HA
      simp only [spec_Crc32.l0] at H
      by_cases c2 : x4_1 < (l0.length : Int)
      · rw [if_pos c2] at H
        have c2b0 : decide (x4_1 < (l0.length : Int)) = true := decide_eq_true c2
        clear c2
        have H' := Aside0.mk H
        clear H
        go_wp2
        go_loopg [3, 5] k1 (fun kq v3 v5 w' => ∃ (x3_2 : Int) (x5_2 : Int), v3 = .int .u32 x3_2 ∧ v5 = .int .i64 x5_2 ∧ Aside0 (spec_Crc32.l1 kq l0 x3_2 x4_1 x5_2 = some r) ∧ Aside0 (kq ≤ k1) ∧ Drawn0 w w')
        case atStart => exact ⟨(x3_1), (0), (by first | rfl | (simp; done) | (simp [*]; done)), (by first | rfl | (simp; done) | (simp [*]; done)), H', ⟨Nat.le_refl _⟩, by repeat (first | exact Drawn0.refl _ | apply Drawn0.step)⟩
        case round =>
          clear H'
          try clear c2
          try clear c2b0
          try clear p2
          obtain ⟨x3_2, x5_2, rfl, rfl, HA, HK2, ⟨m2, rfl⟩⟩ := hrel
          cases gk with
          | zero => exact absurd HA.out (by simp [spec_Crc32.l1])
          | succ k2 =>
            have H := HA.out
            clear HA
            simp only [spec_Crc32.l1] at H
            by_cases c3 : x5_2 < 8
            · rw [if_pos c3] at H
              have c3b0 : decide (x5_2 < 8) = true := decide_eq_true c3
              clear c3
              by_cases c4 : 0 ≤ x4_1
              · rw [if_pos c4] at H
                have c4b0 : decide (0 ≤ x4_1) = true := decide_eq_true c4
                clear c4
                by_cases c5 : x4_1 < (l0.length : Int)
                · rw [if_pos c5] at H
                  have c5b0 : decide (x4_1 < (l0.length : Int)) = true := decide_eq_true c5
                  clear c5
                  obtain ⟨ji6, hji6⟩ : ∃ j_ : Int, (IntKind.u64.wrap (x5_2)) = j_ := ⟨_, rfl⟩
                  replace H : (if 0 ≤ (ji6) then (if (Go.bits .and .u32 (Go.bits .xor .u32 x3_2 (Go.bits .and .u32 ((shr .u8 (rd l0 x4_1) (ji6)) % 4294967296) 1)) 1) = 1 then (spec_Crc32.l1 k2 l0 (Go.bits .xor .u32 (x3_2 / 2) 3988292384) x4_1 (wrap64 (x5_2 + 1))) else (spec_Crc32.l1 k2 l0 (x3_2 / 2) x4_1 (wrap64 (x5_2 + 1)))) else (none)) = some r := by first | (rw [hji6] at H; exact H) | (simp only [hji6] at H ⊢; exact H)
                  by_cases c7 : 0 ≤ (ji6)
                  · rw [if_pos c7] at H
                    have c7b0 := eq_true c7
                    have c7b1 : decide (0 ≤ (ji6)) = true := decide_eq_true c7
                    clear c7
                    obtain ⟨ji8, hji8⟩ : ∃ j_ : Int, (shr .u8 (rd l0 x4_1) (ji6)) = j_ := ⟨_, rfl⟩
                    replace H : (if (Go.bits .and .u32 (Go.bits .xor .u32 x3_2 (Go.bits .and .u32 ((ji8) % 4294967296) 1)) 1) = 1 then (spec_Crc32.l1 k2 l0 (Go.bits .xor .u32 (x3_2 / 2) 3988292384) x4_1 (wrap64 (x5_2 + 1))) else (spec_Crc32.l1 k2 l0 (x3_2 / 2) x4_1 (wrap64 (x5_2 + 1)))) = some r := by first | (rw [hji8] at H; exact H) | (simp only [hji8] at H ⊢; exact H)
                    have hji8_ : ((rd l0 x4_1) / 2 ^ min (ji6).toNat 8) = ji8 := hji8
                    have hji8z : (ji6) ≤ 8 → ((rd l0 x4_1) / 2 ^ (ji6).toNat) = ji8 := shr_small hji8
                    by_cases c9 : (Go.bits .and .u32 (Go.bits .xor .u32 x3_2 (Go.bits .and .u32 ((ji8) % 4294967296) 1)) 1) = 1
                    · rw [if_pos c9] at H
                      have c9b0 : ((Go.bits .and .u32 (Go.bits .xor .u32 x3_2 (Go.bits .and .u32 ((ji8) % 4294967296) 1)) 1) == 1) = true := beq_iff_eq.mpr c9
                      have c9b1 : ((Go.bits .and .u32 (Go.bits .xor .u32 x3_2 (Go.bits .and .u32 ((ji8) % 4294967296) 1)) 1) != 1) = false := bne_eq_false_iff_eq.mpr c9
                      clear c9
                      have H' := Aside0.mk H
                      clear H
                      have p127 : 0 ≤ (x4_1 : Int) := of_decide_eq_true (by first | (with_reducible assumption) | assumption)
                      have q127 : x4_1 < (l0.length : Int) := of_decide_eq_true (by first | (with_reducible assumption) | assumption)
                      obtain ⟨ad127, e127, hx127_0⟩ := Kd.at_int HR0.out x4_1 p127 q127
                      cases e127
                      replace p127 := eq_true p127
                      replace q127 := eq_true q127
                      go_wp2
                      go_roundg k2
                      case measure => have := HK1.out; have := HK2.out; omega
                      case rel => exact ⟨(Go.bits .xor .u32 (x3_2 / 2) 3988292384), (wrap64 (x5_2 + 1)), (by first | rfl | (simp; done) | (simp [*]; done)), (by first | rfl | (simp; done) | (simp [*]; done)), H', ⟨by have := HK1.out; have := HK2.out; omega⟩, by repeat (first | exact Drawn0.refl _ | apply Drawn0.step)⟩
                    · rw [if_neg c9] at H
                      have c9b0 : ((Go.bits .and .u32 (Go.bits .xor .u32 x3_2 (Go.bits .and .u32 ((ji8) % 4294967296) 1)) 1) == 1) = false := beq_eq_false_iff_ne.mpr c9
                      have c9b1 : ((Go.bits .and .u32 (Go.bits .xor .u32 x3_2 (Go.bits .and .u32 ((ji8) % 4294967296) 1)) 1) != 1) = true := bne_iff_ne.mpr c9
                      have H' := Aside0.mk H
                      clear H
                      have p127 : 0 ≤ (x4_1 : Int) := of_decide_eq_true (by first | (with_reducible assumption) | assumption)
                      have q127 : x4_1 < (l0.length : Int) := of_decide_eq_true (by first | (with_reducible assumption) | assumption)
                      obtain ⟨ad127, e127, hx127_0⟩ := Kd.at_int HR0.out x4_1 p127 q127
                      cases e127
                      replace p127 := eq_true p127
                      replace q127 := eq_true q127
                      go_wp2
                      go_roundg k2
                      case measure => have := HK1.out; have := HK2.out; omega
                      case rel => exact ⟨(x3_2 / 2), (wrap64 (x5_2 + 1)), (by first | rfl | (simp; done) | (simp [*]; done)), (by first | rfl | (simp; done) | (simp [*]; done)), H', ⟨by have := HK1.out; have := HK2.out; omega⟩, by repeat (first | exact Drawn0.refl _ | apply Drawn0.step)⟩
                  · rw [if_neg c7] at H
                    exact absurd H (by simp)
                · rw [if_neg c5] at H
                  exact absurd H (by simp)
              · rw [if_neg c4] at H
                exact absurd H (by simp)
            · rw [if_neg c3] at H
              have c3b0 : decide (x5_2 < 8) = false := decide_eq_false c3
              clear c3
              have H' := Aside0.mk H
              clear H
              go_wp2
              go_roundg k2
              case measure => have := HK1.out; have := HK2.out; omega
              case rel => exact ⟨(x3_2), (wrap64 (x4_1 + 1)), (by first | rfl | (simp; done) | (simp [*]; done)), (by first | rfl | (simp; done) | (simp [*]; done)), H', ⟨by have := HK1.out; have := HK2.out; omega⟩, by repeat (first | exact Drawn0.refl _ | apply Drawn0.step)⟩
      · rw [if_neg c2] at H
        have c2b0 : decide (x4_1 < (l0.length : Int)) = false := decide_eq_false c2
        clear c2
        obtain rfl := Option.some.inj H
        go_wp2
        go_ret
        exact ⟨by first | rfl | (simp; done) | (simp [*]; done), by repeat (first | exact Drawn0.refl _ | apply Drawn0.step)⟩

/-! ### spec_l1frame: function 33 -/
def spec_l1frame.f (k : Nat) (l0 : List Int) : Option (List Int) := (spec_l1four.f (((l0.length : Int)) % 4294967296)).bind fun t128 => ((spec_Crc32.f k l0).bind fun t131 => ((spec_l1four.f t131).bind fun t132 => (if t128.length + t132.length < 140737488355328 then ((some (t128 ++ t132 : List Int)).bind fun y135 => (if y135.length + l0.length < 140737488355328 then (some (y135 ++ l0)) else (none))) else (none))))
theorem spec_l1frame.mono : ∀ a0 k, LeO (spec_l1frame.f k a0) (spec_l1frame.f (k + 1) a0) := by
  intro a0 k
  unfold spec_l1frame.f
  repeat' first
      | (with_reducible exact spec_Crc32.mono _ _)
      | (with_reducible exact LeO.refl _)
      | (with_reducible exact LeO.none _)
      | (with_reducible refine LeO.ite ?_ ?_)
      | (with_reducible refine LeO.bind ?_ (fun _ => ?_))
      | exact spec_Crc32.mono _ _
      | exact LeO.none _
      | refine LeO.ite ?_ ?_
      | refine LeO.bind ?_ (fun _ => ?_)
set_option maxHeartbeats 8000000 in
set_option maxRecDepth 100000 in
theorem spec_l1frame.calls (k : Nat) (A0 : Option Addr) (c0 : Nat) (l0 : List Int) (r : List Int) (w : World) (hr0 : Kd.C (Kd.int .u8) w A0 l0.length l0) (hc0 : l0.length ≤ c0) (h : spec_l1frame.f k l0 = some r) :
    Calls Tryd.prog 33 #[.slice A0 l0.length c0] w fun e w' => ∃ v0_ : Value, e = .returned (v0_) ∧ Kd.R (Kd.int .u8) 5 w' w.heap.size (fun _ => True) v0_ r ∧ Below w.heap.size w w' := by
  have HR0 := Aside0.mk hr0
  have HC0 := Aside0.mk hc0
  clear hr0 hc0
  have HB := Aside0.mk (Below.refl w.heap.size w)
  have H : ((spec_l1four.f (((l0.length : Int)) % 4294967296)).bind fun t128 => ((spec_Crc32.f k l0).bind fun t131 => ((spec_l1four.f t131).bind fun t132 => (if t128.length + t132.length < 140737488355328 then ((some (t128 ++ t132 : List Int)).bind fun y135 => (if y135.length + l0.length < 140737488355328 then (some (y135 ++ l0)) else (none))) else (none))))) = some r := h
  clear h
  replace H := Option.bind_eq_some_iff.mp H
  obtain ⟨t128, A20, H⟩ := H
  replace H : ((spec_Crc32.f k l0).bind fun t131 => ((spec_l1four.f t131).bind fun t132 => (if t128.length + t132.length < 140737488355328 then ((some (t128 ++ t132 : List Int)).bind fun y135 => (if y135.length + l0.length < 140737488355328 then (some (y135 ++ l0)) else (none))) else (none)))) = some r := H
  have A2 := Aside0.mk A20
  clear A20
  replace H := Option.bind_eq_some_iff.mp H
  obtain ⟨t131, A30, H⟩ := H
  replace H : ((spec_l1four.f t131).bind fun t132 => (if t128.length + t132.length < 140737488355328 then ((some (t128 ++ t132 : List Int)).bind fun y135 => (if y135.length + l0.length < 140737488355328 then (some (y135 ++ l0)) else (none))) else (none))) = some r := H
  have A3 := Aside0.mk A30
  clear A30
  replace H := Option.bind_eq_some_iff.mp H
  obtain ⟨t132, A40, H⟩ := H
  replace H : (if t128.length + t132.length < 140737488355328 then ((some (t128 ++ t132 : List Int)).bind fun y135 => (if y135.length + l0.length < 140737488355328 then (some (y135 ++ l0)) else (none))) else (none)) = some r := H
  have A4 := Aside0.mk A40
  clear A40
  by_cases c5 : t128.length + t132.length < 140737488355328
  · rw [if_pos c5] at H
    have LMc5 := Aside0.mk c5
    clear c5
    obtain ⟨y135, hy135⟩ : ∃ y_ : List Int, y_ = (t128 ++ t132) := ⟨_, rfl⟩
    replace H : (if y135.length + l0.length < 140737488355328 then (some (y135 ++ l0)) else (none)) = some r := by first | (rw [hy135]; with_reducible exact H) | (have H2_ := (Option.bind_some _ _).symm.trans H; rw [hy135]; with_reducible exact H2_) | (have H2_ := (Option.bind_some _ _).symm.trans H; with_reducible exact H2_) | with_reducible exact H | (rw [hy135]; exact H) | exact H
    have Ny135 := Aside0.mk hy135
    clear hy135
    by_cases c6 : y135.length + l0.length < 140737488355328
    · rw [if_pos c6] at H
      have LMc6 := Aside0.mk c6
      clear c6
      obtain ⟨y138, hy138⟩ : ∃ y_ : List Int, y_ = (y135 ++ l0) := ⟨_, rfl⟩
      replace H : (some y138) = some r := by first | (rw [hy138]; with_reducible exact H) | (have H2_ := (Option.bind_some _ _).symm.trans H; rw [hy138]; with_reducible exact H2_) | (have H2_ := (Option.bind_some _ _).symm.trans H; with_reducible exact H2_) | with_reducible exact H | (rw [hy138]; exact H) | exact H
      have Ny138 := Aside0.mk hy138
      clear hy138
      obtain rfl := Option.some.inj H
      go_enter Tryd.func33, Tryd.ntmps33
      go_wp2_with (first | ((with_reducible refine gate_callee (f := 51) rfl ?_); refine goesL_ (some 7) rfl rfl Tryd.func51 (by kernel_rfl) rfl #[.int .u32 (((l0.length : Int)) % 4294967296)] rfl (by (try simp only [List.map_toArray, List.map_cons, List.map_nil]); first | done | rfl | (simp only [List.length_drop, List.length_take]; rfl)) ?_; (with_reducible refine (spec_l1four.calls (((l0.length : Int)) % 4294967296) t128 _ A2.out).mono ?_); rintro e w7 ⟨v129, rfl, ho0, hb⟩; refine ⟨_, rfl, ?_⟩; have n0_ := Aside0.mk (Kd.R_lower ho0 (below_size (by repeat (first | (with_reducible first | exact HB.out | apply below_alloc | apply pw_below_drewN | apply below_drew1) | exact HB.out)))); have n1_ := Aside0.mk (below_step (by repeat (first | (with_reducible first | exact HB.out | apply below_alloc | apply pw_below_drewN | apply below_drew1) | exact HB.out)) hb); clear HB; have HO130 := n0_; have HB := n1_; clear n0_ n1_; (try clear hb); (try clear hb2); (try clear hk); (try clear hi); (try clear ho0)) | ((with_reducible refine gate_callee (f := 52) rfl ?_); refine goesL_ (some 10) rfl rfl Tryd.func52 (by kernel_rfl) rfl #[.slice A0 l0.length c0] rfl (by (try simp only [List.map_toArray, List.map_cons, List.map_nil]); first | done | rfl | (simp only [List.length_drop, List.length_take]; rfl)) ?_; (with_reducible refine (spec_Crc32.calls k _ _ l0 t131 _ ?side1 ?side2 A3.out).mono ?_); (case side1 => repeat (first | exact (Kd.C_below HR0.out HB.out) | (with_reducible refine Kd.C_alloc ?_ _) | (with_reducible refine Kd.C_drewN ?_ _) | (with_reducible refine Kd.C_drew ?_))); (case side2 => exact HC0.out); rintro e w' ⟨rfl, ⟨nd, rfl⟩⟩; refine ⟨_, rfl, ?_⟩) | ((with_reducible refine gate_callee (f := 51) rfl ?_); refine goesL_ (some 11) rfl rfl Tryd.func51 (by kernel_rfl) rfl #[.int .u32 t131] rfl (by (try simp only [List.map_toArray, List.map_cons, List.map_nil]); first | done | rfl | (simp only [List.length_drop, List.length_take]; rfl)) ?_; (with_reducible refine (spec_l1four.calls t131 t132 _ A4.out).mono ?_); rintro e w8 ⟨v133, rfl, ho0, hb⟩; refine ⟨_, rfl, ?_⟩; have n0_ := Aside0.mk (Kd.R_elder' (by (with_reducible repeat (first | apply Kd.R_alloc | apply Kd.R_drewN | apply Kd.R_drew)); exact HO130.out) (Kd.R_base ho0) hb); have n1_ := Aside0.mk (Kd.R_lower (Kd.R_new' ho0 (Kd.R_lt (by (with_reducible repeat (first | apply Kd.R_alloc | apply Kd.R_drewN | apply Kd.R_drew)); exact HO130.out))) (below_size (by repeat (first | (with_reducible first | exact HB.out | apply below_alloc | apply pw_below_drewN | apply below_drew1) | exact HB.out)))); have n2_ := Aside0.mk (below_step (by repeat (first | (with_reducible first | exact HB.out | apply below_alloc | apply pw_below_drewN | apply below_drew1) | exact HB.out)) hb); clear HO130; clear HB; have HO130 := n0_; have HO134 := n1_; have HB := n2_; clear n0_ n1_ n2_; (try clear hb); (try clear hb2); (try clear hk); (try clear hi); (try clear ho0); obtain ⟨Ao10, co10, eo10⟩ := Kd.R_slice HO134.out; subst eo10) | ((with_reducible refine gate_builtin (b := .append) (xs := #[.tmp 8, .tmp 11]) rfl ?_); at_builtin; refine Kd.R_append_rows (Kd.int .u8) (w0 := w) w.heap.size rfl (.tmp 8) (.tmp 11) 25 5 (.int .u8 0) 1 rfl Tryd.underlying25 info5 rfl (by decide) (by omega) v129 t128 t132 _ _ _ (fun k_ => some k_ ≠ (.slice Ao10 t132.length co10 : Value).ownBlock) (fun _ => False) rfl rfl ?aO ?aR (fun _ _ h => h) (fun _ h => h.elim) ?aF ?aB ?aS ?aL ?_; (case aR => repeat (first | exact (Kd.R_reads' HO134.out).2.2 | (with_reducible refine Kd.C_alloc ?_ _) | (with_reducible refine Kd.C_drewN ?_ _) | (with_reducible refine Kd.C_drew ?_))); (case aB => exact (by repeat (first | (with_reducible first | exact HB.out | apply below_alloc | apply pw_below_drewN | apply below_drew1) | exact HB.out))); (case aF => exact (fun k_ hk => Kd.fresh' (Kd.R_lt (by (with_reducible repeat (first | apply Kd.R_alloc | apply Kd.R_drewN | apply Kd.R_drew)); exact HO134.out)) k_ hk)); (case aO => exact (by (with_reducible repeat (first | apply Kd.R_alloc | apply Kd.R_drewN | apply Kd.R_drew)); exact Kd.R_mono HO130.out (fun _ hk => hk.2))); (case aS => exact (below_size (by repeat (first | (with_reducible first | exact HB.out | apply below_alloc | apply pw_below_drewN | apply below_drew1) | exact HB.out)))); (case aL => have := LMc5.out; omega); intro v136 w9 ho hb hg hat; rw [← Ny135.out] at ho; have n0_ := Aside0.mk (Kd.R_after (ok := (fun _ => True)) (by (with_reducible repeat (first | apply Kd.R_alloc | apply Kd.R_drewN | apply Kd.R_drew)); exact HO134.out) hg hat); have n1_ := Aside0.mk (hb); have n2_ := Aside0.mk (ho); clear HO134; clear HB; clear HO130; have HO134 := n0_; have HB := n1_; have HO137 := n2_; clear n0_ n1_ n2_; clear ho hb hg hat) | ((with_reducible refine gate_builtin (b := .append) (xs := #[.tmp 13, .tmp 14]) rfl ?_); at_builtin; refine Kd.R_append_rows (Kd.int .u8) (w0 := w) w.heap.size rfl (.tmp 13) (.tmp 14) 25 5 (.int .u8 0) 1 rfl Tryd.underlying25 info5 rfl (by decide) (by omega) v136 y135 l0 _ _ _ (fun k_ => some k_ ≠ (.slice Ao10 t132.length co10 : Value).ownBlock) (fun _ => False) rfl rfl ?aO ?aR (fun _ _ h => h) (fun _ h => h.elim) ?aF ?aB ?aS ?aL ?_; (case aR => repeat (first | exact (Kd.C_below HR0.out HB.out) | (with_reducible refine Kd.C_alloc ?_ _) | (with_reducible refine Kd.C_drewN ?_ _) | (with_reducible refine Kd.C_drew ?_))); (case aB => exact (by repeat (first | (with_reducible first | exact HB.out | apply below_alloc | apply pw_below_drewN | apply below_drew1) | exact HB.out))); (case aF => exact (fun k_ hk => Kd.fresh' (Kd.R_lt (by (with_reducible repeat (first | apply Kd.R_alloc | apply Kd.R_drewN | apply Kd.R_drew)); exact HO134.out)) k_ hk)); (case aO => exact (by (with_reducible repeat (first | apply Kd.R_alloc | apply Kd.R_drewN | apply Kd.R_drew)); exact HO137.out)); (case aS => exact (below_size (by repeat (first | (with_reducible first | exact HB.out | apply below_alloc | apply pw_below_drewN | apply below_drew1) | exact HB.out)))); (case aL => have := LMc6.out; omega); intro v139 w11 ho hb hg hat; rw [← Ny138.out] at ho; have n0_ := Aside0.mk (Kd.R_after (ok := (fun _ => True)) (by (with_reducible repeat (first | apply Kd.R_alloc | apply Kd.R_drewN | apply Kd.R_drew)); exact HO134.out) hg hat); have n1_ := Aside0.mk (hb); have n2_ := Aside0.mk (ho); clear HO134; clear HB; clear HO137; have HO134 := n0_; have HB := n1_; have HO140 := n2_; clear n0_ n1_ n2_; clear ho hb hg hat))
      go_ret
      exact ⟨_, by first | rfl | (simp [errW_none, errW_some] <;> rfl) | (simp [*, errW_none, errW_some] <;> rfl), by (with_reducible repeat (first | apply Kd.R_alloc | apply Kd.R_drewN | apply Kd.R_drew)); exact Kd.R_mono HO140.out (fun _ hk => trivial), by repeat (first | (with_reducible first | exact HB.out | apply below_alloc | apply pw_below_drewN | apply below_drew1) | exact HB.out)⟩
    · rw [if_neg c6] at H
      exact absurd H (by simp)
  · rw [if_neg c5] at H
    exact absurd H (by simp)

/-! ### spec_l1in: function 50 -/
def spec_l1in.f (a0 : Int) (a1 : Int) (a2 : Int) : Option (Bool) := if a1 ≤ a0 then (some (decide (a0 ≤ a2))) else (some false)
set_option maxHeartbeats 8000000 in
set_option maxRecDepth 100000 in
theorem spec_l1in.calls (a0 : Int) (a1 : Int) (a2 : Int) (r : Bool) (w : World) (h : spec_l1in.f a0 a1 a2 = some r) :
    Calls Tryd.prog 50 #[.int .i64 a0, .int .i64 a1, .int .i64 a2] w fun e w' => e = .returned (.bool r) ∧ Drawn0 w w' := by
  have H : (if a1 ≤ a0 then (some (decide (a0 ≤ a2))) else (some false)) = some r := h
  clear h
  by_cases c4 : a1 ≤ a0
  · rw [if_pos c4] at H
    have c4b0 : decide (a1 ≤ a0) = true := decide_eq_true c4
    clear c4
    obtain rfl := Option.some.inj H
    go_enter Tryd.func50, Tryd.ntmps50
    go_wp2
    go_ret
    exact ⟨by first | rfl | (simp; done) | (simp [*]; done), by repeat (first | exact Drawn0.refl _ | apply Drawn0.step)⟩
  · rw [if_neg c4] at H
    have c4b0 : decide (a1 ≤ a0) = false := decide_eq_false c4
    clear c4
    obtain rfl := Option.some.inj H
    go_enter Tryd.func50, Tryd.ntmps50
    go_wp2
    go_ret
    exact ⟨by first | rfl | (simp; done) | (simp [*]; done), by repeat (first | exact Drawn0.refl _ | apply Drawn0.step)⟩

-- BY HAND: function 35 (spec_CmdFault)

/-! ### spec_l1entryOk: function 62 -/
def spec_l1entryOk.f (k : Nat) (a0_0 : Int) (a0_1 : Int) (a0_2 : Int) (a0_3 : Int) (a0_4 : ByteArray) (a0_5 : ByteArray) (a0_6 : ByteArray) : Option (Bool) := if a0_0 ≥ 1 then (if a0_0 ≤ 1073741824 then ((spec_CmdFault.f k a0_1 a0_2 a0_3 a0_4 a0_5 a0_6).bind fun t143 => (some (t143 == 0))) else (some false)) else (some false)
theorem spec_l1entryOk.mono : ∀ a0 a1 a2 a3 a4 a5 a6 k, LeO (spec_l1entryOk.f k a0 a1 a2 a3 a4 a5 a6) (spec_l1entryOk.f (k + 1) a0 a1 a2 a3 a4 a5 a6) := by
  intro a0 a1 a2 a3 a4 a5 a6 k
  unfold spec_l1entryOk.f
  repeat' first
      | (with_reducible exact spec_CmdFault.mono _ _ _ _ _ _ _)
      | (with_reducible exact LeO.refl _)
      | (with_reducible exact LeO.none _)
      | (with_reducible refine LeO.ite ?_ ?_)
      | (with_reducible refine LeO.bind ?_ (fun _ => ?_))
      | exact spec_CmdFault.mono _ _ _ _ _ _ _
      | exact LeO.none _
      | refine LeO.ite ?_ ?_
      | refine LeO.bind ?_ (fun _ => ?_)
set_option maxHeartbeats 8000000 in
set_option maxRecDepth 100000 in
theorem spec_l1entryOk.calls (k : Nat) (a0_0 : Int) (a0_1 : Int) (a0_2 : Int) (a0_3 : Int) (a0_4 : ByteArray) (a0_5 : ByteArray) (a0_6 : ByteArray) (r : Bool) (w : World) (h : spec_l1entryOk.f k a0_0 a0_1 a0_2 a0_3 a0_4 a0_5 a0_6 = some r) :
    Calls Tryd.prog 62 #[.agg #[.int .i64 a0_0, .int .i64 a0_1, .int .i64 a0_2, .int .i64 a0_3, .string a0_4, .string a0_5, .string a0_6]] w fun e w' => e = .returned (.bool r) ∧ Below w.heap.size w w' := by
  have hu76 := Tryd.underlying76
  have hu36 := Tryd.underlying36
  have HB := Aside0.mk (Below.refl w.heap.size w)
  have H : (if a0_0 ≥ 1 then (if a0_0 ≤ 1073741824 then ((spec_CmdFault.f k a0_1 a0_2 a0_3 a0_4 a0_5 a0_6).bind fun t143 => (some (t143 == 0))) else (some false)) else (some false)) = some r := h
  clear h
  by_cases c2 : a0_0 ≥ 1
  · rw [if_pos c2] at H
    have c2b0 : decide (1 ≤ a0_0) = true := decide_eq_true c2
    clear c2
    by_cases c3 : a0_0 ≤ 1073741824
    · rw [if_pos c3] at H
      have c3b0 : decide (a0_0 ≤ 1073741824) = true := decide_eq_true c3
      clear c3
      replace H := Option.bind_eq_some_iff.mp H
      obtain ⟨t143, A40, H⟩ := H
      replace H : (some (t143 == 0)) = some r := H
      have A4 := Aside0.mk A40
      clear A40
      obtain rfl := Option.some.inj H
      go_enter Tryd.func62, Tryd.ntmps62
      go_wp2_with (first | ((with_reducible refine gate_dst (N := 1) rfl ?_); refine box_event ?hg (N := 1) ?hd (cs := #[.int .i64 a0_0, .int .i64 a0_1, .int .i64 a0_2, .int .i64 a0_3, .string a0_4, .string a0_5, .string a0_6]) (t := 76) ?hr ?_; (case hd => rfl); (case hg => rfl); (case hr => first | (go_simp; done) | (go_simp; rfl)); intro gb142 hg w5 hbox hb; have n0_ := Aside0.mk (below_step (by repeat (first | (with_reducible first | exact HB.out | apply below_alloc | apply pw_below_drewN | apply below_drew1) | exact HB.out)) hb); have n1_ := Aside0.mk (hbox); have n2_ := Aside0.mk ((by rw [hg]; exact (below_size (by repeat (first | (with_reducible first | exact HB.out | apply below_alloc | apply pw_below_drewN | apply below_drew1) | exact HB.out))) : w.heap.size ≤ gb142)); have n3_ := Aside0.mk ((by rw [hg]; exact (below_size (by repeat (first | (with_reducible first | exact HB.out | apply below_alloc | apply pw_below_drewN | apply below_drew1) | exact HB.out))) : w.heap.size ≤ gb142)); clear HB; have HB := n0_; have BK142 := n1_; have GW142 := n2_; have GE142 := n3_; clear n0_ n1_ n2_ n3_; clear hb hbox hg; have hcz6_0 : w5.cell? ⟨gb142, 0, none⟩ = some (.int .i64 a0_0) := (blk_cell BK142.out 0).trans rfl; have hcz6_1 : w5.cell? ⟨gb142, 1, none⟩ = some (.int .i64 a0_1) := (blk_cell BK142.out 1).trans rfl; have hcz6_2 : w5.cell? ⟨gb142, 2, none⟩ = some (.int .i64 a0_2) := (blk_cell BK142.out 2).trans rfl; have hcz6_3 : w5.cell? ⟨gb142, 3, none⟩ = some (.int .i64 a0_3) := (blk_cell BK142.out 3).trans rfl; have hcz6_4 : w5.cell? ⟨gb142, 4, none⟩ = some (.string a0_4) := (blk_cell BK142.out 4).trans rfl; have hcz6_5 : w5.cell? ⟨gb142, 5, none⟩ = some (.string a0_5) := (blk_cell BK142.out 5).trans rfl; have hcz6_6 : w5.cell? ⟨gb142, 6, none⟩ = some (.string a0_6) := (blk_cell BK142.out 6).trans rfl; have hfz6_0 := blk_frozen BK142.out 0; have hfz6_1 := blk_frozen BK142.out 1; have hfz6_2 := blk_frozen BK142.out 2; have hfz6_3 := blk_frozen BK142.out 3; have hfz6_4 := blk_frozen BK142.out 4; have hfz6_5 := blk_frozen BK142.out 5; have hfz6_6 := blk_frozen BK142.out 6) | (go_at_call 35; (with_reducible refine (spec_CmdFault.calls k a0_1 a0_2 a0_3 a0_4 a0_5 a0_6 t143 _ A4.out).mono ?_); rintro e w7 ⟨rfl, hb⟩; have n0_ := Aside0.mk (blk_below (g := gb142) (o := .cells #[.int .i64 a0_0, .int .i64 a0_1, .int .i64 a0_2, .int .i64 a0_3, .string a0_4, .string a0_5, .string a0_6] 76 (0, 0)) (by (with_reducible repeat (first | refine blk_drewN ?_ _ | refine blk_drew ?_ | refine blk_alloc ?_ _)); exact BK142.out) hb); have n1_ := Aside0.mk (below_step (by repeat (first | (with_reducible first | exact HB.out | apply below_alloc | apply pw_below_drewN | apply below_drew1 | refine below_set ?_ GE142.out) | exact HB.out)) hb); clear BK142; clear HB; have BK142 := n0_; have HB := n1_; clear n0_ n1_; (try clear hb); (try clear hb2); (try clear hk); (try clear hi)))
      go_ret
      exact ⟨by first | rfl | (simp [errW_none, errW_some] <;> rfl) | (simp [*, errW_none, errW_some] <;> rfl), by repeat (first | (with_reducible first | exact HB.out | apply below_alloc | apply pw_below_drewN | apply below_drew1 | refine below_set ?_ GE142.out) | exact HB.out)⟩
    · rw [if_neg c3] at H
      have c3b0 : decide (a0_0 ≤ 1073741824) = false := decide_eq_false c3
      clear c3
      obtain rfl := Option.some.inj H
      go_enter Tryd.func62, Tryd.ntmps62
      go_wp2_with (first | ((with_reducible refine gate_dst (N := 1) rfl ?_); refine box_event ?hg (N := 1) ?hd (cs := #[.int .i64 a0_0, .int .i64 a0_1, .int .i64 a0_2, .int .i64 a0_3, .string a0_4, .string a0_5, .string a0_6]) (t := 76) ?hr ?_; (case hd => rfl); (case hg => rfl); (case hr => first | (go_simp; done) | (go_simp; rfl)); intro gb142 hg w8 hbox hb; have n0_ := Aside0.mk (below_step (by repeat (first | (with_reducible first | exact HB.out | apply below_alloc | apply pw_below_drewN | apply below_drew1) | exact HB.out)) hb); have n1_ := Aside0.mk (hbox); have n2_ := Aside0.mk ((by rw [hg]; exact (below_size (by repeat (first | (with_reducible first | exact HB.out | apply below_alloc | apply pw_below_drewN | apply below_drew1) | exact HB.out))) : w.heap.size ≤ gb142)); have n3_ := Aside0.mk ((by rw [hg]; exact (below_size (by repeat (first | (with_reducible first | exact HB.out | apply below_alloc | apply pw_below_drewN | apply below_drew1) | exact HB.out))) : w.heap.size ≤ gb142)); clear HB; have HB := n0_; have BK142 := n1_; have GW142 := n2_; have GE142 := n3_; clear n0_ n1_ n2_ n3_; clear hb hbox hg; have hcz9_0 : w8.cell? ⟨gb142, 0, none⟩ = some (.int .i64 a0_0) := (blk_cell BK142.out 0).trans rfl; have hcz9_1 : w8.cell? ⟨gb142, 1, none⟩ = some (.int .i64 a0_1) := (blk_cell BK142.out 1).trans rfl; have hcz9_2 : w8.cell? ⟨gb142, 2, none⟩ = some (.int .i64 a0_2) := (blk_cell BK142.out 2).trans rfl; have hcz9_3 : w8.cell? ⟨gb142, 3, none⟩ = some (.int .i64 a0_3) := (blk_cell BK142.out 3).trans rfl; have hcz9_4 : w8.cell? ⟨gb142, 4, none⟩ = some (.string a0_4) := (blk_cell BK142.out 4).trans rfl; have hcz9_5 : w8.cell? ⟨gb142, 5, none⟩ = some (.string a0_5) := (blk_cell BK142.out 5).trans rfl; have hcz9_6 : w8.cell? ⟨gb142, 6, none⟩ = some (.string a0_6) := (blk_cell BK142.out 6).trans rfl; have hfz9_0 := blk_frozen BK142.out 0; have hfz9_1 := blk_frozen BK142.out 1; have hfz9_2 := blk_frozen BK142.out 2; have hfz9_3 := blk_frozen BK142.out 3; have hfz9_4 := blk_frozen BK142.out 4; have hfz9_5 := blk_frozen BK142.out 5; have hfz9_6 := blk_frozen BK142.out 6))
      go_ret
      exact ⟨by first | rfl | (simp [errW_none, errW_some] <;> rfl) | (simp [*, errW_none, errW_some] <;> rfl), by repeat (first | (with_reducible first | exact HB.out | apply below_alloc | apply pw_below_drewN | apply below_drew1 | refine below_set ?_ GE142.out) | exact HB.out)⟩
  · rw [if_neg c2] at H
    have c2b0 : decide (1 ≤ a0_0) = false := decide_eq_false c2
    clear c2
    obtain rfl := Option.some.inj H
    go_enter Tryd.func62, Tryd.ntmps62
    go_wp2_with (first | ((with_reducible refine gate_dst (N := 1) rfl ?_); refine box_event ?hg (N := 1) ?hd (cs := #[.int .i64 a0_0, .int .i64 a0_1, .int .i64 a0_2, .int .i64 a0_3, .string a0_4, .string a0_5, .string a0_6]) (t := 76) ?hr ?_; (case hd => rfl); (case hg => rfl); (case hr => first | (go_simp; done) | (go_simp; rfl)); intro gb142 hg w10 hbox hb; have n0_ := Aside0.mk (below_step (by repeat (first | (with_reducible first | exact HB.out | apply below_alloc | apply pw_below_drewN | apply below_drew1) | exact HB.out)) hb); have n1_ := Aside0.mk (hbox); have n2_ := Aside0.mk ((by rw [hg]; exact (below_size (by repeat (first | (with_reducible first | exact HB.out | apply below_alloc | apply pw_below_drewN | apply below_drew1) | exact HB.out))) : w.heap.size ≤ gb142)); have n3_ := Aside0.mk ((by rw [hg]; exact (below_size (by repeat (first | (with_reducible first | exact HB.out | apply below_alloc | apply pw_below_drewN | apply below_drew1) | exact HB.out))) : w.heap.size ≤ gb142)); clear HB; have HB := n0_; have BK142 := n1_; have GW142 := n2_; have GE142 := n3_; clear n0_ n1_ n2_ n3_; clear hb hbox hg; have hcz11_0 : w10.cell? ⟨gb142, 0, none⟩ = some (.int .i64 a0_0) := (blk_cell BK142.out 0).trans rfl; have hcz11_1 : w10.cell? ⟨gb142, 1, none⟩ = some (.int .i64 a0_1) := (blk_cell BK142.out 1).trans rfl; have hcz11_2 : w10.cell? ⟨gb142, 2, none⟩ = some (.int .i64 a0_2) := (blk_cell BK142.out 2).trans rfl; have hcz11_3 : w10.cell? ⟨gb142, 3, none⟩ = some (.int .i64 a0_3) := (blk_cell BK142.out 3).trans rfl; have hcz11_4 : w10.cell? ⟨gb142, 4, none⟩ = some (.string a0_4) := (blk_cell BK142.out 4).trans rfl; have hcz11_5 : w10.cell? ⟨gb142, 5, none⟩ = some (.string a0_5) := (blk_cell BK142.out 5).trans rfl; have hcz11_6 : w10.cell? ⟨gb142, 6, none⟩ = some (.string a0_6) := (blk_cell BK142.out 6).trans rfl; have hfz11_0 := blk_frozen BK142.out 0; have hfz11_1 := blk_frozen BK142.out 1; have hfz11_2 := blk_frozen BK142.out 2; have hfz11_3 := blk_frozen BK142.out 3; have hfz11_4 := blk_frozen BK142.out 4; have hfz11_5 := blk_frozen BK142.out 5; have hfz11_6 := blk_frozen BK142.out 6))
    go_ret
    exact ⟨by first | rfl | (simp [errW_none, errW_some] <;> rfl) | (simp [*, errW_none, errW_some] <;> rfl), by repeat (first | (with_reducible first | exact HB.out | apply below_alloc | apply pw_below_drewN | apply below_drew1 | refine below_set ?_ GE142.out) | exact HB.out)⟩

/-! ### spec_l1rising: function 57 -/
mutual
def spec_l1rising.l0 : Nat → List (S76) → Int → Int → Int → Option (Bool)
  | 0, _, _, _, _ => none
  | k + 1, x0, x1, x2, x7 => if x7 < (x0.length : Int) then (if 0 ≤ x7 then ((spec_l1entryOk.f k ((rd_T76 x0 x7).f0) ((rd_T76 x0 x7).f1.f0) ((rd_T76 x0 x7).f1.f1) ((rd_T76 x0 x7).f1.f2) ((rd_T76 x0 x7).f1.f3) ((rd_T76 x0 x7).f1.f4) ((rd_T76 x0 x7).f1.f5)).bind fun t145 => (if t145 = true then (spec_l1rising.j1 k x0 x1 x2 x7 (decide (((rd_T76 x0 x7).f0) > x2))) else (spec_l1rising.j1 k x0 x1 x2 x7 true))) else (none)) else (some true)
def spec_l1rising.j1 : Nat → List (S76) → Int → Int → Int → Bool → Option (Bool)
  | 0, _, _, _, _, _ => none
  | k + 1, x0, x1, x2, x7, x28 => if x28 = true then (some false) else (if x7 = 0 then (if 0 ≤ x7 then (if x7 < (x0.length : Int) then (spec_l1rising.j2 k x0 x1 x2 x7 (decide (((rd_T76 x0 x7).f0) < x1))) else (none)) else (none)) else (spec_l1rising.j2 k x0 x1 x2 x7 false))
def spec_l1rising.j2 : Nat → List (S76) → Int → Int → Int → Bool → Option (Bool)
  | 0, _, _, _, _, _ => none
  | k + 1, x0, x1, x2, x7, x39 => if x39 = true then (some false) else (if x7 > 0 then (if 0 ≤ x7 then (if x7 < (x0.length : Int) then (if 0 ≤ (wrap64 (x7 - 1)) then (if (wrap64 (x7 - 1)) < (x0.length : Int) then (if ((rd_T76 x0 x7).f0) < ((rd_T76 x0 (wrap64 (x7 - 1))).f0) then (some false) else (spec_l1rising.l0 k x0 x1 x2 (wrap64 (x7 + 1)))) else (none)) else (none)) else (none)) else (none)) else (spec_l1rising.l0 k x0 x1 x2 (wrap64 (x7 + 1))))
end
def spec_l1rising.f (k : Nat) (l0 : List (S76)) (a1 : Int) (a2 : Int) : Option (Bool) := spec_l1rising.l0 k l0 a1 a2 0
theorem spec_l1rising.mono_l : ∀ k, (∀ y0 y1 y2 y3, LeO (spec_l1rising.l0 k y0 y1 y2 y3) (spec_l1rising.l0 (k + 1) y0 y1 y2 y3)) ∧ (∀ y0 y1 y2 y3 y4, LeO (spec_l1rising.j1 k y0 y1 y2 y3 y4) (spec_l1rising.j1 (k + 1) y0 y1 y2 y3 y4)) ∧ (∀ y0 y1 y2 y3 y4, LeO (spec_l1rising.j2 k y0 y1 y2 y3 y4) (spec_l1rising.j2 (k + 1) y0 y1 y2 y3 y4))
  | 0 => ⟨fun _ _ _ _ r h => by simp [spec_l1rising.l0] at h, fun _ _ _ _ _ r h => by simp [spec_l1rising.j1] at h, fun _ _ _ _ _ r h => by simp [spec_l1rising.j2] at h⟩
  | k + 1 => by
    obtain ⟨ih0, ih1, ih2⟩ := spec_l1rising.mono_l k
    refine ⟨?_, ?_, ?_⟩
    · intro y0 y1 y2 y3
      unfold spec_l1rising.l0
      repeat' first
      | (with_reducible exact ih0 _ _ _ _)
      | (with_reducible exact ih1 _ _ _ _ _)
      | (with_reducible exact ih2 _ _ _ _ _)
      | (with_reducible exact spec_l1entryOk.mono _ _ _ _ _ _ _ _)
      | (with_reducible exact LeO.refl _)
      | (with_reducible exact LeO.none _)
      | (with_reducible refine LeO.ite ?_ ?_)
      | (with_reducible refine LeO.bind ?_ (fun _ => ?_))
      | exact ih0 _ _ _ _
      | exact ih1 _ _ _ _ _
      | exact ih2 _ _ _ _ _
      | exact spec_l1entryOk.mono _ _ _ _ _ _ _ _
      | exact LeO.none _
      | refine LeO.ite ?_ ?_
      | refine LeO.bind ?_ (fun _ => ?_)
    · intro y0 y1 y2 y3 y4
      unfold spec_l1rising.j1
      repeat' first
      | (with_reducible exact ih0 _ _ _ _)
      | (with_reducible exact ih1 _ _ _ _ _)
      | (with_reducible exact ih2 _ _ _ _ _)
      | (with_reducible exact spec_l1entryOk.mono _ _ _ _ _ _ _ _)
      | (with_reducible exact LeO.refl _)
      | (with_reducible exact LeO.none _)
      | (with_reducible refine LeO.ite ?_ ?_)
      | (with_reducible refine LeO.bind ?_ (fun _ => ?_))
      | exact ih0 _ _ _ _
      | exact ih1 _ _ _ _ _
      | exact ih2 _ _ _ _ _
      | exact spec_l1entryOk.mono _ _ _ _ _ _ _ _
      | exact LeO.none _
      | refine LeO.ite ?_ ?_
      | refine LeO.bind ?_ (fun _ => ?_)
    · intro y0 y1 y2 y3 y4
      unfold spec_l1rising.j2
      repeat' first
      | (with_reducible exact ih0 _ _ _ _)
      | (with_reducible exact ih1 _ _ _ _ _)
      | (with_reducible exact ih2 _ _ _ _ _)
      | (with_reducible exact spec_l1entryOk.mono _ _ _ _ _ _ _ _)
      | (with_reducible exact LeO.refl _)
      | (with_reducible exact LeO.none _)
      | (with_reducible refine LeO.ite ?_ ?_)
      | (with_reducible refine LeO.bind ?_ (fun _ => ?_))
      | exact ih0 _ _ _ _
      | exact ih1 _ _ _ _ _
      | exact ih2 _ _ _ _ _
      | exact spec_l1entryOk.mono _ _ _ _ _ _ _ _
      | exact LeO.none _
      | refine LeO.ite ?_ ?_
      | refine LeO.bind ?_ (fun _ => ?_)
theorem spec_l1rising.mono : ∀ a0 a1 a2 k, LeO (spec_l1rising.f k a0 a1 a2) (spec_l1rising.f (k + 1) a0 a1 a2) := by
  intro a0 a1 a2 k
  obtain ⟨ih0, ih1, ih2⟩ := spec_l1rising.mono_l k
  unfold spec_l1rising.f
  repeat' first
      | (with_reducible exact ih0 _ _ _ _)
      | (with_reducible exact ih1 _ _ _ _ _)
      | (with_reducible exact ih2 _ _ _ _ _)
      | (with_reducible exact spec_l1entryOk.mono _ _ _ _ _ _ _ _)
      | (with_reducible exact LeO.refl _)
      | (with_reducible exact LeO.none _)
      | (with_reducible refine LeO.ite ?_ ?_)
      | (with_reducible refine LeO.bind ?_ (fun _ => ?_))
      | exact ih0 _ _ _ _
      | exact ih1 _ _ _ _ _
      | exact ih2 _ _ _ _ _
      | exact spec_l1entryOk.mono _ _ _ _ _ _ _ _
      | exact LeO.none _
      | refine LeO.ite ?_ ?_
      | refine LeO.bind ?_ (fun _ => ?_)
set_option maxHeartbeats 8000000 in
set_option maxRecDepth 100000 in
theorem spec_l1rising.calls (k : Nat) (A0 : Option Addr) (c0 : Nat) (l0 : List (S76)) (a1 : Int) (a2 : Int) (r : Bool) (w : World) (hr0 : Kd.C k76 w A0 l0.length l0) (hc0 : l0.length ≤ c0) (h : spec_l1rising.f k l0 a1 a2 = some r) :
    Calls Tryd.prog 57 #[.slice A0 l0.length c0, .int .i64 a1, .int .i64 a2] w fun e w' => e = .returned (.bool r) ∧ Below w.heap.size w w' := by
  have hu76 := Tryd.underlying76
  have HR0 := Aside0.mk hr0
  have HC0 := Aside0.mk hc0
  clear hr0 hc0
  have HB := Aside0.mk (Below.refl w.heap.size w)
  have H : (spec_l1rising.l0 k l0 a1 a2 0) = some r := h
  clear h
  have H' := Aside0.mk H
  clear H
  go_enter Tryd.func57, Tryd.ntmps57
  go_wp2
  repeat (go_quiet (fail); try go_wp2)
  go_loopg [7] k (fun kq v7 w' => ∃ (x7_1 : Int), v7 = .int .i64 x7_1 ∧ Aside0 (spec_l1rising.l0 kq l0 a1 a2 x7_1 = some r) ∧ Aside0 (kq ≤ k) ∧ Aside0 (Below w.heap.size w w'))
  case atStart => exact ⟨(0), (by first | rfl | (simp; done) | (simp [*]; done)), H', ⟨Nat.le_refl _⟩, ⟨by repeat (first | (with_reducible first | exact HB.out | apply below_alloc | apply pw_below_drewN | apply below_drew1) | exact HB.out)⟩⟩
  case round =>
    clear H'
    try clear p2
    obtain ⟨x7_1, rfl, HA, HK1, HB⟩ := hrel
    cases gk with
    | zero => exact absurd HA.out (by simp [spec_l1rising.l0])
    | succ k1 =>
      have H := HA.out
      clear HA
      simp only [spec_l1rising.l0] at H
      by_cases c4 : x7_1 < (l0.length : Int)
      · rw [if_pos c4] at H
        have c4b0 : decide (x7_1 < (l0.length : Int)) = true := decide_eq_true c4
        clear c4
        have HC5 := Aside0.mk H
        clear H
        go_upto_region 4 with (fail)
        repeat (go_quiet (fail); go_upto_region 4 with (fail))
        go_cut [28] (fun v28 wc => ∃ (kq : Nat) (x28_4 : Bool), v28 = .bool x28_4 ∧ Aside0 (spec_l1rising.j1 kq l0 a1 a2 x7_1 x28_4 = some r) ∧ Aside0 (kq ≤ k1) ∧ Aside0 (Below w.heap.size w wc))
        case first =>
          have H := HC5.out
          clear HC5
          by_cases c6 : 0 ≤ x7_1
          · rw [if_pos c6] at H
            have c6b0 : decide (0 ≤ x7_1) = true := decide_eq_true c6
            clear c6
            (first | rw [c6b0] | (simp only [i64_w, i32_w]; rw [c6b0]) | skip)
            replace H := Option.bind_eq_some_iff.mp H
            obtain ⟨t145, A70, H⟩ := H
            replace H : (if t145 = true then (spec_l1rising.j1 k1 l0 a1 a2 x7_1 (decide (((rd_T76 l0 x7_1).f0) > a2))) else (spec_l1rising.j1 k1 l0 a1 a2 x7_1 true)) = some r := H
            have A7 := Aside0.mk A70
            clear A70
            by_cases c8 : t145 = true
            · subst c8
              have H1 : (spec_l1rising.j1 k1 l0 a1 a2 x7_1 (decide (((rd_T76 l0 x7_1).f0) > a2))) = some r := by rw [if_pos rfl] at H; exact H
              clear H
              have H := H1
              clear H1
              have H' := Aside0.mk H
              clear H
              have p144 : 0 ≤ (x7_1 : Int) := of_decide_eq_true (by first | (with_reducible assumption) | assumption)
              have q144 : x7_1 < (l0.length : Int) := of_decide_eq_true (by first | (with_reducible assumption) | assumption)
              obtain ⟨ad144, e144, hx144_0, hx144_1, hx144_2, hx144_3, hx144_4, hx144_5, hx144_6⟩ := at_T76 HR0.out x7_1 p144 q144
              cases e144
              replace hx144_0 := (HB.out.cell (World.block_lt_of_cell? w _ hx144_0)).trans hx144_0
              replace hx144_1 := (HB.out.cell (World.block_lt_of_cell? w _ hx144_1)).trans hx144_1
              replace hx144_2 := (HB.out.cell (World.block_lt_of_cell? w _ hx144_2)).trans hx144_2
              replace hx144_3 := (HB.out.cell (World.block_lt_of_cell? w _ hx144_3)).trans hx144_3
              replace hx144_4 := (HB.out.cell (World.block_lt_of_cell? w _ hx144_4)).trans hx144_4
              replace hx144_5 := (HB.out.cell (World.block_lt_of_cell? w _ hx144_5)).trans hx144_5
              replace hx144_6 := (HB.out.cell (World.block_lt_of_cell? w _ hx144_6)).trans hx144_6
              replace p144 := eq_true p144
              replace q144 := eq_true q144
              go_wp2_with (first | (go_at_call 62; (with_reducible refine (spec_l1entryOk.calls k1 ((rd_T76 l0 x7_1).f0) ((rd_T76 l0 x7_1).f1.f0) ((rd_T76 l0 x7_1).f1.f1) ((rd_T76 l0 x7_1).f1.f2) ((rd_T76 l0 x7_1).f1.f3) ((rd_T76 l0 x7_1).f1.f4) ((rd_T76 l0 x7_1).f1.f5) true _ A7.out).mono ?_); rintro e w9 ⟨rfl, hb⟩; have n0_ := Aside0.mk (below_step (by repeat (first | (with_reducible first | exact HB.out | apply below_alloc | apply pw_below_drewN | apply below_drew1) | exact HB.out)) hb); clear HB; have HB := n0_; clear n0_; (try clear hb); (try clear hb2); (try clear hk); (try clear hi); have p146 : 0 ≤ (x7_1 : Int) := of_decide_eq_true (by first | (with_reducible assumption) | assumption); have q146 : x7_1 < (l0.length : Int) := of_decide_eq_true (by first | (with_reducible assumption) | assumption); obtain ⟨ad146, e146, hx146_0, hx146_1, hx146_2, hx146_3, hx146_4, hx146_5, hx146_6⟩ := at_T76 HR0.out x7_1 p146 q146; obtain rfl : ad144 = ad146 := (by injection e146); replace hx146_0 := (HB.out.cell (World.block_lt_of_cell? w _ hx146_0)).trans hx146_0; replace hx146_1 := (HB.out.cell (World.block_lt_of_cell? w _ hx146_1)).trans hx146_1; replace hx146_2 := (HB.out.cell (World.block_lt_of_cell? w _ hx146_2)).trans hx146_2; replace hx146_3 := (HB.out.cell (World.block_lt_of_cell? w _ hx146_3)).trans hx146_3; replace hx146_4 := (HB.out.cell (World.block_lt_of_cell? w _ hx146_4)).trans hx146_4; replace hx146_5 := (HB.out.cell (World.block_lt_of_cell? w _ hx146_5)).trans hx146_5; replace hx146_6 := (HB.out.cell (World.block_lt_of_cell? w _ hx146_6)).trans hx146_6; replace p146 := eq_true p146; replace q146 := eq_true q146))
              repeat (go_quiet (first | (go_at_call 62; (with_reducible refine (spec_l1entryOk.calls k1 ((rd_T76 l0 x7_1).f0) ((rd_T76 l0 x7_1).f1.f0) ((rd_T76 l0 x7_1).f1.f1) ((rd_T76 l0 x7_1).f1.f2) ((rd_T76 l0 x7_1).f1.f3) ((rd_T76 l0 x7_1).f1.f4) ((rd_T76 l0 x7_1).f1.f5) true _ A7.out).mono ?_); rintro e w9 ⟨rfl, hb⟩; have n0_ := Aside0.mk (below_step (by repeat (first | (with_reducible first | exact HB.out | apply below_alloc | apply pw_below_drewN | apply below_drew1) | exact HB.out)) hb); clear HB; have HB := n0_; clear n0_; (try clear hb); (try clear hb2); (try clear hk); (try clear hi); have p146 : 0 ≤ (x7_1 : Int) := of_decide_eq_true (by first | (with_reducible assumption) | assumption); have q146 : x7_1 < (l0.length : Int) := of_decide_eq_true (by first | (with_reducible assumption) | assumption); obtain ⟨ad146, e146, hx146_0, hx146_1, hx146_2, hx146_3, hx146_4, hx146_5, hx146_6⟩ := at_T76 HR0.out x7_1 p146 q146; obtain rfl : ad144 = ad146 := (by injection e146); replace hx146_0 := (HB.out.cell (World.block_lt_of_cell? w _ hx146_0)).trans hx146_0; replace hx146_1 := (HB.out.cell (World.block_lt_of_cell? w _ hx146_1)).trans hx146_1; replace hx146_2 := (HB.out.cell (World.block_lt_of_cell? w _ hx146_2)).trans hx146_2; replace hx146_3 := (HB.out.cell (World.block_lt_of_cell? w _ hx146_3)).trans hx146_3; replace hx146_4 := (HB.out.cell (World.block_lt_of_cell? w _ hx146_4)).trans hx146_4; replace hx146_5 := (HB.out.cell (World.block_lt_of_cell? w _ hx146_5)).trans hx146_5; replace hx146_6 := (HB.out.cell (World.block_lt_of_cell? w _ hx146_6)).trans hx146_6; replace p146 := eq_true p146; replace q146 := eq_true q146)); try go_wp2_with (first | (go_at_call 62; (with_reducible refine (spec_l1entryOk.calls k1 ((rd_T76 l0 x7_1).f0) ((rd_T76 l0 x7_1).f1.f0) ((rd_T76 l0 x7_1).f1.f1) ((rd_T76 l0 x7_1).f1.f2) ((rd_T76 l0 x7_1).f1.f3) ((rd_T76 l0 x7_1).f1.f4) ((rd_T76 l0 x7_1).f1.f5) true _ A7.out).mono ?_); rintro e w9 ⟨rfl, hb⟩; have n0_ := Aside0.mk (below_step (by repeat (first | (with_reducible first | exact HB.out | apply below_alloc | apply pw_below_drewN | apply below_drew1) | exact HB.out)) hb); clear HB; have HB := n0_; clear n0_; (try clear hb); (try clear hb2); (try clear hk); (try clear hi); have p146 : 0 ≤ (x7_1 : Int) := of_decide_eq_true (by first | (with_reducible assumption) | assumption); have q146 : x7_1 < (l0.length : Int) := of_decide_eq_true (by first | (with_reducible assumption) | assumption); obtain ⟨ad146, e146, hx146_0, hx146_1, hx146_2, hx146_3, hx146_4, hx146_5, hx146_6⟩ := at_T76 HR0.out x7_1 p146 q146; obtain rfl : ad144 = ad146 := (by injection e146); replace hx146_0 := (HB.out.cell (World.block_lt_of_cell? w _ hx146_0)).trans hx146_0; replace hx146_1 := (HB.out.cell (World.block_lt_of_cell? w _ hx146_1)).trans hx146_1; replace hx146_2 := (HB.out.cell (World.block_lt_of_cell? w _ hx146_2)).trans hx146_2; replace hx146_3 := (HB.out.cell (World.block_lt_of_cell? w _ hx146_3)).trans hx146_3; replace hx146_4 := (HB.out.cell (World.block_lt_of_cell? w _ hx146_4)).trans hx146_4; replace hx146_5 := (HB.out.cell (World.block_lt_of_cell? w _ hx146_5)).trans hx146_5; replace hx146_6 := (HB.out.cell (World.block_lt_of_cell? w _ hx146_6)).trans hx146_6; replace p146 := eq_true p146; replace q146 := eq_true q146)))
              go_meet
              case rel => exact ⟨_, (decide (((rd_T76 l0 x7_1).f0) > a2)), (by first | rfl | (simp; done) | (simp [*]; done)), H', ⟨by have := HK1.out; first | omega | exact Nat.le_refl _⟩, ⟨by repeat (first | (with_reducible first | exact HB.out | apply below_alloc | apply pw_below_drewN | apply below_drew1) | exact HB.out)⟩⟩
            · replace c8 := Bool.eq_false_iff.mpr c8
              subst c8
              have H1 : (spec_l1rising.j1 k1 l0 a1 a2 x7_1 true) = some r := by rw [if_neg (show ¬ (false = true) by decide)] at H; exact H
              clear H
              have H := H1
              clear H1
              have H' := Aside0.mk H
              clear H
              have p144 : 0 ≤ (x7_1 : Int) := of_decide_eq_true (by first | (with_reducible assumption) | assumption)
              have q144 : x7_1 < (l0.length : Int) := of_decide_eq_true (by first | (with_reducible assumption) | assumption)
              obtain ⟨ad144, e144, hx144_0, hx144_1, hx144_2, hx144_3, hx144_4, hx144_5, hx144_6⟩ := at_T76 HR0.out x7_1 p144 q144
              cases e144
              replace hx144_0 := (HB.out.cell (World.block_lt_of_cell? w _ hx144_0)).trans hx144_0
              replace hx144_1 := (HB.out.cell (World.block_lt_of_cell? w _ hx144_1)).trans hx144_1
              replace hx144_2 := (HB.out.cell (World.block_lt_of_cell? w _ hx144_2)).trans hx144_2
              replace hx144_3 := (HB.out.cell (World.block_lt_of_cell? w _ hx144_3)).trans hx144_3
              replace hx144_4 := (HB.out.cell (World.block_lt_of_cell? w _ hx144_4)).trans hx144_4
              replace hx144_5 := (HB.out.cell (World.block_lt_of_cell? w _ hx144_5)).trans hx144_5
              replace hx144_6 := (HB.out.cell (World.block_lt_of_cell? w _ hx144_6)).trans hx144_6
              replace p144 := eq_true p144
              replace q144 := eq_true q144
              go_wp2_with (first | (go_at_call 62; (with_reducible refine (spec_l1entryOk.calls k1 ((rd_T76 l0 x7_1).f0) ((rd_T76 l0 x7_1).f1.f0) ((rd_T76 l0 x7_1).f1.f1) ((rd_T76 l0 x7_1).f1.f2) ((rd_T76 l0 x7_1).f1.f3) ((rd_T76 l0 x7_1).f1.f4) ((rd_T76 l0 x7_1).f1.f5) false _ A7.out).mono ?_); rintro e w10 ⟨rfl, hb⟩; have n0_ := Aside0.mk (below_step (by repeat (first | (with_reducible first | exact HB.out | apply below_alloc | apply pw_below_drewN | apply below_drew1) | exact HB.out)) hb); clear HB; have HB := n0_; clear n0_; (try clear hb); (try clear hb2); (try clear hk); (try clear hi)))
              repeat (go_quiet (first | (go_at_call 62; (with_reducible refine (spec_l1entryOk.calls k1 ((rd_T76 l0 x7_1).f0) ((rd_T76 l0 x7_1).f1.f0) ((rd_T76 l0 x7_1).f1.f1) ((rd_T76 l0 x7_1).f1.f2) ((rd_T76 l0 x7_1).f1.f3) ((rd_T76 l0 x7_1).f1.f4) ((rd_T76 l0 x7_1).f1.f5) false _ A7.out).mono ?_); rintro e w10 ⟨rfl, hb⟩; have n0_ := Aside0.mk (below_step (by repeat (first | (with_reducible first | exact HB.out | apply below_alloc | apply pw_below_drewN | apply below_drew1) | exact HB.out)) hb); clear HB; have HB := n0_; clear n0_; (try clear hb); (try clear hb2); (try clear hk); (try clear hi))); try go_wp2_with (first | (go_at_call 62; (with_reducible refine (spec_l1entryOk.calls k1 ((rd_T76 l0 x7_1).f0) ((rd_T76 l0 x7_1).f1.f0) ((rd_T76 l0 x7_1).f1.f1) ((rd_T76 l0 x7_1).f1.f2) ((rd_T76 l0 x7_1).f1.f3) ((rd_T76 l0 x7_1).f1.f4) ((rd_T76 l0 x7_1).f1.f5) false _ A7.out).mono ?_); rintro e w10 ⟨rfl, hb⟩; have n0_ := Aside0.mk (below_step (by repeat (first | (with_reducible first | exact HB.out | apply below_alloc | apply pw_below_drewN | apply below_drew1) | exact HB.out)) hb); clear HB; have HB := n0_; clear n0_; (try clear hb); (try clear hb2); (try clear hk); (try clear hi))))
              go_meet
              case rel => exact ⟨_, (true), (by first | rfl | (simp; done) | (simp [*]; done)), H', ⟨by have := HK1.out; first | omega | exact Nat.le_refl _⟩, ⟨by repeat (first | (with_reducible first | exact HB.out | apply below_alloc | apply pw_below_drewN | apply below_drew1) | exact HB.out)⟩⟩
          · rw [if_neg c6] at H
            exact absurd H (by simp)
        case rest =>
          clear HC5
          try clear p1
          try clear q1
          try clear hx1
          try clear p2
          try clear c4
          try clear c4b0
          try clear c5
          try clear c6
          try clear c6b0
          try clear c8
          try clear hx144_0
          try clear hx144_1
          try clear hx144_2
          try clear hx144_3
          try clear hx144_4
          try clear hx144_5
          try clear hx144_6
          try clear hx146_0
          try clear hx146_1
          try clear hx146_2
          try clear hx146_3
          try clear hx146_4
          try clear hx146_5
          try clear hx146_6
          try clear p144
          try clear p146
          try clear p2
          try clear q144
          try clear q146
          obtain ⟨kq, x28_4, rfl, HA, HJ4, HB⟩ := hcut
          cases kq with
          | zero => exact absurd HA.out (by simp [spec_l1rising.j1])
          | succ kj4 =>
            have H := HA.out
            clear HA
            simp only [spec_l1rising.j1] at H
            by_cases c11 : x28_4 = true
            · subst c11
              have H1 : (some false) = some r := by rw [if_pos rfl] at H; exact H
              clear H
              have H := H1
              clear H1
              obtain rfl := Option.some.inj H
              go_wp2
              repeat (go_quiet (fail); try go_wp2)
              go_ret
              exact ⟨by first | rfl | (simp [errW_none, errW_some] <;> rfl) | (simp [*, errW_none, errW_some] <;> rfl), by repeat (first | (with_reducible first | exact HB.out | apply below_alloc | apply pw_below_drewN | apply below_drew1) | exact HB.out)⟩
            · replace c11 := Bool.eq_false_iff.mpr c11
              subst c11
              have H1 : (if x7_1 = 0 then (if 0 ≤ x7_1 then (if x7_1 < (l0.length : Int) then (spec_l1rising.j2 kj4 l0 a1 a2 x7_1 (decide (((rd_T76 l0 x7_1).f0) < a1))) else (none)) else (none)) else (spec_l1rising.j2 kj4 l0 a1 a2 x7_1 false)) = some r := by rw [if_neg (show ¬ (false = true) by decide)] at H; exact H
              clear H
              have H := H1
              clear H1
              have HC12 := Aside0.mk H
              clear H
              go_upto_region 6 with (fail)
              repeat (go_quiet (fail); go_upto_region 6 with (fail))
              go_cut [39] (fun v39 wc => ∃ (kq : Nat) (x39_11 : Bool), v39 = .bool x39_11 ∧ Aside0 (spec_l1rising.j2 kq l0 a1 a2 x7_1 x39_11 = some r) ∧ Aside0 (kq ≤ kj4) ∧ Aside0 (Below w.heap.size w wc))
              case first =>
                have H := HC12.out
                clear HC12
                by_cases c13 : x7_1 = 0
                · rw [if_pos c13] at H
                  have c13b0 : (x7_1 == 0) = true := beq_iff_eq.mpr c13
                  have c13b1 : (x7_1 != 0) = false := bne_eq_false_iff_eq.mpr c13
                  clear c13
                  (first | rw [c13b0] | (simp only [i64_w, i32_w]; rw [c13b0]) | skip)
                  by_cases c14 : 0 ≤ x7_1
                  · rw [if_pos c14] at H
                    have c14b0 : decide (0 ≤ x7_1) = true := decide_eq_true c14
                    clear c14
                    by_cases c15 : x7_1 < (l0.length : Int)
                    · rw [if_pos c15] at H
                      have c15b0 : decide (x7_1 < (l0.length : Int)) = true := decide_eq_true c15
                      clear c15
                      have H' := Aside0.mk H
                      clear H
                      have p147 : 0 ≤ (x7_1 : Int) := of_decide_eq_true (by first | (with_reducible assumption) | assumption)
                      have q147 : x7_1 < (l0.length : Int) := of_decide_eq_true (by first | (with_reducible assumption) | assumption)
                      obtain ⟨ad147, e147, hx147_0, hx147_1, hx147_2, hx147_3, hx147_4, hx147_5, hx147_6⟩ := at_T76 HR0.out x7_1 p147 q147
                      cases e147
                      replace hx147_0 := (HB.out.cell (World.block_lt_of_cell? w _ hx147_0)).trans hx147_0
                      replace hx147_1 := (HB.out.cell (World.block_lt_of_cell? w _ hx147_1)).trans hx147_1
                      replace hx147_2 := (HB.out.cell (World.block_lt_of_cell? w _ hx147_2)).trans hx147_2
                      replace hx147_3 := (HB.out.cell (World.block_lt_of_cell? w _ hx147_3)).trans hx147_3
                      replace hx147_4 := (HB.out.cell (World.block_lt_of_cell? w _ hx147_4)).trans hx147_4
                      replace hx147_5 := (HB.out.cell (World.block_lt_of_cell? w _ hx147_5)).trans hx147_5
                      replace hx147_6 := (HB.out.cell (World.block_lt_of_cell? w _ hx147_6)).trans hx147_6
                      replace p147 := eq_true p147
                      replace q147 := eq_true q147
                      go_wp2
                      repeat (go_quiet (fail); try go_wp2)
                      go_meet
                      case rel => exact ⟨_, (decide (((rd_T76 l0 x7_1).f0) < a1)), (by first | rfl | (simp; done) | (simp [*]; done)), H', ⟨by have := HK1.out; have := HJ4.out; first | omega | exact Nat.le_refl _⟩, ⟨by repeat (first | (with_reducible first | exact HB.out | apply below_alloc | apply pw_below_drewN | apply below_drew1) | exact HB.out)⟩⟩
                    · rw [if_neg c15] at H
                      exact absurd H (by simp)
                  · rw [if_neg c14] at H
                    exact absurd H (by simp)
                · rw [if_neg c13] at H
                  have c13b0 : (x7_1 == 0) = false := beq_eq_false_iff_ne.mpr c13
                  have c13b1 : (x7_1 != 0) = true := bne_iff_ne.mpr c13
                  (first | rw [c13b0] | (simp only [i64_w, i32_w]; rw [c13b0]) | skip)
                  have H' := Aside0.mk H
                  clear H
                  go_wp2
                  repeat (go_quiet (fail); try go_wp2)
                  go_meet
                  case rel => exact ⟨_, (false), (by first | rfl | (simp; done) | (simp [*]; done)), H', ⟨by have := HK1.out; have := HJ4.out; first | omega | exact Nat.le_refl _⟩, ⟨by repeat (first | (with_reducible first | exact HB.out | apply below_alloc | apply pw_below_drewN | apply below_drew1) | exact HB.out)⟩⟩
              case rest =>
                clear HC12
                try clear c1
                try clear p1
                try clear q1
                try clear hx1
                try clear p2
                try clear c4
                try clear c4b0
                try clear c5
                try clear c6
                try clear c6b0
                try clear c8
                try clear c11
                try clear c13
                try clear c13b0
                try clear c13b1
                try clear c14
                try clear c14b0
                try clear p14
                try clear q14
                try clear hx14
                try clear c15
                try clear c15b0
                try clear hx144_0
                try clear hx144_1
                try clear hx144_2
                try clear hx144_3
                try clear hx144_4
                try clear hx144_5
                try clear hx144_6
                try clear hx146_0
                try clear hx146_1
                try clear hx146_2
                try clear hx146_3
                try clear hx146_4
                try clear hx146_5
                try clear hx146_6
                try clear hx147_0
                try clear hx147_1
                try clear hx147_2
                try clear hx147_3
                try clear hx147_4
                try clear hx147_5
                try clear hx147_6
                try clear p1
                try clear p144
                try clear p146
                try clear p147
                try clear p2
                try clear q1
                try clear q144
                try clear q146
                try clear q147
                obtain ⟨kq, x39_11, rfl, HA, HJ11, HB⟩ := hcut
                cases kq with
                | zero => exact absurd HA.out (by simp [spec_l1rising.j2])
                | succ kj11 =>
                  have H := HA.out
                  clear HA
                  simp only [spec_l1rising.j2] at H
                  by_cases c16 : x39_11 = true
                  · subst c16
                    have H1 : (some false) = some r := by rw [if_pos rfl] at H; exact H
                    clear H
                    have H := H1
                    clear H1
                    obtain rfl := Option.some.inj H
                    go_wp2
                    repeat (go_quiet (fail); try go_wp2)
                    go_ret
                    exact ⟨by first | rfl | (simp [errW_none, errW_some] <;> rfl) | (simp [*, errW_none, errW_some] <;> rfl), by repeat (first | (with_reducible first | exact HB.out | apply below_alloc | apply pw_below_drewN | apply below_drew1) | exact HB.out)⟩
                  · replace c16 := Bool.eq_false_iff.mpr c16
                    subst c16
                    have H1 : (if x7_1 > 0 then (if 0 ≤ x7_1 then (if x7_1 < (l0.length : Int) then (if 0 ≤ (wrap64 (x7_1 - 1)) then (if (wrap64 (x7_1 - 1)) < (l0.length : Int) then (if ((rd_T76 l0 x7_1).f0) < ((rd_T76 l0 (wrap64 (x7_1 - 1))).f0) then (some false) else (spec_l1rising.l0 kj11 l0 a1 a2 (wrap64 (x7_1 + 1)))) else (none)) else (none)) else (none)) else (none)) else (spec_l1rising.l0 kj11 l0 a1 a2 (wrap64 (x7_1 + 1)))) = some r := by rw [if_neg (show ¬ (false = true) by decide)] at H; exact H
                    clear H
                    have H := H1
                    clear H1
                    by_cases c17 : x7_1 > 0
                    · rw [if_pos c17] at H
                      have c17b0 : decide (0 < x7_1) = true := decide_eq_true c17
                      clear c17
                      by_cases c18 : 0 ≤ x7_1
                      · rw [if_pos c18] at H
                        have c18b0 : decide (0 ≤ x7_1) = true := decide_eq_true c18
                        clear c18
                        by_cases c19 : x7_1 < (l0.length : Int)
                        · rw [if_pos c19] at H
                          have c19b0 : decide (x7_1 < (l0.length : Int)) = true := decide_eq_true c19
                          clear c19
                          obtain ⟨ji20, hji20⟩ : ∃ j_ : Int, (wrap64 (x7_1 - 1)) = j_ := ⟨_, rfl⟩
                          replace H : (if 0 ≤ (ji20) then (if (ji20) < (l0.length : Int) then (if ((rd_T76 l0 x7_1).f0) < ((rd_T76 l0 (ji20)).f0) then (some false) else (spec_l1rising.l0 kj11 l0 a1 a2 (wrap64 (x7_1 + 1)))) else (none)) else (none)) = some r := by first | (rw [hji20] at H; exact H) | (simp only [hji20] at H ⊢; exact H)
                          have hji20w : (IntKind.i64.wrap (x7_1 - 1)) = ji20 := (i64_w _).trans hji20
                          by_cases c21 : 0 ≤ (ji20)
                          · rw [if_pos c21] at H
                            have c21b0 : decide (0 ≤ (ji20)) = true := decide_eq_true c21
                            clear c21
                            by_cases c22 : (ji20) < (l0.length : Int)
                            · rw [if_pos c22] at H
                              have c22b0 : decide ((ji20) < (l0.length : Int)) = true := decide_eq_true c22
                              clear c22
                              by_cases c23 : ((rd_T76 l0 x7_1).f0) < ((rd_T76 l0 (ji20)).f0)
                              · rw [if_pos c23] at H
                                have c23b0 : decide (((rd_T76 l0 x7_1).f0) < ((rd_T76 l0 (ji20)).f0)) = true := decide_eq_true c23
                                clear c23
                                obtain rfl := Option.some.inj H
                                have p148 : 0 ≤ (x7_1 : Int) := of_decide_eq_true (by first | (with_reducible assumption) | assumption)
                                have q148 : x7_1 < (l0.length : Int) := of_decide_eq_true (by first | (with_reducible assumption) | assumption)
                                obtain ⟨ad148, e148, hx148_0, hx148_1, hx148_2, hx148_3, hx148_4, hx148_5, hx148_6⟩ := at_T76 HR0.out x7_1 p148 q148
                                cases e148
                                replace hx148_0 := (HB.out.cell (World.block_lt_of_cell? w _ hx148_0)).trans hx148_0
                                replace hx148_1 := (HB.out.cell (World.block_lt_of_cell? w _ hx148_1)).trans hx148_1
                                replace hx148_2 := (HB.out.cell (World.block_lt_of_cell? w _ hx148_2)).trans hx148_2
                                replace hx148_3 := (HB.out.cell (World.block_lt_of_cell? w _ hx148_3)).trans hx148_3
                                replace hx148_4 := (HB.out.cell (World.block_lt_of_cell? w _ hx148_4)).trans hx148_4
                                replace hx148_5 := (HB.out.cell (World.block_lt_of_cell? w _ hx148_5)).trans hx148_5
                                replace hx148_6 := (HB.out.cell (World.block_lt_of_cell? w _ hx148_6)).trans hx148_6
                                replace p148 := eq_true p148
                                replace q148 := eq_true q148
                                have p149 : 0 ≤ ((ji20) : Int) := of_decide_eq_true (by first | (with_reducible assumption) | assumption)
                                have q149 : (ji20) < (l0.length : Int) := of_decide_eq_true (by first | (with_reducible assumption) | assumption)
                                obtain ⟨ad149, e149, hx149_0, hx149_1, hx149_2, hx149_3, hx149_4, hx149_5, hx149_6⟩ := at_T76 HR0.out (ji20) p149 q149
                                obtain rfl : ad148 = ad149 := (by injection e149)
                                replace hx149_0 := (HB.out.cell (World.block_lt_of_cell? w _ hx149_0)).trans hx149_0
                                replace hx149_1 := (HB.out.cell (World.block_lt_of_cell? w _ hx149_1)).trans hx149_1
                                replace hx149_2 := (HB.out.cell (World.block_lt_of_cell? w _ hx149_2)).trans hx149_2
                                replace hx149_3 := (HB.out.cell (World.block_lt_of_cell? w _ hx149_3)).trans hx149_3
                                replace hx149_4 := (HB.out.cell (World.block_lt_of_cell? w _ hx149_4)).trans hx149_4
                                replace hx149_5 := (HB.out.cell (World.block_lt_of_cell? w _ hx149_5)).trans hx149_5
                                replace hx149_6 := (HB.out.cell (World.block_lt_of_cell? w _ hx149_6)).trans hx149_6
                                replace p149 := eq_true p149
                                replace q149 := eq_true q149
                                go_wp2
                                repeat (go_quiet (fail); try go_wp2)
                                go_ret
                                exact ⟨by first | rfl | (simp [errW_none, errW_some] <;> rfl) | (simp only [← hji20]; first | rfl | (simp [errW_none, errW_some] <;> rfl)) | (simp [*, errW_none, errW_some] <;> rfl), by repeat (first | (with_reducible first | exact HB.out | apply below_alloc | apply pw_below_drewN | apply below_drew1) | exact HB.out)⟩
                              · rw [if_neg c23] at H
                                have c23b0 : decide (((rd_T76 l0 x7_1).f0) < ((rd_T76 l0 (ji20)).f0)) = false := decide_eq_false c23
                                clear c23
                                have H' := Aside0.mk H
                                clear H
                                have p148 : 0 ≤ (x7_1 : Int) := of_decide_eq_true (by first | (with_reducible assumption) | assumption)
                                have q148 : x7_1 < (l0.length : Int) := of_decide_eq_true (by first | (with_reducible assumption) | assumption)
                                obtain ⟨ad148, e148, hx148_0, hx148_1, hx148_2, hx148_3, hx148_4, hx148_5, hx148_6⟩ := at_T76 HR0.out x7_1 p148 q148
                                cases e148
                                replace hx148_0 := (HB.out.cell (World.block_lt_of_cell? w _ hx148_0)).trans hx148_0
                                replace hx148_1 := (HB.out.cell (World.block_lt_of_cell? w _ hx148_1)).trans hx148_1
                                replace hx148_2 := (HB.out.cell (World.block_lt_of_cell? w _ hx148_2)).trans hx148_2
                                replace hx148_3 := (HB.out.cell (World.block_lt_of_cell? w _ hx148_3)).trans hx148_3
                                replace hx148_4 := (HB.out.cell (World.block_lt_of_cell? w _ hx148_4)).trans hx148_4
                                replace hx148_5 := (HB.out.cell (World.block_lt_of_cell? w _ hx148_5)).trans hx148_5
                                replace hx148_6 := (HB.out.cell (World.block_lt_of_cell? w _ hx148_6)).trans hx148_6
                                replace p148 := eq_true p148
                                replace q148 := eq_true q148
                                have p149 : 0 ≤ ((ji20) : Int) := of_decide_eq_true (by first | (with_reducible assumption) | assumption)
                                have q149 : (ji20) < (l0.length : Int) := of_decide_eq_true (by first | (with_reducible assumption) | assumption)
                                obtain ⟨ad149, e149, hx149_0, hx149_1, hx149_2, hx149_3, hx149_4, hx149_5, hx149_6⟩ := at_T76 HR0.out (ji20) p149 q149
                                obtain rfl : ad148 = ad149 := (by injection e149)
                                replace hx149_0 := (HB.out.cell (World.block_lt_of_cell? w _ hx149_0)).trans hx149_0
                                replace hx149_1 := (HB.out.cell (World.block_lt_of_cell? w _ hx149_1)).trans hx149_1
                                replace hx149_2 := (HB.out.cell (World.block_lt_of_cell? w _ hx149_2)).trans hx149_2
                                replace hx149_3 := (HB.out.cell (World.block_lt_of_cell? w _ hx149_3)).trans hx149_3
                                replace hx149_4 := (HB.out.cell (World.block_lt_of_cell? w _ hx149_4)).trans hx149_4
                                replace hx149_5 := (HB.out.cell (World.block_lt_of_cell? w _ hx149_5)).trans hx149_5
                                replace hx149_6 := (HB.out.cell (World.block_lt_of_cell? w _ hx149_6)).trans hx149_6
                                replace p149 := eq_true p149
                                replace q149 := eq_true q149
                                go_wp2
                                repeat (go_quiet (fail); try go_wp2)
                                go_roundg kj11
                                case measure => have := HK1.out; have := HJ4.out; have := HJ11.out; omega
                                case rel => exact ⟨(wrap64 (x7_1 + 1)), (by first | rfl | (simp; done) | (simp [*]; done)), H', ⟨by have := HK1.out; have := HJ4.out; have := HJ11.out; omega⟩, ⟨by repeat (first | (with_reducible first | exact HB.out | apply below_alloc | apply pw_below_drewN | apply below_drew1) | exact HB.out)⟩⟩
                            · rw [if_neg c22] at H
                              exact absurd H (by simp)
                          · rw [if_neg c21] at H
                            exact absurd H (by simp)
                        · rw [if_neg c19] at H
                          exact absurd H (by simp)
                      · rw [if_neg c18] at H
                        exact absurd H (by simp)
                    · rw [if_neg c17] at H
                      have c17b0 : decide (0 < x7_1) = false := decide_eq_false c17
                      clear c17
                      have H' := Aside0.mk H
                      clear H
                      go_wp2
                      repeat (go_quiet (fail); try go_wp2)
                      go_roundg kj11
                      case measure => have := HK1.out; have := HJ4.out; have := HJ11.out; omega
                      case rel => exact ⟨(wrap64 (x7_1 + 1)), (by first | rfl | (simp; done) | (simp [*]; done)), H', ⟨by have := HK1.out; have := HJ4.out; have := HJ11.out; omega⟩, ⟨by repeat (first | (with_reducible first | exact HB.out | apply below_alloc | apply pw_below_drewN | apply below_drew1) | exact HB.out)⟩⟩
      · rw [if_neg c4] at H
        have c4b0 : decide (x7_1 < (l0.length : Int)) = false := decide_eq_false c4
        clear c4
        obtain rfl := Option.some.inj H
        go_wp2
        repeat (go_quiet (fail); try go_wp2)
        go_ret
        exact ⟨by first | rfl | (simp [errW_none, errW_some] <;> rfl) | (simp [*, errW_none, errW_some] <;> rfl), by repeat (first | (with_reducible first | exact HB.out | apply below_alloc | apply pw_below_drewN | apply below_drew1) | exact HB.out)⟩

-- BY HAND: function 38 (spec_MsgFault)

end Go.Proofs.YthiebcecflpbnaaDoor.PFnExactEncodeMsg
