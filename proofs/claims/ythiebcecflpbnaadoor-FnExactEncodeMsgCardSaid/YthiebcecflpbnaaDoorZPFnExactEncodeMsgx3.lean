-- a print of the walks of FnExactEncodeMsg by a program
import Derived.Test.YthiebcecflpbnaaDoorZPFnExactEncodeMsgx0
import Derived.Test.YthiebcecflpbnaaDoorZPFnExactEncodeMsgx1
import Derived.Test.YthiebcecflpbnaaDoorZH31
namespace Go.Proofs.YthiebcecflpbnaaDoor.PFnExactEncodeMsg
open Go.RowKit Go.Proofs.YthiebcecflpbnaaDoorW.PrintWords Go.Proofs.YthiebcecflpbnaaDoorW.PrintLast Go.Proofs.YthiebcecflpbnaaDoorW.PrintMore
attribute [local go_sem] max2_int min2_int max_two min_two max_three min_three max_four min_four   -- for this text's walks alone
set_option linter.unusedVariables false
set_option linter.unusedSimpArgs false

/-! ### spec_l1text: function 32 -/
def spec_l1text.l0 : Nat → ByteArray → List Int → Int → Option (List Int)
  | 0, _, _, _ => none
  | k + 1, x0, x3, x4 => if x4 < (x0.size : Int) then (if 0 ≤ x4 then (if x3.length < 140737488355328 then (spec_l1text.l0 k x0 (x3 ++ [bt x0 x4]) (wrap64 (x4 + 1))) else (none)) else (none)) else (some x3)
def spec_l1text.f (k : Nat) (a0 : ByteArray) : Option (List Int) := (spec_l1num.f k (a0.size : Int)).bind fun t162 => (spec_l1text.l0 k a0 t162 0)
theorem spec_l1text.mono_l : ∀ k, (∀ y0 y1 y2, LeO (spec_l1text.l0 k y0 y1 y2) (spec_l1text.l0 (k + 1) y0 y1 y2))
  | 0 => fun _ _ _ r h => by simp [spec_l1text.l0] at h
  | k + 1 => by
    have ih0 := spec_l1text.mono_l k
    · intro y0 y1 y2
      unfold spec_l1text.l0
      repeat' first
      | (with_reducible exact ih0 _ _ _)
      | (with_reducible exact spec_l1num.mono _ _)
      | (with_reducible exact LeO.refl _)
      | (with_reducible exact LeO.none _)
      | (with_reducible refine LeO.ite ?_ ?_)
      | (with_reducible refine LeO.bind ?_ (fun _ => ?_))
      | exact ih0 _ _ _
      | exact spec_l1num.mono _ _
      | exact LeO.none _
      | refine LeO.ite ?_ ?_
      | refine LeO.bind ?_ (fun _ => ?_)
theorem spec_l1text.mono : ∀ a0 k, LeO (spec_l1text.f k a0) (spec_l1text.f (k + 1) a0) := by
  intro a0 k
  have ih0 := spec_l1text.mono_l k
  unfold spec_l1text.f
  repeat' first
      | (with_reducible exact ih0 _ _ _)
      | (with_reducible exact spec_l1num.mono _ _)
      | (with_reducible exact LeO.refl _)
      | (with_reducible exact LeO.none _)
      | (with_reducible refine LeO.ite ?_ ?_)
      | (with_reducible refine LeO.bind ?_ (fun _ => ?_))
      | exact ih0 _ _ _
      | exact spec_l1num.mono _ _
      | exact LeO.none _
      | refine LeO.ite ?_ ?_
      | refine LeO.bind ?_ (fun _ => ?_)
set_option maxHeartbeats 8000000 in
set_option maxRecDepth 100000 in
theorem spec_l1text.calls (k : Nat) (a0 : ByteArray) (r : List Int) (w : World) (h : spec_l1text.f k a0 = some r) :
    Calls Tryd.prog 32 #[.string a0] w fun e w' => ∃ v0_ : Value, e = .returned (v0_) ∧ Kd.R (Kd.int .u8) 5 w' w.heap.size (fun _ => True) v0_ r ∧ Below w.heap.size w w' := by
  have HB := Aside0.mk (Below.refl w.heap.size w)
  have H : ((spec_l1num.f k (a0.size : Int)).bind fun t162 => (spec_l1text.l0 k a0 t162 0)) = some r := h
  clear h
  replace H := Option.bind_eq_some_iff.mp H
  obtain ⟨t162, A20, H⟩ := H
  replace H : (spec_l1text.l0 k a0 t162 0) = some r := H
  have A2 := Aside0.mk A20
  clear A20
  have H' := Aside0.mk H
  clear H
  go_enter Tryd.func32, Tryd.ntmps32
  go_wp2_with (first | ((with_reducible refine gate_callee (f := 31) rfl ?_); refine goesL_ (some 7) rfl rfl Tryd.func31 (by kernel_rfl) rfl #[.int .i64 (a0.size : Int)] rfl (by (try simp only [List.map_toArray, List.map_cons, List.map_nil]); first | done | rfl | (simp only [List.length_drop, List.length_take]; rfl)) ?_; (with_reducible refine (spec_l1num.calls k (a0.size : Int) t162 _ A2.out).mono ?_); rintro e w3 ⟨v163, rfl, ho0, hb⟩; refine ⟨_, rfl, ?_⟩; have n0_ := Aside0.mk (Kd.R_lower ho0 (below_size (by repeat (first | (with_reducible first | exact HB.out | apply below_alloc | apply pw_below_drewN | apply below_drew1) | exact HB.out)))); have n1_ := Aside0.mk (below_step (by repeat (first | (with_reducible first | exact HB.out | apply below_alloc | apply pw_below_drewN | apply below_drew1) | exact HB.out)) hb); clear HB; have HO164 := n0_; have HB := n1_; clear n0_ n1_; (try clear hb); (try clear hb2); (try clear hk); (try clear hi); (try clear ho0)))
  go_loopg [3, 4] k (fun kq v3 v4 w' => ∃ (x3_1 : List Int) (x4_1 : Int), v4 = .int .i64 x4_1 ∧ Aside0 (spec_l1text.l0 kq a0 x3_1 x4_1 = some r) ∧ Aside0 (kq ≤ k) ∧ Aside0 (Kd.R (Kd.int .u8) 5 w' w.heap.size (fun _ => True) v3 x3_1) ∧ Aside0 (Below w.heap.size w w'))
  case atStart => exact ⟨(t162), (0), (by first | rfl | (simp; done) | (simp [*]; done)), H', ⟨Nat.le_refl _⟩, ⟨by (with_reducible repeat (first | apply Kd.R_alloc | apply Kd.R_drewN | apply Kd.R_drew)); exact HO164.out⟩, ⟨by repeat (first | (with_reducible first | exact HB.out | apply below_alloc | apply pw_below_drewN | apply below_drew1) | exact HB.out)⟩⟩
  case round =>
    clear H'
    try clear p2
    try clear c3
    obtain ⟨x3_1, x4_1, rfl, HA, HK1, HO_3, HB⟩ := hrel
    cases gk with
    | zero => exact absurd HA.out (by simp [spec_l1text.l0])
    | succ k1 =>
      have H := HA.out
      clear HA
      simp only [spec_l1text.l0] at H
      by_cases c4 : x4_1 < (a0.size : Int)
      · rw [if_pos c4] at H
        have c4b0 : decide (x4_1 < (a0.size : Int)) = true := decide_eq_true c4
        clear c4
        by_cases c5 : 0 ≤ x4_1
        · rw [if_pos c5] at H
          have c5b0 : decide (0 ≤ x4_1) = true := decide_eq_true c5
          clear c5
          by_cases c7 : x3_1.length < 140737488355328
          · rw [if_pos c7] at H
            have LMc7 := Aside0.mk c7
            clear c7
            obtain ⟨y165, hy165⟩ : ∃ y_ : List Int, y_ = (x3_1 ++ [bt a0 x4_1]) := ⟨_, rfl⟩
            replace H : (spec_l1text.l0 k1 a0 y165 (wrap64 (x4_1 + 1))) = some r := by first | (rw [hy165]; with_reducible exact H) | (have H2_ := (Option.bind_some _ _).symm.trans H; rw [hy165]; with_reducible exact H2_) | (have H2_ := (Option.bind_some _ _).symm.trans H; with_reducible exact H2_) | with_reducible exact H | (rw [hy165]; exact H) | exact H
            have Ny165 := Aside0.mk hy165
            clear hy165
            have H' := Aside0.mk H
            clear H
            have p6 : 0 ≤ (x4_1 : Int) := of_decide_eq_true (by first | (with_reducible assumption) | assumption)
            have q6 : x4_1 < (a0.size : Int) := of_decide_eq_true (by first | (with_reducible assumption) | assumption)
            have hx6 := bt_at a0 x4_1
            replace p6 := eq_true p6
            replace q6 := eq_true q6
            go_wp2_with (first | ((with_reducible refine gate_builtin (b := .append) (xs := #[.tmp 14, .tmp 18]) rfl ?_); at_builtin; refine Kd.R_append (Kd.int .u8) (w0 := w) w.heap.size rfl (.tmp 14) (.tmp 18) 25 5 (.int .u8 0) 1 rfl Tryd.underlying25 info5 rfl (by decide) (by omega) u3 x3_1 (bt a0 x4_1) [.int .u8 (bt a0 x4_1)] (fun _ => True) (fun _ => False) rfl rfl ?aP (fun _ hk => hk.elim) ?aF ?aO ?aB ?aS ?aL ?_; (case aP => exact rfl); (case aB => exact (by repeat (first | (with_reducible first | exact HB.out | apply below_alloc | apply pw_below_drewN | apply below_drew1) | exact HB.out))); (case aF => exact (fun _ _ => trivial)); (case aO => exact (by (with_reducible repeat (first | apply Kd.R_alloc | apply Kd.R_drewN | apply Kd.R_drew)); exact HO_3.out)); (case aS => exact (below_size (by repeat (first | (with_reducible first | exact HB.out | apply below_alloc | apply pw_below_drewN | apply below_drew1) | exact HB.out)))); (case aL => have := LMc7.out; omega); intro v166 w8 ho hb hg hat; rw [← Ny165.out] at ho; have n0_ := Aside0.mk (hb); have n1_ := Aside0.mk (ho); clear HB; clear HO_3; have HB := n0_; have HO167 := n1_; clear n0_ n1_; clear ho hb hg hat))
            go_roundg k1
            case measure => have := HK1.out; omega
            case rel => exact ⟨(y165), (wrap64 (x4_1 + 1)), (by first | rfl | (simp; done) | (simp [*]; done)), H', ⟨by have := HK1.out; omega⟩, ⟨by (with_reducible repeat (first | apply Kd.R_alloc | apply Kd.R_drewN | apply Kd.R_drew)); exact HO167.out⟩, ⟨by repeat (first | (with_reducible first | exact HB.out | apply below_alloc | apply pw_below_drewN | apply below_drew1) | exact HB.out)⟩⟩
          · rw [if_neg c7] at H
            exact absurd H (by simp)
        · rw [if_neg c5] at H
          exact absurd H (by simp)
      · rw [if_neg c4] at H
        have c4b0 : decide (x4_1 < (a0.size : Int)) = false := decide_eq_false c4
        clear c4
        obtain rfl := Option.some.inj H
        go_wp2
        go_ret
        exact ⟨_, by first | rfl | (simp [errW_none, errW_some] <;> rfl) | (simp [*, errW_none, errW_some] <;> rfl), by (with_reducible repeat (first | apply Kd.R_alloc | apply Kd.R_drewN | apply Kd.R_drew)); exact HO_3.out, by repeat (first | (with_reducible first | exact HB.out | apply below_alloc | apply pw_below_drewN | apply below_drew1) | exact HB.out)⟩

/-! ### spec_l1cmdBytes: function 36 -/
def spec_l1cmdBytes.f (k : Nat) (a0_0 : Int) (a0_1 : Int) (a0_2 : Int) (a0_3 : ByteArray) (a0_4 : ByteArray) (a0_5 : ByteArray) : Option (List Int) := (spec_l1num.f k a0_0).bind fun t169 => ((spec_l1num.f k a0_1).bind fun t172 => (if t169.length + t172.length < 140737488355328 then ((some (t169 ++ t172 : List Int)).bind fun y175 => ((spec_l1num.f k a0_2).bind fun t178 => (if y175.length + t178.length < 140737488355328 then ((some (y175 ++ t178 : List Int)).bind fun y181 => ((spec_l1text.f k a0_3).bind fun t184 => (if y181.length + t184.length < 140737488355328 then ((some (y181 ++ t184 : List Int)).bind fun y187 => ((spec_l1text.f k a0_4).bind fun t190 => (if y187.length + t190.length < 140737488355328 then ((some (y187 ++ t190 : List Int)).bind fun y193 => ((spec_l1text.f k a0_5).bind fun t196 => (if y193.length + t196.length < 140737488355328 then (some (y193 ++ t196)) else (none)))) else (none)))) else (none)))) else (none)))) else (none)))
theorem spec_l1cmdBytes.mono : ∀ a0 a1 a2 a3 a4 a5 k, LeO (spec_l1cmdBytes.f k a0 a1 a2 a3 a4 a5) (spec_l1cmdBytes.f (k + 1) a0 a1 a2 a3 a4 a5) := by
  intro a0 a1 a2 a3 a4 a5 k
  unfold spec_l1cmdBytes.f
  repeat' first
      | (with_reducible exact spec_l1num.mono _ _)
      | (with_reducible exact spec_l1text.mono _ _)
      | (with_reducible exact LeO.refl _)
      | (with_reducible exact LeO.none _)
      | (with_reducible refine LeO.ite ?_ ?_)
      | (with_reducible refine LeO.bind ?_ (fun _ => ?_))
      | exact spec_l1num.mono _ _
      | exact spec_l1text.mono _ _
      | exact LeO.none _
      | refine LeO.ite ?_ ?_
      | refine LeO.bind ?_ (fun _ => ?_)
set_option maxHeartbeats 8000000 in
set_option maxRecDepth 100000 in
theorem spec_l1cmdBytes.calls (k : Nat) (a0_0 : Int) (a0_1 : Int) (a0_2 : Int) (a0_3 : ByteArray) (a0_4 : ByteArray) (a0_5 : ByteArray) (r : List Int) (w : World) (h : spec_l1cmdBytes.f k a0_0 a0_1 a0_2 a0_3 a0_4 a0_5 = some r) :
    Calls Tryd.prog 36 #[.agg #[.int .i64 a0_0, .int .i64 a0_1, .int .i64 a0_2, .string a0_3, .string a0_4, .string a0_5]] w fun e w' => ∃ v0_ : Value, e = .returned (v0_) ∧ Kd.R (Kd.int .u8) 5 w' w.heap.size (fun _ => True) v0_ r ∧ Below w.heap.size w w' := by
  have hu36 := Tryd.underlying36
  have HB := Aside0.mk (Below.refl w.heap.size w)
  have H : ((spec_l1num.f k a0_0).bind fun t169 => ((spec_l1num.f k a0_1).bind fun t172 => (if t169.length + t172.length < 140737488355328 then ((some (t169 ++ t172 : List Int)).bind fun y175 => ((spec_l1num.f k a0_2).bind fun t178 => (if y175.length + t178.length < 140737488355328 then ((some (y175 ++ t178 : List Int)).bind fun y181 => ((spec_l1text.f k a0_3).bind fun t184 => (if y181.length + t184.length < 140737488355328 then ((some (y181 ++ t184 : List Int)).bind fun y187 => ((spec_l1text.f k a0_4).bind fun t190 => (if y187.length + t190.length < 140737488355328 then ((some (y187 ++ t190 : List Int)).bind fun y193 => ((spec_l1text.f k a0_5).bind fun t196 => (if y193.length + t196.length < 140737488355328 then (some (y193 ++ t196)) else (none)))) else (none)))) else (none)))) else (none)))) else (none)))) = some r := h
  clear h
  replace H := Option.bind_eq_some_iff.mp H
  obtain ⟨t169, A20, H⟩ := H
  replace H : ((spec_l1num.f k a0_1).bind fun t172 => (if t169.length + t172.length < 140737488355328 then ((some (t169 ++ t172 : List Int)).bind fun y175 => ((spec_l1num.f k a0_2).bind fun t178 => (if y175.length + t178.length < 140737488355328 then ((some (y175 ++ t178 : List Int)).bind fun y181 => ((spec_l1text.f k a0_3).bind fun t184 => (if y181.length + t184.length < 140737488355328 then ((some (y181 ++ t184 : List Int)).bind fun y187 => ((spec_l1text.f k a0_4).bind fun t190 => (if y187.length + t190.length < 140737488355328 then ((some (y187 ++ t190 : List Int)).bind fun y193 => ((spec_l1text.f k a0_5).bind fun t196 => (if y193.length + t196.length < 140737488355328 then (some (y193 ++ t196)) else (none)))) else (none)))) else (none)))) else (none)))) else (none))) = some r := H
  have A2 := Aside0.mk A20
  clear A20
  replace H := Option.bind_eq_some_iff.mp H
  obtain ⟨t172, A30, H⟩ := H
  replace H : (if t169.length + t172.length < 140737488355328 then ((some (t169 ++ t172 : List Int)).bind fun y175 => ((spec_l1num.f k a0_2).bind fun t178 => (if y175.length + t178.length < 140737488355328 then ((some (y175 ++ t178 : List Int)).bind fun y181 => ((spec_l1text.f k a0_3).bind fun t184 => (if y181.length + t184.length < 140737488355328 then ((some (y181 ++ t184 : List Int)).bind fun y187 => ((spec_l1text.f k a0_4).bind fun t190 => (if y187.length + t190.length < 140737488355328 then ((some (y187 ++ t190 : List Int)).bind fun y193 => ((spec_l1text.f k a0_5).bind fun t196 => (if y193.length + t196.length < 140737488355328 then (some (y193 ++ t196)) else (none)))) else (none)))) else (none)))) else (none)))) else (none)) = some r := H
  have A3 := Aside0.mk A30
  clear A30
  by_cases c4 : t169.length + t172.length < 140737488355328
  · rw [if_pos c4] at H
    have LMc4 := Aside0.mk c4
    clear c4
    obtain ⟨y175, hy175⟩ : ∃ y_ : List Int, y_ = (t169 ++ t172) := ⟨_, rfl⟩
    replace H : ((spec_l1num.f k a0_2).bind fun t178 => (if y175.length + t178.length < 140737488355328 then ((some (y175 ++ t178 : List Int)).bind fun y181 => ((spec_l1text.f k a0_3).bind fun t184 => (if y181.length + t184.length < 140737488355328 then ((some (y181 ++ t184 : List Int)).bind fun y187 => ((spec_l1text.f k a0_4).bind fun t190 => (if y187.length + t190.length < 140737488355328 then ((some (y187 ++ t190 : List Int)).bind fun y193 => ((spec_l1text.f k a0_5).bind fun t196 => (if y193.length + t196.length < 140737488355328 then (some (y193 ++ t196)) else (none)))) else (none)))) else (none)))) else (none))) = some r := by first | (rw [hy175]; with_reducible exact H) | (have H2_ := (Option.bind_some _ _).symm.trans H; rw [hy175]; with_reducible exact H2_) | (have H2_ := (Option.bind_some _ _).symm.trans H; with_reducible exact H2_) | with_reducible exact H | (rw [hy175]; exact H) | exact H
    have Ny175 := Aside0.mk hy175
    clear hy175
    replace H := Option.bind_eq_some_iff.mp H
    obtain ⟨t178, A50, H⟩ := H
    replace H : (if y175.length + t178.length < 140737488355328 then ((some (y175 ++ t178 : List Int)).bind fun y181 => ((spec_l1text.f k a0_3).bind fun t184 => (if y181.length + t184.length < 140737488355328 then ((some (y181 ++ t184 : List Int)).bind fun y187 => ((spec_l1text.f k a0_4).bind fun t190 => (if y187.length + t190.length < 140737488355328 then ((some (y187 ++ t190 : List Int)).bind fun y193 => ((spec_l1text.f k a0_5).bind fun t196 => (if y193.length + t196.length < 140737488355328 then (some (y193 ++ t196)) else (none)))) else (none)))) else (none)))) else (none)) = some r := H
    have A5 := Aside0.mk A50
    clear A50
    by_cases c6 : y175.length + t178.length < 140737488355328
    · rw [if_pos c6] at H
      have LMc6 := Aside0.mk c6
      clear c6
      obtain ⟨y181, hy181⟩ : ∃ y_ : List Int, y_ = (y175 ++ t178) := ⟨_, rfl⟩
      replace H : ((spec_l1text.f k a0_3).bind fun t184 => (if y181.length + t184.length < 140737488355328 then ((some (y181 ++ t184 : List Int)).bind fun y187 => ((spec_l1text.f k a0_4).bind fun t190 => (if y187.length + t190.length < 140737488355328 then ((some (y187 ++ t190 : List Int)).bind fun y193 => ((spec_l1text.f k a0_5).bind fun t196 => (if y193.length + t196.length < 140737488355328 then (some (y193 ++ t196)) else (none)))) else (none)))) else (none))) = some r := by first | (rw [hy181]; with_reducible exact H) | (have H2_ := (Option.bind_some _ _).symm.trans H; rw [hy181]; with_reducible exact H2_) | (have H2_ := (Option.bind_some _ _).symm.trans H; with_reducible exact H2_) | with_reducible exact H | (rw [hy181]; exact H) | exact H
      have Ny181 := Aside0.mk hy181
      clear hy181
      replace H := Option.bind_eq_some_iff.mp H
      obtain ⟨t184, A70, H⟩ := H
      replace H : (if y181.length + t184.length < 140737488355328 then ((some (y181 ++ t184 : List Int)).bind fun y187 => ((spec_l1text.f k a0_4).bind fun t190 => (if y187.length + t190.length < 140737488355328 then ((some (y187 ++ t190 : List Int)).bind fun y193 => ((spec_l1text.f k a0_5).bind fun t196 => (if y193.length + t196.length < 140737488355328 then (some (y193 ++ t196)) else (none)))) else (none)))) else (none)) = some r := H
      have A7 := Aside0.mk A70
      clear A70
      by_cases c8 : y181.length + t184.length < 140737488355328
      · rw [if_pos c8] at H
        have LMc8 := Aside0.mk c8
        clear c8
        obtain ⟨y187, hy187⟩ : ∃ y_ : List Int, y_ = (y181 ++ t184) := ⟨_, rfl⟩
        replace H : ((spec_l1text.f k a0_4).bind fun t190 => (if y187.length + t190.length < 140737488355328 then ((some (y187 ++ t190 : List Int)).bind fun y193 => ((spec_l1text.f k a0_5).bind fun t196 => (if y193.length + t196.length < 140737488355328 then (some (y193 ++ t196)) else (none)))) else (none))) = some r := by first | (rw [hy187]; with_reducible exact H) | (have H2_ := (Option.bind_some _ _).symm.trans H; rw [hy187]; with_reducible exact H2_) | (have H2_ := (Option.bind_some _ _).symm.trans H; with_reducible exact H2_) | with_reducible exact H | (rw [hy187]; exact H) | exact H
        have Ny187 := Aside0.mk hy187
        clear hy187
        replace H := Option.bind_eq_some_iff.mp H
        obtain ⟨t190, A90, H⟩ := H
        replace H : (if y187.length + t190.length < 140737488355328 then ((some (y187 ++ t190 : List Int)).bind fun y193 => ((spec_l1text.f k a0_5).bind fun t196 => (if y193.length + t196.length < 140737488355328 then (some (y193 ++ t196)) else (none)))) else (none)) = some r := H
        have A9 := Aside0.mk A90
        clear A90
        by_cases c10 : y187.length + t190.length < 140737488355328
        · rw [if_pos c10] at H
          have LMc10 := Aside0.mk c10
          clear c10
          obtain ⟨y193, hy193⟩ : ∃ y_ : List Int, y_ = (y187 ++ t190) := ⟨_, rfl⟩
          replace H : ((spec_l1text.f k a0_5).bind fun t196 => (if y193.length + t196.length < 140737488355328 then (some (y193 ++ t196)) else (none))) = some r := by first | (rw [hy193]; with_reducible exact H) | (have H2_ := (Option.bind_some _ _).symm.trans H; rw [hy193]; with_reducible exact H2_) | (have H2_ := (Option.bind_some _ _).symm.trans H; with_reducible exact H2_) | with_reducible exact H | (rw [hy193]; exact H) | exact H
          have Ny193 := Aside0.mk hy193
          clear hy193
          replace H := Option.bind_eq_some_iff.mp H
          obtain ⟨t196, A110, H⟩ := H
          replace H : (if y193.length + t196.length < 140737488355328 then (some (y193 ++ t196)) else (none)) = some r := H
          have A11 := Aside0.mk A110
          clear A110
          by_cases c12 : y193.length + t196.length < 140737488355328
          · rw [if_pos c12] at H
            have LMc12 := Aside0.mk c12
            clear c12
            obtain ⟨y199, hy199⟩ : ∃ y_ : List Int, y_ = (y193 ++ t196) := ⟨_, rfl⟩
            replace H : (some y199) = some r := by first | (rw [hy199]; with_reducible exact H) | (have H2_ := (Option.bind_some _ _).symm.trans H; rw [hy199]; with_reducible exact H2_) | (have H2_ := (Option.bind_some _ _).symm.trans H; with_reducible exact H2_) | with_reducible exact H | (rw [hy199]; exact H) | exact H
            have Ny199 := Aside0.mk hy199
            clear hy199
            obtain rfl := Option.some.inj H
            go_enter Tryd.func36, Tryd.ntmps36
            go_wp2_with (first | ((with_reducible refine gate_dst (N := 1) rfl ?_); refine box_event ?hg (N := 1) ?hd (cs := #[.int .i64 a0_0, .int .i64 a0_1, .int .i64 a0_2, .string a0_3, .string a0_4, .string a0_5]) (t := 36) ?hr ?_; (case hd => rfl); (case hg => rfl); (case hr => first | (go_simp; done) | (go_simp; rfl)); intro gb168 hg w13 hbox hb; have n0_ := Aside0.mk (below_step (by repeat (first | (with_reducible first | exact HB.out | apply below_alloc | apply pw_below_drewN | apply below_drew1) | exact HB.out)) hb); have n1_ := Aside0.mk (hbox); have n2_ := Aside0.mk ((by rw [hg]; exact (below_size (by repeat (first | (with_reducible first | exact HB.out | apply below_alloc | apply pw_below_drewN | apply below_drew1) | exact HB.out))) : w.heap.size ≤ gb168)); have n3_ := Aside0.mk ((by rw [hg]; exact (below_size (by repeat (first | (with_reducible first | exact HB.out | apply below_alloc | apply pw_below_drewN | apply below_drew1) | exact HB.out))) : w.heap.size ≤ gb168)); clear HB; have HB := n0_; have BK168 := n1_; have GW168 := n2_; have GE168 := n3_; clear n0_ n1_ n2_ n3_; clear hb hbox hg; have hcz14_0 : w13.cell? ⟨gb168, 0, none⟩ = some (.int .i64 a0_0) := (blk_cell BK168.out 0).trans rfl; have hcz14_1 : w13.cell? ⟨gb168, 1, none⟩ = some (.int .i64 a0_1) := (blk_cell BK168.out 1).trans rfl; have hcz14_2 : w13.cell? ⟨gb168, 2, none⟩ = some (.int .i64 a0_2) := (blk_cell BK168.out 2).trans rfl; have hcz14_3 : w13.cell? ⟨gb168, 3, none⟩ = some (.string a0_3) := (blk_cell BK168.out 3).trans rfl; have hcz14_4 : w13.cell? ⟨gb168, 4, none⟩ = some (.string a0_4) := (blk_cell BK168.out 4).trans rfl; have hcz14_5 : w13.cell? ⟨gb168, 5, none⟩ = some (.string a0_5) := (blk_cell BK168.out 5).trans rfl; have hfz14_0 := blk_frozen BK168.out 0; have hfz14_1 := blk_frozen BK168.out 1; have hfz14_2 := blk_frozen BK168.out 2; have hfz14_3 := blk_frozen BK168.out 3; have hfz14_4 := blk_frozen BK168.out 4; have hfz14_5 := blk_frozen BK168.out 5) | ((with_reducible refine gate_callee (f := 31) rfl ?_); refine goesL_ (some 6) rfl rfl Tryd.func31 (by kernel_rfl) rfl #[.int .i64 a0_0] rfl (by (try simp only [List.map_toArray, List.map_cons, List.map_nil]); first | done | rfl | (simp only [List.length_drop, List.length_take]; rfl)) ?_; (with_reducible refine (spec_l1num.calls k a0_0 t169 _ A2.out).mono ?_); rintro e w15 ⟨v170, rfl, ho0, hb⟩; refine ⟨_, rfl, ?_⟩; have n0_ := Aside0.mk (Kd.R_lower ho0 (below_size (by repeat (first | (with_reducible first | exact HB.out | apply below_alloc | apply pw_below_drewN | apply below_drew1 | refine below_set ?_ GE168.out) | exact HB.out)))); have n1_ := Aside0.mk (blk_below (g := gb168) (o := .cells #[.int .i64 a0_0, .int .i64 a0_1, .int .i64 a0_2, .string a0_3, .string a0_4, .string a0_5] 36 (0, 0)) (by (with_reducible repeat (first | refine blk_drewN ?_ _ | refine blk_drew ?_ | refine blk_alloc ?_ _)); exact BK168.out) hb); have n2_ := Aside0.mk (below_step (by repeat (first | (with_reducible first | exact HB.out | apply below_alloc | apply pw_below_drewN | apply below_drew1 | refine below_set ?_ GE168.out) | exact HB.out)) hb); clear BK168; clear HB; have HO171 := n0_; have BK168 := n1_; have HB := n2_; clear n0_ n1_ n2_; (try clear hb); (try clear hb2); (try clear hk); (try clear hi); (try clear ho0); have hcz16_0 : w15.cell? ⟨gb168, 0, none⟩ = some (.int .i64 a0_0) := (blk_cell BK168.out 0).trans rfl; have hcz16_1 : w15.cell? ⟨gb168, 1, none⟩ = some (.int .i64 a0_1) := (blk_cell BK168.out 1).trans rfl; have hcz16_2 : w15.cell? ⟨gb168, 2, none⟩ = some (.int .i64 a0_2) := (blk_cell BK168.out 2).trans rfl; have hcz16_3 : w15.cell? ⟨gb168, 3, none⟩ = some (.string a0_3) := (blk_cell BK168.out 3).trans rfl; have hcz16_4 : w15.cell? ⟨gb168, 4, none⟩ = some (.string a0_4) := (blk_cell BK168.out 4).trans rfl; have hcz16_5 : w15.cell? ⟨gb168, 5, none⟩ = some (.string a0_5) := (blk_cell BK168.out 5).trans rfl; have hfz16_0 := blk_frozen BK168.out 0; have hfz16_1 := blk_frozen BK168.out 1; have hfz16_2 := blk_frozen BK168.out 2; have hfz16_3 := blk_frozen BK168.out 3; have hfz16_4 := blk_frozen BK168.out 4; have hfz16_5 := blk_frozen BK168.out 5) | ((with_reducible refine gate_callee (f := 31) rfl ?_); refine goesL_ (some 10) rfl rfl Tryd.func31 (by kernel_rfl) rfl #[.int .i64 a0_1] rfl (by (try simp only [List.map_toArray, List.map_cons, List.map_nil]); first | done | rfl | (simp only [List.length_drop, List.length_take]; rfl)) ?_; (with_reducible refine (spec_l1num.calls k a0_1 t172 _ A3.out).mono ?_); rintro e w17 ⟨v173, rfl, ho0, hb⟩; refine ⟨_, rfl, ?_⟩; have n0_ := Aside0.mk (Kd.R_elder' (by (with_reducible repeat (first | apply Kd.R_alloc | apply Kd.R_drewN | apply Kd.R_drew)); exact HO171.out) (Kd.R_base ho0) hb); have n1_ := Aside0.mk (Kd.R_lower (Kd.R_new' ho0 (Kd.R_lt (by (with_reducible repeat (first | apply Kd.R_alloc | apply Kd.R_drewN | apply Kd.R_drew)); exact HO171.out))) (below_size (by repeat (first | (with_reducible first | exact HB.out | apply below_alloc | apply pw_below_drewN | apply below_drew1 | refine below_set ?_ GE168.out) | exact HB.out)))); have n2_ := Aside0.mk (blk_below (g := gb168) (o := .cells #[.int .i64 a0_0, .int .i64 a0_1, .int .i64 a0_2, .string a0_3, .string a0_4, .string a0_5] 36 (0, 0)) (by (with_reducible repeat (first | refine blk_drewN ?_ _ | refine blk_drew ?_ | refine blk_alloc ?_ _)); exact BK168.out) hb); have n3_ := Aside0.mk (below_step (by repeat (first | (with_reducible first | exact HB.out | apply below_alloc | apply pw_below_drewN | apply below_drew1 | refine below_set ?_ GE168.out) | exact HB.out)) hb); clear HO171; clear BK168; clear HB; have HO171 := n0_; have HO174 := n1_; have BK168 := n2_; have HB := n3_; clear n0_ n1_ n2_ n3_; (try clear hb); (try clear hb2); (try clear hk); (try clear hi); (try clear ho0); obtain ⟨Ao19, co19, eo19⟩ := Kd.R_slice HO174.out; subst eo19) | ((with_reducible refine gate_builtin (b := .append) (xs := #[.tmp 7, .tmp 10]) rfl ?_); at_builtin; refine Kd.R_append_rows (Kd.int .u8) (w0 := w) w.heap.size rfl (.tmp 7) (.tmp 10) 25 5 (.int .u8 0) 1 rfl Tryd.underlying25 info5 rfl (by decide) (by omega) v170 t169 t172 _ _ _ (fun k_ => some k_ ≠ (.slice Ao19 t172.length co19 : Value).ownBlock) (fun _ => False) rfl rfl ?aO ?aR (fun _ _ h => h) (fun _ h => h.elim) ?aF ?aB ?aS ?aL ?_; (case aR => repeat (first | exact (Kd.R_reads' HO174.out).2.2 | (with_reducible refine Kd.C_alloc ?_ _) | (with_reducible refine Kd.C_drewN ?_ _) | (with_reducible refine Kd.C_drew ?_))); (case aB => exact (by repeat (first | (with_reducible first | exact HB.out | apply below_alloc | apply pw_below_drewN | apply below_drew1 | refine below_set ?_ GE168.out) | exact HB.out))); (case aF => exact (fun k_ hk => Kd.fresh' (Kd.R_lt (by (with_reducible repeat (first | apply Kd.R_alloc | apply Kd.R_drewN | apply Kd.R_drew)); exact HO174.out)) k_ hk)); (case aO => exact (by (with_reducible repeat (first | apply Kd.R_alloc | apply Kd.R_drewN | apply Kd.R_drew)); exact Kd.R_mono HO171.out (fun _ hk => hk.2))); (case aS => exact (below_size (by repeat (first | (with_reducible first | exact HB.out | apply below_alloc | apply pw_below_drewN | apply below_drew1 | refine below_set ?_ GE168.out) | exact HB.out)))); (case aL => have := LMc4.out; omega); intro v176 w18 ho hb hg hat; rw [← Ny175.out] at ho; have n0_ := Aside0.mk (blk_grown (g := gb168) (o := .cells #[.int .i64 a0_0, .int .i64 a0_1, .int .i64 a0_2, .string a0_3, .string a0_4, .string a0_5] 36 (0, 0)) (by (with_reducible repeat (first | refine blk_drewN ?_ _ | refine blk_drew ?_ | refine blk_alloc ?_ _)); exact BK168.out) hg (Kd.R_ne HO171.out BK168.out (by decide))); have n1_ := Aside0.mk (Kd.R_after (ok := (fun _ => True)) (by (with_reducible repeat (first | apply Kd.R_alloc | apply Kd.R_drewN | apply Kd.R_drew)); exact HO174.out) hg hat); have n2_ := Aside0.mk (hb); have n3_ := Aside0.mk (ho); clear BK168; clear HO174; clear HB; clear HO171; have BK168 := n0_; have HO174 := n1_; have HB := n2_; have HO177 := n3_; clear n0_ n1_ n2_ n3_; clear ho hb hg hat; have hcz20_0 : w18.cell? ⟨gb168, 0, none⟩ = some (.int .i64 a0_0) := (blk_cell BK168.out 0).trans rfl; have hcz20_1 : w18.cell? ⟨gb168, 1, none⟩ = some (.int .i64 a0_1) := (blk_cell BK168.out 1).trans rfl; have hcz20_2 : w18.cell? ⟨gb168, 2, none⟩ = some (.int .i64 a0_2) := (blk_cell BK168.out 2).trans rfl; have hcz20_3 : w18.cell? ⟨gb168, 3, none⟩ = some (.string a0_3) := (blk_cell BK168.out 3).trans rfl; have hcz20_4 : w18.cell? ⟨gb168, 4, none⟩ = some (.string a0_4) := (blk_cell BK168.out 4).trans rfl; have hcz20_5 : w18.cell? ⟨gb168, 5, none⟩ = some (.string a0_5) := (blk_cell BK168.out 5).trans rfl; have hfz20_0 := blk_frozen BK168.out 0; have hfz20_1 := blk_frozen BK168.out 1; have hfz20_2 := blk_frozen BK168.out 2; have hfz20_3 := blk_frozen BK168.out 3; have hfz20_4 := blk_frozen BK168.out 4; have hfz20_5 := blk_frozen BK168.out 5) | ((with_reducible refine gate_callee (f := 31) rfl ?_); refine goesL_ (some 15) rfl rfl Tryd.func31 (by kernel_rfl) rfl #[.int .i64 a0_2] rfl (by (try simp only [List.map_toArray, List.map_cons, List.map_nil]); first | done | rfl | (simp only [List.length_drop, List.length_take]; rfl)) ?_; (with_reducible refine (spec_l1num.calls k a0_2 t178 _ A5.out).mono ?_); rintro e w21 ⟨v179, rfl, ho0, hb⟩; refine ⟨_, rfl, ?_⟩; have n0_ := Aside0.mk (Kd.R_elder' (by (with_reducible repeat (first | apply Kd.R_alloc | apply Kd.R_drewN | apply Kd.R_drew)); exact HO174.out) (Kd.R_base ho0) hb); have n1_ := Aside0.mk (Kd.R_elder' (by (with_reducible repeat (first | apply Kd.R_alloc | apply Kd.R_drewN | apply Kd.R_drew)); exact HO177.out) (Kd.R_base ho0) hb); have n2_ := Aside0.mk (Kd.R_lower (Kd.R_new' (Kd.R_new' ho0 (Kd.R_lt (by (with_reducible repeat (first | apply Kd.R_alloc | apply Kd.R_drewN | apply Kd.R_drew)); exact HO174.out))) (Kd.R_lt (by (with_reducible repeat (first | apply Kd.R_alloc | apply Kd.R_drewN | apply Kd.R_drew)); exact HO177.out))) (below_size (by repeat (first | (with_reducible first | exact HB.out | apply below_alloc | apply pw_below_drewN | apply below_drew1 | refine below_set ?_ GE168.out) | exact HB.out)))); have n3_ := Aside0.mk (blk_below (g := gb168) (o := .cells #[.int .i64 a0_0, .int .i64 a0_1, .int .i64 a0_2, .string a0_3, .string a0_4, .string a0_5] 36 (0, 0)) (by (with_reducible repeat (first | refine blk_drewN ?_ _ | refine blk_drew ?_ | refine blk_alloc ?_ _)); exact BK168.out) hb); have n4_ := Aside0.mk (below_step (by repeat (first | (with_reducible first | exact HB.out | apply below_alloc | apply pw_below_drewN | apply below_drew1 | refine below_set ?_ GE168.out) | exact HB.out)) hb); clear HO174; clear HO177; clear BK168; clear HB; have HO174 := n0_; have HO177 := n1_; have HO180 := n2_; have BK168 := n3_; have HB := n4_; clear n0_ n1_ n2_ n3_ n4_; (try clear hb); (try clear hb2); (try clear hk); (try clear hi); (try clear ho0); obtain ⟨Ao23, co23, eo23⟩ := Kd.R_slice HO180.out; subst eo23) | ((with_reducible refine gate_builtin (b := .append) (xs := #[.tmp 12, .tmp 15]) rfl ?_); at_builtin; refine Kd.R_append_rows (Kd.int .u8) (w0 := w) w.heap.size rfl (.tmp 12) (.tmp 15) 25 5 (.int .u8 0) 1 rfl Tryd.underlying25 info5 rfl (by decide) (by omega) v176 y175 t178 _ _ _ (fun k_ => some k_ ≠ (.slice Ao19 t172.length co19 : Value).ownBlock ∧ some k_ ≠ (.slice Ao23 t178.length co23 : Value).ownBlock) (fun _ => False) rfl rfl ?aO ?aR (fun _ _ h => h) (fun _ h => h.elim) ?aF ?aB ?aS ?aL ?_; (case aR => repeat (first | exact (Kd.R_reads' HO180.out).2.2 | (with_reducible refine Kd.C_alloc ?_ _) | (with_reducible refine Kd.C_drewN ?_ _) | (with_reducible refine Kd.C_drew ?_))); (case aB => exact (by repeat (first | (with_reducible first | exact HB.out | apply below_alloc | apply pw_below_drewN | apply below_drew1 | refine below_set ?_ GE168.out) | exact HB.out))); (case aF => exact (fun k_ hk => ⟨Kd.fresh' (Kd.R_lt (by (with_reducible repeat (first | apply Kd.R_alloc | apply Kd.R_drewN | apply Kd.R_drew)); exact HO174.out)) k_ hk, Kd.fresh' (Kd.R_lt (by (with_reducible repeat (first | apply Kd.R_alloc | apply Kd.R_drewN | apply Kd.R_drew)); exact HO180.out)) k_ hk⟩)); (case aO => exact (by (with_reducible repeat (first | apply Kd.R_alloc | apply Kd.R_drewN | apply Kd.R_drew)); exact HO177.out)); (case aS => exact (below_size (by repeat (first | (with_reducible first | exact HB.out | apply below_alloc | apply pw_below_drewN | apply below_drew1 | refine below_set ?_ GE168.out) | exact HB.out)))); (case aL => have := LMc6.out; omega); intro v182 w22 ho hb hg hat; rw [← Ny181.out] at ho; have n0_ := Aside0.mk (blk_grown (g := gb168) (o := .cells #[.int .i64 a0_0, .int .i64 a0_1, .int .i64 a0_2, .string a0_3, .string a0_4, .string a0_5] 36 (0, 0)) (by (with_reducible repeat (first | refine blk_drewN ?_ _ | refine blk_drew ?_ | refine blk_alloc ?_ _)); exact BK168.out) hg (Kd.R_ne HO177.out BK168.out (by decide))); have n1_ := Aside0.mk (Kd.R_after (ok := (fun k_ => some k_ ≠ (.slice Ao23 t178.length co23 : Value).ownBlock)) (by (with_reducible repeat (first | apply Kd.R_alloc | apply Kd.R_drewN | apply Kd.R_drew)); exact Kd.R_mono HO174.out (fun _ hk => ⟨hk.2, hk.1.2⟩)) hg hat); have n2_ := Aside0.mk (Kd.R_after (ok := (fun k_ => some k_ ≠ (.slice Ao19 t172.length co19 : Value).ownBlock)) (by (with_reducible repeat (first | apply Kd.R_alloc | apply Kd.R_drewN | apply Kd.R_drew)); exact Kd.R_mono HO180.out (fun _ hk => ⟨hk.1.2, hk.2⟩)) hg hat); have n3_ := Aside0.mk (hb); have n4_ := Aside0.mk (ho); clear BK168; clear HO174; clear HO180; clear HB; clear HO177; have BK168 := n0_; have HO174 := n1_; have HO180 := n2_; have HB := n3_; have HO183 := n4_; clear n0_ n1_ n2_ n3_ n4_; clear ho hb hg hat; have hcz24_0 : w22.cell? ⟨gb168, 0, none⟩ = some (.int .i64 a0_0) := (blk_cell BK168.out 0).trans rfl; have hcz24_1 : w22.cell? ⟨gb168, 1, none⟩ = some (.int .i64 a0_1) := (blk_cell BK168.out 1).trans rfl; have hcz24_2 : w22.cell? ⟨gb168, 2, none⟩ = some (.int .i64 a0_2) := (blk_cell BK168.out 2).trans rfl; have hcz24_3 : w22.cell? ⟨gb168, 3, none⟩ = some (.string a0_3) := (blk_cell BK168.out 3).trans rfl; have hcz24_4 : w22.cell? ⟨gb168, 4, none⟩ = some (.string a0_4) := (blk_cell BK168.out 4).trans rfl; have hcz24_5 : w22.cell? ⟨gb168, 5, none⟩ = some (.string a0_5) := (blk_cell BK168.out 5).trans rfl; have hfz24_0 := blk_frozen BK168.out 0; have hfz24_1 := blk_frozen BK168.out 1; have hfz24_2 := blk_frozen BK168.out 2; have hfz24_3 := blk_frozen BK168.out 3; have hfz24_4 := blk_frozen BK168.out 4; have hfz24_5 := blk_frozen BK168.out 5) | ((with_reducible refine gate_callee (f := 32) rfl ?_); refine goesL_ (some 20) rfl rfl Tryd.func32 (by kernel_rfl) rfl #[.string a0_3] rfl (by (try simp only [List.map_toArray, List.map_cons, List.map_nil]); first | done | rfl | (simp only [List.length_drop, List.length_take]; rfl)) ?_; (with_reducible refine (spec_l1text.calls k a0_3 t184 _ A7.out).mono ?_); rintro e w25 ⟨v185, rfl, ho0, hb⟩; refine ⟨_, rfl, ?_⟩; have n0_ := Aside0.mk (Kd.R_elder' (by (with_reducible repeat (first | apply Kd.R_alloc | apply Kd.R_drewN | apply Kd.R_drew)); exact HO174.out) (Kd.R_base ho0) hb); have n1_ := Aside0.mk (Kd.R_elder' (by (with_reducible repeat (first | apply Kd.R_alloc | apply Kd.R_drewN | apply Kd.R_drew)); exact HO180.out) (Kd.R_base ho0) hb); have n2_ := Aside0.mk (Kd.R_elder' (by (with_reducible repeat (first | apply Kd.R_alloc | apply Kd.R_drewN | apply Kd.R_drew)); exact HO183.out) (Kd.R_base ho0) hb); have n3_ := Aside0.mk (Kd.R_lower (Kd.R_new' (Kd.R_new' (Kd.R_new' ho0 (Kd.R_lt (by (with_reducible repeat (first | apply Kd.R_alloc | apply Kd.R_drewN | apply Kd.R_drew)); exact HO174.out))) (Kd.R_lt (by (with_reducible repeat (first | apply Kd.R_alloc | apply Kd.R_drewN | apply Kd.R_drew)); exact HO180.out))) (Kd.R_lt (by (with_reducible repeat (first | apply Kd.R_alloc | apply Kd.R_drewN | apply Kd.R_drew)); exact HO183.out))) (below_size (by repeat (first | (with_reducible first | exact HB.out | apply below_alloc | apply pw_below_drewN | apply below_drew1 | refine below_set ?_ GE168.out) | exact HB.out)))); have n4_ := Aside0.mk (blk_below (g := gb168) (o := .cells #[.int .i64 a0_0, .int .i64 a0_1, .int .i64 a0_2, .string a0_3, .string a0_4, .string a0_5] 36 (0, 0)) (by (with_reducible repeat (first | refine blk_drewN ?_ _ | refine blk_drew ?_ | refine blk_alloc ?_ _)); exact BK168.out) hb); have n5_ := Aside0.mk (below_step (by repeat (first | (with_reducible first | exact HB.out | apply below_alloc | apply pw_below_drewN | apply below_drew1 | refine below_set ?_ GE168.out) | exact HB.out)) hb); clear HO174; clear HO180; clear HO183; clear BK168; clear HB; have HO174 := n0_; have HO180 := n1_; have HO183 := n2_; have HO186 := n3_; have BK168 := n4_; have HB := n5_; clear n0_ n1_ n2_ n3_ n4_ n5_; (try clear hb); (try clear hb2); (try clear hk); (try clear hi); (try clear ho0); obtain ⟨Ao27, co27, eo27⟩ := Kd.R_slice HO186.out; subst eo27) | ((with_reducible refine gate_builtin (b := .append) (xs := #[.tmp 17, .tmp 20]) rfl ?_); at_builtin; refine Kd.R_append_rows (Kd.int .u8) (w0 := w) w.heap.size rfl (.tmp 17) (.tmp 20) 25 5 (.int .u8 0) 1 rfl Tryd.underlying25 info5 rfl (by decide) (by omega) v182 y181 t184 _ _ _ (fun k_ => some k_ ≠ (.slice Ao19 t172.length co19 : Value).ownBlock ∧ some k_ ≠ (.slice Ao23 t178.length co23 : Value).ownBlock ∧ some k_ ≠ (.slice Ao27 t184.length co27 : Value).ownBlock) (fun _ => False) rfl rfl ?aO ?aR (fun _ _ h => h) (fun _ h => h.elim) ?aF ?aB ?aS ?aL ?_; (case aR => repeat (first | exact (Kd.R_reads' HO186.out).2.2 | (with_reducible refine Kd.C_alloc ?_ _) | (with_reducible refine Kd.C_drewN ?_ _) | (with_reducible refine Kd.C_drew ?_))); (case aB => exact (by repeat (first | (with_reducible first | exact HB.out | apply below_alloc | apply pw_below_drewN | apply below_drew1 | refine below_set ?_ GE168.out) | exact HB.out))); (case aF => exact (fun k_ hk => ⟨Kd.fresh' (Kd.R_lt (by (with_reducible repeat (first | apply Kd.R_alloc | apply Kd.R_drewN | apply Kd.R_drew)); exact HO174.out)) k_ hk, Kd.fresh' (Kd.R_lt (by (with_reducible repeat (first | apply Kd.R_alloc | apply Kd.R_drewN | apply Kd.R_drew)); exact HO180.out)) k_ hk, Kd.fresh' (Kd.R_lt (by (with_reducible repeat (first | apply Kd.R_alloc | apply Kd.R_drewN | apply Kd.R_drew)); exact HO186.out)) k_ hk⟩)); (case aO => exact (by (with_reducible repeat (first | apply Kd.R_alloc | apply Kd.R_drewN | apply Kd.R_drew)); exact Kd.R_mono HO183.out (fun _ hk => ⟨hk.1.1, ⟨hk.1.2, hk.2⟩⟩))); (case aS => exact (below_size (by repeat (first | (with_reducible first | exact HB.out | apply below_alloc | apply pw_below_drewN | apply below_drew1 | refine below_set ?_ GE168.out) | exact HB.out)))); (case aL => have := LMc8.out; omega); intro v188 w26 ho hb hg hat; rw [← Ny187.out] at ho; have n0_ := Aside0.mk (blk_grown (g := gb168) (o := .cells #[.int .i64 a0_0, .int .i64 a0_1, .int .i64 a0_2, .string a0_3, .string a0_4, .string a0_5] 36 (0, 0)) (by (with_reducible repeat (first | refine blk_drewN ?_ _ | refine blk_drew ?_ | refine blk_alloc ?_ _)); exact BK168.out) hg (Kd.R_ne HO183.out BK168.out (by decide))); have n1_ := Aside0.mk (Kd.R_after (ok := (fun k_ => some k_ ≠ (.slice Ao23 t178.length co23 : Value).ownBlock ∧ some k_ ≠ (.slice Ao27 t184.length co27 : Value).ownBlock)) (by (with_reducible repeat (first | apply Kd.R_alloc | apply Kd.R_drewN | apply Kd.R_drew)); exact Kd.R_mono HO174.out (fun _ hk => ⟨⟨hk.1.1, hk.2⟩, hk.1.2⟩)) hg hat); have n2_ := Aside0.mk (Kd.R_after (ok := (fun k_ => some k_ ≠ (.slice Ao19 t172.length co19 : Value).ownBlock ∧ some k_ ≠ (.slice Ao27 t184.length co27 : Value).ownBlock)) (by (with_reducible repeat (first | apply Kd.R_alloc | apply Kd.R_drewN | apply Kd.R_drew)); exact Kd.R_mono HO180.out (fun _ hk => ⟨⟨hk.1.1, hk.2⟩, hk.1.2⟩)) hg hat); have n3_ := Aside0.mk (Kd.R_after (ok := (fun k_ => some k_ ≠ (.slice Ao19 t172.length co19 : Value).ownBlock ∧ some k_ ≠ (.slice Ao23 t178.length co23 : Value).ownBlock)) (by (with_reducible repeat (first | apply Kd.R_alloc | apply Kd.R_drewN | apply Kd.R_drew)); exact Kd.R_mono HO186.out (fun _ hk => ⟨⟨hk.1.1.2, hk.1.2⟩, hk.2⟩)) hg hat); have n4_ := Aside0.mk (hb); have n5_ := Aside0.mk (ho); clear BK168; clear HO174; clear HO180; clear HO186; clear HB; clear HO183; have BK168 := n0_; have HO174 := n1_; have HO180 := n2_; have HO186 := n3_; have HB := n4_; have HO189 := n5_; clear n0_ n1_ n2_ n3_ n4_ n5_; clear ho hb hg hat; have hcz28_0 : w26.cell? ⟨gb168, 0, none⟩ = some (.int .i64 a0_0) := (blk_cell BK168.out 0).trans rfl; have hcz28_1 : w26.cell? ⟨gb168, 1, none⟩ = some (.int .i64 a0_1) := (blk_cell BK168.out 1).trans rfl; have hcz28_2 : w26.cell? ⟨gb168, 2, none⟩ = some (.int .i64 a0_2) := (blk_cell BK168.out 2).trans rfl; have hcz28_3 : w26.cell? ⟨gb168, 3, none⟩ = some (.string a0_3) := (blk_cell BK168.out 3).trans rfl; have hcz28_4 : w26.cell? ⟨gb168, 4, none⟩ = some (.string a0_4) := (blk_cell BK168.out 4).trans rfl; have hcz28_5 : w26.cell? ⟨gb168, 5, none⟩ = some (.string a0_5) := (blk_cell BK168.out 5).trans rfl; have hfz28_0 := blk_frozen BK168.out 0; have hfz28_1 := blk_frozen BK168.out 1; have hfz28_2 := blk_frozen BK168.out 2; have hfz28_3 := blk_frozen BK168.out 3; have hfz28_4 := blk_frozen BK168.out 4; have hfz28_5 := blk_frozen BK168.out 5) | ((with_reducible refine gate_callee (f := 32) rfl ?_); refine goesL_ (some 25) rfl rfl Tryd.func32 (by kernel_rfl) rfl #[.string a0_4] rfl (by (try simp only [List.map_toArray, List.map_cons, List.map_nil]); first | done | rfl | (simp only [List.length_drop, List.length_take]; rfl)) ?_; (with_reducible refine (spec_l1text.calls k a0_4 t190 _ A9.out).mono ?_); rintro e w29 ⟨v191, rfl, ho0, hb⟩; refine ⟨_, rfl, ?_⟩; have n0_ := Aside0.mk (Kd.R_elder' (by (with_reducible repeat (first | apply Kd.R_alloc | apply Kd.R_drewN | apply Kd.R_drew)); exact HO174.out) (Kd.R_base ho0) hb); have n1_ := Aside0.mk (Kd.R_elder' (by (with_reducible repeat (first | apply Kd.R_alloc | apply Kd.R_drewN | apply Kd.R_drew)); exact HO180.out) (Kd.R_base ho0) hb); have n2_ := Aside0.mk (Kd.R_elder' (by (with_reducible repeat (first | apply Kd.R_alloc | apply Kd.R_drewN | apply Kd.R_drew)); exact HO186.out) (Kd.R_base ho0) hb); have n3_ := Aside0.mk (Kd.R_elder' (by (with_reducible repeat (first | apply Kd.R_alloc | apply Kd.R_drewN | apply Kd.R_drew)); exact HO189.out) (Kd.R_base ho0) hb); have n4_ := Aside0.mk (Kd.R_lower (Kd.R_new' (Kd.R_new' (Kd.R_new' (Kd.R_new' ho0 (Kd.R_lt (by (with_reducible repeat (first | apply Kd.R_alloc | apply Kd.R_drewN | apply Kd.R_drew)); exact HO174.out))) (Kd.R_lt (by (with_reducible repeat (first | apply Kd.R_alloc | apply Kd.R_drewN | apply Kd.R_drew)); exact HO180.out))) (Kd.R_lt (by (with_reducible repeat (first | apply Kd.R_alloc | apply Kd.R_drewN | apply Kd.R_drew)); exact HO186.out))) (Kd.R_lt (by (with_reducible repeat (first | apply Kd.R_alloc | apply Kd.R_drewN | apply Kd.R_drew)); exact HO189.out))) (below_size (by repeat (first | (with_reducible first | exact HB.out | apply below_alloc | apply pw_below_drewN | apply below_drew1 | refine below_set ?_ GE168.out) | exact HB.out)))); have n5_ := Aside0.mk (blk_below (g := gb168) (o := .cells #[.int .i64 a0_0, .int .i64 a0_1, .int .i64 a0_2, .string a0_3, .string a0_4, .string a0_5] 36 (0, 0)) (by (with_reducible repeat (first | refine blk_drewN ?_ _ | refine blk_drew ?_ | refine blk_alloc ?_ _)); exact BK168.out) hb); have n6_ := Aside0.mk (below_step (by repeat (first | (with_reducible first | exact HB.out | apply below_alloc | apply pw_below_drewN | apply below_drew1 | refine below_set ?_ GE168.out) | exact HB.out)) hb); clear HO174; clear HO180; clear HO186; clear HO189; clear BK168; clear HB; have HO174 := n0_; have HO180 := n1_; have HO186 := n2_; have HO189 := n3_; have HO192 := n4_; have BK168 := n5_; have HB := n6_; clear n0_ n1_ n2_ n3_ n4_ n5_ n6_; (try clear hb); (try clear hb2); (try clear hk); (try clear hi); (try clear ho0); obtain ⟨Ao31, co31, eo31⟩ := Kd.R_slice HO192.out; subst eo31) | ((with_reducible refine gate_builtin (b := .append) (xs := #[.tmp 22, .tmp 25]) rfl ?_); at_builtin; refine Kd.R_append_rows (Kd.int .u8) (w0 := w) w.heap.size rfl (.tmp 22) (.tmp 25) 25 5 (.int .u8 0) 1 rfl Tryd.underlying25 info5 rfl (by decide) (by omega) v188 y187 t190 _ _ _ (fun k_ => some k_ ≠ (.slice Ao19 t172.length co19 : Value).ownBlock ∧ some k_ ≠ (.slice Ao23 t178.length co23 : Value).ownBlock ∧ some k_ ≠ (.slice Ao27 t184.length co27 : Value).ownBlock ∧ some k_ ≠ (.slice Ao31 t190.length co31 : Value).ownBlock) (fun _ => False) rfl rfl ?aO ?aR (fun _ _ h => h) (fun _ h => h.elim) ?aF ?aB ?aS ?aL ?_; (case aR => repeat (first | exact (Kd.R_reads' HO192.out).2.2 | (with_reducible refine Kd.C_alloc ?_ _) | (with_reducible refine Kd.C_drewN ?_ _) | (with_reducible refine Kd.C_drew ?_))); (case aB => exact (by repeat (first | (with_reducible first | exact HB.out | apply below_alloc | apply pw_below_drewN | apply below_drew1 | refine below_set ?_ GE168.out) | exact HB.out))); (case aF => exact (fun k_ hk => ⟨Kd.fresh' (Kd.R_lt (by (with_reducible repeat (first | apply Kd.R_alloc | apply Kd.R_drewN | apply Kd.R_drew)); exact HO174.out)) k_ hk, Kd.fresh' (Kd.R_lt (by (with_reducible repeat (first | apply Kd.R_alloc | apply Kd.R_drewN | apply Kd.R_drew)); exact HO180.out)) k_ hk, Kd.fresh' (Kd.R_lt (by (with_reducible repeat (first | apply Kd.R_alloc | apply Kd.R_drewN | apply Kd.R_drew)); exact HO186.out)) k_ hk, Kd.fresh' (Kd.R_lt (by (with_reducible repeat (first | apply Kd.R_alloc | apply Kd.R_drewN | apply Kd.R_drew)); exact HO192.out)) k_ hk⟩)); (case aO => exact (by (with_reducible repeat (first | apply Kd.R_alloc | apply Kd.R_drewN | apply Kd.R_drew)); exact Kd.R_mono HO189.out (fun _ hk => ⟨hk.1.1, ⟨hk.1.2.1, ⟨hk.1.2.2, hk.2⟩⟩⟩))); (case aS => exact (below_size (by repeat (first | (with_reducible first | exact HB.out | apply below_alloc | apply pw_below_drewN | apply below_drew1 | refine below_set ?_ GE168.out) | exact HB.out)))); (case aL => have := LMc10.out; omega); intro v194 w30 ho hb hg hat; rw [← Ny193.out] at ho; have n0_ := Aside0.mk (blk_grown (g := gb168) (o := .cells #[.int .i64 a0_0, .int .i64 a0_1, .int .i64 a0_2, .string a0_3, .string a0_4, .string a0_5] 36 (0, 0)) (by (with_reducible repeat (first | refine blk_drewN ?_ _ | refine blk_drew ?_ | refine blk_alloc ?_ _)); exact BK168.out) hg (Kd.R_ne HO189.out BK168.out (by decide))); have n1_ := Aside0.mk (Kd.R_after (ok := (fun k_ => some k_ ≠ (.slice Ao23 t178.length co23 : Value).ownBlock ∧ some k_ ≠ (.slice Ao27 t184.length co27 : Value).ownBlock ∧ some k_ ≠ (.slice Ao31 t190.length co31 : Value).ownBlock)) (by (with_reducible repeat (first | apply Kd.R_alloc | apply Kd.R_drewN | apply Kd.R_drew)); exact Kd.R_mono HO174.out (fun _ hk => ⟨⟨hk.1.1.1, ⟨hk.1.1.2, hk.2⟩⟩, hk.1.2⟩)) hg hat); have n2_ := Aside0.mk (Kd.R_after (ok := (fun k_ => some k_ ≠ (.slice Ao19 t172.length co19 : Value).ownBlock ∧ some k_ ≠ (.slice Ao27 t184.length co27 : Value).ownBlock ∧ some k_ ≠ (.slice Ao31 t190.length co31 : Value).ownBlock)) (by (with_reducible repeat (first | apply Kd.R_alloc | apply Kd.R_drewN | apply Kd.R_drew)); exact Kd.R_mono HO180.out (fun _ hk => ⟨⟨hk.1.1.1, ⟨hk.1.1.2, hk.2⟩⟩, hk.1.2⟩)) hg hat); have n3_ := Aside0.mk (Kd.R_after (ok := (fun k_ => some k_ ≠ (.slice Ao19 t172.length co19 : Value).ownBlock ∧ some k_ ≠ (.slice Ao23 t178.length co23 : Value).ownBlock ∧ some k_ ≠ (.slice Ao31 t190.length co31 : Value).ownBlock)) (by (with_reducible repeat (first | apply Kd.R_alloc | apply Kd.R_drewN | apply Kd.R_drew)); exact Kd.R_mono HO186.out (fun _ hk => ⟨⟨hk.1.1.1, ⟨hk.1.1.2, hk.2⟩⟩, hk.1.2⟩)) hg hat); have n4_ := Aside0.mk (Kd.R_after (ok := (fun k_ => some k_ ≠ (.slice Ao19 t172.length co19 : Value).ownBlock ∧ some k_ ≠ (.slice Ao23 t178.length co23 : Value).ownBlock ∧ some k_ ≠ (.slice Ao27 t184.length co27 : Value).ownBlock)) (by (with_reducible repeat (first | apply Kd.R_alloc | apply Kd.R_drewN | apply Kd.R_drew)); exact Kd.R_mono HO192.out (fun _ hk => ⟨⟨hk.1.1.1.2, ⟨hk.1.1.2, hk.1.2⟩⟩, hk.2⟩)) hg hat); have n5_ := Aside0.mk (hb); have n6_ := Aside0.mk (ho); clear BK168; clear HO174; clear HO180; clear HO186; clear HO192; clear HB; clear HO189; have BK168 := n0_; have HO174 := n1_; have HO180 := n2_; have HO186 := n3_; have HO192 := n4_; have HB := n5_; have HO195 := n6_; clear n0_ n1_ n2_ n3_ n4_ n5_ n6_; clear ho hb hg hat; have hcz32_0 : w30.cell? ⟨gb168, 0, none⟩ = some (.int .i64 a0_0) := (blk_cell BK168.out 0).trans rfl; have hcz32_1 : w30.cell? ⟨gb168, 1, none⟩ = some (.int .i64 a0_1) := (blk_cell BK168.out 1).trans rfl; have hcz32_2 : w30.cell? ⟨gb168, 2, none⟩ = some (.int .i64 a0_2) := (blk_cell BK168.out 2).trans rfl; have hcz32_3 : w30.cell? ⟨gb168, 3, none⟩ = some (.string a0_3) := (blk_cell BK168.out 3).trans rfl; have hcz32_4 : w30.cell? ⟨gb168, 4, none⟩ = some (.string a0_4) := (blk_cell BK168.out 4).trans rfl; have hcz32_5 : w30.cell? ⟨gb168, 5, none⟩ = some (.string a0_5) := (blk_cell BK168.out 5).trans rfl; have hfz32_0 := blk_frozen BK168.out 0; have hfz32_1 := blk_frozen BK168.out 1; have hfz32_2 := blk_frozen BK168.out 2; have hfz32_3 := blk_frozen BK168.out 3; have hfz32_4 := blk_frozen BK168.out 4; have hfz32_5 := blk_frozen BK168.out 5) | ((with_reducible refine gate_callee (f := 32) rfl ?_); refine goesL_ (some 30) rfl rfl Tryd.func32 (by kernel_rfl) rfl #[.string a0_5] rfl (by (try simp only [List.map_toArray, List.map_cons, List.map_nil]); first | done | rfl | (simp only [List.length_drop, List.length_take]; rfl)) ?_; (with_reducible refine (spec_l1text.calls k a0_5 t196 _ A11.out).mono ?_); rintro e w33 ⟨v197, rfl, ho0, hb⟩; refine ⟨_, rfl, ?_⟩; have n0_ := Aside0.mk (Kd.R_elder' (by (with_reducible repeat (first | apply Kd.R_alloc | apply Kd.R_drewN | apply Kd.R_drew)); exact HO174.out) (Kd.R_base ho0) hb); have n1_ := Aside0.mk (Kd.R_elder' (by (with_reducible repeat (first | apply Kd.R_alloc | apply Kd.R_drewN | apply Kd.R_drew)); exact HO180.out) (Kd.R_base ho0) hb); have n2_ := Aside0.mk (Kd.R_elder' (by (with_reducible repeat (first | apply Kd.R_alloc | apply Kd.R_drewN | apply Kd.R_drew)); exact HO186.out) (Kd.R_base ho0) hb); have n3_ := Aside0.mk (Kd.R_elder' (by (with_reducible repeat (first | apply Kd.R_alloc | apply Kd.R_drewN | apply Kd.R_drew)); exact HO192.out) (Kd.R_base ho0) hb); have n4_ := Aside0.mk (Kd.R_elder' (by (with_reducible repeat (first | apply Kd.R_alloc | apply Kd.R_drewN | apply Kd.R_drew)); exact HO195.out) (Kd.R_base ho0) hb); have n5_ := Aside0.mk (Kd.R_lower (Kd.R_new' (Kd.R_new' (Kd.R_new' (Kd.R_new' (Kd.R_new' ho0 (Kd.R_lt (by (with_reducible repeat (first | apply Kd.R_alloc | apply Kd.R_drewN | apply Kd.R_drew)); exact HO174.out))) (Kd.R_lt (by (with_reducible repeat (first | apply Kd.R_alloc | apply Kd.R_drewN | apply Kd.R_drew)); exact HO180.out))) (Kd.R_lt (by (with_reducible repeat (first | apply Kd.R_alloc | apply Kd.R_drewN | apply Kd.R_drew)); exact HO186.out))) (Kd.R_lt (by (with_reducible repeat (first | apply Kd.R_alloc | apply Kd.R_drewN | apply Kd.R_drew)); exact HO192.out))) (Kd.R_lt (by (with_reducible repeat (first | apply Kd.R_alloc | apply Kd.R_drewN | apply Kd.R_drew)); exact HO195.out))) (below_size (by repeat (first | (with_reducible first | exact HB.out | apply below_alloc | apply pw_below_drewN | apply below_drew1 | refine below_set ?_ GE168.out) | exact HB.out)))); have n6_ := Aside0.mk (blk_below (g := gb168) (o := .cells #[.int .i64 a0_0, .int .i64 a0_1, .int .i64 a0_2, .string a0_3, .string a0_4, .string a0_5] 36 (0, 0)) (by (with_reducible repeat (first | refine blk_drewN ?_ _ | refine blk_drew ?_ | refine blk_alloc ?_ _)); exact BK168.out) hb); have n7_ := Aside0.mk (below_step (by repeat (first | (with_reducible first | exact HB.out | apply below_alloc | apply pw_below_drewN | apply below_drew1 | refine below_set ?_ GE168.out) | exact HB.out)) hb); clear HO174; clear HO180; clear HO186; clear HO192; clear HO195; clear BK168; clear HB; have HO174 := n0_; have HO180 := n1_; have HO186 := n2_; have HO192 := n3_; have HO195 := n4_; have HO198 := n5_; have BK168 := n6_; have HB := n7_; clear n0_ n1_ n2_ n3_ n4_ n5_ n6_ n7_; (try clear hb); (try clear hb2); (try clear hk); (try clear hi); (try clear ho0); obtain ⟨Ao35, co35, eo35⟩ := Kd.R_slice HO198.out; subst eo35) | ((with_reducible refine gate_builtin (b := .append) (xs := #[.tmp 27, .tmp 30]) rfl ?_); at_builtin; refine Kd.R_append_rows (Kd.int .u8) (w0 := w) w.heap.size rfl (.tmp 27) (.tmp 30) 25 5 (.int .u8 0) 1 rfl Tryd.underlying25 info5 rfl (by decide) (by omega) v194 y193 t196 _ _ _ (fun k_ => some k_ ≠ (.slice Ao19 t172.length co19 : Value).ownBlock ∧ some k_ ≠ (.slice Ao23 t178.length co23 : Value).ownBlock ∧ some k_ ≠ (.slice Ao27 t184.length co27 : Value).ownBlock ∧ some k_ ≠ (.slice Ao31 t190.length co31 : Value).ownBlock ∧ some k_ ≠ (.slice Ao35 t196.length co35 : Value).ownBlock) (fun _ => False) rfl rfl ?aO ?aR (fun _ _ h => h) (fun _ h => h.elim) ?aF ?aB ?aS ?aL ?_; (case aR => repeat (first | exact (Kd.R_reads' HO198.out).2.2 | (with_reducible refine Kd.C_alloc ?_ _) | (with_reducible refine Kd.C_drewN ?_ _) | (with_reducible refine Kd.C_drew ?_))); (case aB => exact (by repeat (first | (with_reducible first | exact HB.out | apply below_alloc | apply pw_below_drewN | apply below_drew1 | refine below_set ?_ GE168.out) | exact HB.out))); (case aF => exact (fun k_ hk => ⟨Kd.fresh' (Kd.R_lt (by (with_reducible repeat (first | apply Kd.R_alloc | apply Kd.R_drewN | apply Kd.R_drew)); exact HO174.out)) k_ hk, Kd.fresh' (Kd.R_lt (by (with_reducible repeat (first | apply Kd.R_alloc | apply Kd.R_drewN | apply Kd.R_drew)); exact HO180.out)) k_ hk, Kd.fresh' (Kd.R_lt (by (with_reducible repeat (first | apply Kd.R_alloc | apply Kd.R_drewN | apply Kd.R_drew)); exact HO186.out)) k_ hk, Kd.fresh' (Kd.R_lt (by (with_reducible repeat (first | apply Kd.R_alloc | apply Kd.R_drewN | apply Kd.R_drew)); exact HO192.out)) k_ hk, Kd.fresh' (Kd.R_lt (by (with_reducible repeat (first | apply Kd.R_alloc | apply Kd.R_drewN | apply Kd.R_drew)); exact HO198.out)) k_ hk⟩)); (case aO => exact (by (with_reducible repeat (first | apply Kd.R_alloc | apply Kd.R_drewN | apply Kd.R_drew)); exact Kd.R_mono HO195.out (fun _ hk => ⟨hk.1.1, ⟨hk.1.2.1, ⟨hk.1.2.2.1, ⟨hk.1.2.2.2, hk.2⟩⟩⟩⟩))); (case aS => exact (below_size (by repeat (first | (with_reducible first | exact HB.out | apply below_alloc | apply pw_below_drewN | apply below_drew1 | refine below_set ?_ GE168.out) | exact HB.out)))); (case aL => have := LMc12.out; omega); intro v200 w34 ho hb hg hat; rw [← Ny199.out] at ho; have n0_ := Aside0.mk (blk_grown (g := gb168) (o := .cells #[.int .i64 a0_0, .int .i64 a0_1, .int .i64 a0_2, .string a0_3, .string a0_4, .string a0_5] 36 (0, 0)) (by (with_reducible repeat (first | refine blk_drewN ?_ _ | refine blk_drew ?_ | refine blk_alloc ?_ _)); exact BK168.out) hg (Kd.R_ne HO195.out BK168.out (by decide))); have n1_ := Aside0.mk (Kd.R_after (ok := (fun k_ => some k_ ≠ (.slice Ao23 t178.length co23 : Value).ownBlock ∧ some k_ ≠ (.slice Ao27 t184.length co27 : Value).ownBlock ∧ some k_ ≠ (.slice Ao31 t190.length co31 : Value).ownBlock ∧ some k_ ≠ (.slice Ao35 t196.length co35 : Value).ownBlock)) (by (with_reducible repeat (first | apply Kd.R_alloc | apply Kd.R_drewN | apply Kd.R_drew)); exact Kd.R_mono HO174.out (fun _ hk => ⟨⟨hk.1.1.1, ⟨hk.1.1.2.1, ⟨hk.1.1.2.2, hk.2⟩⟩⟩, hk.1.2⟩)) hg hat); have n2_ := Aside0.mk (Kd.R_after (ok := (fun k_ => some k_ ≠ (.slice Ao19 t172.length co19 : Value).ownBlock ∧ some k_ ≠ (.slice Ao27 t184.length co27 : Value).ownBlock ∧ some k_ ≠ (.slice Ao31 t190.length co31 : Value).ownBlock ∧ some k_ ≠ (.slice Ao35 t196.length co35 : Value).ownBlock)) (by (with_reducible repeat (first | apply Kd.R_alloc | apply Kd.R_drewN | apply Kd.R_drew)); exact Kd.R_mono HO180.out (fun _ hk => ⟨⟨hk.1.1.1, ⟨hk.1.1.2.1, ⟨hk.1.1.2.2, hk.2⟩⟩⟩, hk.1.2⟩)) hg hat); have n3_ := Aside0.mk (Kd.R_after (ok := (fun k_ => some k_ ≠ (.slice Ao19 t172.length co19 : Value).ownBlock ∧ some k_ ≠ (.slice Ao23 t178.length co23 : Value).ownBlock ∧ some k_ ≠ (.slice Ao31 t190.length co31 : Value).ownBlock ∧ some k_ ≠ (.slice Ao35 t196.length co35 : Value).ownBlock)) (by (with_reducible repeat (first | apply Kd.R_alloc | apply Kd.R_drewN | apply Kd.R_drew)); exact Kd.R_mono HO186.out (fun _ hk => ⟨⟨hk.1.1.1, ⟨hk.1.1.2.1, ⟨hk.1.1.2.2, hk.2⟩⟩⟩, hk.1.2⟩)) hg hat); have n4_ := Aside0.mk (Kd.R_after (ok := (fun k_ => some k_ ≠ (.slice Ao19 t172.length co19 : Value).ownBlock ∧ some k_ ≠ (.slice Ao23 t178.length co23 : Value).ownBlock ∧ some k_ ≠ (.slice Ao27 t184.length co27 : Value).ownBlock ∧ some k_ ≠ (.slice Ao35 t196.length co35 : Value).ownBlock)) (by (with_reducible repeat (first | apply Kd.R_alloc | apply Kd.R_drewN | apply Kd.R_drew)); exact Kd.R_mono HO192.out (fun _ hk => ⟨⟨hk.1.1.1, ⟨hk.1.1.2.1, ⟨hk.1.1.2.2, hk.2⟩⟩⟩, hk.1.2⟩)) hg hat); have n5_ := Aside0.mk (Kd.R_after (ok := (fun k_ => some k_ ≠ (.slice Ao19 t172.length co19 : Value).ownBlock ∧ some k_ ≠ (.slice Ao23 t178.length co23 : Value).ownBlock ∧ some k_ ≠ (.slice Ao27 t184.length co27 : Value).ownBlock ∧ some k_ ≠ (.slice Ao31 t190.length co31 : Value).ownBlock)) (by (with_reducible repeat (first | apply Kd.R_alloc | apply Kd.R_drewN | apply Kd.R_drew)); exact Kd.R_mono HO198.out (fun _ hk => ⟨⟨hk.1.1.1.1.2, ⟨hk.1.1.1.2, ⟨hk.1.1.2, hk.1.2⟩⟩⟩, hk.2⟩)) hg hat); have n6_ := Aside0.mk (hb); have n7_ := Aside0.mk (ho); clear BK168; clear HO174; clear HO180; clear HO186; clear HO192; clear HO198; clear HB; clear HO195; have BK168 := n0_; have HO174 := n1_; have HO180 := n2_; have HO186 := n3_; have HO192 := n4_; have HO198 := n5_; have HB := n6_; have HO201 := n7_; clear n0_ n1_ n2_ n3_ n4_ n5_ n6_ n7_; clear ho hb hg hat))
            go_ret
            exact ⟨_, by first | rfl | (simp [errW_none, errW_some] <;> rfl) | (simp [*, errW_none, errW_some] <;> rfl), by (with_reducible repeat (first | apply Kd.R_alloc | apply Kd.R_drewN | apply Kd.R_drew)); exact Kd.R_mono HO201.out (fun _ hk => trivial), by repeat (first | (with_reducible first | exact HB.out | apply below_alloc | apply pw_below_drewN | apply below_drew1 | refine below_set ?_ GE168.out) | exact HB.out)⟩
          · rw [if_neg c12] at H
            exact absurd H (by simp)
        · rw [if_neg c10] at H
          exact absurd H (by simp)
      · rw [if_neg c8] at H
        exact absurd H (by simp)
    · rw [if_neg c6] at H
      exact absurd H (by simp)
  · rw [if_neg c4] at H
    exact absurd H (by simp)

/-! ### spec_l1entryBytes: function 39 -/
def spec_l1entryBytes.f (k : Nat) (a0_0 : Int) (a0_1 : Int) (a0_2 : Int) (a0_3 : Int) (a0_4 : ByteArray) (a0_5 : ByteArray) (a0_6 : ByteArray) : Option (List Int) := (spec_l1num.f k a0_0).bind fun t203 => ((spec_l1cmdBytes.f k a0_1 a0_2 a0_3 a0_4 a0_5 a0_6).bind fun t206 => (if t203.length + t206.length < 140737488355328 then (some (t203 ++ t206)) else (none)))
theorem spec_l1entryBytes.mono : ∀ a0 a1 a2 a3 a4 a5 a6 k, LeO (spec_l1entryBytes.f k a0 a1 a2 a3 a4 a5 a6) (spec_l1entryBytes.f (k + 1) a0 a1 a2 a3 a4 a5 a6) := by
  intro a0 a1 a2 a3 a4 a5 a6 k
  unfold spec_l1entryBytes.f
  repeat' first
      | (with_reducible exact spec_l1cmdBytes.mono _ _ _ _ _ _ _)
      | (with_reducible exact spec_l1num.mono _ _)
      | (with_reducible exact LeO.refl _)
      | (with_reducible exact LeO.none _)
      | (with_reducible refine LeO.ite ?_ ?_)
      | (with_reducible refine LeO.bind ?_ (fun _ => ?_))
      | exact spec_l1cmdBytes.mono _ _ _ _ _ _ _
      | exact spec_l1num.mono _ _
      | exact LeO.none _
      | refine LeO.ite ?_ ?_
      | refine LeO.bind ?_ (fun _ => ?_)
set_option maxHeartbeats 8000000 in
set_option maxRecDepth 100000 in
theorem spec_l1entryBytes.calls (k : Nat) (a0_0 : Int) (a0_1 : Int) (a0_2 : Int) (a0_3 : Int) (a0_4 : ByteArray) (a0_5 : ByteArray) (a0_6 : ByteArray) (r : List Int) (w : World) (h : spec_l1entryBytes.f k a0_0 a0_1 a0_2 a0_3 a0_4 a0_5 a0_6 = some r) :
    Calls Tryd.prog 39 #[.agg #[.int .i64 a0_0, .int .i64 a0_1, .int .i64 a0_2, .int .i64 a0_3, .string a0_4, .string a0_5, .string a0_6]] w fun e w' => ∃ v0_ : Value, e = .returned (v0_) ∧ Kd.R (Kd.int .u8) 5 w' w.heap.size (fun _ => True) v0_ r ∧ Below w.heap.size w w' := by
  have hu76 := Tryd.underlying76
  have hu36 := Tryd.underlying36
  have HB := Aside0.mk (Below.refl w.heap.size w)
  have H : ((spec_l1num.f k a0_0).bind fun t203 => ((spec_l1cmdBytes.f k a0_1 a0_2 a0_3 a0_4 a0_5 a0_6).bind fun t206 => (if t203.length + t206.length < 140737488355328 then (some (t203 ++ t206)) else (none)))) = some r := h
  clear h
  replace H := Option.bind_eq_some_iff.mp H
  obtain ⟨t203, A20, H⟩ := H
  replace H : ((spec_l1cmdBytes.f k a0_1 a0_2 a0_3 a0_4 a0_5 a0_6).bind fun t206 => (if t203.length + t206.length < 140737488355328 then (some (t203 ++ t206)) else (none))) = some r := H
  have A2 := Aside0.mk A20
  clear A20
  replace H := Option.bind_eq_some_iff.mp H
  obtain ⟨t206, A30, H⟩ := H
  replace H : (if t203.length + t206.length < 140737488355328 then (some (t203 ++ t206)) else (none)) = some r := H
  have A3 := Aside0.mk A30
  clear A30
  by_cases c4 : t203.length + t206.length < 140737488355328
  · rw [if_pos c4] at H
    have LMc4 := Aside0.mk c4
    clear c4
    obtain ⟨y209, hy209⟩ : ∃ y_ : List Int, y_ = (t203 ++ t206) := ⟨_, rfl⟩
    replace H : (some y209) = some r := by first | (rw [hy209]; with_reducible exact H) | (have H2_ := (Option.bind_some _ _).symm.trans H; rw [hy209]; with_reducible exact H2_) | (have H2_ := (Option.bind_some _ _).symm.trans H; with_reducible exact H2_) | with_reducible exact H | (rw [hy209]; exact H) | exact H
    have Ny209 := Aside0.mk hy209
    clear hy209
    obtain rfl := Option.some.inj H
    go_enter Tryd.func39, Tryd.ntmps39
    go_wp2_with (first | ((with_reducible refine gate_dst (N := 1) rfl ?_); refine box_event ?hg (N := 1) ?hd (cs := #[.int .i64 a0_0, .int .i64 a0_1, .int .i64 a0_2, .int .i64 a0_3, .string a0_4, .string a0_5, .string a0_6]) (t := 76) ?hr ?_; (case hd => rfl); (case hg => rfl); (case hr => first | (go_simp; done) | (go_simp; rfl)); intro gb202 hg w5 hbox hb; have n0_ := Aside0.mk (below_step (by repeat (first | (with_reducible first | exact HB.out | apply below_alloc | apply pw_below_drewN | apply below_drew1) | exact HB.out)) hb); have n1_ := Aside0.mk (hbox); have n2_ := Aside0.mk ((by rw [hg]; exact (below_size (by repeat (first | (with_reducible first | exact HB.out | apply below_alloc | apply pw_below_drewN | apply below_drew1) | exact HB.out))) : w.heap.size ≤ gb202)); have n3_ := Aside0.mk ((by rw [hg]; exact (below_size (by repeat (first | (with_reducible first | exact HB.out | apply below_alloc | apply pw_below_drewN | apply below_drew1) | exact HB.out))) : w.heap.size ≤ gb202)); clear HB; have HB := n0_; have BK202 := n1_; have GW202 := n2_; have GE202 := n3_; clear n0_ n1_ n2_ n3_; clear hb hbox hg; have hcz6_0 : w5.cell? ⟨gb202, 0, none⟩ = some (.int .i64 a0_0) := (blk_cell BK202.out 0).trans rfl; have hcz6_1 : w5.cell? ⟨gb202, 1, none⟩ = some (.int .i64 a0_1) := (blk_cell BK202.out 1).trans rfl; have hcz6_2 : w5.cell? ⟨gb202, 2, none⟩ = some (.int .i64 a0_2) := (blk_cell BK202.out 2).trans rfl; have hcz6_3 : w5.cell? ⟨gb202, 3, none⟩ = some (.int .i64 a0_3) := (blk_cell BK202.out 3).trans rfl; have hcz6_4 : w5.cell? ⟨gb202, 4, none⟩ = some (.string a0_4) := (blk_cell BK202.out 4).trans rfl; have hcz6_5 : w5.cell? ⟨gb202, 5, none⟩ = some (.string a0_5) := (blk_cell BK202.out 5).trans rfl; have hcz6_6 : w5.cell? ⟨gb202, 6, none⟩ = some (.string a0_6) := (blk_cell BK202.out 6).trans rfl; have hfz6_0 := blk_frozen BK202.out 0; have hfz6_1 := blk_frozen BK202.out 1; have hfz6_2 := blk_frozen BK202.out 2; have hfz6_3 := blk_frozen BK202.out 3; have hfz6_4 := blk_frozen BK202.out 4; have hfz6_5 := blk_frozen BK202.out 5; have hfz6_6 := blk_frozen BK202.out 6) | ((with_reducible refine gate_callee (f := 31) rfl ?_); refine goesL_ (some 6) rfl rfl Tryd.func31 (by kernel_rfl) rfl #[.int .i64 a0_0] rfl (by (try simp only [List.map_toArray, List.map_cons, List.map_nil]); first | done | rfl | (simp only [List.length_drop, List.length_take]; rfl)) ?_; (with_reducible refine (spec_l1num.calls k a0_0 t203 _ A2.out).mono ?_); rintro e w7 ⟨v204, rfl, ho0, hb⟩; refine ⟨_, rfl, ?_⟩; have n0_ := Aside0.mk (Kd.R_lower ho0 (below_size (by repeat (first | (with_reducible first | exact HB.out | apply below_alloc | apply pw_below_drewN | apply below_drew1 | refine below_set ?_ GE202.out) | exact HB.out)))); have n1_ := Aside0.mk (blk_below (g := gb202) (o := .cells #[.int .i64 a0_0, .int .i64 a0_1, .int .i64 a0_2, .int .i64 a0_3, .string a0_4, .string a0_5, .string a0_6] 76 (0, 0)) (by (with_reducible repeat (first | refine blk_drewN ?_ _ | refine blk_drew ?_ | refine blk_alloc ?_ _)); exact BK202.out) hb); have n2_ := Aside0.mk (below_step (by repeat (first | (with_reducible first | exact HB.out | apply below_alloc | apply pw_below_drewN | apply below_drew1 | refine below_set ?_ GE202.out) | exact HB.out)) hb); clear BK202; clear HB; have HO205 := n0_; have BK202 := n1_; have HB := n2_; clear n0_ n1_ n2_; (try clear hb); (try clear hb2); (try clear hk); (try clear hi); (try clear ho0); have hcz8_0 : w7.cell? ⟨gb202, 0, none⟩ = some (.int .i64 a0_0) := (blk_cell BK202.out 0).trans rfl; have hcz8_1 : w7.cell? ⟨gb202, 1, none⟩ = some (.int .i64 a0_1) := (blk_cell BK202.out 1).trans rfl; have hcz8_2 : w7.cell? ⟨gb202, 2, none⟩ = some (.int .i64 a0_2) := (blk_cell BK202.out 2).trans rfl; have hcz8_3 : w7.cell? ⟨gb202, 3, none⟩ = some (.int .i64 a0_3) := (blk_cell BK202.out 3).trans rfl; have hcz8_4 : w7.cell? ⟨gb202, 4, none⟩ = some (.string a0_4) := (blk_cell BK202.out 4).trans rfl; have hcz8_5 : w7.cell? ⟨gb202, 5, none⟩ = some (.string a0_5) := (blk_cell BK202.out 5).trans rfl; have hcz8_6 : w7.cell? ⟨gb202, 6, none⟩ = some (.string a0_6) := (blk_cell BK202.out 6).trans rfl; have hfz8_0 := blk_frozen BK202.out 0; have hfz8_1 := blk_frozen BK202.out 1; have hfz8_2 := blk_frozen BK202.out 2; have hfz8_3 := blk_frozen BK202.out 3; have hfz8_4 := blk_frozen BK202.out 4; have hfz8_5 := blk_frozen BK202.out 5; have hfz8_6 := blk_frozen BK202.out 6) | ((with_reducible refine gate_callee (f := 36) rfl ?_); refine goesL_ (some 10) rfl rfl Tryd.func36 (by kernel_rfl) rfl #[.agg #[.int .i64 a0_1, .int .i64 a0_2, .int .i64 a0_3, .string a0_4, .string a0_5, .string a0_6]] rfl (by (try simp only [List.map_toArray, List.map_cons, List.map_nil]); first | done | rfl | (simp only [List.length_drop, List.length_take]; rfl)) ?_; (with_reducible refine (spec_l1cmdBytes.calls k a0_1 a0_2 a0_3 a0_4 a0_5 a0_6 t206 _ A3.out).mono ?_); rintro e w9 ⟨v207, rfl, ho0, hb⟩; refine ⟨_, rfl, ?_⟩; have n0_ := Aside0.mk (Kd.R_elder' (by (with_reducible repeat (first | apply Kd.R_alloc | apply Kd.R_drewN | apply Kd.R_drew)); exact HO205.out) (Kd.R_base ho0) hb); have n1_ := Aside0.mk (Kd.R_lower (Kd.R_new' ho0 (Kd.R_lt (by (with_reducible repeat (first | apply Kd.R_alloc | apply Kd.R_drewN | apply Kd.R_drew)); exact HO205.out))) (below_size (by repeat (first | (with_reducible first | exact HB.out | apply below_alloc | apply pw_below_drewN | apply below_drew1 | refine below_set ?_ GE202.out) | exact HB.out)))); have n2_ := Aside0.mk (blk_below (g := gb202) (o := .cells #[.int .i64 a0_0, .int .i64 a0_1, .int .i64 a0_2, .int .i64 a0_3, .string a0_4, .string a0_5, .string a0_6] 76 (0, 0)) (by (with_reducible repeat (first | refine blk_drewN ?_ _ | refine blk_drew ?_ | refine blk_alloc ?_ _)); exact BK202.out) hb); have n3_ := Aside0.mk (below_step (by repeat (first | (with_reducible first | exact HB.out | apply below_alloc | apply pw_below_drewN | apply below_drew1 | refine below_set ?_ GE202.out) | exact HB.out)) hb); clear HO205; clear BK202; clear HB; have HO205 := n0_; have HO208 := n1_; have BK202 := n2_; have HB := n3_; clear n0_ n1_ n2_ n3_; (try clear hb); (try clear hb2); (try clear hk); (try clear hi); (try clear ho0); obtain ⟨Ao11, co11, eo11⟩ := Kd.R_slice HO208.out; subst eo11) | ((with_reducible refine gate_builtin (b := .append) (xs := #[.tmp 7, .tmp 10]) rfl ?_); at_builtin; refine Kd.R_append_rows (Kd.int .u8) (w0 := w) w.heap.size rfl (.tmp 7) (.tmp 10) 25 5 (.int .u8 0) 1 rfl Tryd.underlying25 info5 rfl (by decide) (by omega) v204 t203 t206 _ _ _ (fun k_ => some k_ ≠ (.slice Ao11 t206.length co11 : Value).ownBlock) (fun _ => False) rfl rfl ?aO ?aR (fun _ _ h => h) (fun _ h => h.elim) ?aF ?aB ?aS ?aL ?_; (case aR => repeat (first | exact (Kd.R_reads' HO208.out).2.2 | (with_reducible refine Kd.C_alloc ?_ _) | (with_reducible refine Kd.C_drewN ?_ _) | (with_reducible refine Kd.C_drew ?_))); (case aB => exact (by repeat (first | (with_reducible first | exact HB.out | apply below_alloc | apply pw_below_drewN | apply below_drew1 | refine below_set ?_ GE202.out) | exact HB.out))); (case aF => exact (fun k_ hk => Kd.fresh' (Kd.R_lt (by (with_reducible repeat (first | apply Kd.R_alloc | apply Kd.R_drewN | apply Kd.R_drew)); exact HO208.out)) k_ hk)); (case aO => exact (by (with_reducible repeat (first | apply Kd.R_alloc | apply Kd.R_drewN | apply Kd.R_drew)); exact Kd.R_mono HO205.out (fun _ hk => hk.2))); (case aS => exact (below_size (by repeat (first | (with_reducible first | exact HB.out | apply below_alloc | apply pw_below_drewN | apply below_drew1 | refine below_set ?_ GE202.out) | exact HB.out)))); (case aL => have := LMc4.out; omega); intro v210 w10 ho hb hg hat; rw [← Ny209.out] at ho; have n0_ := Aside0.mk (blk_grown (g := gb202) (o := .cells #[.int .i64 a0_0, .int .i64 a0_1, .int .i64 a0_2, .int .i64 a0_3, .string a0_4, .string a0_5, .string a0_6] 76 (0, 0)) (by (with_reducible repeat (first | refine blk_drewN ?_ _ | refine blk_drew ?_ | refine blk_alloc ?_ _)); exact BK202.out) hg (Kd.R_ne HO205.out BK202.out (by decide))); have n1_ := Aside0.mk (Kd.R_after (ok := (fun _ => True)) (by (with_reducible repeat (first | apply Kd.R_alloc | apply Kd.R_drewN | apply Kd.R_drew)); exact HO208.out) hg hat); have n2_ := Aside0.mk (hb); have n3_ := Aside0.mk (ho); clear BK202; clear HO208; clear HB; clear HO205; have BK202 := n0_; have HO208 := n1_; have HB := n2_; have HO211 := n3_; clear n0_ n1_ n2_ n3_; clear ho hb hg hat))
    go_ret
    exact ⟨_, by first | rfl | (simp [errW_none, errW_some] <;> rfl) | (simp [*, errW_none, errW_some] <;> rfl), by (with_reducible repeat (first | apply Kd.R_alloc | apply Kd.R_drewN | apply Kd.R_drew)); exact Kd.R_mono HO211.out (fun _ hk => trivial), by repeat (first | (with_reducible first | exact HB.out | apply below_alloc | apply pw_below_drewN | apply below_drew1 | refine below_set ?_ GE202.out) | exact HB.out)⟩
  · rw [if_neg c4] at H
    exact absurd H (by simp)

/-! ### spec_EncodeMsg: function 19 -/
mutual
def spec_EncodeMsg.l0 : Nat → List Int → List Int → Int → Int → Int → Int → Int → Int → Int → Int → Int → Int → List (S76) → Option (List Int)
  | 0, _, _, _, _, _, _, _, _, _, _, _, _, _ => none
  | k + 1, x3, x4, x5, x213000, x213001, x213002, x213003, x213004, x213005, x213006, x213007, x213008, x213009 => if x5 < (x3.length : Int) then (if 0 ≤ x5 then ((spec_l1num.f k (rd x3 x5)).bind fun t224 => (if x4.length + t224.length < 140737488355328 then (spec_EncodeMsg.l0 k x3 (x4 ++ t224) (wrap64 (x5 + 1)) x213000 x213001 x213002 x213003 x213004 x213005 x213006 x213007 x213008 x213009) else (none))) else (none)) else (spec_EncodeMsg.l1 k x4 0 x213000 x213001 x213002 x213003 x213004 x213005 x213006 x213007 x213008 x213009)
def spec_EncodeMsg.l1 : Nat → List Int → Int → Int → Int → Int → Int → Int → Int → Int → Int → Int → List (S76) → Option (List Int)
  | 0, _, _, _, _, _, _, _, _, _, _, _, _ => none
  | k + 1, x4, x6, x213000, x213001, x213002, x213003, x213004, x213005, x213006, x213007, x213008, x213009 => if x6 < (x213009.length : Int) then (if 0 ≤ x6 then ((spec_l1entryBytes.f k ((rd_T76 x213009 x6).f0) ((rd_T76 x213009 x6).f1.f0) ((rd_T76 x213009 x6).f1.f1) ((rd_T76 x213009 x6).f1.f2) ((rd_T76 x213009 x6).f1.f3) ((rd_T76 x213009 x6).f1.f4) ((rd_T76 x213009 x6).f1.f5)).bind fun t231 => (if x4.length + t231.length < 140737488355328 then (spec_EncodeMsg.l1 k (x4 ++ t231) (wrap64 (x6 + 1)) x213000 x213001 x213002 x213003 x213004 x213005 x213006 x213007 x213008 x213009) else (none))) else (none)) else ((spec_l1frame.f k x4).bind fun t237 => (some t237))
end
def spec_EncodeMsg.f (k : Nat) (a0_0 : Int) (a0_1 : Int) (a0_2 : Int) (a0_3 : Int) (a0_4 : Int) (a0_5 : Int) (a0_6 : Int) (a0_7 : Int) (a0_8 : Int) (l0_9 : List (S76)) : Option (List Int) := (spec_MsgFault.f k a0_0 a0_1 a0_2 a0_3 a0_4 a0_5 a0_6 a0_7 a0_8 l0_9).bind fun t213 => (if t213 = 0 then (spec_EncodeMsg.l0 k (([a0_1, a0_2, a0_3, a0_4, a0_5, a0_6, a0_7, a0_8, (l0_9.length : Int)] : List Int)) (([(a0_0) % 256] : List Int)) 0 a0_0 a0_1 a0_2 a0_3 a0_4 a0_5 a0_6 a0_7 a0_8 l0_9) else (some (([] : List Int))))
theorem spec_EncodeMsg.mono_l : ∀ k, (∀ y0 y1 y2 y3 y4 y5 y6 y7 y8 y9 y10 y11 y12, LeO (spec_EncodeMsg.l0 k y0 y1 y2 y3 y4 y5 y6 y7 y8 y9 y10 y11 y12) (spec_EncodeMsg.l0 (k + 1) y0 y1 y2 y3 y4 y5 y6 y7 y8 y9 y10 y11 y12)) ∧ (∀ y0 y1 y2 y3 y4 y5 y6 y7 y8 y9 y10 y11, LeO (spec_EncodeMsg.l1 k y0 y1 y2 y3 y4 y5 y6 y7 y8 y9 y10 y11) (spec_EncodeMsg.l1 (k + 1) y0 y1 y2 y3 y4 y5 y6 y7 y8 y9 y10 y11))
  | 0 => ⟨fun _ _ _ _ _ _ _ _ _ _ _ _ _ r h => by simp [spec_EncodeMsg.l0] at h, fun _ _ _ _ _ _ _ _ _ _ _ _ r h => by simp [spec_EncodeMsg.l1] at h⟩
  | k + 1 => by
    obtain ⟨ih0, ih1⟩ := spec_EncodeMsg.mono_l k
    refine ⟨?_, ?_⟩
    · intro y0 y1 y2 y3 y4 y5 y6 y7 y8 y9 y10 y11 y12
      unfold spec_EncodeMsg.l0
      repeat' first
      | (with_reducible exact ih0 _ _ _ _ _ _ _ _ _ _ _ _ _)
      | (with_reducible exact ih1 _ _ _ _ _ _ _ _ _ _ _ _)
      | (with_reducible exact spec_MsgFault.mono _ _ _ _ _ _ _ _ _ _ _)
      | (with_reducible exact spec_l1entryBytes.mono _ _ _ _ _ _ _ _)
      | (with_reducible exact spec_l1frame.mono _ _)
      | (with_reducible exact spec_l1num.mono _ _)
      | (with_reducible exact LeO.refl _)
      | (with_reducible exact LeO.none _)
      | (with_reducible refine LeO.ite ?_ ?_)
      | (with_reducible refine LeO.bind ?_ (fun _ => ?_))
      | exact ih0 _ _ _ _ _ _ _ _ _ _ _ _ _
      | exact ih1 _ _ _ _ _ _ _ _ _ _ _ _
      | exact spec_MsgFault.mono _ _ _ _ _ _ _ _ _ _ _
      | exact spec_l1entryBytes.mono _ _ _ _ _ _ _ _
      | exact spec_l1frame.mono _ _
      | exact spec_l1num.mono _ _
      | exact LeO.none _
      | refine LeO.ite ?_ ?_
      | refine LeO.bind ?_ (fun _ => ?_)
    · intro y0 y1 y2 y3 y4 y5 y6 y7 y8 y9 y10 y11
      unfold spec_EncodeMsg.l1
      repeat' first
      | (with_reducible exact ih0 _ _ _ _ _ _ _ _ _ _ _ _ _)
      | (with_reducible exact ih1 _ _ _ _ _ _ _ _ _ _ _ _)
      | (with_reducible exact spec_MsgFault.mono _ _ _ _ _ _ _ _ _ _ _)
      | (with_reducible exact spec_l1entryBytes.mono _ _ _ _ _ _ _ _)
      | (with_reducible exact spec_l1frame.mono _ _)
      | (with_reducible exact spec_l1num.mono _ _)
      | (with_reducible exact LeO.refl _)
      | (with_reducible exact LeO.none _)
      | (with_reducible refine LeO.ite ?_ ?_)
      | (with_reducible refine LeO.bind ?_ (fun _ => ?_))
      | exact ih0 _ _ _ _ _ _ _ _ _ _ _ _ _
      | exact ih1 _ _ _ _ _ _ _ _ _ _ _ _
      | exact spec_MsgFault.mono _ _ _ _ _ _ _ _ _ _ _
      | exact spec_l1entryBytes.mono _ _ _ _ _ _ _ _
      | exact spec_l1frame.mono _ _
      | exact spec_l1num.mono _ _
      | exact LeO.none _
      | refine LeO.ite ?_ ?_
      | refine LeO.bind ?_ (fun _ => ?_)
theorem spec_EncodeMsg.mono : ∀ a0 a1 a2 a3 a4 a5 a6 a7 a8 a9 k, LeO (spec_EncodeMsg.f k a0 a1 a2 a3 a4 a5 a6 a7 a8 a9) (spec_EncodeMsg.f (k + 1) a0 a1 a2 a3 a4 a5 a6 a7 a8 a9) := by
  intro a0 a1 a2 a3 a4 a5 a6 a7 a8 a9 k
  obtain ⟨ih0, ih1⟩ := spec_EncodeMsg.mono_l k
  unfold spec_EncodeMsg.f
  repeat' first
      | (with_reducible exact ih0 _ _ _ _ _ _ _ _ _ _ _ _ _)
      | (with_reducible exact ih1 _ _ _ _ _ _ _ _ _ _ _ _)
      | (with_reducible exact spec_MsgFault.mono _ _ _ _ _ _ _ _ _ _ _)
      | (with_reducible exact spec_l1entryBytes.mono _ _ _ _ _ _ _ _)
      | (with_reducible exact spec_l1frame.mono _ _)
      | (with_reducible exact spec_l1num.mono _ _)
      | (with_reducible exact LeO.refl _)
      | (with_reducible exact LeO.none _)
      | (with_reducible refine LeO.ite ?_ ?_)
      | (with_reducible refine LeO.bind ?_ (fun _ => ?_))
      | exact ih0 _ _ _ _ _ _ _ _ _ _ _ _ _
      | exact ih1 _ _ _ _ _ _ _ _ _ _ _ _
      | exact spec_MsgFault.mono _ _ _ _ _ _ _ _ _ _ _
      | exact spec_l1entryBytes.mono _ _ _ _ _ _ _ _
      | exact spec_l1frame.mono _ _
      | exact spec_l1num.mono _ _
      | exact LeO.none _
      | refine LeO.ite ?_ ?_
      | refine LeO.bind ?_ (fun _ => ?_)
set_option maxHeartbeats 8000000 in
set_option maxRecDepth 100000 in
theorem spec_EncodeMsg.calls (k : Nat) (a0_0 : Int) (a0_1 : Int) (a0_2 : Int) (a0_3 : Int) (a0_4 : Int) (a0_5 : Int) (a0_6 : Int) (a0_7 : Int) (a0_8 : Int) (A0_9 : Option Addr) (c0_9 : Nat) (l0_9 : List (S76)) (r : List Int) (w : World) (hr0_9 : Kd.C k76 w A0_9 l0_9.length l0_9) (hc0_9 : l0_9.length ≤ c0_9) (h : spec_EncodeMsg.f k a0_0 a0_1 a0_2 a0_3 a0_4 a0_5 a0_6 a0_7 a0_8 l0_9 = some r) :
    Calls Tryd.prog 19 #[.agg #[.int .i64 a0_0, .int .i64 a0_1, .int .i64 a0_2, .int .i64 a0_3, .int .i64 a0_4, .int .i64 a0_5, .int .i64 a0_6, .int .i64 a0_7, .int .i64 a0_8, .slice A0_9 l0_9.length c0_9]] w fun e w' => ∃ v0_ : Value, e = .returned (v0_) ∧ Kd.R (Kd.int .u8) 5 w' w.heap.size (fun _ => True) v0_ r ∧ Below w.heap.size w w' := by
  have hu46 := Tryd.underlying46
  have hu76 := Tryd.underlying76
  have HR0_9 := Aside0.mk hr0_9
  have HC0_9 := Aside0.mk hc0_9
  clear hr0_9 hc0_9
  have HB := Aside0.mk (Below.refl w.heap.size w)
  have H : ((spec_MsgFault.f k a0_0 a0_1 a0_2 a0_3 a0_4 a0_5 a0_6 a0_7 a0_8 l0_9).bind fun t213 => (if t213 = 0 then (spec_EncodeMsg.l0 k (([a0_1, a0_2, a0_3, a0_4, a0_5, a0_6, a0_7, a0_8, (l0_9.length : Int)] : List Int)) (([(a0_0) % 256] : List Int)) 0 a0_0 a0_1 a0_2 a0_3 a0_4 a0_5 a0_6 a0_7 a0_8 l0_9) else (some (([] : List Int))))) = some r := h
  clear h
  replace H := Option.bind_eq_some_iff.mp H
  obtain ⟨t213, A20, H⟩ := H
  replace H : (if t213 = 0 then (spec_EncodeMsg.l0 k (([a0_1, a0_2, a0_3, a0_4, a0_5, a0_6, a0_7, a0_8, (l0_9.length : Int)] : List Int)) (([(a0_0) % 256] : List Int)) 0 a0_0 a0_1 a0_2 a0_3 a0_4 a0_5 a0_6 a0_7 a0_8 l0_9) else (some (([] : List Int)))) = some r := H
  have A2 := Aside0.mk A20
  clear A20
  by_cases c3 : t213 = 0
  · rw [if_pos c3] at H
    have c3b0 : (t213 == 0) = true := beq_iff_eq.mpr c3
    have c3b1 : (t213 != 0) = false := bne_eq_false_iff_eq.mpr c3
    clear c3
    obtain ⟨y217, hy217⟩ : ∃ y_ : List Int, y_ = (([a0_1, a0_2, a0_3, a0_4, a0_5, a0_6, a0_7, a0_8, (l0_9.length : Int)] : List Int)) := ⟨_, rfl⟩
    replace H : (spec_EncodeMsg.l0 k y217 (([(a0_0) % 256] : List Int)) 0 a0_0 a0_1 a0_2 a0_3 a0_4 a0_5 a0_6 a0_7 a0_8 l0_9) = some r := by first | (rw [hy217]; with_reducible exact H) | (have H2_ := (Option.bind_some _ _).symm.trans H; rw [hy217]; with_reducible exact H2_) | (have H2_ := (Option.bind_some _ _).symm.trans H; with_reducible exact H2_) | with_reducible exact H | (rw [hy217]; exact H) | exact H
    have Ny217 := Aside0.mk hy217
    clear hy217
    obtain ⟨y220, hy220⟩ : ∃ y_ : List Int, y_ = (([(a0_0) % 256] : List Int)) := ⟨_, rfl⟩
    replace H : (spec_EncodeMsg.l0 k y217 y220 0 a0_0 a0_1 a0_2 a0_3 a0_4 a0_5 a0_6 a0_7 a0_8 l0_9) = some r := by first | (rw [hy220]; with_reducible exact H) | (have H2_ := (Option.bind_some _ _).symm.trans H; rw [hy220]; with_reducible exact H2_) | (have H2_ := (Option.bind_some _ _).symm.trans H; with_reducible exact H2_) | with_reducible exact H | (rw [hy220]; exact H) | exact H
    have Ny220 := Aside0.mk hy220
    clear hy220
    have H' := Aside0.mk H
    clear H
    go_enter Tryd.func19, Tryd.ntmps19
    go_wp2_with (first | ((with_reducible refine gate_dst (N := 1) rfl ?_); refine box_event ?hg (N := 1) ?hd (cs := #[.int .i64 a0_0, .int .i64 a0_1, .int .i64 a0_2, .int .i64 a0_3, .int .i64 a0_4, .int .i64 a0_5, .int .i64 a0_6, .int .i64 a0_7, .int .i64 a0_8, .slice A0_9 l0_9.length c0_9]) (t := 46) ?hr ?_; (case hd => rfl); (case hg => rfl); (case hr => first | (go_simp; done) | (go_simp; rfl)); intro gb212 hg w4 hbox hb; have n0_ := Aside0.mk (below_step (by repeat (first | (with_reducible first | exact HB.out | apply below_alloc | apply pw_below_drewN | apply below_drew1) | exact HB.out)) hb); have n1_ := Aside0.mk (hbox); have n2_ := Aside0.mk ((by rw [hg]; exact (below_size (by repeat (first | (with_reducible first | exact HB.out | apply below_alloc | apply pw_below_drewN | apply below_drew1) | exact HB.out))) : w.heap.size ≤ gb212)); have n3_ := Aside0.mk ((by rw [hg]; exact (below_size (by repeat (first | (with_reducible first | exact HB.out | apply below_alloc | apply pw_below_drewN | apply below_drew1) | exact HB.out))) : w.heap.size ≤ gb212)); clear HB; have HB := n0_; have BK212 := n1_; have GW212 := n2_; have GE212 := n3_; clear n0_ n1_ n2_ n3_; clear hb hbox hg; have hcz5_0 : w4.cell? ⟨gb212, 0, none⟩ = some (.int .i64 a0_0) := (blk_cell BK212.out 0).trans rfl; have hcz5_1 : w4.cell? ⟨gb212, 1, none⟩ = some (.int .i64 a0_1) := (blk_cell BK212.out 1).trans rfl; have hcz5_2 : w4.cell? ⟨gb212, 2, none⟩ = some (.int .i64 a0_2) := (blk_cell BK212.out 2).trans rfl; have hcz5_3 : w4.cell? ⟨gb212, 3, none⟩ = some (.int .i64 a0_3) := (blk_cell BK212.out 3).trans rfl; have hcz5_4 : w4.cell? ⟨gb212, 4, none⟩ = some (.int .i64 a0_4) := (blk_cell BK212.out 4).trans rfl; have hcz5_5 : w4.cell? ⟨gb212, 5, none⟩ = some (.int .i64 a0_5) := (blk_cell BK212.out 5).trans rfl; have hcz5_6 : w4.cell? ⟨gb212, 6, none⟩ = some (.int .i64 a0_6) := (blk_cell BK212.out 6).trans rfl; have hcz5_7 : w4.cell? ⟨gb212, 7, none⟩ = some (.int .i64 a0_7) := (blk_cell BK212.out 7).trans rfl; have hcz5_8 : w4.cell? ⟨gb212, 8, none⟩ = some (.int .i64 a0_8) := (blk_cell BK212.out 8).trans rfl; have hcz5_9 : w4.cell? ⟨gb212, 9, none⟩ = some (.slice A0_9 l0_9.length c0_9) := (blk_cell BK212.out 9).trans rfl; have hfz5_0 := blk_frozen BK212.out 0; have hfz5_1 := blk_frozen BK212.out 1; have hfz5_2 := blk_frozen BK212.out 2; have hfz5_3 := blk_frozen BK212.out 3; have hfz5_4 := blk_frozen BK212.out 4; have hfz5_5 := blk_frozen BK212.out 5; have hfz5_6 := blk_frozen BK212.out 6; have hfz5_7 := blk_frozen BK212.out 7; have hfz5_8 := blk_frozen BK212.out 8; have hfz5_9 := blk_frozen BK212.out 9) | ((with_reducible refine gate_callee (f := 38) rfl ?_); refine goesL_ (some 8) rfl rfl Tryd.func38 (by kernel_rfl) rfl #[.agg #[.int .i64 a0_0, .int .i64 a0_1, .int .i64 a0_2, .int .i64 a0_3, .int .i64 a0_4, .int .i64 a0_5, .int .i64 a0_6, .int .i64 a0_7, .int .i64 a0_8, .slice A0_9 l0_9.length c0_9]] rfl (by (try simp only [List.map_toArray, List.map_cons, List.map_nil]); first | done | rfl | (simp only [List.length_drop, List.length_take]; rfl)) ?_; (with_reducible refine (spec_MsgFault.calls k a0_0 a0_1 a0_2 a0_3 a0_4 a0_5 a0_6 a0_7 a0_8 _ _ l0_9 t213 _ ?side1 ?side2 A2.out).mono ?_); (case side1 => repeat (first | exact (Kd.C_below HR0_9.out HB.out) | (with_reducible refine Kd.C_alloc ?_ _) | (with_reducible refine Kd.C_drewN ?_ _) | (with_reducible refine Kd.C_drew ?_))); (case side2 => exact HC0_9.out); rintro e w6 ⟨rfl, hb⟩; refine ⟨_, rfl, ?_⟩; have n0_ := Aside0.mk (blk_below (g := gb212) (o := .cells #[.int .i64 a0_0, .int .i64 a0_1, .int .i64 a0_2, .int .i64 a0_3, .int .i64 a0_4, .int .i64 a0_5, .int .i64 a0_6, .int .i64 a0_7, .int .i64 a0_8, .slice A0_9 l0_9.length c0_9] 46 (0, 0)) (by (with_reducible repeat (first | refine blk_drewN ?_ _ | refine blk_drew ?_ | refine blk_alloc ?_ _)); exact BK212.out) hb); have n1_ := Aside0.mk (below_step (by repeat (first | (with_reducible first | exact HB.out | apply below_alloc | apply pw_below_drewN | apply below_drew1 | refine below_set ?_ GE212.out) | exact HB.out)) hb); clear BK212; clear HB; have BK212 := n0_; have HB := n1_; clear n0_ n1_; (try clear hb); (try clear hb2); (try clear hk); (try clear hi); have hcz7_0 : w6.cell? ⟨gb212, 0, none⟩ = some (.int .i64 a0_0) := (blk_cell BK212.out 0).trans rfl; have hcz7_1 : w6.cell? ⟨gb212, 1, none⟩ = some (.int .i64 a0_1) := (blk_cell BK212.out 1).trans rfl; have hcz7_2 : w6.cell? ⟨gb212, 2, none⟩ = some (.int .i64 a0_2) := (blk_cell BK212.out 2).trans rfl; have hcz7_3 : w6.cell? ⟨gb212, 3, none⟩ = some (.int .i64 a0_3) := (blk_cell BK212.out 3).trans rfl; have hcz7_4 : w6.cell? ⟨gb212, 4, none⟩ = some (.int .i64 a0_4) := (blk_cell BK212.out 4).trans rfl; have hcz7_5 : w6.cell? ⟨gb212, 5, none⟩ = some (.int .i64 a0_5) := (blk_cell BK212.out 5).trans rfl; have hcz7_6 : w6.cell? ⟨gb212, 6, none⟩ = some (.int .i64 a0_6) := (blk_cell BK212.out 6).trans rfl; have hcz7_7 : w6.cell? ⟨gb212, 7, none⟩ = some (.int .i64 a0_7) := (blk_cell BK212.out 7).trans rfl; have hcz7_8 : w6.cell? ⟨gb212, 8, none⟩ = some (.int .i64 a0_8) := (blk_cell BK212.out 8).trans rfl; have hcz7_9 : w6.cell? ⟨gb212, 9, none⟩ = some (.slice A0_9 l0_9.length c0_9) := (blk_cell BK212.out 9).trans rfl; have hfz7_0 := blk_frozen BK212.out 0; have hfz7_1 := blk_frozen BK212.out 1; have hfz7_2 := blk_frozen BK212.out 2; have hfz7_3 := blk_frozen BK212.out 3; have hfz7_4 := blk_frozen BK212.out 4; have hfz7_5 := blk_frozen BK212.out 5; have hfz7_6 := blk_frozen BK212.out 6; have hfz7_7 := blk_frozen BK212.out 7; have hfz7_8 := blk_frozen BK212.out 8; have hfz7_9 := blk_frozen BK212.out 9) | ((with_reducible refine gate_dst (N := 30) rfl ?_); refine Kd.R_lit (Kd.int .i64) _ 3 ?hg (N := 30) ?hd (xs := ([a0_1, a0_2, a0_3, a0_4, a0_5, a0_6, a0_7, a0_8, (l0_9.length : Int)] : List Int)) (inner := [.int .i64 a0_1, .int .i64 a0_2, .int .i64 a0_3, .int .i64 a0_4, .int .i64 a0_5, .int .i64 a0_6, .int .i64 a0_7, .int .i64 a0_8, .int .i64 (l0_9.length : Int)]) (ok := fun _ => True) (okp := fun _ => True) ?hr ?hp (fun _ hk => hk) trivial (Below.refl _ _) (Nat.le_refl _) (by simp) ?_; (case hd => rfl); (case hg => rfl); (case hr => first | (go_simp; done) | (go_simp; rfl)); (case hp => exact (Reps.one (show Kd.M (Kd.int .i64) _ _ _ a0_1 [.int .i64 a0_1] from rfl) (Reps.one (show Kd.M (Kd.int .i64) _ _ _ a0_2 [.int .i64 a0_2] from rfl) (Reps.one (show Kd.M (Kd.int .i64) _ _ _ a0_3 [.int .i64 a0_3] from rfl) (Reps.one (show Kd.M (Kd.int .i64) _ _ _ a0_4 [.int .i64 a0_4] from rfl) (Reps.one (show Kd.M (Kd.int .i64) _ _ _ a0_5 [.int .i64 a0_5] from rfl) (Reps.one (show Kd.M (Kd.int .i64) _ _ _ a0_6 [.int .i64 a0_6] from rfl) (Reps.one (show Kd.M (Kd.int .i64) _ _ _ a0_7 [.int .i64 a0_7] from rfl) (Reps.one (show Kd.M (Kd.int .i64) _ _ _ a0_8 [.int .i64 a0_8] from rfl) (Reps.one (show Kd.M (Kd.int .i64) _ _ _ (l0_9.length : Int) [.int .i64 (l0_9.length : Int)] from rfl) (Reps.none _ _))))))))))); intro v218 w8 ho9 hb hg_ hnew_; clear hg_ hnew_; (first | rw [← Ny217.out] at ho9 | (simp only [Int.reduceToNat] at ho9; rw [← Ny217.out] at ho9)); have n0_ := Aside0.mk (Kd.R_lower ho9 (below_size (by repeat (first | (with_reducible first | exact HB.out | apply below_alloc | apply pw_below_drewN | apply below_drew1 | refine below_set ?_ GE212.out) | exact HB.out)))); have n1_ := Aside0.mk (blk_below (g := gb212) (o := .cells #[.int .i64 a0_0, .int .i64 a0_1, .int .i64 a0_2, .int .i64 a0_3, .int .i64 a0_4, .int .i64 a0_5, .int .i64 a0_6, .int .i64 a0_7, .int .i64 a0_8, .slice A0_9 l0_9.length c0_9] 46 (0, 0)) (by (with_reducible repeat (first | refine blk_drewN ?_ _ | refine blk_drew ?_ | refine blk_alloc ?_ _)); exact BK212.out) hb); have n2_ := Aside0.mk (below_step (by repeat (first | (with_reducible first | exact HB.out | apply below_alloc | apply pw_below_drewN | apply below_drew1 | refine below_set ?_ GE212.out) | exact HB.out)) hb); clear BK212; clear HB; have HO219 := n0_; have BK212 := n1_; have HB := n2_; clear n0_ n1_ n2_; clear hb ho9; have hcz10_0 : w8.cell? ⟨gb212, 0, none⟩ = some (.int .i64 a0_0) := (blk_cell BK212.out 0).trans rfl; have hcz10_1 : w8.cell? ⟨gb212, 1, none⟩ = some (.int .i64 a0_1) := (blk_cell BK212.out 1).trans rfl; have hcz10_2 : w8.cell? ⟨gb212, 2, none⟩ = some (.int .i64 a0_2) := (blk_cell BK212.out 2).trans rfl; have hcz10_3 : w8.cell? ⟨gb212, 3, none⟩ = some (.int .i64 a0_3) := (blk_cell BK212.out 3).trans rfl; have hcz10_4 : w8.cell? ⟨gb212, 4, none⟩ = some (.int .i64 a0_4) := (blk_cell BK212.out 4).trans rfl; have hcz10_5 : w8.cell? ⟨gb212, 5, none⟩ = some (.int .i64 a0_5) := (blk_cell BK212.out 5).trans rfl; have hcz10_6 : w8.cell? ⟨gb212, 6, none⟩ = some (.int .i64 a0_6) := (blk_cell BK212.out 6).trans rfl; have hcz10_7 : w8.cell? ⟨gb212, 7, none⟩ = some (.int .i64 a0_7) := (blk_cell BK212.out 7).trans rfl; have hcz10_8 : w8.cell? ⟨gb212, 8, none⟩ = some (.int .i64 a0_8) := (blk_cell BK212.out 8).trans rfl; have hcz10_9 : w8.cell? ⟨gb212, 9, none⟩ = some (.slice A0_9 l0_9.length c0_9) := (blk_cell BK212.out 9).trans rfl; have hfz10_0 := blk_frozen BK212.out 0; have hfz10_1 := blk_frozen BK212.out 1; have hfz10_2 := blk_frozen BK212.out 2; have hfz10_3 := blk_frozen BK212.out 3; have hfz10_4 := blk_frozen BK212.out 4; have hfz10_5 := blk_frozen BK212.out 5; have hfz10_6 := blk_frozen BK212.out 6; have hfz10_7 := blk_frozen BK212.out 7; have hfz10_8 := blk_frozen BK212.out 8; have hfz10_9 := blk_frozen BK212.out 9) | ((with_reducible refine gate_dst (N := 34) rfl ?_); refine Kd.R_lit (Kd.int .u8) _ 5 ?hg (N := 34) ?hd (xs := ([(a0_0) % 256] : List Int)) (inner := [.int .u8 ((a0_0) % 256)]) (ok := fun _ => True) (okp := fun _ => True) ?hr ?hp (fun _ hk => hk) trivial (Below.refl _ _) (Nat.le_refl _) (by simp) ?_; (case hd => rfl); (case hg => rfl); (case hr => first | (go_simp; done) | (go_simp; rfl)); (case hp => exact (Reps.one (show Kd.M (Kd.int .u8) _ _ _ ((a0_0) % 256) [.int .u8 ((a0_0) % 256)] from rfl) (Reps.none _ _))); intro v221 w11 ho12 hb hg_ hnew_; clear hg_ hnew_; (first | rw [← Ny220.out] at ho12 | (simp only [Int.reduceToNat] at ho12; rw [← Ny220.out] at ho12)); have n0_ := Aside0.mk (Kd.R_below (by (with_reducible repeat (first | apply Kd.R_alloc | apply Kd.R_drewN | apply Kd.R_drew)); exact HO219.out) hb); have n1_ := Aside0.mk (Kd.R_lower ho12 (below_size (by repeat (first | (with_reducible first | exact HB.out | apply below_alloc | apply pw_below_drewN | apply below_drew1 | refine below_set ?_ GE212.out) | exact HB.out)))); have n2_ := Aside0.mk (blk_below (g := gb212) (o := .cells #[.int .i64 a0_0, .int .i64 a0_1, .int .i64 a0_2, .int .i64 a0_3, .int .i64 a0_4, .int .i64 a0_5, .int .i64 a0_6, .int .i64 a0_7, .int .i64 a0_8, .slice A0_9 l0_9.length c0_9] 46 (0, 0)) (by (with_reducible repeat (first | refine blk_drewN ?_ _ | refine blk_drew ?_ | refine blk_alloc ?_ _)); exact BK212.out) hb); have n3_ := Aside0.mk (below_step (by repeat (first | (with_reducible first | exact HB.out | apply below_alloc | apply pw_below_drewN | apply below_drew1 | refine below_set ?_ GE212.out) | exact HB.out)) hb); clear HO219; clear BK212; clear HB; have HO219 := n0_; have HO222 := n1_; have BK212 := n2_; have HB := n3_; clear n0_ n1_ n2_ n3_; clear hb ho12))
    go_loopg [4, 5] k (fun kq v4 v5 w' => ∃ (x4_1 : List Int) (x5_1 : Int), v5 = .int .i64 x5_1 ∧ Aside0 (spec_EncodeMsg.l0 kq y217 x4_1 x5_1 a0_0 a0_1 a0_2 a0_3 a0_4 a0_5 a0_6 a0_7 a0_8 l0_9 = some r) ∧ Aside0 (kq ≤ k) ∧ Aside0 (Kd.R (Kd.int .i64) 3 w' w.heap.size (fun _ => True) v218 y217) ∧ Aside0 (Kd.R (Kd.int .u8) 5 w' w.heap.size (fun _ => True) v4 x4_1) ∧ Aside0 (w'.heap[gb212]? = some (.cells #[.int .i64 a0_0, .int .i64 a0_1, .int .i64 a0_2, .int .i64 a0_3, .int .i64 a0_4, .int .i64 a0_5, .int .i64 a0_6, .int .i64 a0_7, .int .i64 a0_8, (.slice A0_9 l0_9.length c0_9)] 46 (0, 0))) ∧ Aside0 (Below w.heap.size w w'))
    case atStart => exact ⟨(y220), (0), (by first | rfl | (simp; done) | (simp [*]; done)), H', ⟨Nat.le_refl _⟩, ⟨by (with_reducible repeat (first | apply Kd.R_alloc | apply Kd.R_drewN | apply Kd.R_drew)); exact HO219.out⟩, ⟨by (with_reducible repeat (first | apply Kd.R_alloc | apply Kd.R_drewN | apply Kd.R_drew)); exact HO222.out⟩, ⟨by (with_reducible repeat (first | refine blk_drewN ?_ _ | refine blk_drew ?_ | refine blk_alloc ?_ _)); exact BK212.out⟩, ⟨by repeat (first | (with_reducible first | exact HB.out | apply below_alloc | apply pw_below_drewN | apply below_drew1 | refine below_set ?_ GE212.out) | exact HB.out)⟩⟩
    case round =>
      clear H'
      try clear c1
      try clear p2
      try clear c3
      try clear c3b0
      try clear c3b1
      try clear hcz10_0
      try clear hcz10_1
      try clear hcz10_2
      try clear hcz10_3
      try clear hcz10_4
      try clear hcz10_5
      try clear hcz10_6
      try clear hcz10_7
      try clear hcz10_8
      try clear hcz10_9
      try clear hcz5_0
      try clear hcz5_1
      try clear hcz5_2
      try clear hcz5_3
      try clear hcz5_4
      try clear hcz5_5
      try clear hcz5_6
      try clear hcz5_7
      try clear hcz5_8
      try clear hcz5_9
      try clear hcz7_0
      try clear hcz7_1
      try clear hcz7_2
      try clear hcz7_3
      try clear hcz7_4
      try clear hcz7_5
      try clear hcz7_6
      try clear hcz7_7
      try clear hcz7_8
      try clear hcz7_9
      try clear hfz10_0
      try clear hfz10_1
      try clear hfz10_2
      try clear hfz10_3
      try clear hfz10_4
      try clear hfz10_5
      try clear hfz10_6
      try clear hfz10_7
      try clear hfz10_8
      try clear hfz10_9
      try clear hfz5_0
      try clear hfz5_1
      try clear hfz5_2
      try clear hfz5_3
      try clear hfz5_4
      try clear hfz5_5
      try clear hfz5_6
      try clear hfz5_7
      try clear hfz5_8
      try clear hfz5_9
      try clear hfz7_0
      try clear hfz7_1
      try clear hfz7_2
      try clear hfz7_3
      try clear hfz7_4
      try clear hfz7_5
      try clear hfz7_6
      try clear hfz7_7
      try clear hfz7_8
      try clear hfz7_9
      obtain ⟨x4_1, x5_1, rfl, HA, HK1, HO_3, HO_4, BK212, HB⟩ := hrel
      cases gk with
      | zero => exact absurd HA.out (by simp [spec_EncodeMsg.l0])
      | succ k1 =>
        have H := HA.out
        clear HA
        simp only [spec_EncodeMsg.l0] at H
        by_cases c13 : x5_1 < (y217.length : Int)
        · rw [if_pos c13] at H
          have c13b0 : decide (x5_1 < (y217.length : Int)) = true := decide_eq_true c13
          clear c13
          by_cases c14 : 0 ≤ x5_1
          · rw [if_pos c14] at H
            have c14b0 : decide (0 ≤ x5_1) = true := decide_eq_true c14
            clear c14
            replace H := Option.bind_eq_some_iff.mp H
            obtain ⟨t224, A150, H⟩ := H
            replace H : (if x4_1.length + t224.length < 140737488355328 then (spec_EncodeMsg.l0 k1 y217 (x4_1 ++ t224) (wrap64 (x5_1 + 1)) a0_0 a0_1 a0_2 a0_3 a0_4 a0_5 a0_6 a0_7 a0_8 l0_9) else (none)) = some r := H
            have A15 := Aside0.mk A150
            clear A150
            by_cases c16 : x4_1.length + t224.length < 140737488355328
            · rw [if_pos c16] at H
              have LMc16 := Aside0.mk c16
              clear c16
              obtain ⟨y227, hy227⟩ : ∃ y_ : List Int, y_ = (x4_1 ++ t224) := ⟨_, rfl⟩
              replace H : (spec_EncodeMsg.l0 k1 y217 y227 (wrap64 (x5_1 + 1)) a0_0 a0_1 a0_2 a0_3 a0_4 a0_5 a0_6 a0_7 a0_8 l0_9) = some r := by first | (rw [hy227]; with_reducible exact H) | (have H2_ := (Option.bind_some _ _).symm.trans H; rw [hy227]; with_reducible exact H2_) | (have H2_ := (Option.bind_some _ _).symm.trans H; with_reducible exact H2_) | with_reducible exact H | (rw [hy227]; exact H) | exact H
              have Ny227 := Aside0.mk hy227
              clear hy227
              have H' := Aside0.mk H
              clear H
              obtain ⟨Ao17, co17, eo17⟩ := Kd.R_slice HO_3.out
              subst eo17
              have p223 : 0 ≤ (x5_1 : Int) := of_decide_eq_true (by first | (with_reducible assumption) | assumption)
              have q223 : x5_1 < (y217.length : Int) := of_decide_eq_true (by first | (with_reducible assumption) | assumption)
              obtain ⟨ad223, e223, hx223_0⟩ := Kd.at_int (Kd.R_reads' HO_3.out).2.2 x5_1 p223 q223
              cases e223
              replace p223 := eq_true p223
              replace q223 := eq_true q223
              go_wp2_with (first | ((with_reducible refine gate_callee (f := 31) rfl ?_); refine goesL_ (some 46) rfl rfl Tryd.func31 (by kernel_rfl) rfl #[.int .i64 (rd y217 x5_1)] rfl (by (try simp only [List.map_toArray, List.map_cons, List.map_nil]); first | done | rfl | (simp only [List.length_drop, List.length_take]; rfl)) ?_; (with_reducible refine (spec_l1num.calls k1 (rd y217 x5_1) t224 _ A15.out).mono ?_); rintro e w18 ⟨v225, rfl, ho0, hb⟩; refine ⟨_, rfl, ?_⟩; have n0_ := Aside0.mk (Kd.R_below (by (with_reducible repeat (first | apply Kd.R_alloc | apply Kd.R_drewN | apply Kd.R_drew)); exact HO_3.out) hb); have n1_ := Aside0.mk (Kd.R_elder' (by (with_reducible repeat (first | apply Kd.R_alloc | apply Kd.R_drewN | apply Kd.R_drew)); exact HO_4.out) (Kd.R_base ho0) hb); have n2_ := Aside0.mk (Kd.R_lower (Kd.R_new' ho0 (Kd.R_lt (by (with_reducible repeat (first | apply Kd.R_alloc | apply Kd.R_drewN | apply Kd.R_drew)); exact HO_4.out))) (below_size (by repeat (first | (with_reducible first | exact HB.out | apply below_alloc | apply pw_below_drewN | apply below_drew1 | refine below_set ?_ GE212.out) | exact HB.out)))); have n3_ := Aside0.mk (blk_below (g := gb212) (o := .cells #[.int .i64 a0_0, .int .i64 a0_1, .int .i64 a0_2, .int .i64 a0_3, .int .i64 a0_4, .int .i64 a0_5, .int .i64 a0_6, .int .i64 a0_7, .int .i64 a0_8, .slice A0_9 l0_9.length c0_9] 46 (0, 0)) (by (with_reducible repeat (first | refine blk_drewN ?_ _ | refine blk_drew ?_ | refine blk_alloc ?_ _)); exact BK212.out) hb); have n4_ := Aside0.mk (below_step (by repeat (first | (with_reducible first | exact HB.out | apply below_alloc | apply pw_below_drewN | apply below_drew1 | refine below_set ?_ GE212.out) | exact HB.out)) hb); clear HO_3; clear HO_4; clear BK212; clear HB; have HO_3 := n0_; have HO_4 := n1_; have HO226 := n2_; have BK212 := n3_; have HB := n4_; clear n0_ n1_ n2_ n3_ n4_; (try clear hb); (try clear hb2); (try clear hk); (try clear hi); (try clear ho0); obtain ⟨Ao20, co20, eo20⟩ := Kd.R_slice HO226.out; subst eo20) | ((with_reducible refine gate_builtin (b := .append) (xs := #[.tmp 41, .tmp 46]) rfl ?_); at_builtin; refine Kd.R_append_rows (Kd.int .u8) (w0 := w) w.heap.size rfl (.tmp 41) (.tmp 46) 25 5 (.int .u8 0) 1 rfl Tryd.underlying25 info5 rfl (by decide) (by omega) u4 x4_1 t224 _ _ _ (fun k_ => some k_ ≠ (.slice Ao20 t224.length co20 : Value).ownBlock) (fun _ => False) rfl rfl ?aO ?aR (fun _ _ h => h) (fun _ h => h.elim) ?aF ?aB ?aS ?aL ?_; (case aR => repeat (first | exact (Kd.R_reads' HO226.out).2.2 | (with_reducible refine Kd.C_alloc ?_ _) | (with_reducible refine Kd.C_drewN ?_ _) | (with_reducible refine Kd.C_drew ?_))); (case aB => exact (by repeat (first | (with_reducible first | exact HB.out | apply below_alloc | apply pw_below_drewN | apply below_drew1 | refine below_set ?_ GE212.out) | exact HB.out))); (case aF => exact (fun k_ hk => Kd.fresh' (Kd.R_lt (by (with_reducible repeat (first | apply Kd.R_alloc | apply Kd.R_drewN | apply Kd.R_drew)); exact HO226.out)) k_ hk)); (case aO => exact (by (with_reducible repeat (first | apply Kd.R_alloc | apply Kd.R_drewN | apply Kd.R_drew)); exact Kd.R_mono HO_4.out (fun _ hk => hk.2))); (case aS => exact (below_size (by repeat (first | (with_reducible first | exact HB.out | apply below_alloc | apply pw_below_drewN | apply below_drew1 | refine below_set ?_ GE212.out) | exact HB.out)))); (case aL => have := LMc16.out; omega); intro v228 w19 ho hb hg hat; rw [← Ny227.out] at ho; have n0_ := Aside0.mk (Kd.R_over' (by (with_reducible repeat (first | apply Kd.R_alloc | apply Kd.R_drewN | apply Kd.R_drew)); exact HO_3.out) (Kd.R_typed (by (with_reducible repeat (first | apply Kd.R_alloc | apply Kd.R_drewN | apply Kd.R_drew)); exact HO_4.out)) (by decide) hg); have n1_ := Aside0.mk (blk_grown (g := gb212) (o := .cells #[.int .i64 a0_0, .int .i64 a0_1, .int .i64 a0_2, .int .i64 a0_3, .int .i64 a0_4, .int .i64 a0_5, .int .i64 a0_6, .int .i64 a0_7, .int .i64 a0_8, .slice A0_9 l0_9.length c0_9] 46 (0, 0)) (by (with_reducible repeat (first | refine blk_drewN ?_ _ | refine blk_drew ?_ | refine blk_alloc ?_ _)); exact BK212.out) hg (Kd.R_ne HO_4.out BK212.out (by decide))); have n2_ := Aside0.mk (Kd.R_after (ok := (fun _ => True)) (by (with_reducible repeat (first | apply Kd.R_alloc | apply Kd.R_drewN | apply Kd.R_drew)); exact HO226.out) hg hat); have n3_ := Aside0.mk (hb); have n4_ := Aside0.mk (ho); clear HO_3; clear BK212; clear HO226; clear HB; clear HO_4; have HO_3 := n0_; have BK212 := n1_; have HO226 := n2_; have HB := n3_; have HO229 := n4_; clear n0_ n1_ n2_ n3_ n4_; clear ho hb hg hat))
              go_roundg k1
              case measure => have := HK1.out; omega
              case rel => exact ⟨(y227), (wrap64 (x5_1 + 1)), (by first | rfl | (simp; done) | (simp [*]; done)), H', ⟨by have := HK1.out; omega⟩, ⟨by (with_reducible repeat (first | apply Kd.R_alloc | apply Kd.R_drewN | apply Kd.R_drew)); exact HO_3.out⟩, ⟨by (with_reducible repeat (first | apply Kd.R_alloc | apply Kd.R_drewN | apply Kd.R_drew)); exact Kd.R_mono HO229.out (fun _ hk => trivial)⟩, ⟨by (with_reducible repeat (first | refine blk_drewN ?_ _ | refine blk_drew ?_ | refine blk_alloc ?_ _)); exact BK212.out⟩, ⟨by repeat (first | (with_reducible first | exact HB.out | apply below_alloc | apply pw_below_drewN | apply below_drew1 | refine below_set ?_ GE212.out) | exact HB.out)⟩⟩
            · rw [if_neg c16] at H
              exact absurd H (by simp)
          · rw [if_neg c14] at H
            exact absurd H (by simp)
        · rw [if_neg c13] at H
          have c13b0 : decide (x5_1 < (y217.length : Int)) = false := decide_eq_false c13
          clear c13
          have H' := Aside0.mk H
          clear H
          obtain ⟨Ao21, co21, eo21⟩ := Kd.R_slice HO_3.out
          subst eo21
          go_wp2
          go_loopg [4, 6] k1 (fun kq v4 v6 w' => ∃ (x4_2 : List Int) (x6_2 : Int), v6 = .int .i64 x6_2 ∧ Aside0 (spec_EncodeMsg.l1 kq x4_2 x6_2 a0_0 a0_1 a0_2 a0_3 a0_4 a0_5 a0_6 a0_7 a0_8 l0_9 = some r) ∧ Aside0 (kq ≤ k1) ∧ Aside0 (Kd.R (Kd.int .u8) 5 w' w.heap.size (fun _ => True) v4 x4_2) ∧ Aside0 (w'.heap[gb212]? = some (.cells #[.int .i64 a0_0, .int .i64 a0_1, .int .i64 a0_2, .int .i64 a0_3, .int .i64 a0_4, .int .i64 a0_5, .int .i64 a0_6, .int .i64 a0_7, .int .i64 a0_8, (.slice A0_9 l0_9.length c0_9)] 46 (0, 0))) ∧ Aside0 (Below w.heap.size w w'))
          case atStart => exact ⟨(x4_1), (0), (by first | rfl | (simp; done) | (simp [*]; done)), H', ⟨Nat.le_refl _⟩, ⟨by (with_reducible repeat (first | apply Kd.R_alloc | apply Kd.R_drewN | apply Kd.R_drew)); exact HO_4.out⟩, ⟨by (with_reducible repeat (first | refine blk_drewN ?_ _ | refine blk_drew ?_ | refine blk_alloc ?_ _)); exact BK212.out⟩, ⟨by repeat (first | (with_reducible first | exact HB.out | apply below_alloc | apply pw_below_drewN | apply below_drew1 | refine below_set ?_ GE212.out) | exact HB.out)⟩⟩
          case round =>
            clear H'
            try clear c1
            try clear p2
            try clear q2
            try clear hx2
            try clear c3
            try clear c3b0
            try clear c3b1
            try clear p6
            try clear c13
            try clear c13b0
            try clear c14
            try clear c14b0
            try clear c16
            try clear c19
            try clear hcz10_0
            try clear hcz10_1
            try clear hcz10_2
            try clear hcz10_3
            try clear hcz10_4
            try clear hcz10_5
            try clear hcz10_6
            try clear hcz10_7
            try clear hcz10_8
            try clear hcz10_9
            try clear hcz5_0
            try clear hcz5_1
            try clear hcz5_2
            try clear hcz5_3
            try clear hcz5_4
            try clear hcz5_5
            try clear hcz5_6
            try clear hcz5_7
            try clear hcz5_8
            try clear hcz5_9
            try clear hcz7_0
            try clear hcz7_1
            try clear hcz7_2
            try clear hcz7_3
            try clear hcz7_4
            try clear hcz7_5
            try clear hcz7_6
            try clear hcz7_7
            try clear hcz7_8
            try clear hcz7_9
            try clear hfz10_0
            try clear hfz10_1
            try clear hfz10_2
            try clear hfz10_3
            try clear hfz10_4
            try clear hfz10_5
            try clear hfz10_6
            try clear hfz10_7
            try clear hfz10_8
            try clear hfz10_9
            try clear hfz5_0
            try clear hfz5_1
            try clear hfz5_2
            try clear hfz5_3
            try clear hfz5_4
            try clear hfz5_5
            try clear hfz5_6
            try clear hfz5_7
            try clear hfz5_8
            try clear hfz5_9
            try clear hfz7_0
            try clear hfz7_1
            try clear hfz7_2
            try clear hfz7_3
            try clear hfz7_4
            try clear hfz7_5
            try clear hfz7_6
            try clear hfz7_7
            try clear hfz7_8
            try clear hfz7_9
            try clear hx223_0
            try clear p2
            try clear p223
            try clear q223
            obtain ⟨x4_2, x6_2, rfl, HA, HK2, HO_4, BK212, HB⟩ := hrel
            cases gk with
            | zero => exact absurd HA.out (by simp [spec_EncodeMsg.l1])
            | succ k2 =>
              have H := HA.out
              clear HA
              simp only [spec_EncodeMsg.l1] at H
              by_cases c22 : x6_2 < (l0_9.length : Int)
              · rw [if_pos c22] at H
                have c22b0 : decide (x6_2 < (l0_9.length : Int)) = true := decide_eq_true c22
                clear c22
                by_cases c23 : 0 ≤ x6_2
                · rw [if_pos c23] at H
                  have c23b0 : decide (0 ≤ x6_2) = true := decide_eq_true c23
                  clear c23
                  replace H := Option.bind_eq_some_iff.mp H
                  obtain ⟨t231, A240, H⟩ := H
                  replace H : (if x4_2.length + t231.length < 140737488355328 then (spec_EncodeMsg.l1 k2 (x4_2 ++ t231) (wrap64 (x6_2 + 1)) a0_0 a0_1 a0_2 a0_3 a0_4 a0_5 a0_6 a0_7 a0_8 l0_9) else (none)) = some r := H
                  have A24 := Aside0.mk A240
                  clear A240
                  by_cases c25 : x4_2.length + t231.length < 140737488355328
                  · rw [if_pos c25] at H
                    have LMc25 := Aside0.mk c25
                    clear c25
                    obtain ⟨y234, hy234⟩ : ∃ y_ : List Int, y_ = (x4_2 ++ t231) := ⟨_, rfl⟩
                    replace H : (spec_EncodeMsg.l1 k2 y234 (wrap64 (x6_2 + 1)) a0_0 a0_1 a0_2 a0_3 a0_4 a0_5 a0_6 a0_7 a0_8 l0_9) = some r := by first | (rw [hy234]; with_reducible exact H) | (have H2_ := (Option.bind_some _ _).symm.trans H; rw [hy234]; with_reducible exact H2_) | (have H2_ := (Option.bind_some _ _).symm.trans H; with_reducible exact H2_) | with_reducible exact H | (rw [hy234]; exact H) | exact H
                    have Ny234 := Aside0.mk hy234
                    clear hy234
                    have H' := Aside0.mk H
                    clear H
                    have hcz26_0 : wr.cell? ⟨gb212, 0, none⟩ = some (.int .i64 a0_0) := (blk_cell BK212.out 0).trans rfl
                    have hcz26_1 : wr.cell? ⟨gb212, 1, none⟩ = some (.int .i64 a0_1) := (blk_cell BK212.out 1).trans rfl
                    have hcz26_2 : wr.cell? ⟨gb212, 2, none⟩ = some (.int .i64 a0_2) := (blk_cell BK212.out 2).trans rfl
                    have hcz26_3 : wr.cell? ⟨gb212, 3, none⟩ = some (.int .i64 a0_3) := (blk_cell BK212.out 3).trans rfl
                    have hcz26_4 : wr.cell? ⟨gb212, 4, none⟩ = some (.int .i64 a0_4) := (blk_cell BK212.out 4).trans rfl
                    have hcz26_5 : wr.cell? ⟨gb212, 5, none⟩ = some (.int .i64 a0_5) := (blk_cell BK212.out 5).trans rfl
                    have hcz26_6 : wr.cell? ⟨gb212, 6, none⟩ = some (.int .i64 a0_6) := (blk_cell BK212.out 6).trans rfl
                    have hcz26_7 : wr.cell? ⟨gb212, 7, none⟩ = some (.int .i64 a0_7) := (blk_cell BK212.out 7).trans rfl
                    have hcz26_8 : wr.cell? ⟨gb212, 8, none⟩ = some (.int .i64 a0_8) := (blk_cell BK212.out 8).trans rfl
                    have hcz26_9 : wr.cell? ⟨gb212, 9, none⟩ = some (.slice A0_9 l0_9.length c0_9) := (blk_cell BK212.out 9).trans rfl
                    have hfz26_0 := blk_frozen BK212.out 0
                    have hfz26_1 := blk_frozen BK212.out 1
                    have hfz26_2 := blk_frozen BK212.out 2
                    have hfz26_3 := blk_frozen BK212.out 3
                    have hfz26_4 := blk_frozen BK212.out 4
                    have hfz26_5 := blk_frozen BK212.out 5
                    have hfz26_6 := blk_frozen BK212.out 6
                    have hfz26_7 := blk_frozen BK212.out 7
                    have hfz26_8 := blk_frozen BK212.out 8
                    have hfz26_9 := blk_frozen BK212.out 9
                    have p230 : 0 ≤ (x6_2 : Int) := of_decide_eq_true (by first | (with_reducible assumption) | assumption)
                    have q230 : x6_2 < (l0_9.length : Int) := of_decide_eq_true (by first | (with_reducible assumption) | assumption)
                    obtain ⟨ad230, e230, hx230_0, hx230_1, hx230_2, hx230_3, hx230_4, hx230_5, hx230_6⟩ := at_T76 HR0_9.out x6_2 p230 q230
                    cases e230
                    replace hx230_0 := (HB.out.cell (World.block_lt_of_cell? w _ hx230_0)).trans hx230_0
                    replace hx230_1 := (HB.out.cell (World.block_lt_of_cell? w _ hx230_1)).trans hx230_1
                    replace hx230_2 := (HB.out.cell (World.block_lt_of_cell? w _ hx230_2)).trans hx230_2
                    replace hx230_3 := (HB.out.cell (World.block_lt_of_cell? w _ hx230_3)).trans hx230_3
                    replace hx230_4 := (HB.out.cell (World.block_lt_of_cell? w _ hx230_4)).trans hx230_4
                    replace hx230_5 := (HB.out.cell (World.block_lt_of_cell? w _ hx230_5)).trans hx230_5
                    replace hx230_6 := (HB.out.cell (World.block_lt_of_cell? w _ hx230_6)).trans hx230_6
                    replace p230 := eq_true p230
                    replace q230 := eq_true q230
                    go_wp2_with (first | ((with_reducible refine gate_callee (f := 39) rfl ?_); refine goesL_ (some 61) rfl rfl Tryd.func39 (by kernel_rfl) rfl #[.agg #[.int .i64 ((rd_T76 l0_9 x6_2).f0), .int .i64 ((rd_T76 l0_9 x6_2).f1.f0), .int .i64 ((rd_T76 l0_9 x6_2).f1.f1), .int .i64 ((rd_T76 l0_9 x6_2).f1.f2), .string ((rd_T76 l0_9 x6_2).f1.f3), .string ((rd_T76 l0_9 x6_2).f1.f4), .string ((rd_T76 l0_9 x6_2).f1.f5)]] rfl (by (try simp only [List.map_toArray, List.map_cons, List.map_nil]); first | done | rfl | (simp only [List.length_drop, List.length_take]; rfl)) ?_; (with_reducible refine (spec_l1entryBytes.calls k2 ((rd_T76 l0_9 x6_2).f0) ((rd_T76 l0_9 x6_2).f1.f0) ((rd_T76 l0_9 x6_2).f1.f1) ((rd_T76 l0_9 x6_2).f1.f2) ((rd_T76 l0_9 x6_2).f1.f3) ((rd_T76 l0_9 x6_2).f1.f4) ((rd_T76 l0_9 x6_2).f1.f5) t231 _ A24.out).mono ?_); rintro e w27 ⟨v232, rfl, ho0, hb⟩; refine ⟨_, rfl, ?_⟩; have n0_ := Aside0.mk (Kd.R_elder' (by (with_reducible repeat (first | apply Kd.R_alloc | apply Kd.R_drewN | apply Kd.R_drew)); exact HO_4.out) (Kd.R_base ho0) hb); have n1_ := Aside0.mk (Kd.R_lower (Kd.R_new' ho0 (Kd.R_lt (by (with_reducible repeat (first | apply Kd.R_alloc | apply Kd.R_drewN | apply Kd.R_drew)); exact HO_4.out))) (below_size (by repeat (first | (with_reducible first | exact HB.out | apply below_alloc | apply pw_below_drewN | apply below_drew1 | refine below_set ?_ GE212.out) | exact HB.out)))); have n2_ := Aside0.mk (blk_below (g := gb212) (o := .cells #[.int .i64 a0_0, .int .i64 a0_1, .int .i64 a0_2, .int .i64 a0_3, .int .i64 a0_4, .int .i64 a0_5, .int .i64 a0_6, .int .i64 a0_7, .int .i64 a0_8, .slice (some ad230) l0_9.length c0_9] 46 (0, 0)) (by (with_reducible repeat (first | refine blk_drewN ?_ _ | refine blk_drew ?_ | refine blk_alloc ?_ _)); exact BK212.out) hb); have n3_ := Aside0.mk (below_step (by repeat (first | (with_reducible first | exact HB.out | apply below_alloc | apply pw_below_drewN | apply below_drew1 | refine below_set ?_ GE212.out) | exact HB.out)) hb); clear HO_4; clear BK212; clear HB; have HO_4 := n0_; have HO233 := n1_; have BK212 := n2_; have HB := n3_; clear n0_ n1_ n2_ n3_; (try clear hb); (try clear hb2); (try clear hk); (try clear hi); (try clear ho0); obtain ⟨Ao29, co29, eo29⟩ := Kd.R_slice HO233.out; subst eo29) | ((with_reducible refine gate_builtin (b := .append) (xs := #[.tmp 55, .tmp 61]) rfl ?_); at_builtin; refine Kd.R_append_rows (Kd.int .u8) (w0 := w) w.heap.size rfl (.tmp 55) (.tmp 61) 25 5 (.int .u8 0) 1 rfl Tryd.underlying25 info5 rfl (by decide) (by omega) u4 x4_2 t231 _ _ _ (fun k_ => some k_ ≠ (.slice Ao29 t231.length co29 : Value).ownBlock) (fun _ => False) rfl rfl ?aO ?aR (fun _ _ h => h) (fun _ h => h.elim) ?aF ?aB ?aS ?aL ?_; (case aR => repeat (first | exact (Kd.R_reads' HO233.out).2.2 | (with_reducible refine Kd.C_alloc ?_ _) | (with_reducible refine Kd.C_drewN ?_ _) | (with_reducible refine Kd.C_drew ?_))); (case aB => exact (by repeat (first | (with_reducible first | exact HB.out | apply below_alloc | apply pw_below_drewN | apply below_drew1 | refine below_set ?_ GE212.out) | exact HB.out))); (case aF => exact (fun k_ hk => Kd.fresh' (Kd.R_lt (by (with_reducible repeat (first | apply Kd.R_alloc | apply Kd.R_drewN | apply Kd.R_drew)); exact HO233.out)) k_ hk)); (case aO => exact (by (with_reducible repeat (first | apply Kd.R_alloc | apply Kd.R_drewN | apply Kd.R_drew)); exact Kd.R_mono HO_4.out (fun _ hk => hk.2))); (case aS => exact (below_size (by repeat (first | (with_reducible first | exact HB.out | apply below_alloc | apply pw_below_drewN | apply below_drew1 | refine below_set ?_ GE212.out) | exact HB.out)))); (case aL => have := LMc25.out; omega); intro v235 w28 ho hb hg hat; rw [← Ny234.out] at ho; have n0_ := Aside0.mk (blk_grown (g := gb212) (o := .cells #[.int .i64 a0_0, .int .i64 a0_1, .int .i64 a0_2, .int .i64 a0_3, .int .i64 a0_4, .int .i64 a0_5, .int .i64 a0_6, .int .i64 a0_7, .int .i64 a0_8, .slice (some ad230) l0_9.length c0_9] 46 (0, 0)) (by (with_reducible repeat (first | refine blk_drewN ?_ _ | refine blk_drew ?_ | refine blk_alloc ?_ _)); exact BK212.out) hg (Kd.R_ne HO_4.out BK212.out (by decide))); have n1_ := Aside0.mk (Kd.R_after (ok := (fun _ => True)) (by (with_reducible repeat (first | apply Kd.R_alloc | apply Kd.R_drewN | apply Kd.R_drew)); exact HO233.out) hg hat); have n2_ := Aside0.mk (hb); have n3_ := Aside0.mk (ho); clear BK212; clear HO233; clear HB; clear HO_4; have BK212 := n0_; have HO233 := n1_; have HB := n2_; have HO236 := n3_; clear n0_ n1_ n2_ n3_; clear ho hb hg hat))
                    go_roundg k2
                    case measure => have := HK1.out; have := HK2.out; omega
                    case rel => exact ⟨(y234), (wrap64 (x6_2 + 1)), (by first | rfl | (simp; done) | (simp [*]; done)), H', ⟨by have := HK1.out; have := HK2.out; omega⟩, ⟨by (with_reducible repeat (first | apply Kd.R_alloc | apply Kd.R_drewN | apply Kd.R_drew)); exact Kd.R_mono HO236.out (fun _ hk => trivial)⟩, ⟨by (with_reducible repeat (first | refine blk_drewN ?_ _ | refine blk_drew ?_ | refine blk_alloc ?_ _)); exact BK212.out⟩, ⟨by repeat (first | (with_reducible first | exact HB.out | apply below_alloc | apply pw_below_drewN | apply below_drew1 | refine below_set ?_ GE212.out) | exact HB.out)⟩⟩
                  · rw [if_neg c25] at H
                    exact absurd H (by simp)
                · rw [if_neg c23] at H
                  exact absurd H (by simp)
              · rw [if_neg c22] at H
                have c22b0 : decide (x6_2 < (l0_9.length : Int)) = false := decide_eq_false c22
                clear c22
                replace H := Option.bind_eq_some_iff.mp H
                obtain ⟨t237, A300, H⟩ := H
                replace H : (some t237) = some r := H
                have A30 := Aside0.mk A300
                clear A300
                obtain rfl := Option.some.inj H
                have hcz31_0 : wr.cell? ⟨gb212, 0, none⟩ = some (.int .i64 a0_0) := (blk_cell BK212.out 0).trans rfl
                have hcz31_1 : wr.cell? ⟨gb212, 1, none⟩ = some (.int .i64 a0_1) := (blk_cell BK212.out 1).trans rfl
                have hcz31_2 : wr.cell? ⟨gb212, 2, none⟩ = some (.int .i64 a0_2) := (blk_cell BK212.out 2).trans rfl
                have hcz31_3 : wr.cell? ⟨gb212, 3, none⟩ = some (.int .i64 a0_3) := (blk_cell BK212.out 3).trans rfl
                have hcz31_4 : wr.cell? ⟨gb212, 4, none⟩ = some (.int .i64 a0_4) := (blk_cell BK212.out 4).trans rfl
                have hcz31_5 : wr.cell? ⟨gb212, 5, none⟩ = some (.int .i64 a0_5) := (blk_cell BK212.out 5).trans rfl
                have hcz31_6 : wr.cell? ⟨gb212, 6, none⟩ = some (.int .i64 a0_6) := (blk_cell BK212.out 6).trans rfl
                have hcz31_7 : wr.cell? ⟨gb212, 7, none⟩ = some (.int .i64 a0_7) := (blk_cell BK212.out 7).trans rfl
                have hcz31_8 : wr.cell? ⟨gb212, 8, none⟩ = some (.int .i64 a0_8) := (blk_cell BK212.out 8).trans rfl
                have hcz31_9 : wr.cell? ⟨gb212, 9, none⟩ = some (.slice A0_9 l0_9.length c0_9) := (blk_cell BK212.out 9).trans rfl
                have hfz31_0 := blk_frozen BK212.out 0
                have hfz31_1 := blk_frozen BK212.out 1
                have hfz31_2 := blk_frozen BK212.out 2
                have hfz31_3 := blk_frozen BK212.out 3
                have hfz31_4 := blk_frozen BK212.out 4
                have hfz31_5 := blk_frozen BK212.out 5
                have hfz31_6 := blk_frozen BK212.out 6
                have hfz31_7 := blk_frozen BK212.out 7
                have hfz31_8 := blk_frozen BK212.out 8
                have hfz31_9 := blk_frozen BK212.out 9
                obtain ⟨Ao32, co32, eo32⟩ := Kd.R_slice HO_4.out
                subst eo32
                go_wp2_with (first | ((with_reducible refine gate_callee (f := 33) rfl ?_); refine goesL_ (some 64) rfl rfl Tryd.func33 (by kernel_rfl) rfl #[.slice Ao32 x4_2.length co32] rfl (by (try simp only [List.map_toArray, List.map_cons, List.map_nil]); first | done | rfl | (simp only [List.length_drop, List.length_take]; rfl)) ?_; (with_reducible refine (spec_l1frame.calls k2 _ _ x4_2 t237 _ ?side1 ?side2 A30.out).mono ?_); (case side1 => repeat (first | exact (Kd.R_reads' HO_4.out).2.2 | (with_reducible refine Kd.C_alloc ?_ _) | (with_reducible refine Kd.C_drewN ?_ _) | (with_reducible refine Kd.C_drew ?_))); (case side2 => exact (Kd.R_reads' HO_4.out).2.1); rintro e w33 ⟨v238, rfl, ho0, hb⟩; refine ⟨_, rfl, ?_⟩; have n0_ := Aside0.mk (Kd.R_elder' (by (with_reducible repeat (first | apply Kd.R_alloc | apply Kd.R_drewN | apply Kd.R_drew)); exact HO_4.out) (Kd.R_base ho0) hb); have n1_ := Aside0.mk (Kd.R_lower (Kd.R_new' ho0 (Kd.R_lt (by (with_reducible repeat (first | apply Kd.R_alloc | apply Kd.R_drewN | apply Kd.R_drew)); exact HO_4.out))) (below_size (by repeat (first | (with_reducible first | exact HB.out | apply below_alloc | apply pw_below_drewN | apply below_drew1 | refine below_set ?_ GE212.out) | exact HB.out)))); have n2_ := Aside0.mk (blk_below (g := gb212) (o := .cells #[.int .i64 a0_0, .int .i64 a0_1, .int .i64 a0_2, .int .i64 a0_3, .int .i64 a0_4, .int .i64 a0_5, .int .i64 a0_6, .int .i64 a0_7, .int .i64 a0_8, .slice A0_9 l0_9.length c0_9] 46 (0, 0)) (by (with_reducible repeat (first | refine blk_drewN ?_ _ | refine blk_drew ?_ | refine blk_alloc ?_ _)); exact BK212.out) hb); have n3_ := Aside0.mk (below_step (by repeat (first | (with_reducible first | exact HB.out | apply below_alloc | apply pw_below_drewN | apply below_drew1 | refine below_set ?_ GE212.out) | exact HB.out)) hb); clear HO_4; clear BK212; clear HB; have HO_4 := n0_; have HO239 := n1_; have BK212 := n2_; have HB := n3_; clear n0_ n1_ n2_ n3_; (try clear hb); (try clear hb2); (try clear hk); (try clear hi); (try clear ho0)))
                go_ret
                exact ⟨_, by first | rfl | (simp [errW_none, errW_some] <;> rfl) | (simp [*, errW_none, errW_some] <;> rfl), by (with_reducible repeat (first | apply Kd.R_alloc | apply Kd.R_drewN | apply Kd.R_drew)); exact Kd.R_mono HO239.out (fun _ hk => trivial), by repeat (first | (with_reducible first | exact HB.out | apply below_alloc | apply pw_below_drewN | apply below_drew1 | refine below_set ?_ GE212.out) | exact HB.out)⟩
  · rw [if_neg c3] at H
    have c3b0 : (t213 == 0) = false := beq_eq_false_iff_ne.mpr c3
    have c3b1 : (t213 != 0) = true := bne_iff_ne.mpr c3
    obtain ⟨y214, hy214⟩ : ∃ y_ : List Int, y_ = (([] : List Int)) := ⟨_, rfl⟩
    replace H : (some y214) = some r := by first | (rw [hy214]; with_reducible exact H) | (have H2_ := (Option.bind_some _ _).symm.trans H; rw [hy214]; with_reducible exact H2_) | (have H2_ := (Option.bind_some _ _).symm.trans H; with_reducible exact H2_) | with_reducible exact H | (rw [hy214]; exact H) | exact H
    have Ny214 := Aside0.mk hy214
    clear hy214
    obtain rfl := Option.some.inj H
    go_enter Tryd.func19, Tryd.ntmps19
    go_wp2_with (first | ((with_reducible refine gate_dst (N := 1) rfl ?_); refine box_event ?hg (N := 1) ?hd (cs := #[.int .i64 a0_0, .int .i64 a0_1, .int .i64 a0_2, .int .i64 a0_3, .int .i64 a0_4, .int .i64 a0_5, .int .i64 a0_6, .int .i64 a0_7, .int .i64 a0_8, .slice A0_9 l0_9.length c0_9]) (t := 46) ?hr ?_; (case hd => rfl); (case hg => rfl); (case hr => first | (go_simp; done) | (go_simp; rfl)); intro gb212 hg w34 hbox hb; have n0_ := Aside0.mk (below_step (by repeat (first | (with_reducible first | exact HB.out | apply below_alloc | apply pw_below_drewN | apply below_drew1) | exact HB.out)) hb); have n1_ := Aside0.mk (hbox); have n2_ := Aside0.mk ((by rw [hg]; exact (below_size (by repeat (first | (with_reducible first | exact HB.out | apply below_alloc | apply pw_below_drewN | apply below_drew1) | exact HB.out))) : w.heap.size ≤ gb212)); have n3_ := Aside0.mk ((by rw [hg]; exact (below_size (by repeat (first | (with_reducible first | exact HB.out | apply below_alloc | apply pw_below_drewN | apply below_drew1) | exact HB.out))) : w.heap.size ≤ gb212)); clear HB; have HB := n0_; have BK212 := n1_; have GW212 := n2_; have GE212 := n3_; clear n0_ n1_ n2_ n3_; clear hb hbox hg; have hcz35_0 : w34.cell? ⟨gb212, 0, none⟩ = some (.int .i64 a0_0) := (blk_cell BK212.out 0).trans rfl; have hcz35_1 : w34.cell? ⟨gb212, 1, none⟩ = some (.int .i64 a0_1) := (blk_cell BK212.out 1).trans rfl; have hcz35_2 : w34.cell? ⟨gb212, 2, none⟩ = some (.int .i64 a0_2) := (blk_cell BK212.out 2).trans rfl; have hcz35_3 : w34.cell? ⟨gb212, 3, none⟩ = some (.int .i64 a0_3) := (blk_cell BK212.out 3).trans rfl; have hcz35_4 : w34.cell? ⟨gb212, 4, none⟩ = some (.int .i64 a0_4) := (blk_cell BK212.out 4).trans rfl; have hcz35_5 : w34.cell? ⟨gb212, 5, none⟩ = some (.int .i64 a0_5) := (blk_cell BK212.out 5).trans rfl; have hcz35_6 : w34.cell? ⟨gb212, 6, none⟩ = some (.int .i64 a0_6) := (blk_cell BK212.out 6).trans rfl; have hcz35_7 : w34.cell? ⟨gb212, 7, none⟩ = some (.int .i64 a0_7) := (blk_cell BK212.out 7).trans rfl; have hcz35_8 : w34.cell? ⟨gb212, 8, none⟩ = some (.int .i64 a0_8) := (blk_cell BK212.out 8).trans rfl; have hcz35_9 : w34.cell? ⟨gb212, 9, none⟩ = some (.slice A0_9 l0_9.length c0_9) := (blk_cell BK212.out 9).trans rfl; have hfz35_0 := blk_frozen BK212.out 0; have hfz35_1 := blk_frozen BK212.out 1; have hfz35_2 := blk_frozen BK212.out 2; have hfz35_3 := blk_frozen BK212.out 3; have hfz35_4 := blk_frozen BK212.out 4; have hfz35_5 := blk_frozen BK212.out 5; have hfz35_6 := blk_frozen BK212.out 6; have hfz35_7 := blk_frozen BK212.out 7; have hfz35_8 := blk_frozen BK212.out 8; have hfz35_9 := blk_frozen BK212.out 9) | ((with_reducible refine gate_callee (f := 38) rfl ?_); refine goesL_ (some 8) rfl rfl Tryd.func38 (by kernel_rfl) rfl #[.agg #[.int .i64 a0_0, .int .i64 a0_1, .int .i64 a0_2, .int .i64 a0_3, .int .i64 a0_4, .int .i64 a0_5, .int .i64 a0_6, .int .i64 a0_7, .int .i64 a0_8, .slice A0_9 l0_9.length c0_9]] rfl (by (try simp only [List.map_toArray, List.map_cons, List.map_nil]); first | done | rfl | (simp only [List.length_drop, List.length_take]; rfl)) ?_; (with_reducible refine (spec_MsgFault.calls k a0_0 a0_1 a0_2 a0_3 a0_4 a0_5 a0_6 a0_7 a0_8 _ _ l0_9 t213 _ ?side1 ?side2 A2.out).mono ?_); (case side1 => repeat (first | exact (Kd.C_below HR0_9.out HB.out) | (with_reducible refine Kd.C_alloc ?_ _) | (with_reducible refine Kd.C_drewN ?_ _) | (with_reducible refine Kd.C_drew ?_))); (case side2 => exact HC0_9.out); rintro e w36 ⟨rfl, hb⟩; refine ⟨_, rfl, ?_⟩; have n0_ := Aside0.mk (blk_below (g := gb212) (o := .cells #[.int .i64 a0_0, .int .i64 a0_1, .int .i64 a0_2, .int .i64 a0_3, .int .i64 a0_4, .int .i64 a0_5, .int .i64 a0_6, .int .i64 a0_7, .int .i64 a0_8, .slice A0_9 l0_9.length c0_9] 46 (0, 0)) (by (with_reducible repeat (first | refine blk_drewN ?_ _ | refine blk_drew ?_ | refine blk_alloc ?_ _)); exact BK212.out) hb); have n1_ := Aside0.mk (below_step (by repeat (first | (with_reducible first | exact HB.out | apply below_alloc | apply pw_below_drewN | apply below_drew1 | refine below_set ?_ GE212.out) | exact HB.out)) hb); clear BK212; clear HB; have BK212 := n0_; have HB := n1_; clear n0_ n1_; (try clear hb); (try clear hb2); (try clear hk); (try clear hi)) | ((with_reducible refine gate_dst (N := 10) rfl ?_); refine Kd.R_lit (Kd.int .u8) _ 5 ?hg (N := 10) ?hd (xs := ([] : List Int)) (inner := []) (ok := fun _ => True) (okp := fun _ => True) ?hr ?hp (fun _ hk => hk) trivial (Below.refl _ _) (Nat.le_refl _) (by simp) ?_; (case hd => rfl); (case hg => rfl); (case hr => first | (go_simp; done) | (go_simp; rfl)); (case hp => exact (Reps.none _ _)); intro v215 w37 ho38 hb hg_ hnew_; clear hg_ hnew_; (first | rw [← Ny214.out] at ho38 | (simp only [Int.reduceToNat] at ho38; rw [← Ny214.out] at ho38)); have n0_ := Aside0.mk (Kd.R_lower ho38 (below_size (by repeat (first | (with_reducible first | exact HB.out | apply below_alloc | apply pw_below_drewN | apply below_drew1 | refine below_set ?_ GE212.out) | exact HB.out)))); have n1_ := Aside0.mk (blk_below (g := gb212) (o := .cells #[.int .i64 a0_0, .int .i64 a0_1, .int .i64 a0_2, .int .i64 a0_3, .int .i64 a0_4, .int .i64 a0_5, .int .i64 a0_6, .int .i64 a0_7, .int .i64 a0_8, .slice A0_9 l0_9.length c0_9] 46 (0, 0)) (by (with_reducible repeat (first | refine blk_drewN ?_ _ | refine blk_drew ?_ | refine blk_alloc ?_ _)); exact BK212.out) hb); have n2_ := Aside0.mk (below_step (by repeat (first | (with_reducible first | exact HB.out | apply below_alloc | apply pw_below_drewN | apply below_drew1 | refine below_set ?_ GE212.out) | exact HB.out)) hb); clear BK212; clear HB; have HO216 := n0_; have BK212 := n1_; have HB := n2_; clear n0_ n1_ n2_; clear hb ho38))
    go_ret
    exact ⟨_, by first | rfl | (simp [errW_none, errW_some] <;> rfl) | (simp [*, errW_none, errW_some] <;> rfl), by (with_reducible repeat (first | apply Kd.R_alloc | apply Kd.R_drewN | apply Kd.R_drew)); exact HO216.out, by repeat (first | (with_reducible first | exact HB.out | apply below_alloc | apply pw_below_drewN | apply below_drew1 | refine below_set ?_ GE212.out) | exact HB.out)⟩

-- BY HAND: function 16 (laws_toCmd)

-- BY HAND: function 58 (laws_toEntry)

/-! ### laws_toEntryS: function 40 -/
def laws_toEntryS.l0 : Nat → List (S85) → List (S76) → Int → Option ((List (S76)))
  | 0, _, _, _ => none
  | k + 1, x0, x3, x4 => if x4 < (x0.length : Int) then (if 0 ≤ x4 then ((laws_toEntry.f ((rd_T85 x0 x4).f0) ((rd_T85 x0 x4).f1.f0) ((rd_T85 x0 x4).f1.f1) ((rd_T85 x0 x4).f1.f2) ((rd_T85 x0 x4).f1.f3) ((rd_T85 x0 x4).f1.f4) ((rd_T85 x0 x4).f1.f5)).bind fun bt256 => (if x4 < (x3.length : Int) then (laws_toEntryS.l0 k x0 (x3.set (x4 : Int).toNat (⟨bt256.1, (⟨bt256.2.1, bt256.2.2.1, bt256.2.2.2.1, bt256.2.2.2.2.1, bt256.2.2.2.2.2.1, bt256.2.2.2.2.2.2⟩ : S36)⟩ : S76)) (wrap64 (x4 + 1))) else (none))) else (none)) else (some x3)
def laws_toEntryS.f (k : Nat) (l0 : List (S85)) : Option ((List (S76))) := if 0 ≤ (l0.length : Int) then (if ((l0.length : Int) : Int).toNat ≤ 3518437208883 then (laws_toEntryS.l0 k l0 (List.replicate ((l0.length : Int) : Int).toNat z76) 0) else (none)) else (none)
theorem laws_toEntryS.mono_l : ∀ k, (∀ y0 y1 y2, LeO (laws_toEntryS.l0 k y0 y1 y2) (laws_toEntryS.l0 (k + 1) y0 y1 y2))
  | 0 => fun _ _ _ r h => by simp [laws_toEntryS.l0] at h
  | k + 1 => by
    have ih0 := laws_toEntryS.mono_l k
    · intro y0 y1 y2
      unfold laws_toEntryS.l0
      repeat' first
      | (with_reducible exact ih0 _ _ _)
      | (with_reducible exact LeO.refl _)
      | (with_reducible exact LeO.none _)
      | (with_reducible refine LeO.ite ?_ ?_)
      | (with_reducible refine LeO.bind ?_ (fun _ => ?_))
      | exact ih0 _ _ _
      | exact LeO.none _
      | refine LeO.ite ?_ ?_
      | refine LeO.bind ?_ (fun _ => ?_)
theorem laws_toEntryS.mono : ∀ a0 k, LeO (laws_toEntryS.f k a0) (laws_toEntryS.f (k + 1) a0) := by
  intro a0 k
  have ih0 := laws_toEntryS.mono_l k
  unfold laws_toEntryS.f
  repeat' first
      | (with_reducible exact ih0 _ _ _)
      | (with_reducible exact LeO.refl _)
      | (with_reducible exact LeO.none _)
      | (with_reducible refine LeO.ite ?_ ?_)
      | (with_reducible refine LeO.bind ?_ (fun _ => ?_))
      | exact ih0 _ _ _
      | exact LeO.none _
      | refine LeO.ite ?_ ?_
      | refine LeO.bind ?_ (fun _ => ?_)
set_option maxHeartbeats 8000000 in
set_option maxRecDepth 100000 in
theorem laws_toEntryS.calls (k : Nat) (A0 : Option Addr) (c0 : Nat) (l0 : List (S85)) (r : List (S76)) (w : World) (hr0 : Kd.C k85 w A0 l0.length l0) (hc0 : l0.length ≤ c0) (h : laws_toEntryS.f k l0 = some r) :
    Calls Tryd.prog 40 #[.slice A0 l0.length c0] w fun e w' => ∃ v0_ : Value, e = .returned (v0_) ∧ Kd.R k76 76 w' w.heap.size (fun _ => True) v0_ r ∧ Below w.heap.size w w' := by
  have hu85 := Tryd.underlying85
  have hu76 := Tryd.underlying76
  have HR0 := Aside0.mk hr0
  have HC0 := Aside0.mk hc0
  clear hr0 hc0
  have HB := Aside0.mk (Below.refl w.heap.size w)
  have H : (if 0 ≤ (l0.length : Int) then (if ((l0.length : Int) : Int).toNat ≤ 3518437208883 then (laws_toEntryS.l0 k l0 (List.replicate ((l0.length : Int) : Int).toNat z76) 0) else (none)) else (none)) = some r := h
  clear h
  by_cases c2 : 0 ≤ (l0.length : Int)
  · rw [if_pos c2] at H
    have c2b0 := eq_true c2
    have c2b1 : decide (0 ≤ (l0.length : Int)) = true := decide_eq_true c2
    clear c2
    by_cases c3 : ((l0.length : Int) : Int).toNat ≤ 3518437208883
    · rw [if_pos c3] at H
      have c3b0 := eq_true c3
      have c3b1 : decide (((l0.length : Int) : Int).toNat ≤ 3518437208883) = true := decide_eq_true c3
      clear c3
      obtain ⟨y252, hy252⟩ : ∃ y_ : List (S76), y_ = (List.replicate ((l0.length : Int) : Int).toNat z76) := ⟨_, rfl⟩
      replace H : (laws_toEntryS.l0 k l0 y252 0) = some r := by first | (rw [hy252]; with_reducible exact H) | (have H2_ := (Option.bind_some _ _).symm.trans H; rw [hy252]; with_reducible exact H2_) | (have H2_ := (Option.bind_some _ _).symm.trans H; with_reducible exact H2_) | with_reducible exact H | (rw [hy252]; exact H) | exact H
      have Ny252 := Aside0.mk hy252
      clear hy252
      have H' := Aside0.mk H
      clear H
      go_enter Tryd.func40, Tryd.ntmps40
      go_wp2_with (first | ((with_reducible refine gate_dst (N := 7) rfl ?_); refine Kd.R_make k76 _ 76 rfl (N := 7) rfl 44 _ _ rfl (l0.length : Int) rfl rfl Tryd.underlying44 (.agg #[(.int .i64 0), (.int .i64 0), (.int .i64 0), (.int .i64 0), (.string ⟨#[]⟩), (.string ⟨#[]⟩), (.string ⟨#[]⟩)]) 80 info76 rfl (by decide) (by omega) z76 (ok := fun _ => True) (okp := fun _ => True) (k76_mkM _ _ _ z76 ) (fun _ hk => hk) trivial (of_decide_eq_true (by first | (with_reducible assumption) | assumption)) (Nat.le_trans (Nat.mul_le_mul_right _ (of_decide_eq_true (by first | (with_reducible assumption) | assumption) : (l0.length : Int).toNat ≤ 3518437208883)) (by omega)) (Below.refl _ _) (Nat.le_refl _) ?_; intro v253 w4 ho5 hb hg_ hnew_; clear hg_ hnew_; (first | rw [← Ny252.out] at ho5 | (simp only [Int.reduceToNat] at ho5; rw [← Ny252.out] at ho5)); have n0_ := Aside0.mk (Kd.R_lower ho5 (below_size (by repeat (first | (with_reducible first | exact HB.out | apply below_alloc | apply pw_below_drewN | apply below_drew1) | exact HB.out)))); have n1_ := Aside0.mk (below_step (by repeat (first | (with_reducible first | exact HB.out | apply below_alloc | apply pw_below_drewN | apply below_drew1) | exact HB.out)) hb); clear HB; have HO254 := n0_; have HB := n1_; clear n0_ n1_; clear hb ho5))
      go_loopg [4] k (fun kq v4 w' => ∃ (x3_1 : List (S76)) (x4_1 : Int), v4 = .int .i64 x4_1 ∧ Aside0 (laws_toEntryS.l0 kq l0 x3_1 x4_1 = some r) ∧ Aside0 (kq ≤ k) ∧ Aside0 (Kd.R k76 76 w' w.heap.size (fun _ => True) v253 x3_1) ∧ Aside0 (Below w.heap.size w w'))
      case atStart => exact ⟨(y252), (0), (by first | rfl | (simp; done) | (simp [*]; done)), H', ⟨Nat.le_refl _⟩, ⟨by (with_reducible repeat (first | apply Kd.R_alloc | apply Kd.R_drewN | apply Kd.R_drew)); exact HO254.out⟩, ⟨by repeat (first | (with_reducible first | exact HB.out | apply below_alloc | apply pw_below_drewN | apply below_drew1) | exact HB.out)⟩⟩
      case round =>
        clear H'
        try clear c2
        try clear c2b0
        try clear c2b1
        try clear p2
        try clear c3
        try clear c3b0
        try clear c3b1
        try clear c4
        obtain ⟨x3_1, x4_1, rfl, HA, HK1, HO_3, HB⟩ := hrel
        cases gk with
        | zero => exact absurd HA.out (by simp [laws_toEntryS.l0])
        | succ k1 =>
          have H := HA.out
          clear HA
          simp only [laws_toEntryS.l0] at H
          by_cases c6 : x4_1 < (l0.length : Int)
          · rw [if_pos c6] at H
            have c6b0 : decide (x4_1 < (l0.length : Int)) = true := decide_eq_true c6
            clear c6
            by_cases c7 : 0 ≤ x4_1
            · rw [if_pos c7] at H
              have c7b0 : decide (0 ≤ x4_1) = true := decide_eq_true c7
              clear c7
              replace H := Option.bind_eq_some_iff.mp H
              obtain ⟨⟨t256, t257, t258, t259, t260, t261, t262⟩, A80, H⟩ := H
              replace H : (if x4_1 < (x3_1.length : Int) then (laws_toEntryS.l0 k1 l0 (x3_1.set (x4_1 : Int).toNat (⟨t256, (⟨t257, t258, t259, t260, t261, t262⟩ : S36)⟩ : S76)) (wrap64 (x4_1 + 1))) else (none)) = some r := H
              have A8 := Aside0.mk A80
              clear A80
              by_cases c9 : x4_1 < (x3_1.length : Int)
              · rw [if_pos c9] at H
                have c9b0 : decide (x4_1 < (x3_1.length : Int)) = true := decide_eq_true c9
                clear c9
                obtain ⟨y263, hy263⟩ : ∃ y_ : List (S76), y_ = (x3_1.set (x4_1 : Int).toNat (⟨t256, (⟨t257, t258, t259, t260, t261, t262⟩ : S36)⟩ : S76)) := ⟨_, rfl⟩
                replace H : (laws_toEntryS.l0 k1 l0 y263 (wrap64 (x4_1 + 1))) = some r := by first | (rw [hy263]; with_reducible exact H) | (have H2_ := (Option.bind_some _ _).symm.trans H; rw [hy263]; with_reducible exact H2_) | (have H2_ := (Option.bind_some _ _).symm.trans H; with_reducible exact H2_) | with_reducible exact H | (rw [hy263]; exact H) | exact H
                have Ny263 := Aside0.mk hy263
                clear hy263
                have H' := Aside0.mk H
                clear H
                have p255 : 0 ≤ (x4_1 : Int) := of_decide_eq_true (by first | (with_reducible assumption) | assumption)
                have q255 : x4_1 < (l0.length : Int) := of_decide_eq_true (by first | (with_reducible assumption) | assumption)
                obtain ⟨ad255, e255, hx255_0, hx255_1, hx255_2, hx255_3, hx255_4, hx255_5, hx255_6⟩ := at_T85 HR0.out x4_1 p255 q255
                cases e255
                replace hx255_0 := (HB.out.cell (World.block_lt_of_cell? w _ hx255_0)).trans hx255_0
                replace hx255_1 := (HB.out.cell (World.block_lt_of_cell? w _ hx255_1)).trans hx255_1
                replace hx255_2 := (HB.out.cell (World.block_lt_of_cell? w _ hx255_2)).trans hx255_2
                replace hx255_3 := (HB.out.cell (World.block_lt_of_cell? w _ hx255_3)).trans hx255_3
                replace hx255_4 := (HB.out.cell (World.block_lt_of_cell? w _ hx255_4)).trans hx255_4
                replace hx255_5 := (HB.out.cell (World.block_lt_of_cell? w _ hx255_5)).trans hx255_5
                replace hx255_6 := (HB.out.cell (World.block_lt_of_cell? w _ hx255_6)).trans hx255_6
                replace p255 := eq_true p255
                replace q255 := eq_true q255
                go_wp2_with (first | ((with_reducible refine gate_callee (f := 58) rfl ?_); refine goesL_ (some 20) rfl rfl Tryd.func58 (by kernel_rfl) rfl #[.agg #[.int .i64 ((rd_T85 l0 x4_1).f0), .int .i64 ((rd_T85 l0 x4_1).f1.f0), .int .i64 ((rd_T85 l0 x4_1).f1.f1), .int .i64 ((rd_T85 l0 x4_1).f1.f2), .string ((rd_T85 l0 x4_1).f1.f3), .string ((rd_T85 l0 x4_1).f1.f4), .string ((rd_T85 l0 x4_1).f1.f5)]] rfl (by (try simp only [List.map_toArray, List.map_cons, List.map_nil]); first | done | rfl | (simp only [List.length_drop, List.length_take]; rfl)) ?_; (with_reducible refine (laws_toEntry.calls ((rd_T85 l0 x4_1).f0) ((rd_T85 l0 x4_1).f1.f0) ((rd_T85 l0 x4_1).f1.f1) ((rd_T85 l0 x4_1).f1.f2) ((rd_T85 l0 x4_1).f1.f3) ((rd_T85 l0 x4_1).f1.f4) ((rd_T85 l0 x4_1).f1.f5) t256 t257 t258 t259 t260 t261 t262 _ A8.out).mono ?_); rintro e w11 ⟨rfl, hb⟩; refine ⟨_, rfl, ?_⟩; have n0_ := Aside0.mk (Kd.R_below (by (with_reducible repeat (first | apply Kd.R_alloc | apply Kd.R_drewN | apply Kd.R_drew)); exact HO_3.out) hb); have n1_ := Aside0.mk (below_step (by repeat (first | (with_reducible first | exact HB.out | apply below_alloc | apply pw_below_drewN | apply below_drew1) | exact HB.out)) hb); clear HO_3; clear HB; have HO_3 := n0_; have HB := n1_; clear n0_ n1_; (try clear hb); (try clear hb2); (try clear hk); (try clear hi); have p10 : 0 ≤ (x4_1 : Int) := of_decide_eq_true (by first | (with_reducible assumption) | assumption); have q10 : (x4_1 : Int) < ((x3_1.length : Int) : Int) := of_decide_eq_true (by first | (with_reducible assumption) | assumption); obtain ⟨go10, co10, eo10, gb10, gl10, cl10, HG10⟩ := Kd.R_form HO_3.out (by omega); (first | cases eo10 | (injection eo10 with ea_ en_ ec_; (first | subst ea_ | (injection ea_ with ea_; subst ea_)); subst ec_; clear en_)); have GB10 := Aside0.mk gb10; have GG10 := Aside0.mk HG10; clear gb10 gl10 HG10; obtain ⟨ce10, hcl10, hM10, hcc10, hfr10⟩ := Kd.R_elem HO_3.out z76 (x4_1 : Int) p10 q10; obtain rfl := k76_openM hM10; have hx10_0 : w11.cell? ⟨go10, (x4_1 : Int).toNat * 7, none⟩ = some (.int .i64 ((rd_T76 x3_1 x4_1).f0)) := hcc10 0 _ rfl; have hx10_1 : w11.cell? ⟨go10, (x4_1 : Int).toNat * 7 + 1, none⟩ = some (.int .i64 ((rd_T76 x3_1 x4_1).f1.f0)) := hcc10 1 _ rfl; have hx10_2 : w11.cell? ⟨go10, (x4_1 : Int).toNat * 7 + 2, none⟩ = some (.int .i64 ((rd_T76 x3_1 x4_1).f1.f1)) := hcc10 2 _ rfl; have hx10_3 : w11.cell? ⟨go10, (x4_1 : Int).toNat * 7 + 3, none⟩ = some (.int .i64 ((rd_T76 x3_1 x4_1).f1.f2)) := hcc10 3 _ rfl; have hx10_4 : w11.cell? ⟨go10, (x4_1 : Int).toNat * 7 + 4, none⟩ = some (.string ((rd_T76 x3_1 x4_1).f1.f3)) := hcc10 4 _ rfl; have hx10_5 : w11.cell? ⟨go10, (x4_1 : Int).toNat * 7 + 5, none⟩ = some (.string ((rd_T76 x3_1 x4_1).f1.f4)) := hcc10 5 _ rfl; have hx10_6 : w11.cell? ⟨go10, (x4_1 : Int).toNat * 7 + 6, none⟩ = some (.string ((rd_T76 x3_1 x4_1).f1.f5)) := hcc10 6 _ rfl; have hf10_0 : w11.frozen? ⟨go10, (x4_1 : Int).toNat * 7, none⟩ = false := hfr10 0; have hf10_1 : w11.frozen? ⟨go10, (x4_1 : Int).toNat * 7 + 1, none⟩ = false := hfr10 1; have hf10_2 : w11.frozen? ⟨go10, (x4_1 : Int).toNat * 7 + 2, none⟩ = false := hfr10 2; have hf10_3 : w11.frozen? ⟨go10, (x4_1 : Int).toNat * 7 + 3, none⟩ = false := hfr10 3; have hf10_4 : w11.frozen? ⟨go10, (x4_1 : Int).toNat * 7 + 4, none⟩ = false := hfr10 4; have hf10_5 : w11.frozen? ⟨go10, (x4_1 : Int).toNat * 7 + 5, none⟩ = false := hfr10 5; have hf10_6 : w11.frozen? ⟨go10, (x4_1 : Int).toNat * 7 + 6, none⟩ = false := hfr10 6; clear hcl10 hcc10 hfr10 hM10; replace p10 := eq_true p10; replace q10 := eq_true q10; have HX12 := Aside0.mk (show Kd.R k76 76 w11 w.heap.size (fun _ => True) (.slice (some ⟨go10, 0, none⟩) x3_1.length co10) x3_1 from (by (with_reducible repeat (first | apply Kd.R_alloc | apply Kd.R_drewN | apply Kd.R_drew)); exact HO_3.out)); obtain ⟨ce12, hcl12, hM12, hcc12, hfr12⟩ := Kd.R_elem HX12.out z76 (x4_1 : Int) (of_decide_eq_true (by first | (with_reducible assumption) | assumption)) (by have h_ : (x4_1 : Int) < ((x3_1.length : Int) : Int) := of_decide_eq_true (by first | (with_reducible assumption) | assumption); first | exact h_ | (have e_ := (Kd.R_reads' HO_3.out).1; omega) | simpa using h_); obtain rfl := k76_openM hM12; have HP12 := Kd.R_seg HX12.out (x4_1 : Int) (of_decide_eq_true (by first | (with_reducible assumption) | assumption)) (by have h_ : (x4_1 : Int) < ((x3_1.length : Int) : Int) := of_decide_eq_true (by first | (with_reducible assumption) | assumption); first | exact h_ | (have e_ := (Kd.R_reads' HO_3.out).1; omega) | simpa using h_) (seg := [.int .i64 t256, .int .i64 t257, .int .i64 t258, .int .i64 t259, .string t260, .string t261, .string t262]) (j := 0) hcl12 hcc12 (show 7 ≤ 7 from by decide) (x' := (⟨t256, (⟨t257, t258, t259, t260, t261, t262⟩ : S36)⟩ : S76)) (k76_mkM _ _ _ (⟨t256, (⟨t257, t258, t259, t260, t261, t262⟩ : S36)⟩ : S76) ) (fun _ hk => hk); have hx12_0 := hcc12 0 _ rfl; (try simp only [show (k76).sz = 7 from rfl, Nat.mul_one, Nat.add_zero] at hx12_0); have hf12_0 := hfr12 0; (try simp only [show (k76).sz = 7 from rfl, Nat.mul_one, Nat.add_zero] at hf12_0); have hx12_1 := hcc12 1 _ rfl; (try simp only [show (k76).sz = 7 from rfl, Nat.mul_one, Nat.add_zero] at hx12_1); have hf12_1 := hfr12 1; (try simp only [show (k76).sz = 7 from rfl, Nat.mul_one, Nat.add_zero] at hf12_1); have hx12_2 := hcc12 2 _ rfl; (try simp only [show (k76).sz = 7 from rfl, Nat.mul_one, Nat.add_zero] at hx12_2); have hf12_2 := hfr12 2; (try simp only [show (k76).sz = 7 from rfl, Nat.mul_one, Nat.add_zero] at hf12_2); have hx12_3 := hcc12 3 _ rfl; (try simp only [show (k76).sz = 7 from rfl, Nat.mul_one, Nat.add_zero] at hx12_3); have hf12_3 := hfr12 3; (try simp only [show (k76).sz = 7 from rfl, Nat.mul_one, Nat.add_zero] at hf12_3); have hx12_4 := hcc12 4 _ rfl; (try simp only [show (k76).sz = 7 from rfl, Nat.mul_one, Nat.add_zero] at hx12_4); have hf12_4 := hfr12 4; (try simp only [show (k76).sz = 7 from rfl, Nat.mul_one, Nat.add_zero] at hf12_4); have hx12_5 := hcc12 5 _ rfl; (try simp only [show (k76).sz = 7 from rfl, Nat.mul_one, Nat.add_zero] at hx12_5); have hf12_5 := hfr12 5; (try simp only [show (k76).sz = 7 from rfl, Nat.mul_one, Nat.add_zero] at hf12_5); have hx12_6 := hcc12 6 _ rfl; (try simp only [show (k76).sz = 7 from rfl, Nat.mul_one, Nat.add_zero] at hx12_6); have hf12_6 := hfr12 6; (try simp only [show (k76).sz = 7 from rfl, Nat.mul_one, Nat.add_zero] at hf12_6); clear hcl12 hcc12 hfr12 hM12) | ((with_reducible refine gate_store (t := 76) (p := 21) rfl ?_); refine store_event (t := 76) (p := 21) (v := ?vo_w13) (w1 := (((((((w11.setCell ⟨go10, (x4_1 : Int).toNat * 7, none⟩ (.int .i64 t256)).setCell ⟨go10, (x4_1 : Int).toNat * 7 + 1, none⟩ (.int .i64 t257)).setCell ⟨go10, (x4_1 : Int).toNat * 7 + 2, none⟩ (.int .i64 t258)).setCell ⟨go10, (x4_1 : Int).toNat * 7 + 3, none⟩ (.int .i64 t259)).setCell ⟨go10, (x4_1 : Int).toNat * 7 + 4, none⟩ (.string t260)).setCell ⟨go10, (x4_1 : Int).toNat * 7 + 5, none⟩ (.string t261)).setCell ⟨go10, (x4_1 : Int).toNat * 7 + 6, none⟩ (.string t262))) ?hg ?ho ?hn ?hr ?_; (case ho => rfl); (case hg => rfl); (case hn => rfl); (case hr => first | (go_simp; done) | (go_simp; rfl)); intro w13 hw; have hg : w11.grownBy w13 (some go10) := (by rw [hw]; exact HP12.2); have hp_ : Kd.R k76 76 w13 w.heap.size (fun _ => True) (.slice (some ⟨go10, 0, none⟩) x3_1.length co10) y263 := (by rw [hw, Ny263.out]; exact HP12.1); clear HP12; have n0_ := Aside0.mk (hp_); have n1_ := Aside0.mk ((by rw [hw]; exact below_set (below_set (below_set (below_set (below_set (below_set (below_set (HB.out) GB10.out) GB10.out) GB10.out) GB10.out) GB10.out) GB10.out) GB10.out : Below w.heap.size w w13)); clear HO_3; clear HB; have HO_3 := n0_; have HB := n1_; clear n0_ n1_; clear hg hw hp_))
                go_roundg k1
                case measure => have := HK1.out; omega
                case rel => exact ⟨(y263), (wrap64 (x4_1 + 1)), (by first | rfl | (simp; done) | (simp [*]; done)), H', ⟨by have := HK1.out; omega⟩, ⟨by (with_reducible repeat (first | apply Kd.R_alloc | apply Kd.R_drewN | apply Kd.R_drew)); exact HO_3.out⟩, ⟨by repeat (first | (with_reducible first | exact HB.out | apply below_alloc | apply pw_below_drewN | apply below_drew1) | exact HB.out)⟩⟩
              · rw [if_neg c9] at H
                exact absurd H (by simp)
            · rw [if_neg c7] at H
              exact absurd H (by simp)
          · rw [if_neg c6] at H
            have c6b0 : decide (x4_1 < (l0.length : Int)) = false := decide_eq_false c6
            clear c6
            obtain rfl := Option.some.inj H
            go_wp2
            go_ret
            exact ⟨_, by first | rfl | (simp [errW_none, errW_some] <;> rfl) | (simp [*, errW_none, errW_some] <;> rfl), by (with_reducible repeat (first | apply Kd.R_alloc | apply Kd.R_drewN | apply Kd.R_drew)); exact HO_3.out, by repeat (first | (with_reducible first | exact HB.out | apply below_alloc | apply pw_below_drewN | apply below_drew1) | exact HB.out)⟩
    · rw [if_neg c3] at H
      exact absurd H (by simp)
  · rw [if_neg c2] at H
    exact absurd H (by simp)

-- BY HAND: function 20 (laws_toMsg)

-- NOT PRINTED: function 53 (impl_firstByte)

-- BY HAND: function 54 (impl_little)

-- NOT PRINTED: function 55 (impl_Crc32)

-- NOT PRINTED: function 34 (impl_encode)

-- BY HAND: function 21 (impl_EncodeMsg)

end Go.Proofs.YthiebcecflpbnaaDoor.PFnExactEncodeMsg
