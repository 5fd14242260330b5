-- a print of the walks of FnExactEncodeRecords by a program
import Derived.Test.YthiebcecflpbnaaDoorZH40
import Derived.Test.YthiebcecflpbnaaDoorZPFnExactEncodeRecordsx1
import Derived.Test.YthiebcecflpbnaaDoorZPFnExactEncodeRecordsx3
namespace Go.Proofs.YthiebcecflpbnaaDoor.PFnExactEncodeRecords
open Go.RowKit Go.Proofs.YthiebcecflpbnaaDoorW.PrintWords Go.Proofs.YthiebcecflpbnaaDoorW.PrintLast Go.Proofs.YthiebcecflpbnaaDoorW.PrintMore
attribute [local go_sem] max2_int min2_int max_two min_two max_three min_three max_four min_four   -- for this text's walks alone
set_option linter.unusedVariables false
set_option linter.unusedSimpArgs false

attribute [local go_sem high] eqA36
/-! ### spec_l2recordOk: function 60 -/
mutual
def spec_l2recordOk.j0 : Nat → Bool → Int → Int → Int → Int → Int → Int → Int → Int → ByteArray → ByteArray → ByteArray → Option (Bool)
  | 0, _, _, _, _, _, _, _, _, _, _, _, _ => none
  | k + 1, x3, x116000, x116001, x116002, x116003, x116004, x116005, x116006, x116007, x116008, x116009, x116010 => if x116000 = 1 then (if x116003 = 0 then (if x3 = true then ((spec_l1in.f x116001 0 1073741824).bind fun t116 => (if t116 = true then ((spec_l1in.f x116002 0 7).bind fun t117 => (if t117 = true then (if x116001 > 0 then (some true) else (some (x116002 == 0))) else (some false))) else (some false))) else (some false)) else (some false)) else (if x116001 = 0 then (spec_l2recordOk.j1 k x3 (x116002 != 0) x116000 x116001 x116002 x116003 x116004 x116005 x116006 x116007 x116008 x116009 x116010) else (spec_l2recordOk.j1 k x3 true x116000 x116001 x116002 x116003 x116004 x116005 x116006 x116007 x116008 x116009 x116010))
def spec_l2recordOk.j1 : Nat → Bool → Bool → Int → Int → Int → Int → Int → Int → Int → Int → ByteArray → ByteArray → ByteArray → Option (Bool)
  | 0, _, _, _, _, _, _, _, _, _, _, _, _, _ => none
  | k + 1, x3, x51, x116000, x116001, x116002, x116003, x116004, x116005, x116006, x116007, x116008, x116009, x116010 => if x51 = true then (some false) else (if x116000 = 2 then ((spec_l1in.f x116003 1 4096).bind fun t118 => (if t118 = true then ((spec_l1entryOk.f k x116004 x116005 x116006 x116007 x116008 x116009 x116010).bind fun t119 => (some t119)) else (some false))) else (if x116000 = 3 then (if x3 = true then ((spec_l1in.f x116003 0 4096).bind fun t120 => (some t120)) else (some false)) else (some false)))
end
def spec_l2recordOk.f (k : Nat) (a0_0 : Int) (a0_1 : Int) (a0_2 : Int) (a0_3 : Int) (a0_4 : Int) (a0_5 : Int) (a0_6 : Int) (a0_7 : Int) (a0_8 : ByteArray) (a0_9 : ByteArray) (a0_10 : ByteArray) : Option (Bool) := if a0_4 = 0 then (spec_l2recordOk.j0 k (a0_5 == 0 && (a0_6 == 0 && (a0_7 == 0 && (a0_8.toList == ([] : List UInt8) && (a0_9.toList == ([] : List UInt8) && (a0_10.toList == ([] : List UInt8))))))) a0_0 a0_1 a0_2 a0_3 a0_4 a0_5 a0_6 a0_7 a0_8 a0_9 a0_10) else (spec_l2recordOk.j0 k false a0_0 a0_1 a0_2 a0_3 a0_4 a0_5 a0_6 a0_7 a0_8 a0_9 a0_10)
theorem spec_l2recordOk.mono_l : ∀ k, (∀ y0 y1 y2 y3 y4 y5 y6 y7 y8 y9 y10 y11, LeO (spec_l2recordOk.j0 k y0 y1 y2 y3 y4 y5 y6 y7 y8 y9 y10 y11) (spec_l2recordOk.j0 (k + 1) y0 y1 y2 y3 y4 y5 y6 y7 y8 y9 y10 y11)) ∧ (∀ y0 y1 y2 y3 y4 y5 y6 y7 y8 y9 y10 y11 y12, LeO (spec_l2recordOk.j1 k y0 y1 y2 y3 y4 y5 y6 y7 y8 y9 y10 y11 y12) (spec_l2recordOk.j1 (k + 1) y0 y1 y2 y3 y4 y5 y6 y7 y8 y9 y10 y11 y12))
  | 0 => ⟨fun _ _ _ _ _ _ _ _ _ _ _ _ r h => by simp [spec_l2recordOk.j0] at h, fun _ _ _ _ _ _ _ _ _ _ _ _ _ r h => by simp [spec_l2recordOk.j1] at h⟩
  | k + 1 => by
    obtain ⟨ih0, ih1⟩ := spec_l2recordOk.mono_l k
    refine ⟨?_, ?_⟩
    · intro y0 y1 y2 y3 y4 y5 y6 y7 y8 y9 y10 y11
      unfold spec_l2recordOk.j0
      repeat' first
      | (with_reducible exact ih0 _ _ _ _ _ _ _ _ _ _ _ _)
      | (with_reducible exact ih1 _ _ _ _ _ _ _ _ _ _ _ _ _)
      | (with_reducible exact spec_l1entryOk.mono _ _ _ _ _ _ _ _)
      | (with_reducible exact LeO.refl _)
      | (with_reducible exact LeO.none _)
      | (with_reducible refine LeO.ite ?_ ?_)
      | (with_reducible refine LeO.bind ?_ (fun _ => ?_))
      | exact ih0 _ _ _ _ _ _ _ _ _ _ _ _
      | exact ih1 _ _ _ _ _ _ _ _ _ _ _ _ _
      | exact spec_l1entryOk.mono _ _ _ _ _ _ _ _
      | exact LeO.none _
      | refine LeO.ite ?_ ?_
      | refine LeO.bind ?_ (fun _ => ?_)
    · intro y0 y1 y2 y3 y4 y5 y6 y7 y8 y9 y10 y11 y12
      unfold spec_l2recordOk.j1
      repeat' first
      | (with_reducible exact ih0 _ _ _ _ _ _ _ _ _ _ _ _)
      | (with_reducible exact ih1 _ _ _ _ _ _ _ _ _ _ _ _ _)
      | (with_reducible exact spec_l1entryOk.mono _ _ _ _ _ _ _ _)
      | (with_reducible exact LeO.refl _)
      | (with_reducible exact LeO.none _)
      | (with_reducible refine LeO.ite ?_ ?_)
      | (with_reducible refine LeO.bind ?_ (fun _ => ?_))
      | exact ih0 _ _ _ _ _ _ _ _ _ _ _ _
      | exact ih1 _ _ _ _ _ _ _ _ _ _ _ _ _
      | exact spec_l1entryOk.mono _ _ _ _ _ _ _ _
      | exact LeO.none _
      | refine LeO.ite ?_ ?_
      | refine LeO.bind ?_ (fun _ => ?_)
theorem spec_l2recordOk.mono : ∀ a0 a1 a2 a3 a4 a5 a6 a7 a8 a9 a10 k, LeO (spec_l2recordOk.f k a0 a1 a2 a3 a4 a5 a6 a7 a8 a9 a10) (spec_l2recordOk.f (k + 1) a0 a1 a2 a3 a4 a5 a6 a7 a8 a9 a10) := by
  intro a0 a1 a2 a3 a4 a5 a6 a7 a8 a9 a10 k
  obtain ⟨ih0, ih1⟩ := spec_l2recordOk.mono_l k
  unfold spec_l2recordOk.f
  repeat' first
      | (with_reducible exact ih0 _ _ _ _ _ _ _ _ _ _ _ _)
      | (with_reducible exact ih1 _ _ _ _ _ _ _ _ _ _ _ _ _)
      | (with_reducible exact spec_l1entryOk.mono _ _ _ _ _ _ _ _)
      | (with_reducible exact LeO.refl _)
      | (with_reducible exact LeO.none _)
      | (with_reducible refine LeO.ite ?_ ?_)
      | (with_reducible refine LeO.bind ?_ (fun _ => ?_))
      | exact ih0 _ _ _ _ _ _ _ _ _ _ _ _
      | exact ih1 _ _ _ _ _ _ _ _ _ _ _ _ _
      | exact spec_l1entryOk.mono _ _ _ _ _ _ _ _
      | exact LeO.none _
      | refine LeO.ite ?_ ?_
      | refine LeO.bind ?_ (fun _ => ?_)
set_option maxHeartbeats 8000000 in
set_option maxRecDepth 100000 in
theorem spec_l2recordOk.calls (k : Nat) (a0_0 : Int) (a0_1 : Int) (a0_2 : Int) (a0_3 : Int) (a0_4 : Int) (a0_5 : Int) (a0_6 : Int) (a0_7 : Int) (a0_8 : ByteArray) (a0_9 : ByteArray) (a0_10 : ByteArray) (r : Bool) (w : World) (h : spec_l2recordOk.f k a0_0 a0_1 a0_2 a0_3 a0_4 a0_5 a0_6 a0_7 a0_8 a0_9 a0_10 = some r) :
    Calls Tryd.prog 60 #[.agg #[.int .i64 a0_0, .int .i64 a0_1, .int .i64 a0_2, .int .i64 a0_3, .int .i64 a0_4, .int .i64 a0_5, .int .i64 a0_6, .int .i64 a0_7, .string a0_8, .string a0_9, .string a0_10]] w fun e w' => e = .returned (.bool r) ∧ Below w.heap.size w w' := by
  have hu91 := Tryd.underlying91
  have hu36 := Tryd.underlying36
  have hu76 := Tryd.underlying76
  have HB := Aside0.mk (Below.refl w.heap.size w)
  have H : (if a0_4 = 0 then (spec_l2recordOk.j0 k (a0_5 == 0 && (a0_6 == 0 && (a0_7 == 0 && (a0_8.toList == ([] : List UInt8) && (a0_9.toList == ([] : List UInt8) && (a0_10.toList == ([] : List UInt8))))))) a0_0 a0_1 a0_2 a0_3 a0_4 a0_5 a0_6 a0_7 a0_8 a0_9 a0_10) else (spec_l2recordOk.j0 k false a0_0 a0_1 a0_2 a0_3 a0_4 a0_5 a0_6 a0_7 a0_8 a0_9 a0_10)) = some r := h
  clear h
  have HC2 := Aside0.mk H
  clear H
  go_enter Tryd.func60, Tryd.ntmps60
  go_upto_region 1 with (first | ((with_reducible refine gate_dst (N := 1) rfl ?_); refine box_event ?hg (N := 1) ?hd (cs := #[.int .i64 a0_0, .int .i64 a0_1, .int .i64 a0_2, .int .i64 a0_3, .int .i64 a0_4, .int .i64 a0_5, .int .i64 a0_6, .int .i64 a0_7, .string a0_8, .string a0_9, .string a0_10]) (t := 91) ?hr ?_; (case hd => rfl); (case hg => rfl); (case hr => first | (go_simp; done) | (go_simp; rfl)); intro gb115 hg w3 hbox hb; have n0_ := Aside0.mk (below_step (by repeat (first | (with_reducible first | exact HB.out | apply below_alloc | apply pw_below_drewN | apply below_drew1) | exact HB.out)) hb); have n1_ := Aside0.mk (hbox); have n2_ := Aside0.mk ((by rw [hg]; exact (below_size (by repeat (first | (with_reducible first | exact HB.out | apply below_alloc | apply pw_below_drewN | apply below_drew1) | exact HB.out))) : w.heap.size ≤ gb115)); have n3_ := Aside0.mk ((by rw [hg]; exact (below_size (by repeat (first | (with_reducible first | exact HB.out | apply below_alloc | apply pw_below_drewN | apply below_drew1) | exact HB.out))) : w.heap.size ≤ gb115)); clear HB; have HB := n0_; have BK115 := n1_; have GW115 := n2_; have GE115 := n3_; clear n0_ n1_ n2_ n3_; clear hb hbox hg))
  (try simp only [Act.put, List.setIfInBounds_toArray, List.set_cons_zero, List.set_cons_succ])
  go_cut [3] (fun v3 wc => ∃ (kq : Nat) (x3_1 : Bool), v3 = .bool x3_1 ∧ Aside0 (spec_l2recordOk.j0 kq x3_1 a0_0 a0_1 a0_2 a0_3 a0_4 a0_5 a0_6 a0_7 a0_8 a0_9 a0_10 = some r) ∧ Aside0 (kq ≤ k) ∧ Aside0 (wc.heap[gb115]? = some (.cells #[.int .i64 a0_0, .int .i64 a0_1, .int .i64 a0_2, .int .i64 a0_3, .int .i64 a0_4, .int .i64 a0_5, .int .i64 a0_6, .int .i64 a0_7, .string a0_8, .string a0_9, .string a0_10] 91 (0, 0))) ∧ Aside0 (Below w.heap.size w wc))
  case first =>
    have H := HC2.out
    clear HC2
    by_cases c4 : a0_4 = 0
    · rw [if_pos c4] at H
      have c4b0 : (a0_4 == 0) = true := beq_iff_eq.mpr c4
      have c4b1 : (a0_4 != 0) = false := bne_eq_false_iff_eq.mpr c4
      clear c4
      (first | rw [c4b0] | (simp only [i64_w, i32_w]; rw [c4b0]) | skip)
      have H' := Aside0.mk H
      clear H
      have hcz5_0 : w3.cell? ⟨gb115, 0, none⟩ = some (.int .i64 a0_0) := (blk_cell BK115.out 0).trans rfl
      have hcz5_1 : w3.cell? ⟨gb115, 1, none⟩ = some (.int .i64 a0_1) := (blk_cell BK115.out 1).trans rfl
      have hcz5_2 : w3.cell? ⟨gb115, 2, none⟩ = some (.int .i64 a0_2) := (blk_cell BK115.out 2).trans rfl
      have hcz5_3 : w3.cell? ⟨gb115, 3, none⟩ = some (.int .i64 a0_3) := (blk_cell BK115.out 3).trans rfl
      have hcz5_4 : w3.cell? ⟨gb115, 4, none⟩ = some (.int .i64 a0_4) := (blk_cell BK115.out 4).trans rfl
      have hcz5_5 : w3.cell? ⟨gb115, 5, none⟩ = some (.int .i64 a0_5) := (blk_cell BK115.out 5).trans rfl
      have hcz5_6 : w3.cell? ⟨gb115, 6, none⟩ = some (.int .i64 a0_6) := (blk_cell BK115.out 6).trans rfl
      have hcz5_7 : w3.cell? ⟨gb115, 7, none⟩ = some (.int .i64 a0_7) := (blk_cell BK115.out 7).trans rfl
      have hcz5_8 : w3.cell? ⟨gb115, 8, none⟩ = some (.string a0_8) := (blk_cell BK115.out 8).trans rfl
      have hcz5_9 : w3.cell? ⟨gb115, 9, none⟩ = some (.string a0_9) := (blk_cell BK115.out 9).trans rfl
      have hcz5_10 : w3.cell? ⟨gb115, 10, none⟩ = some (.string a0_10) := (blk_cell BK115.out 10).trans rfl
      have hfz5_0 := blk_frozen BK115.out 0
      have hfz5_1 := blk_frozen BK115.out 1
      have hfz5_2 := blk_frozen BK115.out 2
      have hfz5_3 := blk_frozen BK115.out 3
      have hfz5_4 := blk_frozen BK115.out 4
      have hfz5_5 := blk_frozen BK115.out 5
      have hfz5_6 := blk_frozen BK115.out 6
      have hfz5_7 := blk_frozen BK115.out 7
      have hfz5_8 := blk_frozen BK115.out 8
      have hfz5_9 := blk_frozen BK115.out 9
      have hfz5_10 := blk_frozen BK115.out 10
      go_wp2
      go_meet
      case rel => exact ⟨_, ((a0_5 == 0 && (a0_6 == 0 && (a0_7 == 0 && (a0_8.toList == ([] : List UInt8) && (a0_9.toList == ([] : List UInt8) && (a0_10.toList == ([] : List UInt8)))))))), (by first | rfl | (simp; done) | (simp [*]; done)), H', ⟨by first | omega | exact Nat.le_refl _⟩, ⟨by (with_reducible repeat (first | refine blk_drewN ?_ _ | refine blk_drew ?_ | refine blk_alloc ?_ _)); exact BK115.out⟩, ⟨by repeat (first | (with_reducible first | exact HB.out | apply below_alloc | apply pw_below_drewN | apply below_drew1 | refine below_set ?_ GE115.out) | exact HB.out)⟩⟩
    · rw [if_neg c4] at H
      have c4b0 : (a0_4 == 0) = false := beq_eq_false_iff_ne.mpr c4
      have c4b1 : (a0_4 != 0) = true := bne_iff_ne.mpr c4
      (first | rw [c4b0] | (simp only [i64_w, i32_w]; rw [c4b0]) | skip)
      have H' := Aside0.mk H
      clear H
      have hcz6_0 : w3.cell? ⟨gb115, 0, none⟩ = some (.int .i64 a0_0) := (blk_cell BK115.out 0).trans rfl
      have hcz6_1 : w3.cell? ⟨gb115, 1, none⟩ = some (.int .i64 a0_1) := (blk_cell BK115.out 1).trans rfl
      have hcz6_2 : w3.cell? ⟨gb115, 2, none⟩ = some (.int .i64 a0_2) := (blk_cell BK115.out 2).trans rfl
      have hcz6_3 : w3.cell? ⟨gb115, 3, none⟩ = some (.int .i64 a0_3) := (blk_cell BK115.out 3).trans rfl
      have hcz6_4 : w3.cell? ⟨gb115, 4, none⟩ = some (.int .i64 a0_4) := (blk_cell BK115.out 4).trans rfl
      have hcz6_5 : w3.cell? ⟨gb115, 5, none⟩ = some (.int .i64 a0_5) := (blk_cell BK115.out 5).trans rfl
      have hcz6_6 : w3.cell? ⟨gb115, 6, none⟩ = some (.int .i64 a0_6) := (blk_cell BK115.out 6).trans rfl
      have hcz6_7 : w3.cell? ⟨gb115, 7, none⟩ = some (.int .i64 a0_7) := (blk_cell BK115.out 7).trans rfl
      have hcz6_8 : w3.cell? ⟨gb115, 8, none⟩ = some (.string a0_8) := (blk_cell BK115.out 8).trans rfl
      have hcz6_9 : w3.cell? ⟨gb115, 9, none⟩ = some (.string a0_9) := (blk_cell BK115.out 9).trans rfl
      have hcz6_10 : w3.cell? ⟨gb115, 10, none⟩ = some (.string a0_10) := (blk_cell BK115.out 10).trans rfl
      have hfz6_0 := blk_frozen BK115.out 0
      have hfz6_1 := blk_frozen BK115.out 1
      have hfz6_2 := blk_frozen BK115.out 2
      have hfz6_3 := blk_frozen BK115.out 3
      have hfz6_4 := blk_frozen BK115.out 4
      have hfz6_5 := blk_frozen BK115.out 5
      have hfz6_6 := blk_frozen BK115.out 6
      have hfz6_7 := blk_frozen BK115.out 7
      have hfz6_8 := blk_frozen BK115.out 8
      have hfz6_9 := blk_frozen BK115.out 9
      have hfz6_10 := blk_frozen BK115.out 10
      go_wp2
      go_meet
      case rel => exact ⟨_, (false), (by first | rfl | (simp; done) | (simp [*]; done)), H', ⟨by first | omega | exact Nat.le_refl _⟩, ⟨by (with_reducible repeat (first | refine blk_drewN ?_ _ | refine blk_drew ?_ | refine blk_alloc ?_ _)); exact BK115.out⟩, ⟨by repeat (first | (with_reducible first | exact HB.out | apply below_alloc | apply pw_below_drewN | apply below_drew1 | refine below_set ?_ GE115.out) | exact HB.out)⟩⟩
  case rest =>
    clear HC2
    try clear p2
    try clear c4
    try clear c4b0
    try clear c4b1
    try clear c6
    try clear hcz5_0
    try clear hcz5_1
    try clear hcz5_10
    try clear hcz5_2
    try clear hcz5_3
    try clear hcz5_4
    try clear hcz5_5
    try clear hcz5_6
    try clear hcz5_7
    try clear hcz5_8
    try clear hcz5_9
    try clear hcz6_0
    try clear hcz6_1
    try clear hcz6_10
    try clear hcz6_2
    try clear hcz6_3
    try clear hcz6_4
    try clear hcz6_5
    try clear hcz6_6
    try clear hcz6_7
    try clear hcz6_8
    try clear hcz6_9
    try clear hfz5_0
    try clear hfz5_1
    try clear hfz5_10
    try clear hfz5_2
    try clear hfz5_3
    try clear hfz5_4
    try clear hfz5_5
    try clear hfz5_6
    try clear hfz5_7
    try clear hfz5_8
    try clear hfz5_9
    try clear hfz6_0
    try clear hfz6_1
    try clear hfz6_10
    try clear hfz6_2
    try clear hfz6_3
    try clear hfz6_4
    try clear hfz6_5
    try clear hfz6_6
    try clear hfz6_7
    try clear hfz6_8
    try clear hfz6_9
    obtain ⟨kq, x3_1, rfl, HA, HJ1, BK115, HB⟩ := hcut
    cases kq with
    | zero => exact absurd HA.out (by simp [spec_l2recordOk.j0])
    | succ kj1 =>
      have H := HA.out
      clear HA
      simp only [spec_l2recordOk.j0] at H
      by_cases c7 : a0_0 = 1
      · rw [if_pos c7] at H
        have c7b0 : (a0_0 == 1) = true := beq_iff_eq.mpr c7
        have c7b1 : (a0_0 != 1) = false := bne_eq_false_iff_eq.mpr c7
        clear c7
        by_cases c8 : a0_3 = 0
        · rw [if_pos c8] at H
          have c8b0 : (a0_3 == 0) = true := beq_iff_eq.mpr c8
          have c8b1 : (a0_3 != 0) = false := bne_eq_false_iff_eq.mpr c8
          clear c8
          by_cases c9 : x3_1 = true
          · subst c9
            have H1 : ((spec_l1in.f a0_1 0 1073741824).bind fun t116 => (if t116 = true then ((spec_l1in.f a0_2 0 7).bind fun t117 => (if t117 = true then (if a0_1 > 0 then (some true) else (some (a0_2 == 0))) else (some false))) else (some false))) = some r := by rw [if_pos rfl] at H; exact H
            clear H
            have H := H1
            clear H1
            replace H := Option.bind_eq_some_iff.mp H
            obtain ⟨t116, A100, H⟩ := H
            replace H : (if t116 = true then ((spec_l1in.f a0_2 0 7).bind fun t117 => (if t117 = true then (if a0_1 > 0 then (some true) else (some (a0_2 == 0))) else (some false))) else (some false)) = some r := H
            have A10 := Aside0.mk A100
            clear A100
            by_cases c11 : t116 = true
            · subst c11
              have H1 : ((spec_l1in.f a0_2 0 7).bind fun t117 => (if t117 = true then (if a0_1 > 0 then (some true) else (some (a0_2 == 0))) else (some false))) = some r := by rw [if_pos rfl] at H; exact H
              clear H
              have H := H1
              clear H1
              replace H := Option.bind_eq_some_iff.mp H
              obtain ⟨t117, A120, H⟩ := H
              replace H : (if t117 = true then (if a0_1 > 0 then (some true) else (some (a0_2 == 0))) else (some false)) = some r := H
              have A12 := Aside0.mk A120
              clear A120
              by_cases c13 : t117 = true
              · subst c13
                have H1 : (if a0_1 > 0 then (some true) else (some (a0_2 == 0))) = some r := by rw [if_pos rfl] at H; exact H
                clear H
                have H := H1
                clear H1
                by_cases c14 : a0_1 > 0
                · rw [if_pos c14] at H
                  have c14b0 : decide (0 < a0_1) = true := decide_eq_true c14
                  clear c14
                  obtain rfl := Option.some.inj H
                  have hcz15_0 : wc.cell? ⟨gb115, 0, none⟩ = some (.int .i64 a0_0) := (blk_cell BK115.out 0).trans rfl
                  have hcz15_1 : wc.cell? ⟨gb115, 1, none⟩ = some (.int .i64 a0_1) := (blk_cell BK115.out 1).trans rfl
                  have hcz15_2 : wc.cell? ⟨gb115, 2, none⟩ = some (.int .i64 a0_2) := (blk_cell BK115.out 2).trans rfl
                  have hcz15_3 : wc.cell? ⟨gb115, 3, none⟩ = some (.int .i64 a0_3) := (blk_cell BK115.out 3).trans rfl
                  have hcz15_4 : wc.cell? ⟨gb115, 4, none⟩ = some (.int .i64 a0_4) := (blk_cell BK115.out 4).trans rfl
                  have hcz15_5 : wc.cell? ⟨gb115, 5, none⟩ = some (.int .i64 a0_5) := (blk_cell BK115.out 5).trans rfl
                  have hcz15_6 : wc.cell? ⟨gb115, 6, none⟩ = some (.int .i64 a0_6) := (blk_cell BK115.out 6).trans rfl
                  have hcz15_7 : wc.cell? ⟨gb115, 7, none⟩ = some (.int .i64 a0_7) := (blk_cell BK115.out 7).trans rfl
                  have hcz15_8 : wc.cell? ⟨gb115, 8, none⟩ = some (.string a0_8) := (blk_cell BK115.out 8).trans rfl
                  have hcz15_9 : wc.cell? ⟨gb115, 9, none⟩ = some (.string a0_9) := (blk_cell BK115.out 9).trans rfl
                  have hcz15_10 : wc.cell? ⟨gb115, 10, none⟩ = some (.string a0_10) := (blk_cell BK115.out 10).trans rfl
                  have hfz15_0 := blk_frozen BK115.out 0
                  have hfz15_1 := blk_frozen BK115.out 1
                  have hfz15_2 := blk_frozen BK115.out 2
                  have hfz15_3 := blk_frozen BK115.out 3
                  have hfz15_4 := blk_frozen BK115.out 4
                  have hfz15_5 := blk_frozen BK115.out 5
                  have hfz15_6 := blk_frozen BK115.out 6
                  have hfz15_7 := blk_frozen BK115.out 7
                  have hfz15_8 := blk_frozen BK115.out 8
                  have hfz15_9 := blk_frozen BK115.out 9
                  have hfz15_10 := blk_frozen BK115.out 10
                  go_wp2_with (first | (go_at_call 50; (with_reducible refine (spec_l1in.calls a0_1 0 1073741824 true _ A10.out).mono ?_); rintro e w' ⟨rfl, ⟨nd, rfl⟩⟩) | (go_at_call 50; (with_reducible refine (spec_l1in.calls a0_2 0 7 true _ A12.out).mono ?_); rintro e w' ⟨rfl, ⟨nd, rfl⟩⟩))
                  go_ret
                  exact ⟨by first | rfl | (simp [errW_none, errW_some] <;> rfl) | (simp [*, errW_none, errW_some] <;> rfl), by repeat (first | (with_reducible first | exact HB.out | apply below_alloc | apply pw_below_drewN | apply below_drew1 | refine below_set ?_ GE115.out) | exact HB.out)⟩
                · rw [if_neg c14] at H
                  have c14b0 : decide (0 < a0_1) = false := decide_eq_false c14
                  clear c14
                  obtain rfl := Option.some.inj H
                  have hcz16_0 : wc.cell? ⟨gb115, 0, none⟩ = some (.int .i64 a0_0) := (blk_cell BK115.out 0).trans rfl
                  have hcz16_1 : wc.cell? ⟨gb115, 1, none⟩ = some (.int .i64 a0_1) := (blk_cell BK115.out 1).trans rfl
                  have hcz16_2 : wc.cell? ⟨gb115, 2, none⟩ = some (.int .i64 a0_2) := (blk_cell BK115.out 2).trans rfl
                  have hcz16_3 : wc.cell? ⟨gb115, 3, none⟩ = some (.int .i64 a0_3) := (blk_cell BK115.out 3).trans rfl
                  have hcz16_4 : wc.cell? ⟨gb115, 4, none⟩ = some (.int .i64 a0_4) := (blk_cell BK115.out 4).trans rfl
                  have hcz16_5 : wc.cell? ⟨gb115, 5, none⟩ = some (.int .i64 a0_5) := (blk_cell BK115.out 5).trans rfl
                  have hcz16_6 : wc.cell? ⟨gb115, 6, none⟩ = some (.int .i64 a0_6) := (blk_cell BK115.out 6).trans rfl
                  have hcz16_7 : wc.cell? ⟨gb115, 7, none⟩ = some (.int .i64 a0_7) := (blk_cell BK115.out 7).trans rfl
                  have hcz16_8 : wc.cell? ⟨gb115, 8, none⟩ = some (.string a0_8) := (blk_cell BK115.out 8).trans rfl
                  have hcz16_9 : wc.cell? ⟨gb115, 9, none⟩ = some (.string a0_9) := (blk_cell BK115.out 9).trans rfl
                  have hcz16_10 : wc.cell? ⟨gb115, 10, none⟩ = some (.string a0_10) := (blk_cell BK115.out 10).trans rfl
                  have hfz16_0 := blk_frozen BK115.out 0
                  have hfz16_1 := blk_frozen BK115.out 1
                  have hfz16_2 := blk_frozen BK115.out 2
                  have hfz16_3 := blk_frozen BK115.out 3
                  have hfz16_4 := blk_frozen BK115.out 4
                  have hfz16_5 := blk_frozen BK115.out 5
                  have hfz16_6 := blk_frozen BK115.out 6
                  have hfz16_7 := blk_frozen BK115.out 7
                  have hfz16_8 := blk_frozen BK115.out 8
                  have hfz16_9 := blk_frozen BK115.out 9
                  have hfz16_10 := blk_frozen BK115.out 10
                  go_wp2_with (first | (go_at_call 50; (with_reducible refine (spec_l1in.calls a0_1 0 1073741824 true _ A10.out).mono ?_); rintro e w' ⟨rfl, ⟨nd, rfl⟩⟩) | (go_at_call 50; (with_reducible refine (spec_l1in.calls a0_2 0 7 true _ A12.out).mono ?_); rintro e w' ⟨rfl, ⟨nd, rfl⟩⟩))
                  go_ret
                  exact ⟨by first | rfl | (simp [errW_none, errW_some] <;> rfl) | (simp [*, errW_none, errW_some] <;> rfl), by repeat (first | (with_reducible first | exact HB.out | apply below_alloc | apply pw_below_drewN | apply below_drew1 | refine below_set ?_ GE115.out) | exact HB.out)⟩
              · replace c13 := Bool.eq_false_iff.mpr c13
                subst c13
                have H1 : (some false) = some r := by rw [if_neg (show ¬ (false = true) by decide)] at H; exact H
                clear H
                have H := H1
                clear H1
                obtain rfl := Option.some.inj H
                have hcz17_0 : wc.cell? ⟨gb115, 0, none⟩ = some (.int .i64 a0_0) := (blk_cell BK115.out 0).trans rfl
                have hcz17_1 : wc.cell? ⟨gb115, 1, none⟩ = some (.int .i64 a0_1) := (blk_cell BK115.out 1).trans rfl
                have hcz17_2 : wc.cell? ⟨gb115, 2, none⟩ = some (.int .i64 a0_2) := (blk_cell BK115.out 2).trans rfl
                have hcz17_3 : wc.cell? ⟨gb115, 3, none⟩ = some (.int .i64 a0_3) := (blk_cell BK115.out 3).trans rfl
                have hcz17_4 : wc.cell? ⟨gb115, 4, none⟩ = some (.int .i64 a0_4) := (blk_cell BK115.out 4).trans rfl
                have hcz17_5 : wc.cell? ⟨gb115, 5, none⟩ = some (.int .i64 a0_5) := (blk_cell BK115.out 5).trans rfl
                have hcz17_6 : wc.cell? ⟨gb115, 6, none⟩ = some (.int .i64 a0_6) := (blk_cell BK115.out 6).trans rfl
                have hcz17_7 : wc.cell? ⟨gb115, 7, none⟩ = some (.int .i64 a0_7) := (blk_cell BK115.out 7).trans rfl
                have hcz17_8 : wc.cell? ⟨gb115, 8, none⟩ = some (.string a0_8) := (blk_cell BK115.out 8).trans rfl
                have hcz17_9 : wc.cell? ⟨gb115, 9, none⟩ = some (.string a0_9) := (blk_cell BK115.out 9).trans rfl
                have hcz17_10 : wc.cell? ⟨gb115, 10, none⟩ = some (.string a0_10) := (blk_cell BK115.out 10).trans rfl
                have hfz17_0 := blk_frozen BK115.out 0
                have hfz17_1 := blk_frozen BK115.out 1
                have hfz17_2 := blk_frozen BK115.out 2
                have hfz17_3 := blk_frozen BK115.out 3
                have hfz17_4 := blk_frozen BK115.out 4
                have hfz17_5 := blk_frozen BK115.out 5
                have hfz17_6 := blk_frozen BK115.out 6
                have hfz17_7 := blk_frozen BK115.out 7
                have hfz17_8 := blk_frozen BK115.out 8
                have hfz17_9 := blk_frozen BK115.out 9
                have hfz17_10 := blk_frozen BK115.out 10
                go_wp2_with (first | (go_at_call 50; (with_reducible refine (spec_l1in.calls a0_1 0 1073741824 true _ A10.out).mono ?_); rintro e w' ⟨rfl, ⟨nd, rfl⟩⟩) | (go_at_call 50; (with_reducible refine (spec_l1in.calls a0_2 0 7 false _ A12.out).mono ?_); rintro e w' ⟨rfl, ⟨nd, rfl⟩⟩))
                go_ret
                exact ⟨by first | rfl | (simp [errW_none, errW_some] <;> rfl) | (simp [*, errW_none, errW_some] <;> rfl), by repeat (first | (with_reducible first | exact HB.out | apply below_alloc | apply pw_below_drewN | apply below_drew1 | refine below_set ?_ GE115.out) | exact HB.out)⟩
            · replace c11 := Bool.eq_false_iff.mpr c11
              subst c11
              have H1 : (some false) = some r := by rw [if_neg (show ¬ (false = true) by decide)] at H; exact H
              clear H
              have H := H1
              clear H1
              obtain rfl := Option.some.inj H
              have hcz18_0 : wc.cell? ⟨gb115, 0, none⟩ = some (.int .i64 a0_0) := (blk_cell BK115.out 0).trans rfl
              have hcz18_1 : wc.cell? ⟨gb115, 1, none⟩ = some (.int .i64 a0_1) := (blk_cell BK115.out 1).trans rfl
              have hcz18_2 : wc.cell? ⟨gb115, 2, none⟩ = some (.int .i64 a0_2) := (blk_cell BK115.out 2).trans rfl
              have hcz18_3 : wc.cell? ⟨gb115, 3, none⟩ = some (.int .i64 a0_3) := (blk_cell BK115.out 3).trans rfl
              have hcz18_4 : wc.cell? ⟨gb115, 4, none⟩ = some (.int .i64 a0_4) := (blk_cell BK115.out 4).trans rfl
              have hcz18_5 : wc.cell? ⟨gb115, 5, none⟩ = some (.int .i64 a0_5) := (blk_cell BK115.out 5).trans rfl
              have hcz18_6 : wc.cell? ⟨gb115, 6, none⟩ = some (.int .i64 a0_6) := (blk_cell BK115.out 6).trans rfl
              have hcz18_7 : wc.cell? ⟨gb115, 7, none⟩ = some (.int .i64 a0_7) := (blk_cell BK115.out 7).trans rfl
              have hcz18_8 : wc.cell? ⟨gb115, 8, none⟩ = some (.string a0_8) := (blk_cell BK115.out 8).trans rfl
              have hcz18_9 : wc.cell? ⟨gb115, 9, none⟩ = some (.string a0_9) := (blk_cell BK115.out 9).trans rfl
              have hcz18_10 : wc.cell? ⟨gb115, 10, none⟩ = some (.string a0_10) := (blk_cell BK115.out 10).trans rfl
              have hfz18_0 := blk_frozen BK115.out 0
              have hfz18_1 := blk_frozen BK115.out 1
              have hfz18_2 := blk_frozen BK115.out 2
              have hfz18_3 := blk_frozen BK115.out 3
              have hfz18_4 := blk_frozen BK115.out 4
              have hfz18_5 := blk_frozen BK115.out 5
              have hfz18_6 := blk_frozen BK115.out 6
              have hfz18_7 := blk_frozen BK115.out 7
              have hfz18_8 := blk_frozen BK115.out 8
              have hfz18_9 := blk_frozen BK115.out 9
              have hfz18_10 := blk_frozen BK115.out 10
              go_wp2_with (first | (go_at_call 50; (with_reducible refine (spec_l1in.calls a0_1 0 1073741824 false _ A10.out).mono ?_); rintro e w' ⟨rfl, ⟨nd, rfl⟩⟩))
              go_ret
              exact ⟨by first | rfl | (simp [errW_none, errW_some] <;> rfl) | (simp [*, errW_none, errW_some] <;> rfl), by repeat (first | (with_reducible first | exact HB.out | apply below_alloc | apply pw_below_drewN | apply below_drew1 | refine below_set ?_ GE115.out) | exact HB.out)⟩
          · replace c9 := Bool.eq_false_iff.mpr c9
            subst c9
            have H1 : (some false) = some r := by rw [if_neg (show ¬ (false = true) by decide)] at H; exact H
            clear H
            have H := H1
            clear H1
            obtain rfl := Option.some.inj H
            have hcz19_0 : wc.cell? ⟨gb115, 0, none⟩ = some (.int .i64 a0_0) := (blk_cell BK115.out 0).trans rfl
            have hcz19_1 : wc.cell? ⟨gb115, 1, none⟩ = some (.int .i64 a0_1) := (blk_cell BK115.out 1).trans rfl
            have hcz19_2 : wc.cell? ⟨gb115, 2, none⟩ = some (.int .i64 a0_2) := (blk_cell BK115.out 2).trans rfl
            have hcz19_3 : wc.cell? ⟨gb115, 3, none⟩ = some (.int .i64 a0_3) := (blk_cell BK115.out 3).trans rfl
            have hcz19_4 : wc.cell? ⟨gb115, 4, none⟩ = some (.int .i64 a0_4) := (blk_cell BK115.out 4).trans rfl
            have hcz19_5 : wc.cell? ⟨gb115, 5, none⟩ = some (.int .i64 a0_5) := (blk_cell BK115.out 5).trans rfl
            have hcz19_6 : wc.cell? ⟨gb115, 6, none⟩ = some (.int .i64 a0_6) := (blk_cell BK115.out 6).trans rfl
            have hcz19_7 : wc.cell? ⟨gb115, 7, none⟩ = some (.int .i64 a0_7) := (blk_cell BK115.out 7).trans rfl
            have hcz19_8 : wc.cell? ⟨gb115, 8, none⟩ = some (.string a0_8) := (blk_cell BK115.out 8).trans rfl
            have hcz19_9 : wc.cell? ⟨gb115, 9, none⟩ = some (.string a0_9) := (blk_cell BK115.out 9).trans rfl
            have hcz19_10 : wc.cell? ⟨gb115, 10, none⟩ = some (.string a0_10) := (blk_cell BK115.out 10).trans rfl
            have hfz19_0 := blk_frozen BK115.out 0
            have hfz19_1 := blk_frozen BK115.out 1
            have hfz19_2 := blk_frozen BK115.out 2
            have hfz19_3 := blk_frozen BK115.out 3
            have hfz19_4 := blk_frozen BK115.out 4
            have hfz19_5 := blk_frozen BK115.out 5
            have hfz19_6 := blk_frozen BK115.out 6
            have hfz19_7 := blk_frozen BK115.out 7
            have hfz19_8 := blk_frozen BK115.out 8
            have hfz19_9 := blk_frozen BK115.out 9
            have hfz19_10 := blk_frozen BK115.out 10
            go_wp2
            go_ret
            exact ⟨by first | rfl | (simp [errW_none, errW_some] <;> rfl) | (simp [*, errW_none, errW_some] <;> rfl), by repeat (first | (with_reducible first | exact HB.out | apply below_alloc | apply pw_below_drewN | apply below_drew1 | refine below_set ?_ GE115.out) | exact HB.out)⟩
        · rw [if_neg c8] at H
          have c8b0 : (a0_3 == 0) = false := beq_eq_false_iff_ne.mpr c8
          have c8b1 : (a0_3 != 0) = true := bne_iff_ne.mpr c8
          obtain rfl := Option.some.inj H
          have hcz20_0 : wc.cell? ⟨gb115, 0, none⟩ = some (.int .i64 a0_0) := (blk_cell BK115.out 0).trans rfl
          have hcz20_1 : wc.cell? ⟨gb115, 1, none⟩ = some (.int .i64 a0_1) := (blk_cell BK115.out 1).trans rfl
          have hcz20_2 : wc.cell? ⟨gb115, 2, none⟩ = some (.int .i64 a0_2) := (blk_cell BK115.out 2).trans rfl
          have hcz20_3 : wc.cell? ⟨gb115, 3, none⟩ = some (.int .i64 a0_3) := (blk_cell BK115.out 3).trans rfl
          have hcz20_4 : wc.cell? ⟨gb115, 4, none⟩ = some (.int .i64 a0_4) := (blk_cell BK115.out 4).trans rfl
          have hcz20_5 : wc.cell? ⟨gb115, 5, none⟩ = some (.int .i64 a0_5) := (blk_cell BK115.out 5).trans rfl
          have hcz20_6 : wc.cell? ⟨gb115, 6, none⟩ = some (.int .i64 a0_6) := (blk_cell BK115.out 6).trans rfl
          have hcz20_7 : wc.cell? ⟨gb115, 7, none⟩ = some (.int .i64 a0_7) := (blk_cell BK115.out 7).trans rfl
          have hcz20_8 : wc.cell? ⟨gb115, 8, none⟩ = some (.string a0_8) := (blk_cell BK115.out 8).trans rfl
          have hcz20_9 : wc.cell? ⟨gb115, 9, none⟩ = some (.string a0_9) := (blk_cell BK115.out 9).trans rfl
          have hcz20_10 : wc.cell? ⟨gb115, 10, none⟩ = some (.string a0_10) := (blk_cell BK115.out 10).trans rfl
          have hfz20_0 := blk_frozen BK115.out 0
          have hfz20_1 := blk_frozen BK115.out 1
          have hfz20_2 := blk_frozen BK115.out 2
          have hfz20_3 := blk_frozen BK115.out 3
          have hfz20_4 := blk_frozen BK115.out 4
          have hfz20_5 := blk_frozen BK115.out 5
          have hfz20_6 := blk_frozen BK115.out 6
          have hfz20_7 := blk_frozen BK115.out 7
          have hfz20_8 := blk_frozen BK115.out 8
          have hfz20_9 := blk_frozen BK115.out 9
          have hfz20_10 := blk_frozen BK115.out 10
          go_wp2
          go_ret
          exact ⟨by first | rfl | (simp [errW_none, errW_some] <;> rfl) | (simp [*, errW_none, errW_some] <;> rfl), by repeat (first | (with_reducible first | exact HB.out | apply below_alloc | apply pw_below_drewN | apply below_drew1 | refine below_set ?_ GE115.out) | exact HB.out)⟩
      · rw [if_neg c7] at H
        have c7b0 : (a0_0 == 1) = false := beq_eq_false_iff_ne.mpr c7
        have c7b1 : (a0_0 != 1) = true := bne_iff_ne.mpr c7
        have HC21 := Aside0.mk H
        clear H
        have hcz22_0 : wc.cell? ⟨gb115, 0, none⟩ = some (.int .i64 a0_0) := (blk_cell BK115.out 0).trans rfl
        have hcz22_1 : wc.cell? ⟨gb115, 1, none⟩ = some (.int .i64 a0_1) := (blk_cell BK115.out 1).trans rfl
        have hcz22_2 : wc.cell? ⟨gb115, 2, none⟩ = some (.int .i64 a0_2) := (blk_cell BK115.out 2).trans rfl
        have hcz22_3 : wc.cell? ⟨gb115, 3, none⟩ = some (.int .i64 a0_3) := (blk_cell BK115.out 3).trans rfl
        have hcz22_4 : wc.cell? ⟨gb115, 4, none⟩ = some (.int .i64 a0_4) := (blk_cell BK115.out 4).trans rfl
        have hcz22_5 : wc.cell? ⟨gb115, 5, none⟩ = some (.int .i64 a0_5) := (blk_cell BK115.out 5).trans rfl
        have hcz22_6 : wc.cell? ⟨gb115, 6, none⟩ = some (.int .i64 a0_6) := (blk_cell BK115.out 6).trans rfl
        have hcz22_7 : wc.cell? ⟨gb115, 7, none⟩ = some (.int .i64 a0_7) := (blk_cell BK115.out 7).trans rfl
        have hcz22_8 : wc.cell? ⟨gb115, 8, none⟩ = some (.string a0_8) := (blk_cell BK115.out 8).trans rfl
        have hcz22_9 : wc.cell? ⟨gb115, 9, none⟩ = some (.string a0_9) := (blk_cell BK115.out 9).trans rfl
        have hcz22_10 : wc.cell? ⟨gb115, 10, none⟩ = some (.string a0_10) := (blk_cell BK115.out 10).trans rfl
        have hfz22_0 := blk_frozen BK115.out 0
        have hfz22_1 := blk_frozen BK115.out 1
        have hfz22_2 := blk_frozen BK115.out 2
        have hfz22_3 := blk_frozen BK115.out 3
        have hfz22_4 := blk_frozen BK115.out 4
        have hfz22_5 := blk_frozen BK115.out 5
        have hfz22_6 := blk_frozen BK115.out 6
        have hfz22_7 := blk_frozen BK115.out 7
        have hfz22_8 := blk_frozen BK115.out 8
        have hfz22_9 := blk_frozen BK115.out 9
        have hfz22_10 := blk_frozen BK115.out 10
        go_upto_region 4 with (fail)
        go_cut [51] (fun v51 wc => ∃ (kq : Nat) (x51_20 : Bool), v51 = .bool x51_20 ∧ Aside0 (spec_l2recordOk.j1 kq x3_1 x51_20 a0_0 a0_1 a0_2 a0_3 a0_4 a0_5 a0_6 a0_7 a0_8 a0_9 a0_10 = some r) ∧ Aside0 (kq ≤ kj1) ∧ Aside0 (wc.heap[gb115]? = some (.cells #[.int .i64 a0_0, .int .i64 a0_1, .int .i64 a0_2, .int .i64 a0_3, .int .i64 a0_4, .int .i64 a0_5, .int .i64 a0_6, .int .i64 a0_7, .string a0_8, .string a0_9, .string a0_10] 91 (0, 0))) ∧ Aside0 (Below w.heap.size w wc))
        case first =>
          have H := HC21.out
          clear HC21
          by_cases c23 : a0_1 = 0
          · rw [if_pos c23] at H
            have c23b0 : (a0_1 == 0) = true := beq_iff_eq.mpr c23
            have c23b1 : (a0_1 != 0) = false := bne_eq_false_iff_eq.mpr c23
            clear c23
            (first | rw [c23b0] | (simp only [i64_w, i32_w]; rw [c23b0]) | skip)
            have H' := Aside0.mk H
            clear H
            have hcz24_0 : wc.cell? ⟨gb115, 0, none⟩ = some (.int .i64 a0_0) := (blk_cell BK115.out 0).trans rfl
            have hcz24_1 : wc.cell? ⟨gb115, 1, none⟩ = some (.int .i64 a0_1) := (blk_cell BK115.out 1).trans rfl
            have hcz24_2 : wc.cell? ⟨gb115, 2, none⟩ = some (.int .i64 a0_2) := (blk_cell BK115.out 2).trans rfl
            have hcz24_3 : wc.cell? ⟨gb115, 3, none⟩ = some (.int .i64 a0_3) := (blk_cell BK115.out 3).trans rfl
            have hcz24_4 : wc.cell? ⟨gb115, 4, none⟩ = some (.int .i64 a0_4) := (blk_cell BK115.out 4).trans rfl
            have hcz24_5 : wc.cell? ⟨gb115, 5, none⟩ = some (.int .i64 a0_5) := (blk_cell BK115.out 5).trans rfl
            have hcz24_6 : wc.cell? ⟨gb115, 6, none⟩ = some (.int .i64 a0_6) := (blk_cell BK115.out 6).trans rfl
            have hcz24_7 : wc.cell? ⟨gb115, 7, none⟩ = some (.int .i64 a0_7) := (blk_cell BK115.out 7).trans rfl
            have hcz24_8 : wc.cell? ⟨gb115, 8, none⟩ = some (.string a0_8) := (blk_cell BK115.out 8).trans rfl
            have hcz24_9 : wc.cell? ⟨gb115, 9, none⟩ = some (.string a0_9) := (blk_cell BK115.out 9).trans rfl
            have hcz24_10 : wc.cell? ⟨gb115, 10, none⟩ = some (.string a0_10) := (blk_cell BK115.out 10).trans rfl
            have hfz24_0 := blk_frozen BK115.out 0
            have hfz24_1 := blk_frozen BK115.out 1
            have hfz24_2 := blk_frozen BK115.out 2
            have hfz24_3 := blk_frozen BK115.out 3
            have hfz24_4 := blk_frozen BK115.out 4
            have hfz24_5 := blk_frozen BK115.out 5
            have hfz24_6 := blk_frozen BK115.out 6
            have hfz24_7 := blk_frozen BK115.out 7
            have hfz24_8 := blk_frozen BK115.out 8
            have hfz24_9 := blk_frozen BK115.out 9
            have hfz24_10 := blk_frozen BK115.out 10
            go_wp2
            go_meet
            case rel => exact ⟨_, ((a0_2 != 0)), (by first | rfl | (simp; done) | (simp [*]; done)), H', ⟨by have := HJ1.out; first | omega | exact Nat.le_refl _⟩, ⟨by (with_reducible repeat (first | refine blk_drewN ?_ _ | refine blk_drew ?_ | refine blk_alloc ?_ _)); exact BK115.out⟩, ⟨by repeat (first | (with_reducible first | exact HB.out | apply below_alloc | apply pw_below_drewN | apply below_drew1 | refine below_set ?_ GE115.out) | exact HB.out)⟩⟩
          · rw [if_neg c23] at H
            have c23b0 : (a0_1 == 0) = false := beq_eq_false_iff_ne.mpr c23
            have c23b1 : (a0_1 != 0) = true := bne_iff_ne.mpr c23
            (first | rw [c23b0] | (simp only [i64_w, i32_w]; rw [c23b0]) | skip)
            have H' := Aside0.mk H
            clear H
            have hcz25_0 : wc.cell? ⟨gb115, 0, none⟩ = some (.int .i64 a0_0) := (blk_cell BK115.out 0).trans rfl
            have hcz25_1 : wc.cell? ⟨gb115, 1, none⟩ = some (.int .i64 a0_1) := (blk_cell BK115.out 1).trans rfl
            have hcz25_2 : wc.cell? ⟨gb115, 2, none⟩ = some (.int .i64 a0_2) := (blk_cell BK115.out 2).trans rfl
            have hcz25_3 : wc.cell? ⟨gb115, 3, none⟩ = some (.int .i64 a0_3) := (blk_cell BK115.out 3).trans rfl
            have hcz25_4 : wc.cell? ⟨gb115, 4, none⟩ = some (.int .i64 a0_4) := (blk_cell BK115.out 4).trans rfl
            have hcz25_5 : wc.cell? ⟨gb115, 5, none⟩ = some (.int .i64 a0_5) := (blk_cell BK115.out 5).trans rfl
            have hcz25_6 : wc.cell? ⟨gb115, 6, none⟩ = some (.int .i64 a0_6) := (blk_cell BK115.out 6).trans rfl
            have hcz25_7 : wc.cell? ⟨gb115, 7, none⟩ = some (.int .i64 a0_7) := (blk_cell BK115.out 7).trans rfl
            have hcz25_8 : wc.cell? ⟨gb115, 8, none⟩ = some (.string a0_8) := (blk_cell BK115.out 8).trans rfl
            have hcz25_9 : wc.cell? ⟨gb115, 9, none⟩ = some (.string a0_9) := (blk_cell BK115.out 9).trans rfl
            have hcz25_10 : wc.cell? ⟨gb115, 10, none⟩ = some (.string a0_10) := (blk_cell BK115.out 10).trans rfl
            have hfz25_0 := blk_frozen BK115.out 0
            have hfz25_1 := blk_frozen BK115.out 1
            have hfz25_2 := blk_frozen BK115.out 2
            have hfz25_3 := blk_frozen BK115.out 3
            have hfz25_4 := blk_frozen BK115.out 4
            have hfz25_5 := blk_frozen BK115.out 5
            have hfz25_6 := blk_frozen BK115.out 6
            have hfz25_7 := blk_frozen BK115.out 7
            have hfz25_8 := blk_frozen BK115.out 8
            have hfz25_9 := blk_frozen BK115.out 9
            have hfz25_10 := blk_frozen BK115.out 10
            go_wp2
            go_meet
            case rel => exact ⟨_, (true), (by first | rfl | (simp; done) | (simp [*]; done)), H', ⟨by have := HJ1.out; first | omega | exact Nat.le_refl _⟩, ⟨by (with_reducible repeat (first | refine blk_drewN ?_ _ | refine blk_drew ?_ | refine blk_alloc ?_ _)); exact BK115.out⟩, ⟨by repeat (first | (with_reducible first | exact HB.out | apply below_alloc | apply pw_below_drewN | apply below_drew1 | refine below_set ?_ GE115.out) | exact HB.out)⟩⟩
        case rest =>
          clear HC21
          try clear c1
          try clear c2
          try clear p2
          try clear c4
          try clear c4b0
          try clear c4b1
          try clear c6
          try clear c7
          try clear c7b0
          try clear c7b1
          try clear c8
          try clear c8b0
          try clear c8b1
          try clear c9
          try clear c11
          try clear c13
          try clear c14
          try clear c14b0
          try clear c23
          try clear c23b0
          try clear c23b1
          try clear hcz15_0
          try clear hcz15_1
          try clear hcz15_10
          try clear hcz15_2
          try clear hcz15_3
          try clear hcz15_4
          try clear hcz15_5
          try clear hcz15_6
          try clear hcz15_7
          try clear hcz15_8
          try clear hcz15_9
          try clear hcz16_0
          try clear hcz16_1
          try clear hcz16_10
          try clear hcz16_2
          try clear hcz16_3
          try clear hcz16_4
          try clear hcz16_5
          try clear hcz16_6
          try clear hcz16_7
          try clear hcz16_8
          try clear hcz16_9
          try clear hcz17_0
          try clear hcz17_1
          try clear hcz17_10
          try clear hcz17_2
          try clear hcz17_3
          try clear hcz17_4
          try clear hcz17_5
          try clear hcz17_6
          try clear hcz17_7
          try clear hcz17_8
          try clear hcz17_9
          try clear hcz18_0
          try clear hcz18_1
          try clear hcz18_10
          try clear hcz18_2
          try clear hcz18_3
          try clear hcz18_4
          try clear hcz18_5
          try clear hcz18_6
          try clear hcz18_7
          try clear hcz18_8
          try clear hcz18_9
          try clear hcz19_0
          try clear hcz19_1
          try clear hcz19_10
          try clear hcz19_2
          try clear hcz19_3
          try clear hcz19_4
          try clear hcz19_5
          try clear hcz19_6
          try clear hcz19_7
          try clear hcz19_8
          try clear hcz19_9
          try clear hcz20_0
          try clear hcz20_1
          try clear hcz20_10
          try clear hcz20_2
          try clear hcz20_3
          try clear hcz20_4
          try clear hcz20_5
          try clear hcz20_6
          try clear hcz20_7
          try clear hcz20_8
          try clear hcz20_9
          try clear hcz22_0
          try clear hcz22_1
          try clear hcz22_10
          try clear hcz22_2
          try clear hcz22_3
          try clear hcz22_4
          try clear hcz22_5
          try clear hcz22_6
          try clear hcz22_7
          try clear hcz22_8
          try clear hcz22_9
          try clear hcz24_0
          try clear hcz24_1
          try clear hcz24_10
          try clear hcz24_2
          try clear hcz24_3
          try clear hcz24_4
          try clear hcz24_5
          try clear hcz24_6
          try clear hcz24_7
          try clear hcz24_8
          try clear hcz24_9
          try clear hcz25_0
          try clear hcz25_1
          try clear hcz25_10
          try clear hcz25_2
          try clear hcz25_3
          try clear hcz25_4
          try clear hcz25_5
          try clear hcz25_6
          try clear hcz25_7
          try clear hcz25_8
          try clear hcz25_9
          try clear hcz5_0
          try clear hcz5_1
          try clear hcz5_10
          try clear hcz5_2
          try clear hcz5_3
          try clear hcz5_4
          try clear hcz5_5
          try clear hcz5_6
          try clear hcz5_7
          try clear hcz5_8
          try clear hcz5_9
          try clear hcz6_0
          try clear hcz6_1
          try clear hcz6_10
          try clear hcz6_2
          try clear hcz6_3
          try clear hcz6_4
          try clear hcz6_5
          try clear hcz6_6
          try clear hcz6_7
          try clear hcz6_8
          try clear hcz6_9
          try clear hfz15_0
          try clear hfz15_1
          try clear hfz15_10
          try clear hfz15_2
          try clear hfz15_3
          try clear hfz15_4
          try clear hfz15_5
          try clear hfz15_6
          try clear hfz15_7
          try clear hfz15_8
          try clear hfz15_9
          try clear hfz16_0
          try clear hfz16_1
          try clear hfz16_10
          try clear hfz16_2
          try clear hfz16_3
          try clear hfz16_4
          try clear hfz16_5
          try clear hfz16_6
          try clear hfz16_7
          try clear hfz16_8
          try clear hfz16_9
          try clear hfz17_0
          try clear hfz17_1
          try clear hfz17_10
          try clear hfz17_2
          try clear hfz17_3
          try clear hfz17_4
          try clear hfz17_5
          try clear hfz17_6
          try clear hfz17_7
          try clear hfz17_8
          try clear hfz17_9
          try clear hfz18_0
          try clear hfz18_1
          try clear hfz18_10
          try clear hfz18_2
          try clear hfz18_3
          try clear hfz18_4
          try clear hfz18_5
          try clear hfz18_6
          try clear hfz18_7
          try clear hfz18_8
          try clear hfz18_9
          try clear hfz19_0
          try clear hfz19_1
          try clear hfz19_10
          try clear hfz19_2
          try clear hfz19_3
          try clear hfz19_4
          try clear hfz19_5
          try clear hfz19_6
          try clear hfz19_7
          try clear hfz19_8
          try clear hfz19_9
          try clear hfz20_0
          try clear hfz20_1
          try clear hfz20_10
          try clear hfz20_2
          try clear hfz20_3
          try clear hfz20_4
          try clear hfz20_5
          try clear hfz20_6
          try clear hfz20_7
          try clear hfz20_8
          try clear hfz20_9
          try clear hfz22_0
          try clear hfz22_1
          try clear hfz22_10
          try clear hfz22_2
          try clear hfz22_3
          try clear hfz22_4
          try clear hfz22_5
          try clear hfz22_6
          try clear hfz22_7
          try clear hfz22_8
          try clear hfz22_9
          try clear hfz24_0
          try clear hfz24_1
          try clear hfz24_10
          try clear hfz24_2
          try clear hfz24_3
          try clear hfz24_4
          try clear hfz24_5
          try clear hfz24_6
          try clear hfz24_7
          try clear hfz24_8
          try clear hfz24_9
          try clear hfz25_0
          try clear hfz25_1
          try clear hfz25_10
          try clear hfz25_2
          try clear hfz25_3
          try clear hfz25_4
          try clear hfz25_5
          try clear hfz25_6
          try clear hfz25_7
          try clear hfz25_8
          try clear hfz25_9
          try clear hfz5_0
          try clear hfz5_1
          try clear hfz5_10
          try clear hfz5_2
          try clear hfz5_3
          try clear hfz5_4
          try clear hfz5_5
          try clear hfz5_6
          try clear hfz5_7
          try clear hfz5_8
          try clear hfz5_9
          try clear hfz6_0
          try clear hfz6_1
          try clear hfz6_10
          try clear hfz6_2
          try clear hfz6_3
          try clear hfz6_4
          try clear hfz6_5
          try clear hfz6_6
          try clear hfz6_7
          try clear hfz6_8
          try clear hfz6_9
          try clear p2
          obtain ⟨kq, x51_20, rfl, HA, HJ20, BK115, HB⟩ := hcut
          cases kq with
          | zero => exact absurd HA.out (by simp [spec_l2recordOk.j1])
          | succ kj20 =>
            have H := HA.out
            clear HA
            simp only [spec_l2recordOk.j1] at H
            by_cases c26 : x51_20 = true
            · subst c26
              have H1 : (some false) = some r := by rw [if_pos rfl] at H; exact H
              clear H
              have H := H1
              clear H1
              obtain rfl := Option.some.inj H
              go_wp2
              go_ret
              exact ⟨by first | rfl | (simp [errW_none, errW_some] <;> rfl) | (simp [*, errW_none, errW_some] <;> rfl), by repeat (first | (with_reducible first | exact HB.out | apply below_alloc | apply pw_below_drewN | apply below_drew1 | refine below_set ?_ GE115.out) | exact HB.out)⟩
            · replace c26 := Bool.eq_false_iff.mpr c26
              subst c26
              have H1 : (if a0_0 = 2 then ((spec_l1in.f a0_3 1 4096).bind fun t118 => (if t118 = true then ((spec_l1entryOk.f kj20 a0_4 a0_5 a0_6 a0_7 a0_8 a0_9 a0_10).bind fun t119 => (some t119)) else (some false))) else (if a0_0 = 3 then (if x3_1 = true then ((spec_l1in.f a0_3 0 4096).bind fun t120 => (some t120)) else (some false)) else (some false))) = some r := by rw [if_neg (show ¬ (false = true) by decide)] at H; exact H
              clear H
              have H := H1
              clear H1
              by_cases c27 : a0_0 = 2
              · rw [if_pos c27] at H
                have c27b0 : (a0_0 == 2) = true := beq_iff_eq.mpr c27
                have c27b1 : (a0_0 != 2) = false := bne_eq_false_iff_eq.mpr c27
                clear c27
                replace H := Option.bind_eq_some_iff.mp H
                obtain ⟨t118, A280, H⟩ := H
                replace H : (if t118 = true then ((spec_l1entryOk.f kj20 a0_4 a0_5 a0_6 a0_7 a0_8 a0_9 a0_10).bind fun t119 => (some t119)) else (some false)) = some r := H
                have A28 := Aside0.mk A280
                clear A280
                by_cases c29 : t118 = true
                · subst c29
                  have H1 : ((spec_l1entryOk.f kj20 a0_4 a0_5 a0_6 a0_7 a0_8 a0_9 a0_10).bind fun t119 => (some t119)) = some r := by rw [if_pos rfl] at H; exact H
                  clear H
                  have H := H1
                  clear H1
                  replace H := Option.bind_eq_some_iff.mp H
                  obtain ⟨t119, A300, H⟩ := H
                  replace H : (some t119) = some r := H
                  have A30 := Aside0.mk A300
                  clear A300
                  obtain rfl := Option.some.inj H
                  have hcz31_0 : wc.cell? ⟨gb115, 0, none⟩ = some (.int .i64 a0_0) := (blk_cell BK115.out 0).trans rfl
                  have hcz31_1 : wc.cell? ⟨gb115, 1, none⟩ = some (.int .i64 a0_1) := (blk_cell BK115.out 1).trans rfl
                  have hcz31_2 : wc.cell? ⟨gb115, 2, none⟩ = some (.int .i64 a0_2) := (blk_cell BK115.out 2).trans rfl
                  have hcz31_3 : wc.cell? ⟨gb115, 3, none⟩ = some (.int .i64 a0_3) := (blk_cell BK115.out 3).trans rfl
                  have hcz31_4 : wc.cell? ⟨gb115, 4, none⟩ = some (.int .i64 a0_4) := (blk_cell BK115.out 4).trans rfl
                  have hcz31_5 : wc.cell? ⟨gb115, 5, none⟩ = some (.int .i64 a0_5) := (blk_cell BK115.out 5).trans rfl
                  have hcz31_6 : wc.cell? ⟨gb115, 6, none⟩ = some (.int .i64 a0_6) := (blk_cell BK115.out 6).trans rfl
                  have hcz31_7 : wc.cell? ⟨gb115, 7, none⟩ = some (.int .i64 a0_7) := (blk_cell BK115.out 7).trans rfl
                  have hcz31_8 : wc.cell? ⟨gb115, 8, none⟩ = some (.string a0_8) := (blk_cell BK115.out 8).trans rfl
                  have hcz31_9 : wc.cell? ⟨gb115, 9, none⟩ = some (.string a0_9) := (blk_cell BK115.out 9).trans rfl
                  have hcz31_10 : wc.cell? ⟨gb115, 10, none⟩ = some (.string a0_10) := (blk_cell BK115.out 10).trans rfl
                  have hfz31_0 := blk_frozen BK115.out 0
                  have hfz31_1 := blk_frozen BK115.out 1
                  have hfz31_2 := blk_frozen BK115.out 2
                  have hfz31_3 := blk_frozen BK115.out 3
                  have hfz31_4 := blk_frozen BK115.out 4
                  have hfz31_5 := blk_frozen BK115.out 5
                  have hfz31_6 := blk_frozen BK115.out 6
                  have hfz31_7 := blk_frozen BK115.out 7
                  have hfz31_8 := blk_frozen BK115.out 8
                  have hfz31_9 := blk_frozen BK115.out 9
                  have hfz31_10 := blk_frozen BK115.out 10
                  go_wp2_with (first | ((with_reducible refine gate_callee (f := 50) rfl ?_); refine goesL_ (some 57) rfl rfl Tryd.func50 (by kernel_rfl) rfl #[.int .i64 a0_3, .int .i64 1, .int .i64 4096] rfl (by (try simp only [List.map_toArray, List.map_cons, List.map_nil]); first | done | rfl | (simp only [List.length_drop, List.length_take]; rfl)) ?_; (with_reducible refine (spec_l1in.calls a0_3 1 4096 true _ A28.out).mono ?_); rintro e w' ⟨rfl, ⟨nd, rfl⟩⟩; refine ⟨_, rfl, ?_⟩) | (go_at_call 62; (with_reducible refine (spec_l1entryOk.calls kj20 a0_4 a0_5 a0_6 a0_7 a0_8 a0_9 a0_10 t119 _ A30.out).mono ?_); rintro e w32 ⟨rfl, hb⟩; have n0_ := Aside0.mk (blk_below (g := gb115) (o := .cells #[.int .i64 a0_0, .int .i64 a0_1, .int .i64 a0_2, .int .i64 a0_3, .int .i64 a0_4, .int .i64 a0_5, .int .i64 a0_6, .int .i64 a0_7, .string a0_8, .string a0_9, .string a0_10] 91 (0, 0)) (by (with_reducible repeat (first | refine blk_drewN ?_ _ | refine blk_drew ?_ | refine blk_alloc ?_ _)); exact BK115.out) hb); have n1_ := Aside0.mk (below_step (by repeat (first | (with_reducible first | exact HB.out | apply below_alloc | apply pw_below_drewN | apply below_drew1 | refine below_set ?_ GE115.out) | exact HB.out)) hb); clear BK115; clear HB; have BK115 := n0_; have HB := n1_; clear n0_ n1_; (try clear hb); (try clear hb2); (try clear hk); (try clear hi)))
                  go_ret
                  exact ⟨by first | rfl | (simp [errW_none, errW_some] <;> rfl) | (simp [*, errW_none, errW_some] <;> rfl), by repeat (first | (with_reducible first | exact HB.out | apply below_alloc | apply pw_below_drewN | apply below_drew1 | refine below_set ?_ GE115.out) | exact HB.out)⟩
                · replace c29 := Bool.eq_false_iff.mpr c29
                  subst c29
                  have H1 : (some false) = some r := by rw [if_neg (show ¬ (false = true) by decide)] at H; exact H
                  clear H
                  have H := H1
                  clear H1
                  obtain rfl := Option.some.inj H
                  have hcz33_0 : wc.cell? ⟨gb115, 0, none⟩ = some (.int .i64 a0_0) := (blk_cell BK115.out 0).trans rfl
                  have hcz33_1 : wc.cell? ⟨gb115, 1, none⟩ = some (.int .i64 a0_1) := (blk_cell BK115.out 1).trans rfl
                  have hcz33_2 : wc.cell? ⟨gb115, 2, none⟩ = some (.int .i64 a0_2) := (blk_cell BK115.out 2).trans rfl
                  have hcz33_3 : wc.cell? ⟨gb115, 3, none⟩ = some (.int .i64 a0_3) := (blk_cell BK115.out 3).trans rfl
                  have hcz33_4 : wc.cell? ⟨gb115, 4, none⟩ = some (.int .i64 a0_4) := (blk_cell BK115.out 4).trans rfl
                  have hcz33_5 : wc.cell? ⟨gb115, 5, none⟩ = some (.int .i64 a0_5) := (blk_cell BK115.out 5).trans rfl
                  have hcz33_6 : wc.cell? ⟨gb115, 6, none⟩ = some (.int .i64 a0_6) := (blk_cell BK115.out 6).trans rfl
                  have hcz33_7 : wc.cell? ⟨gb115, 7, none⟩ = some (.int .i64 a0_7) := (blk_cell BK115.out 7).trans rfl
                  have hcz33_8 : wc.cell? ⟨gb115, 8, none⟩ = some (.string a0_8) := (blk_cell BK115.out 8).trans rfl
                  have hcz33_9 : wc.cell? ⟨gb115, 9, none⟩ = some (.string a0_9) := (blk_cell BK115.out 9).trans rfl
                  have hcz33_10 : wc.cell? ⟨gb115, 10, none⟩ = some (.string a0_10) := (blk_cell BK115.out 10).trans rfl
                  have hfz33_0 := blk_frozen BK115.out 0
                  have hfz33_1 := blk_frozen BK115.out 1
                  have hfz33_2 := blk_frozen BK115.out 2
                  have hfz33_3 := blk_frozen BK115.out 3
                  have hfz33_4 := blk_frozen BK115.out 4
                  have hfz33_5 := blk_frozen BK115.out 5
                  have hfz33_6 := blk_frozen BK115.out 6
                  have hfz33_7 := blk_frozen BK115.out 7
                  have hfz33_8 := blk_frozen BK115.out 8
                  have hfz33_9 := blk_frozen BK115.out 9
                  have hfz33_10 := blk_frozen BK115.out 10
                  go_wp2_with (first | ((with_reducible refine gate_callee (f := 50) rfl ?_); refine goesL_ (some 57) rfl rfl Tryd.func50 (by kernel_rfl) rfl #[.int .i64 a0_3, .int .i64 1, .int .i64 4096] rfl (by (try simp only [List.map_toArray, List.map_cons, List.map_nil]); first | done | rfl | (simp only [List.length_drop, List.length_take]; rfl)) ?_; (with_reducible refine (spec_l1in.calls a0_3 1 4096 false _ A28.out).mono ?_); rintro e w' ⟨rfl, ⟨nd, rfl⟩⟩; refine ⟨_, rfl, ?_⟩))
                  go_ret
                  exact ⟨by first | rfl | (simp [errW_none, errW_some] <;> rfl) | (simp [*, errW_none, errW_some] <;> rfl), by repeat (first | (with_reducible first | exact HB.out | apply below_alloc | apply pw_below_drewN | apply below_drew1 | refine below_set ?_ GE115.out) | exact HB.out)⟩
              · rw [if_neg c27] at H
                have c27b0 : (a0_0 == 2) = false := beq_eq_false_iff_ne.mpr c27
                have c27b1 : (a0_0 != 2) = true := bne_iff_ne.mpr c27
                by_cases c34 : a0_0 = 3
                · rw [if_pos c34] at H
                  have c34b0 : (a0_0 == 3) = true := beq_iff_eq.mpr c34
                  have c34b1 : (a0_0 != 3) = false := bne_eq_false_iff_eq.mpr c34
                  clear c34
                  by_cases c35 : x3_1 = true
                  · subst c35
                    have H1 : ((spec_l1in.f a0_3 0 4096).bind fun t120 => (some t120)) = some r := by rw [if_pos rfl] at H; exact H
                    clear H
                    have H := H1
                    clear H1
                    replace H := Option.bind_eq_some_iff.mp H
                    obtain ⟨t120, A360, H⟩ := H
                    replace H : (some t120) = some r := H
                    have A36 := Aside0.mk A360
                    clear A360
                    obtain rfl := Option.some.inj H
                    have hcz37_0 : wc.cell? ⟨gb115, 0, none⟩ = some (.int .i64 a0_0) := (blk_cell BK115.out 0).trans rfl
                    have hcz37_1 : wc.cell? ⟨gb115, 1, none⟩ = some (.int .i64 a0_1) := (blk_cell BK115.out 1).trans rfl
                    have hcz37_2 : wc.cell? ⟨gb115, 2, none⟩ = some (.int .i64 a0_2) := (blk_cell BK115.out 2).trans rfl
                    have hcz37_3 : wc.cell? ⟨gb115, 3, none⟩ = some (.int .i64 a0_3) := (blk_cell BK115.out 3).trans rfl
                    have hcz37_4 : wc.cell? ⟨gb115, 4, none⟩ = some (.int .i64 a0_4) := (blk_cell BK115.out 4).trans rfl
                    have hcz37_5 : wc.cell? ⟨gb115, 5, none⟩ = some (.int .i64 a0_5) := (blk_cell BK115.out 5).trans rfl
                    have hcz37_6 : wc.cell? ⟨gb115, 6, none⟩ = some (.int .i64 a0_6) := (blk_cell BK115.out 6).trans rfl
                    have hcz37_7 : wc.cell? ⟨gb115, 7, none⟩ = some (.int .i64 a0_7) := (blk_cell BK115.out 7).trans rfl
                    have hcz37_8 : wc.cell? ⟨gb115, 8, none⟩ = some (.string a0_8) := (blk_cell BK115.out 8).trans rfl
                    have hcz37_9 : wc.cell? ⟨gb115, 9, none⟩ = some (.string a0_9) := (blk_cell BK115.out 9).trans rfl
                    have hcz37_10 : wc.cell? ⟨gb115, 10, none⟩ = some (.string a0_10) := (blk_cell BK115.out 10).trans rfl
                    have hfz37_0 := blk_frozen BK115.out 0
                    have hfz37_1 := blk_frozen BK115.out 1
                    have hfz37_2 := blk_frozen BK115.out 2
                    have hfz37_3 := blk_frozen BK115.out 3
                    have hfz37_4 := blk_frozen BK115.out 4
                    have hfz37_5 := blk_frozen BK115.out 5
                    have hfz37_6 := blk_frozen BK115.out 6
                    have hfz37_7 := blk_frozen BK115.out 7
                    have hfz37_8 := blk_frozen BK115.out 8
                    have hfz37_9 := blk_frozen BK115.out 9
                    have hfz37_10 := blk_frozen BK115.out 10
                    go_wp2_with (first | (go_at_call 50; (with_reducible refine (spec_l1in.calls a0_3 0 4096 t120 _ A36.out).mono ?_); rintro e w' ⟨rfl, ⟨nd, rfl⟩⟩))
                    go_ret
                    exact ⟨by first | rfl | (simp [errW_none, errW_some] <;> rfl) | (simp [*, errW_none, errW_some] <;> rfl), by repeat (first | (with_reducible first | exact HB.out | apply below_alloc | apply pw_below_drewN | apply below_drew1 | refine below_set ?_ GE115.out) | exact HB.out)⟩
                  · replace c35 := Bool.eq_false_iff.mpr c35
                    subst c35
                    have H1 : (some false) = some r := by rw [if_neg (show ¬ (false = true) by decide)] at H; exact H
                    clear H
                    have H := H1
                    clear H1
                    obtain rfl := Option.some.inj H
                    have hcz38_0 : wc.cell? ⟨gb115, 0, none⟩ = some (.int .i64 a0_0) := (blk_cell BK115.out 0).trans rfl
                    have hcz38_1 : wc.cell? ⟨gb115, 1, none⟩ = some (.int .i64 a0_1) := (blk_cell BK115.out 1).trans rfl
                    have hcz38_2 : wc.cell? ⟨gb115, 2, none⟩ = some (.int .i64 a0_2) := (blk_cell BK115.out 2).trans rfl
                    have hcz38_3 : wc.cell? ⟨gb115, 3, none⟩ = some (.int .i64 a0_3) := (blk_cell BK115.out 3).trans rfl
                    have hcz38_4 : wc.cell? ⟨gb115, 4, none⟩ = some (.int .i64 a0_4) := (blk_cell BK115.out 4).trans rfl
                    have hcz38_5 : wc.cell? ⟨gb115, 5, none⟩ = some (.int .i64 a0_5) := (blk_cell BK115.out 5).trans rfl
                    have hcz38_6 : wc.cell? ⟨gb115, 6, none⟩ = some (.int .i64 a0_6) := (blk_cell BK115.out 6).trans rfl
                    have hcz38_7 : wc.cell? ⟨gb115, 7, none⟩ = some (.int .i64 a0_7) := (blk_cell BK115.out 7).trans rfl
                    have hcz38_8 : wc.cell? ⟨gb115, 8, none⟩ = some (.string a0_8) := (blk_cell BK115.out 8).trans rfl
                    have hcz38_9 : wc.cell? ⟨gb115, 9, none⟩ = some (.string a0_9) := (blk_cell BK115.out 9).trans rfl
                    have hcz38_10 : wc.cell? ⟨gb115, 10, none⟩ = some (.string a0_10) := (blk_cell BK115.out 10).trans rfl
                    have hfz38_0 := blk_frozen BK115.out 0
                    have hfz38_1 := blk_frozen BK115.out 1
                    have hfz38_2 := blk_frozen BK115.out 2
                    have hfz38_3 := blk_frozen BK115.out 3
                    have hfz38_4 := blk_frozen BK115.out 4
                    have hfz38_5 := blk_frozen BK115.out 5
                    have hfz38_6 := blk_frozen BK115.out 6
                    have hfz38_7 := blk_frozen BK115.out 7
                    have hfz38_8 := blk_frozen BK115.out 8
                    have hfz38_9 := blk_frozen BK115.out 9
                    have hfz38_10 := blk_frozen BK115.out 10
                    go_wp2
                    go_ret
                    exact ⟨by first | rfl | (simp [errW_none, errW_some] <;> rfl) | (simp [*, errW_none, errW_some] <;> rfl), by repeat (first | (with_reducible first | exact HB.out | apply below_alloc | apply pw_below_drewN | apply below_drew1 | refine below_set ?_ GE115.out) | exact HB.out)⟩
                · rw [if_neg c34] at H
                  have c34b0 : (a0_0 == 3) = false := beq_eq_false_iff_ne.mpr c34
                  have c34b1 : (a0_0 != 3) = true := bne_iff_ne.mpr c34
                  obtain rfl := Option.some.inj H
                  have hcz39_0 : wc.cell? ⟨gb115, 0, none⟩ = some (.int .i64 a0_0) := (blk_cell BK115.out 0).trans rfl
                  have hcz39_1 : wc.cell? ⟨gb115, 1, none⟩ = some (.int .i64 a0_1) := (blk_cell BK115.out 1).trans rfl
                  have hcz39_2 : wc.cell? ⟨gb115, 2, none⟩ = some (.int .i64 a0_2) := (blk_cell BK115.out 2).trans rfl
                  have hcz39_3 : wc.cell? ⟨gb115, 3, none⟩ = some (.int .i64 a0_3) := (blk_cell BK115.out 3).trans rfl
                  have hcz39_4 : wc.cell? ⟨gb115, 4, none⟩ = some (.int .i64 a0_4) := (blk_cell BK115.out 4).trans rfl
                  have hcz39_5 : wc.cell? ⟨gb115, 5, none⟩ = some (.int .i64 a0_5) := (blk_cell BK115.out 5).trans rfl
                  have hcz39_6 : wc.cell? ⟨gb115, 6, none⟩ = some (.int .i64 a0_6) := (blk_cell BK115.out 6).trans rfl
                  have hcz39_7 : wc.cell? ⟨gb115, 7, none⟩ = some (.int .i64 a0_7) := (blk_cell BK115.out 7).trans rfl
                  have hcz39_8 : wc.cell? ⟨gb115, 8, none⟩ = some (.string a0_8) := (blk_cell BK115.out 8).trans rfl
                  have hcz39_9 : wc.cell? ⟨gb115, 9, none⟩ = some (.string a0_9) := (blk_cell BK115.out 9).trans rfl
                  have hcz39_10 : wc.cell? ⟨gb115, 10, none⟩ = some (.string a0_10) := (blk_cell BK115.out 10).trans rfl
                  have hfz39_0 := blk_frozen BK115.out 0
                  have hfz39_1 := blk_frozen BK115.out 1
                  have hfz39_2 := blk_frozen BK115.out 2
                  have hfz39_3 := blk_frozen BK115.out 3
                  have hfz39_4 := blk_frozen BK115.out 4
                  have hfz39_5 := blk_frozen BK115.out 5
                  have hfz39_6 := blk_frozen BK115.out 6
                  have hfz39_7 := blk_frozen BK115.out 7
                  have hfz39_8 := blk_frozen BK115.out 8
                  have hfz39_9 := blk_frozen BK115.out 9
                  have hfz39_10 := blk_frozen BK115.out 10
                  go_wp2
                  go_ret
                  exact ⟨by first | rfl | (simp [errW_none, errW_some] <;> rfl) | (simp [*, errW_none, errW_some] <;> rfl), by repeat (first | (with_reducible first | exact HB.out | apply below_alloc | apply pw_below_drewN | apply below_drew1 | refine below_set ?_ GE115.out) | exact HB.out)⟩

end Go.Proofs.YthiebcecflpbnaaDoor.PFnExactEncodeRecords
