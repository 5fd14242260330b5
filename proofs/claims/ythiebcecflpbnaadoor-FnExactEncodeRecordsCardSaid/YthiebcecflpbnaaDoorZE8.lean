/- What is wrong with a message: what the program answers. -/
import Derived.Test.YthiebcecflpbnaaDoorZE7
import Derived.Deep.DeepCutAuto
namespace Go.Proofs.YthiebcecflpbnaaDoor.E
open Go.RowKit Go.Proofs.YthiebcecflpbnaaDoorW.PrintWords Go.Proofs.YthiebcecflpbnaaDoorW.PrintLast Go.Proofs.YthiebcecflpbnaaDoorW.PrintMore
set_option linter.unusedVariables false
set_option linter.unusedSimpArgs false

def EntOk (e : Ent) : Prop := 1 ≤ e.term ∧ e.term ≤ 1073741824 ∧ cmdFault e.cmd = 0
instance (e : Ent) : Decidable (EntOk e) := by unfold EntOk; infer_instance
def rising : List Ent → Int → Int → Bool
  | [], _, _ => true
  | e :: es, low, high => if EntOk e ∧ low ≤ e.term ∧ e.term ≤ high then rising es e.term high else false
set_option maxHeartbeats 2000000 in
set_option maxRecDepth 100000 in
theorem entOk_impl (t c0 c1 c2 : Int) (c3 c4 c5 : ByteArray) (w : World) :
    Calls Tryd.prog 66 #[.agg #[.int .i64 t, .int .i64 c0, .int .i64 c1, .int .i64 c2, .string c3, .string c4, .string c5]] w fun e w' => e = .returned (.bool (decide (EntOk ⟨t, ⟨c0, c1, c2, c3, c4, c5⟩⟩))) ∧ Below w.heap.size w w' := by
  have hu := Tryd.underlying76
  have hu2 := Tryd.underlying36
  have HB := Aside0.mk (below_alloc (Below.refl w.heap.size w) (.cells #[.int .i64 t, .int .i64 c0, .int .i64 c1, .int .i64 c2, .string c3, .string c4, .string c5] 76))
  by_cases h1 : 1 ≤ t ∧ t ≤ 1073741824
  · have hd : decide (1 ≤ t ∧ t ≤ 1073741824) = true := decide_eq_true h1
    have H1 := Aside0.mk h1
    clear h1
    go_enter Tryd.func66, Tryd.ntmps66
    (repeat (any_goals (first | (go_at_call 65; refine (within_impl _ _ _ _).mono ?_; rintro e w' ⟨rfl, rfl⟩; rw [hd]; dsimp only) | (go_at_call 68; refine (cmdFault_impl _ _ _ _ _ _ _).mono ?_; rintro e w' ⟨rfl, hb⟩; have HB2 := Aside0.mk (below_step HB.out hb); clear hb; generalize hf : cmdFault ⟨c0, c1, c2, c3, c4, c5⟩ = f; have HF := Aside0.mk hf; clear hf; dsimp only) | go_values | go_skip | go_guarded | go_step | go_upon)))
    go_ret
    refine ⟨ret_bool ?_, HB2.out⟩
    have h1 := H1.out
    go_light
    simp only [EntOk, HF.out, h1, true_and]
    rw [Bool.eq_iff_iff]
    simp
  · have hd : decide (1 ≤ t ∧ t ≤ 1073741824) = false := decide_eq_false h1
    have H1 := Aside0.mk h1
    clear h1
    go_enter Tryd.func66, Tryd.ntmps66
    (repeat (any_goals (first | (go_at_call 65; refine (within_impl _ _ _ _).mono ?_; rintro e w' ⟨rfl, rfl⟩; rw [hd]; dsimp only) | go_values | go_skip | go_guarded | go_step | go_upon)))
    go_ret
    refine ⟨ret_bool ?_, HB.out⟩
    have h1 := H1.out
    go_light
    symm
    rw [decide_eq_false_iff_not]
    rintro ⟨h2, h3, _⟩
    exact h1 ⟨h2, h3⟩
set_option maxHeartbeats 2000000 in
set_option maxRecDepth 100000 in
theorem orderly_impl (A : Option Addr) (c : Nat) (es : List Ent) (low high : Int) (w : World) (hE : EntR w A es) (hl : es.length ≤ 9223372036854775807) :
    Calls Tryd.prog 95 #[.slice A es.length c, .int .i64 low, .int .i64 high] w fun e w' => e = .returned (.bool (rising es low high)) ∧ Below w.heap.size w w' := by
  have hu := Tryd.underlying76
  have HE := Aside0.mk hE
  clear hE
  go_enter Tryd.func95, Tryd.ntmps95
  (repeat (any_goals (first | (fail) | go_values | go_skip | go_guarded | go_step | go_upon)))
  go_loopw [1, 8, 11] (fun v1 v8 i wr => ∃ (k : Nat) (lo : Int), k ≤ es.length ∧ i = .int .i64 k ∧ v1 = .int .i64 lo ∧ Aside0 (rising (es.drop k) lo high = rising es low high) ∧ Aside0 (Below w.heap.size w wr)) (fun _ _ i _ => es.length - (intOf i).toNat)
  case atStart => exact ⟨0, low, Nat.zero_le _, rfl, rfl, ⟨rfl⟩, ⟨Below.refl _ _⟩⟩
  case round =>
    obtain ⟨k, lo, hk, rfl, rfl, HR, HB⟩ := hrel
    by_cases hlt : k < es.length
    · have HER := Aside0.mk (show EntR wr A es from fun j hj => by
        obtain ⟨ad, e, c0, c1, c2, c3, c4, c5, c6⟩ := HE.out j hj
        have hb := HB.out
        exact ⟨ad, e, (hb.cell (World.block_lt_of_cell? w _ c0)).trans c0, (hb.cell (World.block_lt_of_cell? w _ c1)).trans c1, (hb.cell (World.block_lt_of_cell? w _ c2)).trans c2, (hb.cell (World.block_lt_of_cell? w _ c3)).trans c3, (hb.cell (World.block_lt_of_cell? w _ c4)).trans c4, (hb.cell (World.block_lt_of_cell? w _ c5)).trans c5, (hb.cell (World.block_lt_of_cell? w _ c6)).trans c6⟩)
      obtain ⟨ad, hA, k0, k1, k2, k3, k4, k5, k6⟩ := HER.out k hlt
      subst hA
      have HD := Aside0.mk (List.drop_eq_getElem_cons hlt)
      generalize es[k] = e at *
      obtain ⟨t, ⟨c0, c1, c2, c3, c4, c5⟩⟩ := e
      dsimp only at k0 k1 k2 k3 k4 k5 k6
      have HRs : Aside0 (rising (⟨t, ⟨c0, c1, c2, c3, c4, c5⟩⟩ :: es.drop (k + 1)) lo high = rising es low high) := ⟨by rw [← HD.out]; exact HR.out⟩
      clear HD HR
      by_cases hok : EntOk ⟨t, ⟨c0, c1, c2, c3, c4, c5⟩⟩ ∧ lo ≤ t ∧ t ≤ high
      · have hd : decide (EntOk ⟨t, ⟨c0, c1, c2, c3, c4, c5⟩⟩) = true := decide_eq_true hok.1
        have hd2 : decide (t < lo) = false := decide_eq_false (by omega)
        have hd3 : decide (high < t) = false := decide_eq_false (by omega)
        have HR2 : Aside0 (rising (es.drop (k + 1)) t high = rising es low high) := ⟨by have := HRs.out; rw [rising, if_pos hok] at this; exact this⟩
        clear hok
        (repeat (any_goals (first | (go_at_call 66; refine (entOk_impl t c0 c1 c2 c3 c4 c5 _).mono ?_; rintro e w3 ⟨rfl, hb⟩; have B3 := Aside0.mk (blk_below (blk_new wr (.cells #[.int .i64 t, .int .i64 c0, .int .i64 c1, .int .i64 c2, .string c3, .string c4, .string c5] 76)) hb); have HB3 := Aside0.mk (below_step (below_alloc HB.out _) hb); clear hb; rw [hd]; have C3 := blk_cell B3.out; have F3 := blk_frozen B3.out; dsimp only) | go_values | go_skip | go_guarded | go_step | go_upon)))
        go_roundw
        case rel => exact ⟨k + 1, t, by omega, by go_num, rfl, HR2, HB3⟩
        case measure => simp [intOf]; omega
      · have HR2 : Aside0 (false = rising es low high) := ⟨by have := HRs.out; rw [rising, if_neg hok] at this; exact this⟩
        by_cases hd0 : EntOk ⟨t, ⟨c0, c1, c2, c3, c4, c5⟩⟩
        · have hd : decide (EntOk ⟨t, ⟨c0, c1, c2, c3, c4, c5⟩⟩) = true := decide_eq_true hd0
          have hnb : t < lo ∨ high < t := by
            rcases Int.lt_or_le t lo with h | h
            · exact Or.inl h
            · rcases Int.lt_or_le high t with h' | h'
              · exact Or.inr h'
              · exact absurd ⟨hd0, h, h'⟩ hok
          clear hok
          rcases Int.lt_or_le t lo with h1 | h1
          · have hd2 : decide (t < lo) = true := decide_eq_true h1
            clear hnb
            (repeat (any_goals (first | (go_at_call 66; refine (entOk_impl t c0 c1 c2 c3 c4 c5 _).mono ?_; rintro e w3 ⟨rfl, hb⟩; have B3 := Aside0.mk (blk_below (blk_new wr (.cells #[.int .i64 t, .int .i64 c0, .int .i64 c1, .int .i64 c2, .string c3, .string c4, .string c5] 76)) hb); have HB3 := Aside0.mk (below_step (below_alloc HB.out _) hb); clear hb; rw [hd]; have C3 := blk_cell B3.out; have F3 := blk_frozen B3.out; dsimp only) | go_values | go_skip | go_guarded | go_step | go_upon)))
            go_ret
            exact ⟨ret_bool HR2.out, HB3.out⟩
          · have hd2 : decide (t < lo) = false := decide_eq_false (by omega)
            have hd3 : decide (high < t) = true := decide_eq_true (by omega)
            clear hnb
            (repeat (any_goals (first | (go_at_call 66; refine (entOk_impl t c0 c1 c2 c3 c4 c5 _).mono ?_; rintro e w3 ⟨rfl, hb⟩; have B3 := Aside0.mk (blk_below (blk_new wr (.cells #[.int .i64 t, .int .i64 c0, .int .i64 c1, .int .i64 c2, .string c3, .string c4, .string c5] 76)) hb); have HB3 := Aside0.mk (below_step (below_alloc HB.out _) hb); clear hb; rw [hd]; have C3 := blk_cell B3.out; have F3 := blk_frozen B3.out; dsimp only) | go_values | go_skip | go_guarded | go_step | go_upon)))
            go_ret
            exact ⟨ret_bool HR2.out, HB3.out⟩
        · have hd : decide (EntOk ⟨t, ⟨c0, c1, c2, c3, c4, c5⟩⟩) = false := decide_eq_false hd0
          clear hok
          (repeat (any_goals (first | (go_at_call 66; refine (entOk_impl t c0 c1 c2 c3 c4 c5 _).mono ?_; rintro e w3 ⟨rfl, hb⟩; have B3 := Aside0.mk (blk_below (blk_new wr (.cells #[.int .i64 t, .int .i64 c0, .int .i64 c1, .int .i64 c2, .string c3, .string c4, .string c5] 76)) hb); have HB3 := Aside0.mk (below_step (below_alloc HB.out _) hb); clear hb; rw [hd]; have C3 := blk_cell B3.out; have F3 := blk_frozen B3.out; dsimp only) | go_values | go_skip | go_guarded | go_step | go_upon)))
          go_ret
          exact ⟨ret_bool HR2.out, HB3.out⟩
    · (repeat (any_goals (first | (fail) | go_values | go_skip | go_guarded | go_step | go_upon)))
      go_ret
      obtain rfl : k = es.length := by omega
      refine ⟨ret_bool ?_, HB.out⟩
      have := HR.out
      rw [List.drop_length] at this
      exact this
end Go.Proofs.YthiebcecflpbnaaDoor.E
