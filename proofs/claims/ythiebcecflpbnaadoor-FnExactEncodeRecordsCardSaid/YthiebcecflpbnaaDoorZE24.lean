/- EncodeRecords. -/
import Derived.Test.YthiebcecflpbnaaDoorZE23
namespace Go.Proofs.YthiebcecflpbnaaDoor.E
open Go.RowKit Go.Proofs.YthiebcecflpbnaaDoorW.PrintWords Go.Proofs.YthiebcecflpbnaaDoorW.PrintLast Go.Proofs.YthiebcecflpbnaaDoorW.PrintMore
set_option linter.unusedVariables false
set_option linter.unusedSimpArgs false

/-- The records lie in memory, eleven cells each. -/
def RecsR (w : World) (A : Option Addr) (rs : List Rec) : Prop := ∀ (j : Nat) (h : j < rs.length), ∃ ad, A = some ad ∧ RecR w (ad.add (j * 11)) rs[j]
theorem RecsR.below {w w1 : World} {A : Option Addr} {rs : List Rec} (h : RecsR w A rs) (hb : Below w.heap.size w w1) : RecsR w1 A rs := by
  intro j hj
  obtain ⟨ad, e, R⟩ := h j hj
  exact ⟨ad, e, R.below hb⟩
theorem RecsR.below0 {w0 w w1 : World} {A : Option Addr} {rs : List Rec} (h : RecsR w0 A rs) (hb : Below w0.heap.size w0 w1) : RecsR w1 A rs := h.below hb
def recsOk (rs : List Rec) : Bool := decide (rs.length ≤ 8192) && rs.all (fun r => recFault r == 0)
set_option maxHeartbeats 2000000 in
set_option maxRecDepth 100000 in
theorem recordsOk_impl (A : Option Addr) (c : Nat) (rs : List Rec) (w : World) (hE : RecsR w A rs) (hl : rs.length ≤ 9223372036854775807) :
    Calls Tryd.prog 47 #[.slice A rs.length c] w fun e w' => e = .returned (.bool (recsOk rs)) ∧ Below w.heap.size w w' := by
  have HE := Aside0.mk hE
  clear hE
  by_cases h8 : rs.length ≤ 8192
  · have hd : decide ((8192 : Int) < (rs.length : Int)) = false := decide_eq_false (by omega)
    have HO : Aside0 (recsOk rs = rs.all (fun r => recFault r == 0)) := ⟨by simp [recsOk, h8]⟩
    go_enter Tryd.func47, Tryd.ntmps47
    (repeat (any_goals (first | (fail) | go_values | go_skip | go_guarded | go_step | go_upon)))
    go_loopw [3, 9] (fun v3 i wr => ∃ (k : Nat), k ≤ rs.length ∧ i = .int .i64 k ∧ Aside0 ((rs.drop k).all (fun r => recFault r == 0) = rs.all (fun r => recFault r == 0)) ∧ Aside0 (Below w.heap.size w wr)) (fun _ i _ => rs.length - (intOf i).toNat)
    case atStart => exact ⟨0, Nat.zero_le _, rfl, ⟨rfl⟩, ⟨Below.refl _ _⟩⟩
    case round =>
      obtain ⟨k, hk, rfl, HR, HB⟩ := hrel
      by_cases hlt : k < rs.length
      · obtain ⟨ad, hA, R⟩ := HE.out.below HB.out k hlt
        subst hA
        have HRk := Aside0.mk R
        have HD := Aside0.mk (List.drop_eq_getElem_cons hlt)
        clear R
        generalize rs[k] = r at *
        have HRs : Aside0 ((recFault r == 0 && (rs.drop (k + 1)).all (fun r => recFault r == 0)) = rs.all (fun r => recFault r == 0)) := ⟨by rw [← HR.out, HD.out, List.all_cons]⟩
        clear HD HR
        obtain ⟨f, hf, HF⟩ : ∃ f, (recFault r != 0) = f ∧ Aside0 ((recFault r == 0) = !f) := ⟨_, rfl, ⟨by simp [bne]⟩⟩
        cases f
        · (repeat (any_goals (first | (go_at_call 61; refine (recFault_impl r.kind r.term r.vote r.idx r.ent.term r.ent.cmd.client r.ent.cmd.seq r.ent.cmd.op r.ent.cmd.key r.ent.cmd.val r.ent.cmd.old _ _ HRk.out).mono ?_; rintro e w3 ⟨rfl, hb⟩; have HB3 := Aside0.mk (below_step HB.out hb); clear hb; dsimp only) | go_values | go_skip | go_guarded | go_step | go_upon)))
          go_roundw
          case rel => exact ⟨k + 1, by omega, by go_num, ⟨by have := HRs.out; rw [HF.out] at this; simpa using this⟩, HB3⟩
          case measure => simp [intOf]; omega
        · (repeat (any_goals (first | (go_at_call 61; refine (recFault_impl r.kind r.term r.vote r.idx r.ent.term r.ent.cmd.client r.ent.cmd.seq r.ent.cmd.op r.ent.cmd.key r.ent.cmd.val r.ent.cmd.old _ _ HRk.out).mono ?_; rintro e w3 ⟨rfl, hb⟩; have HB3 := Aside0.mk (below_step HB.out hb); clear hb; dsimp only) | go_values | go_skip | go_guarded | go_step | go_upon)))
          go_ret
          refine ⟨ret_bool ?_, HB3.out⟩
          have := HRs.out
          rw [HF.out] at this
          rw [HO.out, ← this]
          rfl
      · (repeat (any_goals (first | (fail) | go_values | go_skip | go_guarded | go_step | go_upon)))
        go_ret
        obtain rfl : k = rs.length := by omega
        refine ⟨ret_bool ?_, HB.out⟩
        rw [HO.out, ← HR.out, List.drop_length]
        rfl
  · have hd : decide ((8192 : Int) < (rs.length : Int)) = true := decide_eq_true (by omega)
    have HO : Aside0 (recsOk rs = false) := ⟨by simp [recsOk]; omega⟩
    go_enter Tryd.func47, Tryd.ntmps47
    (repeat (any_goals (first | (fail) | go_values | go_skip | go_guarded | go_step | go_upon)))
    go_ret
    exact ⟨ret_bool HO.out.symm, Below.refl _ _⟩
end Go.Proofs.YthiebcecflpbnaaDoor.E
