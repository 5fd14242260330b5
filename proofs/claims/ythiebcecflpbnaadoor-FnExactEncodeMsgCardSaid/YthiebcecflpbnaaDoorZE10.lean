/- encode at a message; EncodeMsg. -/
import Derived.Test.YthiebcecflpbnaaDoorZM0
import Derived.Test.YthiebcecflpbnaaDoorZM1
import Derived.Test.YthiebcecflpbnaaDoorZM3
import Derived.Test.YthiebcecflpbnaaDoorZM5
import Derived.Test.YthiebcecflpbnaaDoorZM6
namespace Go.Proofs.YthiebcecflpbnaaDoor.E
open Go.RowKit Go.Proofs.YthiebcecflpbnaaDoorW.PrintWords Go.Proofs.YthiebcecflpbnaaDoorW.PrintLast Go.Proofs.YthiebcecflpbnaaDoorW.PrintMore
set_option linter.unusedVariables false
set_option linter.unusedSimpArgs false

theorem msgFault_impl (k a1 a2 a3 a4 a5 a6 a7 a8 : Int) (A : Option Addr) (c : Nat) (es : List Ent) (w : World) (hE : EntR w A es) (hl : es.length ≤ 9223372036854775807) :
    Calls Tryd.prog 93 #[.agg #[.int .i64 k, .int .i64 a1, .int .i64 a2, .int .i64 a3, .int .i64 a4, .int .i64 a5, .int .i64 a6, .int .i64 a7, .int .i64 a8, .slice A es.length c]] w fun e w' => e = .returned (.int .i64 (msgFault ⟨k, a1, a2, a3, a4, a5, a6, a7, a8, es⟩)) ∧ Below w.heap.size w w' := by
  by_cases h1 : k = 1
  · subst h1; exact mf1 a1 a2 a3 a4 a5 a6 a7 a8 A c es w hE hl
  by_cases h3 : k = 3
  · subst h3; exact mf3 a1 a2 a3 a4 a5 a6 a7 a8 A c es w hE hl
  by_cases h5 : k = 5
  · subst h5; exact mf5 a1 a2 a3 a4 a5 a6 a7 a8 A c es w hE hl
  by_cases h6 : k = 6
  · subst h6; exact mf6 a1 a2 a3 a4 a5 a6 a7 a8 A c es w hE hl
  exact mf0 k a1 a2 a3 a4 a5 a6 a7 a8 A c es w h1 h3 h5 h6 hE hl

theorem rising_all (es : List Ent) (lo hi : Int) (h : rising es lo hi = true) : ∀ e ∈ es, EntIn e := by
  induction es generalizing lo with
  | nil => simp
  | cons x es ih =>
    unfold rising at h
    split at h
    · rename_i hx
      intro e he
      rcases List.mem_cons.1 he with rfl | he
      · exact ⟨⟨by have := hx.1.1; omega, hx.1.2.1⟩, cmdIn_of0 _ hx.1.2.2⟩
      · exact ih _ h e he
    · cases h
theorem msgFault_split (m : Msg) (h : msgFault m = 0) : (1 ≤ m.kind ∧ m.kind ≤ 6) ∧ SrvP m.src m.dst ∧ (1 ≤ m.term ∧ m.term ≤ 1073741824) ∧ PosP m.kind m.idx m.lterm m.term ∧ MarkP m.kind m.commit m.ok m.hint ∧ EntsP m.kind m.idx m.lterm m.term m.es := by
  unfold msgFault at h
  by_cases h1 : 1 ≤ m.kind ∧ m.kind ≤ 6
  · by_cases h2 : SrvP m.src m.dst
    · by_cases h3 : 1 ≤ m.term ∧ m.term ≤ 1073741824
      · by_cases h4 : PosP m.kind m.idx m.lterm m.term
        · by_cases h5 : MarkP m.kind m.commit m.ok m.hint
          · by_cases h6 : EntsP m.kind m.idx m.lterm m.term m.es
            · exact ⟨h1, h2, h3, h4, h5, h6⟩
            · simp [h1, h2, h3, h4, h5, h6] at h
          · simp [h1, h2, h3, h4, h5] at h
        · simp [h1, h2, h3, h4] at h
      · simp only [h1, h2, h3, not_true_eq_false, not_false_eq_true, if_true, if_false, and_self] at h
        cases h
    · simp only [h1, h2, not_true_eq_false, not_false_eq_true, if_true, if_false, and_self] at h
      cases h
  · simp only [h1, not_false_eq_true, if_true] at h
    cases h
theorem msgIn_of (m : Msg) (h : msgFault m = 0) : MsgIn m := by
  obtain ⟨h1, h2, h3, h4, h5, h6⟩ := msgFault_split m h
  unfold SrvP at h2
  unfold PosP at h4
  unfold MarkP at h5
  have hlen : m.es.length ≤ 32 := by
    rcases h6 with ⟨_, h6, _⟩ | ⟨_, h6⟩ <;> omega
  refine ⟨?_, ?_, hlen⟩
  · intro v hv
    simp only [msgNums, List.mem_cons, List.not_mem_nil, or_false] at hv
    rcases hv with rfl | rfl | rfl | rfl | rfl | rfl | rfl | rfl | rfl <;> omega
  · rcases h6 with ⟨_, _, _, h6⟩ | ⟨_, h6⟩
    · exact rising_all _ _ _ h6
    · rw [List.eq_nil_of_length_eq_zero h6]; simp
theorem msgB_byte (m : Msg) : ∀ x ∈ msgB m, 0 ≤ x ∧ x < 256 := by
  intro x hx
  simp only [msgB, numsB, entsB, List.mem_append, List.mem_flatMap] at hx
  rcases hx with ⟨v, _, hv⟩ | ⟨t, _, hv⟩
  · exact numI_byte _ x hv
  · exact entB_byte _ x hv
theorem msgB_len (m : Msg) (h : MsgIn m) : (msgB m).length ≤ 7405 := by
  have h1 := numsB_len _ (fun v hv => (h.n v hv).2)
  have h2 := entsB_len _ h.e
  have h3 := h.l
  have h4 : (msgNums m).length = 9 := rfl
  simp only [msgB, List.length_append] at *
  omega
theorem body_msg {w w1 w3 w4 : World} {g : Nat} {m : Msg} (hr : MsgIn m) (hk0 : 1 ≤ m.kind ∧ m.kind ≤ 6) (hb1 : Below w.heap.size w w1) (hb3 : Below w.heap.size w1 w3) (hw : Wr w4 w.heap.size g ([m.kind] ++ msgB m)) (hk : Kp w3 w4 w.heap.size g) : Body w w4 g (m.kind :: msgB m) :=
  ⟨hw, (hb1.trans hb3).trans hk.1, by have := msgB_len m hr; simp; omega, fun x hx => by
    rcases List.mem_cons.1 hx with rfl | hx
    · omega
    · exact msgB_byte _ x hx⟩

set_option maxHeartbeats 2000000 in
set_option maxRecDepth 100000 in
theorem msgBFault_calls (a0 a1 a2 a3 a4 a5 a6 a7 a8 : Int) (A : Option Addr) (c : Nat) (es : List Ent) (p : Nat) (w : World) (B : w.heap[p]? = some (.cells #[.int .i64 a0, .int .i64 a1, .int .i64 a2, .int .i64 a3, .int .i64 a4, .int .i64 a5, .int .i64 a6, .int .i64 a7, .int .i64 a8, .slice A es.length c] 80 (0, 0))) (hE : EntR w A es) (hl : es.length ≤ 9223372036854775807) :
    Calls Tryd.prog 91 #[.pointer (some ⟨p, 0, none⟩)] w fun e w' => e = .returned (.int .i64 (msgFault ⟨a0, a1, a2, a3, a4, a5, a6, a7, a8, es⟩)) ∧ Below w.heap.size w w' := by
  have hu := Tryd.underlying46
  have hu2 := Tryd.underlying80
  have HE := Aside0.mk hE
  have C := blk_cell B
  clear B hE
  go_enter Tryd.func91, Tryd.ntmps91
  (repeat (any_goals (first | (go_at_call 93; refine (msgFault_impl _ _ _ _ _ _ _ _ _ A c es _ HE.out hl).mono ?_; rintro e w' ⟨rfl, hb⟩; have HB := Aside0.mk hb; clear hb; dsimp only) | go_values | go_skip | go_guarded | go_step | go_upon)))
  go_ret
  exact ⟨rfl, HB.out⟩

set_option maxHeartbeats 2000000 in
set_option maxRecDepth 100000 in
theorem firstByte_msg (a0 a1 a2 a3 a4 a5 a6 a7 a8 : Int) (s : Value) (p : Nat) (w : World) (B : w.heap[p]? = some (.cells #[.int .i64 a0, .int .i64 a1, .int .i64 a2, .int .i64 a3, .int .i64 a4, .int .i64 a5, .int .i64 a6, .int .i64 a7, .int .i64 a8, s] 80 (0, 0))) (hk : 1 ≤ a0 ∧ a0 ≤ 6) :
    Calls Tryd.prog 53 #[.iface 78 (.pointer (some ⟨p, 0, none⟩))] w fun e w' => e = .returned (.int .u8 a0) ∧ w = w' := by
  have t1 := ta_78_78 p
  have hu := Tryd.underlying46
  have hu2 := Tryd.underlying80
  have C := blk_cell B
  have hw : IntKind.u8.wrap a0 = a0 := IntWalk.u8_in _ (by omega)
  clear B
  go_enter Tryd.func53, Tryd.ntmps53
  go_wp2_with (fail)
  go_ret
  exact ⟨by first | rfl | rw [hw], rfl⟩
end Go.Proofs.YthiebcecflpbnaaDoor.E
