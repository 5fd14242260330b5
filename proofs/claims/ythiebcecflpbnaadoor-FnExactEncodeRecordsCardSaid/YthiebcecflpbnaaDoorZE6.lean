/- encode at a call; EncodeReply, EncodeCall. -/
import Derived.Test.YthiebcecflpbnaaDoorZE5
namespace Go.Proofs.YthiebcecflpbnaaDoor.E
open Go.RowKit Go.Proofs.YthiebcecflpbnaaDoorW.PrintWords Go.Proofs.YthiebcecflpbnaaDoorW.PrintLast Go.Proofs.YthiebcecflpbnaaDoorW.PrintMore
set_option linter.unusedVariables false
set_option linter.unusedSimpArgs false

theorem cmdB_byte (c : Cmd) : ∀ x ∈ cmdB c, 0 ≤ x ∧ x < 256 := by
  intro x hx
  simp only [cmdB, numsB, textsB, textI, List.mem_append, List.mem_flatMap] at hx
  rcases hx with ⟨v, _, hv⟩ | ⟨t, _, hv | hv⟩
  · exact numI_byte _ x hv
  · exact numI_byte _ x hv
  · exact bytesOf_byte _ x hv
theorem body_call {w w1 w3 w4 : World} {g : Nat} {c : Cmd} (hr : CmdIn c) (hb1 : Below w.heap.size w w1) (hb3 : Below w.heap.size w1 w3) (hw : Wr w4 w.heap.size g ([7] ++ cmdB c)) (hk : Kp w3 w4 w.heap.size g) : Body w w4 g (7 :: cmdB c) :=
  ⟨hw, (hb1.trans hb3).trans hk.1, by have := cmdB_len c hr; simp; omega, fun x hx => by
    rcases List.mem_cons.1 hx with rfl | hx
    · decide
    · exact cmdB_byte _ x hx⟩
theorem callIn_of (c : Cmd) (h : callFault c = 0) : CmdIn c := by
  unfold callFault at h
  by_cases hb : blankB c = true
  · rw [if_pos hb] at h; cases h
  · rw [if_neg hb] at h
    refine cmdIn_of c h (fun h0 => hb ?_)
    unfold cmdFault at h
    rw [if_neg (by omega), if_pos h0] at h
    simp only [blankB, decide_eq_true_eq]
    repeat' split at h
    all_goals first | (exfalso; omega) | omega

set_option maxHeartbeats 4000000 in
set_option maxRecDepth 100000 in
theorem encode_call_no (c0 c1 c2 : Int) (c3 c4 c5 : ByteArray) (p : Nat) (w : World) (B : w.heap[p]? = some (.cells #[.int .i64 c0, .int .i64 c1, .int .i64 c2, .string c3, .string c4, .string c5] 70 (0, 0))) (hf : callFault ⟨c0, c1, c2, c3, c4, c5⟩ ≠ 0) :
    Calls Tryd.prog 34 #[.iface 68 (.pointer (some ⟨p, 0, none⟩))] w (Made w []) := by
  have HB0 := Aside0.mk B
  generalize hff : callFault ⟨c0, c1, c2, c3, c4, c5⟩ = f at hf
  have HF := Aside0.mk hff
  have hf1 : (f != 0) = true := by simpa using hf
  clear B hff
  go_enter Tryd.func34, Tryd.ntmps34
  (repeat (any_goals (first | (go_at_call 88; refine (callFault_calls c0 c1 c2 c3 c4 c5 p w HB0.out).mono ?_; rintro e w1 ⟨rfl, hb1⟩; have HB1 := Aside0.mk hb1; clear hb1; rw [HF.out]; dsimp only) | go_values | go_skip | go_guarded | go_step | go_upon)))
  go_ret
  exact made_nil HB1.out

set_option maxHeartbeats 4000000 in
set_option maxRecDepth 100000 in
theorem encode_call_yes (c0 c1 c2 : Int) (c3 c4 c5 : ByteArray) (p : Nat) (w : World) (B : w.heap[p]? = some (.cells #[.int .i64 c0, .int .i64 c1, .int .i64 c2, .string c3, .string c4, .string c5] 70 (0, 0))) (hf : callFault ⟨c0, c1, c2, c3, c4, c5⟩ = 0) (hN : Nib w) :
    Calls Tryd.prog 34 #[.iface 68 (.pointer (some ⟨p, 0, none⟩))] w (Made w (frameB (7 :: cmdB ⟨c0, c1, c2, c3, c4, c5⟩))) := by
  generalize hbd : (7 :: cmdB ⟨c0, c1, c2, c3, c4, c5⟩ : List Int) = body
  have HBD := Aside0.mk hbd
  clear hbd
  have hpl : p < w.heap.size := blk_lt B
  have HB0 := Aside0.mk B
  have HF := Aside0.mk hf
  have HRI := Aside0.mk (callIn_of _ hf)
  have HN := Aside0.mk hN
  clear B hf hN
  go_enter Tryd.func34, Tryd.ntmps34
  (repeat (any_goals (first | (go_at_call 88; refine (callFault_calls c0 c1 c2 c3 c4 c5 p w HB0.out).mono ?_; rintro e w1 ⟨rfl, hb1⟩; have HB1 := Aside0.mk hb1; clear hb1; rw [HF.out]; have hs1 : w.heap.size ≤ w1.heap.size := HB1.out.size; dsimp only) | (go_at_call 53; refine (firstByte_call p _).mono ?_; rintro e w' ⟨rfl, rfl⟩; have HW3 := Aside0.mk (wr_start w1 w.heap.size 7 hs1); have HB3 := Aside0.mk (blk_alloc (blk_alloc (blk_below HB0.out HB1.out) (.cells #[.int .u8 7] 5)) (.cells #[.slice (some ⟨w1.heap.size, 0, none⟩) 1 1] 106)); dsimp only) | (go_at_call 89; refine (callWrite_calls c0 c1 c2 c3 c4 c5 p (w1.heap.size + 1) w.heap.size [7] _ HB3.out HRI.out HW3.out (by simp; omega) (by omega) (by decide)).mono ?_; rintro e w4 ⟨rfl, hw4, hk4⟩; have W4 := Aside0.mk hw4; have K4 := Aside0.mk hk4; clear hw4 hk4; dsimp only) | go_values | go_skip | go_guarded | go_step | go_upon)))
  have HBODY : Aside0 (Body w w4 (w1.heap.size + 1) (7 :: cmdB ⟨c0, c1, c2, c3, c4, c5⟩)) := ⟨body_call HRI.out HB1.out (((Below.refl _ _).alloc hs1 _).alloc (by simp; omega) _) W4.out K4.out⟩
  rw [HBD.out] at HBODY
  clear W4 K4 HW3 HB3 HRI
  have hg0 : w.heap.size ≤ w1.heap.size + 1 := by omega
  generalize w1.heap.size + 1 = g at HBODY hg0 ⊢
  have hlen := HBODY.out.len ; have hsz4 : w.heap.size ≤ w4.heap.size := HBODY.out.below.size ; obtain ⟨v4, hv4, hr4⟩ := HBODY.out.wr ; obtain ⟨A0, n0, c0, e0_⟩ := slice3 (Kd.R_slice hr4) ; subst e0_ ; have hn0 := (Kd.R_reads' hr4).1 ; have HC4 := Aside0.mk (Kd.R_reads' hr4).2.2 ; have HN4 := Aside0.mk (HN.out.below (Nat.lt_of_le_of_lt (Nat.zero_le _) hpl) HBODY.out.below) ; have hn1 : n0 ≤ 900000 := (by omega) ; have Hn0 := Aside0.mk hn0 ; have hgl : g < w4.heap.size := blk_lt hv4 ; have hcell4 : w4.cell? ⟨g, 0, none⟩ = some (.slice A0 n0 c0) := blk_cell hv4 0 ; have HPOS4 := Aside0.mk HN4.out.pos ; clear hn0 hv4 hr4 ; have T0 := Aside0.mk True.intro ; (go_region_held3 (fun w' => w'.cell? ⟨g, 0, none⟩ = some (.slice A0 n0 c0)) (first | exact hcell4 | exact hcell5 | exact hcell6 | exact hcell7 | go_keep) (first | (go_at_call 54; clear T0; refine (little_calls _ _).mono ?_; rintro e w5 ⟨v5, rfl, ho5, hb5_⟩; have hb5 : Below w4.heap.size w4 w5 := below_then (below_drew (Below.refl w4.heap.size w4)) (Nat.le_refl _) hb5_; have HO5 : Aside0 ((Kd.int .u8).R 5 w5 w4.heap.size (fun _ => True) v5 _) := ⟨ho5⟩; have HB5 := Aside0.mk hb5; have hcell5 : w5.cell? ⟨g, 0, none⟩ = some (.slice A0 n0 c0) := (hb5.cell (p := ⟨g, 0, none⟩) hgl).trans hcell4; have HC5 := Aside0.mk (C_below0 HC4.out hb5); have HN5 := Aside0.mk (HN4.out.below HPOS4.out hb5); clear ho5 hb5 hb5_; dsimp only) | (go_at_call 55; rw [Hn0.out]; refine (crc_calls A0 c0 body _ HC5.out HBODY.out.byte HN5.out).mono ?_; rintro e w' ⟨rfl, rfl⟩; dsimp only) | (go_at_call 54; refine (little_calls _ _).mono ?_; rintro e w6 ⟨v6, rfl, ho6, hb6⟩; obtain ⟨A6, c6, e6_⟩ := Kd.R_slice ho6; subst e6_; have HO6 := Aside0.mk ho6; have HB6 := Aside0.mk hb6; have hcell6 : w6.cell? ⟨g, 0, none⟩ = some (.slice A0 n0 c0) := (hb6.cell (p := ⟨g, 0, none⟩) (Nat.lt_of_lt_of_le hgl HB5.out.size)).trans hcell5; clear ho6 hb6; dsimp only) | (refine Kd.R_append_rows_step (Kd.int .u8) (w0 := w4) w4.heap.size (by rfl) (.tmp 22) (.tmp 28) 25 5 (.int .u8 0) 1 rfl Tryd.underlying25 info5 rfl (by decide) (by omega) v5 _ (leI (crcI body)) A6 _ c6 (fun _ => True) (fun _ => False) rfl rfl (Kd.R_below HO5.out HB6.out) (Kd.R_reads' HO6.out).2.2 (fun _ _ h => h) (fun _ h => h.elim) (fun _ _ => trivial) (below_then HB5.out HB5.out.size HB6.out) (Nat.le_trans HB5.out.size HB6.out.size) (by simp [leI]) ?_; intro v7 w7 ho7 hb7 _ _; obtain ⟨A7, n7, c7, e7_⟩ := slice3 (Kd.R_slice ho7); subst e7_; have HO7 := Aside0.mk ho7; have HB7 := Aside0.mk hb7; have hcell7 : w7.cell? ⟨g, 0, none⟩ = some (.slice A0 n0 c0) := (hb7.cell (p := ⟨g, 0, none⟩) hgl).trans hcell4; clear ho7 hb7))) ; have HC7 : Aside0 ((Kd.int .u8).C w7 A0 n0 body) := ⟨(by rw [Hn0.out]; exact C_below0 HC4.out HB7.out)⟩ ; have hsz7 : w4.heap.size ≤ w7.heap.size := HB7.out.size ; clear hcell4 hcell5 hcell6 ; ((repeat (any_goals (first | ((with_reducible refine gate_builtin (b := .append) (xs := #[.tmp 30, .tmp 34]) rfl ?_); at_builtin; refine Kd.R_append_rows (Kd.int .u8) (w0 := w4) w4.heap.size rfl (.tmp 30) (.tmp 34) 25 5 (.int .u8 0) 1 rfl Tryd.underlying25 info5 rfl (by decide) (by omega) _ _ body A0 n0 c0 (fun _ => True) (fun _ => False) rfl rfl HO7.out HC7.out (fun _ _ h => h) (fun _ h => h.elim) (fun _ _ => trivial) HB7.out hsz7 (by simp [leI]; omega) ?_; intro v8 w8 ho8 hb8 _ _; have HO8 := Aside0.mk ho8; have HB8 := Aside0.mk hb8; clear ho8 hb8) | go_values | go_skip | go_guarded | go_step | go_upon)))) ; go_ret ; (refine ⟨_, rfl, ?_, below_weaken HBODY.out.below hsz4 HB8.out⟩) ; (have hfin := Kd.R_lower HO8.out hsz4; rw [Hn0.out, u32_len _ (by omega)] at hfin; exact hfin)

def encReply (r : Reply) : List Int := if replyFault r = 0 then frameB (8 :: replyB r) else []
def encCall (c : Cmd) : List Int := if callFault c = 0 then frameB (7 :: cmdB c) else []
theorem made_below {w w1 w2 : World} {r : List Int} {e : Ending} (h : Made w1 r e w2) (hb : Below w.heap.size w w1) : Made w r e w2 := by
  obtain ⟨v, rfl, h1, h2⟩ := h
  exact ⟨v, rfl, Kd.R_lower h1 hb.size, below_step hb h2⟩
theorem encode_reply (a0 a1 a2 a3 : Int) (a4 : ByteArray) (a5 : Int) (p : Nat) (w : World) (B : w.heap[p]? = some (.cells #[.int .i64 a0, .int .i64 a1, .int .i64 a2, .int .i64 a3, .string a4, .int .i64 a5] 66 (0, 0))) (hN : Nib w) :
    Calls Tryd.prog 34 #[.iface 64 (.pointer (some ⟨p, 0, none⟩))] w (Made w (encReply ⟨a0, a1, a2, a3, a4, a5⟩)) := by
  unfold encReply
  split
  · exact encode_reply_yes a0 a1 a2 a3 a4 a5 p w B ‹_› hN
  · exact encode_reply_no a0 a1 a2 a3 a4 a5 p w B ‹_›
theorem encode_call (c0 c1 c2 : Int) (c3 c4 c5 : ByteArray) (p : Nat) (w : World) (B : w.heap[p]? = some (.cells #[.int .i64 c0, .int .i64 c1, .int .i64 c2, .string c3, .string c4, .string c5] 70 (0, 0))) (hN : Nib w) :
    Calls Tryd.prog 34 #[.iface 68 (.pointer (some ⟨p, 0, none⟩))] w (Made w (encCall ⟨c0, c1, c2, c3, c4, c5⟩)) := by
  unfold encCall
  split
  · exact encode_call_yes c0 c1 c2 c3 c4 c5 p w B ‹_› hN
  · exact encode_call_no c0 c1 c2 c3 c4 c5 p w B ‹_›

set_option maxHeartbeats 4000000 in
set_option maxRecDepth 100000 in
theorem encodeReply_calls (a0 a1 a2 a3 : Int) (a4 : ByteArray) (a5 : Int) (w : World) (hN : Nib w) :
    Calls Tryd.prog 10 #[.agg #[.int .i64 a0, .int .i64 a1, .int .i64 a2, .int .i64 a3, .string a4, .int .i64 a5]] w (Made w (encReply ⟨a0, a1, a2, a3, a4, a5⟩)) := by
  have hu := Tryd.underlying27
  have hu2 := Tryd.underlying66
  have HN := Aside0.mk hN
  clear hN
  have HB := Aside0.mk (below_alloc (below_alloc (Below.refl w.heap.size w) (.cells #[.int .i64 a0, .int .i64 a1, .int .i64 a2, .int .i64 a3, .string a4, .int .i64 a5] 27)) (.cells #[.int .i64 a0, .int .i64 a1, .int .i64 a2, .int .i64 a3, .string a4, .int .i64 a5] 66))
  have B := Aside0.mk (blk_new (w.alloc (.cells #[.int .i64 a0, .int .i64 a1, .int .i64 a2, .int .i64 a3, .string a4, .int .i64 a5] 27)) (.cells #[.int .i64 a0, .int .i64 a1, .int .i64 a2, .int .i64 a3, .string a4, .int .i64 a5] 66))
  have HN2 := Aside0.mk (HN.out.below HN.out.pos HB.out)
  go_enter Tryd.func10, Tryd.ntmps10
  (repeat (any_goals (first | (go_at_call 34; refine (encode_reply a0 a1 a2 a3 a4 a5 (w.heap.size + 1) _ (by have := B.out; simpa using this) HN2.out).mono ?_; intro e w2 hm; obtain ⟨v, rfl, h1, h2⟩ := made_below hm HB.out; have M1 := Aside0.mk h1; have M2 := Aside0.mk h2; clear hm h1 h2; dsimp only) | go_values | go_skip | go_guarded | go_step | go_upon)))
  go_ret
  exact ⟨_, rfl, M1.out, M2.out⟩
set_option maxHeartbeats 4000000 in
set_option maxRecDepth 100000 in
theorem encodeCall_calls (c0 c1 c2 : Int) (c3 c4 c5 : ByteArray) (w : World) (hN : Nib w) :
    Calls Tryd.prog 17 #[.agg #[.int .i64 c0, .int .i64 c1, .int .i64 c2, .string c3, .string c4, .string c5]] w (Made w (encCall ⟨c0, c1, c2, c3, c4, c5⟩)) := by
  have hu := Tryd.underlying36
  have hu2 := Tryd.underlying70
  have HN := Aside0.mk hN
  clear hN
  have HB := Aside0.mk (below_alloc (below_alloc (Below.refl w.heap.size w) (.cells #[.int .i64 c0, .int .i64 c1, .int .i64 c2, .string c3, .string c4, .string c5] 36)) (.cells #[.int .i64 c0, .int .i64 c1, .int .i64 c2, .string c3, .string c4, .string c5] 70))
  have B := Aside0.mk (blk_new (w.alloc (.cells #[.int .i64 c0, .int .i64 c1, .int .i64 c2, .string c3, .string c4, .string c5] 36)) (.cells #[.int .i64 c0, .int .i64 c1, .int .i64 c2, .string c3, .string c4, .string c5] 70))
  have HN2 := Aside0.mk (HN.out.below HN.out.pos HB.out)
  go_enter Tryd.func17, Tryd.ntmps17
  (repeat (any_goals (first | (go_at_call 34; refine (encode_call c0 c1 c2 c3 c4 c5 (w.heap.size + 1) _ (by have := B.out; simpa using this) HN2.out).mono ?_; intro e w2 hm; obtain ⟨v, rfl, h1, h2⟩ := made_below hm HB.out; have M1 := Aside0.mk h1; have M2 := Aside0.mk h2; clear hm h1 h2; dsimp only) | go_values | go_skip | go_guarded | go_step | go_upon)))
  go_ret
  exact ⟨_, rfl, M1.out, M2.out⟩
end Go.Proofs.YthiebcecflpbnaaDoor.E
