/- encode at a record. -/
import Derived.Test.YthiebcecflpbnaaDoorZE22
namespace Go.Proofs.YthiebcecflpbnaaDoor.E
open Go.RowKit Go.Proofs.YthiebcecflpbnaaDoorW.PrintWords Go.Proofs.YthiebcecflpbnaaDoorW.PrintLast Go.Proofs.YthiebcecflpbnaaDoorW.PrintMore
set_option linter.unusedVariables false
set_option linter.unusedSimpArgs false

theorem tr_93_78 (a : Addr) (w : World) : Sem.run Tryd.prog (Instr.typeAssert (.iface 93 (.pointer (some a))) 101 78 true) w = .ok (.tuple #[.pointer none, .bool false]) w := by kernel_rfl
theorem tr_93_68 (a : Addr) (w : World) : Sem.run Tryd.prog (Instr.typeAssert (.iface 93 (.pointer (some a))) 101 68 true) w = .ok (.tuple #[.pointer none, .bool false]) w := by kernel_rfl
theorem tr_93_64 (a : Addr) (w : World) : Sem.run Tryd.prog (Instr.typeAssert (.iface 93 (.pointer (some a))) 101 64 true) w = .ok (.tuple #[.pointer none, .bool false]) w := by kernel_rfl
theorem tr_93_93 (a : Addr) (w : World) : Sem.run Tryd.prog (Instr.typeAssert (.iface 93 (.pointer (some a))) 101 93 true) w = .ok (.tuple #[.pointer (some a), .bool true]) w := by kernel_rfl
set_option maxHeartbeats 2000000 in
set_option maxRecDepth 100000 in
theorem firstByte_rec (a : Addr) (k : Int) (w : World) (k0 : w.cell? a = some (.int .i64 k)) (hk : 1 ≤ k ∧ k ≤ 3) : Calls Tryd.prog 53 #[.iface 93 (.pointer (some a))] w fun e w' => e = .returned (.int .u8 (10 + k)) ∧ w = w' := by
  have t1 := tr_93_78 a
  have t2 := tr_93_68 a
  have t3 := tr_93_64 a
  have t4 := tr_93_93 a
  have hw : IntKind.u8.wrap (10 + k) = 10 + k := IntWalk.u8_in _ (by omega)
  have hw2 : wrap64 (10 + k) = 10 + k := IntWalk.wrap64_in _ (by omega)
  clear hk
  go_enter Tryd.func53, Tryd.ntmps53
  go_wp2_with (fail)
  go_ret
  exact ⟨by first | rfl | rw [hw] | (rw [hw2, hw]), rfl⟩
theorem recWrite_calls (r : Rec) (a : Addr) (g b : Nat) (l : List Int) (w : World) (hE : ∀ W, Below b w W → RecR W a r) (hok : RecOk r) (hW : Wr w b g l) (hb : b ≤ w.heap.size) (hg : b ≤ g) (hl : l.length ≤ 100000) :
    Calls Tryd.prog 96 #[.pointer (some a), .pointer (some ⟨g, 0, none⟩)] w fun e' w' => e' = .returned (.tuple #[]) ∧ Wr w' b g (l ++ recB r) ∧ Kp w w' b g := by
  obtain ⟨k, a1, a2, a3, ⟨e0, ⟨c0, c1, c2, c3, c4, c5⟩⟩⟩ := r
  rcases hok with ⟨h, _, _, h2⟩ | ⟨h, _, _, h3, h4, h5⟩ | ⟨h, _, _, _, h3, h4⟩
  · dsimp only at h h2
    subst h
    unfold HardP at h2
    exact rw1 a1 a2 a3 _ a g b l w hE (by omega) (by omega) hW hb hg hl
  · dsimp only at h h3 h4 h5
    subst h
    exact rw2 a1 a2 a3 e0 c0 c1 c2 c3 c4 c5 a g b l w hE (by omega) (entIn_of _ h5) hW hb hg hl
  · dsimp only at h h3 h4
    subst h
    exact rw3 a1 a2 a3 _ a g b l w hE (by omega) hW hb hg hl
theorem recB_byte (r : Rec) : ∀ x ∈ recB r, 0 ≤ x ∧ x < 256 := by
  have hn : ∀ (l : List Int) (x : Int), x ∈ numsB l → 0 ≤ x ∧ x < 256 := by
    intro l x hx
    simp only [numsB, List.mem_flatMap] at hx
    obtain ⟨v, _, hv⟩ := hx
    exact numI_byte _ x hv
  intro x hx
  unfold recB at hx
  split at hx
  · exact hn _ x hx
  · split at hx
    · rcases List.mem_append.1 hx with hx | hx
      · exact hn _ x hx
      · exact entB_byte _ x hx
    · exact hn _ x hx
theorem recB_len (r : Rec) (h : RecOk r) : (recB r).length ≤ 240 := by
  unfold recB
  rcases h with ⟨h, h1, _, h2⟩ | ⟨h, _, _, h3, h4, h5⟩ | ⟨h, _, _, _, h3, h4⟩
  · unfold HardP at h2
    rw [if_pos h]
    have := numsB_len [r.term, r.vote] (by simp; omega)
    simp only [List.length_cons, List.length_nil] at this
    omega
  · rw [if_neg (by omega), if_pos h, List.length_append]
    have := numsB_len [r.idx] (by simp; omega)
    have h6 := entB_len _ (entIn_of _ h5)
    simp only [List.length_cons, List.length_nil] at this
    omega
  · rw [if_neg (by omega), if_neg (by omega)]
    have := numsB_len [r.idx] (by simp; omega)
    simp only [List.length_cons, List.length_nil] at this
    omega
theorem recKind (r : Rec) (h : RecOk r) : 1 ≤ r.kind ∧ r.kind ≤ 3 := by
  rcases h with ⟨h, _⟩ | ⟨h, _⟩ | ⟨h, _⟩ <;> omega
theorem body_rec {w w1 w3 w4 : World} {g : Nat} {r : Rec} (hr : RecOk r) (hb1 : Below w.heap.size w w1) (hb3 : Below w.heap.size w1 w3) (hw : Wr w4 w.heap.size g ([10 + r.kind] ++ recB r)) (hk : Kp w3 w4 w.heap.size g) : Body w w4 g ((10 + r.kind) :: recB r) :=
  ⟨hw, (hb1.trans hb3).trans hk.1, by have := recB_len r hr; simp; omega, fun x hx => by
    have := recKind r hr
    rcases List.mem_cons.1 hx with rfl | hx
    · omega
    · exact recB_byte _ x hx⟩
theorem recR_later {w w1 w3 : World} {a : Addr} {r : Rec} (hE : RecR w a r) (hb1 : Below w.heap.size w w1) (hb3 : Below w.heap.size w1 w3) : ∀ W, Below w.heap.size w3 W → RecR W a r := fun W hW => hE.below ((hb1.trans hb3).trans hW)

set_option maxHeartbeats 4000000 in
set_option maxRecDepth 100000 in
theorem encode_rec_no (r : Rec) (a : Addr) (w : World) (R : RecR w a r) (hf : recFault r ≠ 0) :
    Calls Tryd.prog 34 #[.iface 93 (.pointer (some a))] w (Made w []) := by
  have HR := Aside0.mk R
  generalize hff : recFault r = f at hf
  have HF := Aside0.mk hff
  have hf1 : (f != 0) = true := by simpa using hf
  clear R hff
  go_enter Tryd.func34, Tryd.ntmps34
  (repeat (any_goals (first | (go_at_call 61; refine (recFault_impl r.kind r.term r.vote r.idx r.ent.term r.ent.cmd.client r.ent.cmd.seq r.ent.cmd.op r.ent.cmd.key r.ent.cmd.val r.ent.cmd.old a w HR.out).mono ?_; rintro e w1 ⟨rfl, hb1⟩; have HB1 := Aside0.mk hb1; clear hb1; rw [HF.out]; dsimp only) | go_values | go_skip | go_guarded | go_step | go_upon)))
  go_ret
  exact made_nil HB1.out
set_option maxHeartbeats 4000000 in
set_option maxRecDepth 100000 in
theorem encode_rec_yes (r : Rec) (a : Addr) (w : World) (R : RecR w a r) (hf : recFault r = 0) (hN : Nib w) :
    Calls Tryd.prog 34 #[.iface 93 (.pointer (some a))] w (Made w (frameB ((10 + r.kind) :: recB r))) := by
  generalize hbd : ((10 + r.kind) :: recB r : List Int) = body
  have HBD := Aside0.mk hbd
  clear hbd
  have hpl : a.block < w.heap.size := World.block_lt_of_cell? w _ R.c0
  have HE := Aside0.mk R
  have HF := Aside0.mk hf
  have HRI := Aside0.mk (recOk_of _ hf)
  have HK0 := Aside0.mk (recKind _ HRI.out)
  have HN := Aside0.mk hN
  generalize hq : (10 + r.kind : Int) = q at *
  have HQ := Aside0.mk hq
  clear R hf hN hq
  go_enter Tryd.func34, Tryd.ntmps34
  (repeat (any_goals (first | (go_at_call 61; refine (recFault_impl r.kind r.term r.vote r.idx r.ent.term r.ent.cmd.client r.ent.cmd.seq r.ent.cmd.op r.ent.cmd.key r.ent.cmd.val r.ent.cmd.old a w HE.out).mono ?_; rintro e w1 ⟨rfl, hb1⟩; have HB1 := Aside0.mk hb1; clear hb1; rw [HF.out]; have hs1 : w.heap.size ≤ w1.heap.size := HB1.out.size; dsimp only) | (go_at_call 53; refine (firstByte_rec a r.kind _ (HE.out.below HB1.out).c0 HK0.out).mono ?_; rintro e w' ⟨rfl, rfl⟩; rw [HQ.out]; have HW3 := Aside0.mk (wr_start w1 w.heap.size q hs1); have HE3 := Aside0.mk (recR_later HE.out HB1.out (((Below.refl w.heap.size w1).alloc hs1 (.cells #[.int .u8 q] 5)).alloc (by simp; omega) (.cells #[.slice (some ⟨w1.heap.size, 0, none⟩) 1 1] 106))); dsimp only) | (go_at_call 96; refine (recWrite_calls r a (w1.heap.size + 1) w.heap.size [q] _ HE3.out HRI.out HW3.out (by simp; omega) (by omega) (by simp)).mono ?_; rintro e w4 ⟨rfl, hw4, hk4⟩; have W4 := Aside0.mk hw4; have K4 := Aside0.mk hk4; clear hw4 hk4; dsimp only) | go_values | go_skip | go_guarded | go_step | go_upon)))
  have HBODY : Aside0 (Body w w4 (w1.heap.size + 1) (q :: recB r)) := ⟨by have := body_rec HRI.out HB1.out (((Below.refl _ _).alloc hs1 (.cells #[.int .u8 q] 5)).alloc (by simp; omega) (.cells #[.slice (some ⟨w1.heap.size, 0, none⟩) 1 1] 106)) (by rw [HQ.out]; exact W4.out) K4.out; rwa [HQ.out] at this⟩
  rw [HBD.out] at HBODY
  clear W4 K4 HW3 HRI
  have hg0 : w.heap.size ≤ w1.heap.size + 1 := by omega
  generalize w1.heap.size + 1 = g at HBODY hg0 ⊢
  have hlen := HBODY.out.len ; have hsz4 : w.heap.size ≤ w4.heap.size := HBODY.out.below.size ; obtain ⟨v4, hv4, hr4⟩ := HBODY.out.wr ; obtain ⟨A0, n0, c0, e0_⟩ := slice3 (Kd.R_slice hr4) ; subst e0_ ; have hn0 := (Kd.R_reads' hr4).1 ; have HC4 := Aside0.mk (Kd.R_reads' hr4).2.2 ; have HN4 := Aside0.mk (HN.out.below (Nat.lt_of_le_of_lt (Nat.zero_le _) hpl) HBODY.out.below) ; have hn1 : n0 ≤ 900000 := (by omega) ; have Hn0 := Aside0.mk hn0 ; have hgl : g < w4.heap.size := blk_lt hv4 ; have hcell4 : w4.cell? ⟨g, 0, none⟩ = some (.slice A0 n0 c0) := blk_cell hv4 0 ; have HPOS4 := Aside0.mk HN4.out.pos ; clear hn0 hv4 hr4 ; have T0 := Aside0.mk True.intro ; (go_region_held3 (fun w' => w'.cell? ⟨g, 0, none⟩ = some (.slice A0 n0 c0)) (first | exact hcell4 | exact hcell5 | exact hcell6 | exact hcell7 | go_keep) (first | (go_at_call 54; clear T0; refine (little_calls _ _).mono ?_; rintro e w5 ⟨v5, rfl, ho5, hb5_⟩; have hb5 : Below w4.heap.size w4 w5 := below_then (below_drew (Below.refl w4.heap.size w4)) (Nat.le_refl _) hb5_; have HO5 : Aside0 ((Kd.int .u8).R 5 w5 w4.heap.size (fun _ => True) v5 _) := ⟨ho5⟩; have HB5 := Aside0.mk hb5; have hcell5 : w5.cell? ⟨g, 0, none⟩ = some (.slice A0 n0 c0) := (hb5.cell (p := ⟨g, 0, none⟩) hgl).trans hcell4; have HC5 := Aside0.mk (C_below0 HC4.out hb5); have HN5 := Aside0.mk (HN4.out.below HPOS4.out hb5); clear ho5 hb5 hb5_; dsimp only) | (go_at_call 55; rw [Hn0.out]; refine (crc_calls A0 c0 body _ HC5.out HBODY.out.byte HN5.out).mono ?_; rintro e w' ⟨rfl, rfl⟩; dsimp only) | (go_at_call 54; refine (little_calls _ _).mono ?_; rintro e w6 ⟨v6, rfl, ho6, hb6⟩; obtain ⟨A6, c6, e6_⟩ := Kd.R_slice ho6; subst e6_; have HO6 := Aside0.mk ho6; have HB6 := Aside0.mk hb6; have hcell6 : w6.cell? ⟨g, 0, none⟩ = some (.slice A0 n0 c0) := (hb6.cell (p := ⟨g, 0, none⟩) (Nat.lt_of_lt_of_le hgl HB5.out.size)).trans hcell5; clear ho6 hb6; dsimp only) | (refine Kd.R_append_rows_step (Kd.int .u8) (w0 := w4) w4.heap.size (by rfl) (.tmp 22) (.tmp 28) 25 5 (.int .u8 0) 1 rfl Tryd.underlying25 info5 rfl (by decide) (by omega) v5 _ (leI (crcI body)) A6 _ c6 (fun _ => True) (fun _ => False) rfl rfl (Kd.R_below HO5.out HB6.out) (Kd.R_reads' HO6.out).2.2 (fun _ _ h => h) (fun _ h => h.elim) (fun _ _ => trivial) (below_then HB5.out HB5.out.size HB6.out) (Nat.le_trans HB5.out.size HB6.out.size) (by simp [leI]) ?_; intro v7 w7 ho7 hb7 _ _; obtain ⟨A7, n7, c7, e7_⟩ := slice3 (Kd.R_slice ho7); subst e7_; have HO7 := Aside0.mk ho7; have HB7 := Aside0.mk hb7; have hcell7 : w7.cell? ⟨g, 0, none⟩ = some (.slice A0 n0 c0) := (hb7.cell (p := ⟨g, 0, none⟩) hgl).trans hcell4; clear ho7 hb7))) ; have HC7 : Aside0 ((Kd.int .u8).C w7 A0 n0 body) := ⟨(by rw [Hn0.out]; exact C_below0 HC4.out HB7.out)⟩ ; have hsz7 : w4.heap.size ≤ w7.heap.size := HB7.out.size ; clear hcell4 hcell5 hcell6 ; ((repeat (any_goals (first | ((with_reducible refine gate_builtin (b := .append) (xs := #[.tmp 30, .tmp 34]) rfl ?_); at_builtin; refine Kd.R_append_rows (Kd.int .u8) (w0 := w4) w4.heap.size rfl (.tmp 30) (.tmp 34) 25 5 (.int .u8 0) 1 rfl Tryd.underlying25 info5 rfl (by decide) (by omega) _ _ body A0 n0 c0 (fun _ => True) (fun _ => False) rfl rfl HO7.out HC7.out (fun _ _ h => h) (fun _ h => h.elim) (fun _ _ => trivial) HB7.out hsz7 (by simp [leI]; omega) ?_; intro v8 w8 ho8 hb8 _ _; have HO8 := Aside0.mk ho8; have HB8 := Aside0.mk hb8; clear ho8 hb8) | go_values | go_skip | go_guarded | go_step | go_upon)))) ; go_ret ; (refine ⟨_, rfl, ?_, below_weaken HBODY.out.below hsz4 HB8.out⟩) ; (have hfin := Kd.R_lower HO8.out hsz4; rw [Hn0.out, u32_len _ (by omega)] at hfin; exact hfin)
def encRec (r : Rec) : List Int := if recFault r = 0 then frameB ((10 + r.kind) :: recB r) else []
theorem encode_rec (r : Rec) (a : Addr) (w : World) (R : RecR w a r) (hN : Nib w) : Calls Tryd.prog 34 #[.iface 93 (.pointer (some a))] w (Made w (encRec r)) := by
  unfold encRec
  split
  · exact encode_rec_yes r a w R ‹_› hN
  · exact encode_rec_no r a w R ‹_›
end Go.Proofs.YthiebcecflpbnaaDoor.E
