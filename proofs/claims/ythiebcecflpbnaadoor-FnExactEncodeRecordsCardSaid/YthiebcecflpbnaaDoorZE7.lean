/- What the body of a message writes. -/
import Derived.Test.YthiebcecflpbnaaDoorZE6
namespace Go.Proofs.YthiebcecflpbnaaDoor.E
open Go.RowKit Go.Proofs.YthiebcecflpbnaaDoorW.PrintWords Go.Proofs.YthiebcecflpbnaaDoorW.PrintLast Go.Proofs.YthiebcecflpbnaaDoorW.PrintMore
set_option linter.unusedVariables false
set_option linter.unusedSimpArgs false

structure Ent where
  term : Int
  cmd : Cmd
def entB (e : Ent) : List Int := numsB [e.term] ++ cmdB e.cmd
def entsB (es : List Ent) : List Int := es.flatMap entB
theorem cmdIn_of0 (c : Cmd) (h : cmdFault c = 0) : CmdIn c := by
  simp only [cmdFault] at h
  refine ⟨?_, ?_⟩
  · intro v hv
    simp only [List.mem_cons, List.not_mem_nil, or_false] at hv
    repeat' split at h
    all_goals first | (exfalso; omega) | (rcases hv with rfl | rfl | rfl <;> omega)
  · intro t ht
    simp only [List.mem_cons, List.not_mem_nil, or_false] at ht
    repeat' split at h
    all_goals first | (exfalso; omega) | (rcases ht with rfl | rfl | rfl <;> omega)
/-- The numbers and texts of an entry are such as the writer takes. -/
structure EntIn (e : Ent) : Prop where
  t : 0 ≤ e.term ∧ e.term ≤ 1073741824
  c : CmdIn e.cmd
theorem entB_len (e : Ent) (h : EntIn e) : (entB e).length ≤ 230 := by
  have h1 := numI_len e.term h.t.2
  have h2 := cmdB_len e.cmd h.c
  simp only [entB, numsB, List.flatMap_cons, List.flatMap_nil, List.append_nil, List.length_append]
  omega
theorem entsB_len (es : List Ent) (h : ∀ e ∈ es, EntIn e) : (entsB es).length ≤ 230 * es.length := by
  induction es with
  | nil => simp [entsB]
  | cons e es ih =>
    have h1 := ih (fun x hx => h x (List.mem_cons_of_mem _ hx))
    have h2 := entB_len e (h e List.mem_cons_self)
    simp only [entsB, List.flatMap_cons, List.length_append, List.length_cons] at h1 ⊢
    omega
theorem entB_byte (e : Ent) : ∀ x ∈ entB e, 0 ≤ x ∧ x < 256 := by
  intro x hx
  simp only [entB, numsB, List.mem_append, List.mem_flatMap] at hx
  rcases hx with ⟨v, _, hv⟩ | hx
  · exact numI_byte _ x hv
  · exact cmdB_byte _ x hx
theorem entsB_take (es : List Ent) (k : Nat) (h : k < es.length) : entsB (es.take (k + 1)) = entsB (es.take k) ++ entB es[k] := by
  unfold entsB
  rw [List.take_succ_eq_append_getElem h, List.flatMap_append, List.flatMap_cons, List.flatMap_nil, List.append_nil]
/-- The entries lie in memory, seven cells each. -/
def EntR (w : World) (A : Option Addr) (es : List Ent) : Prop := ∀ (j : Nat) (h : j < es.length), ∃ ad, A = some ad ∧ w.cell? (ad.add (j * 7)) = some (.int .i64 es[j].term) ∧
  w.cell? ⟨(ad.add (j * 7)).block, (ad.add (j * 7)).off + 1, none⟩ = some (.int .i64 es[j].cmd.client) ∧ w.cell? ⟨(ad.add (j * 7)).block, (ad.add (j * 7)).off + 2, none⟩ = some (.int .i64 es[j].cmd.seq) ∧ w.cell? ⟨(ad.add (j * 7)).block, (ad.add (j * 7)).off + 3, none⟩ = some (.int .i64 es[j].cmd.op) ∧
  w.cell? ⟨(ad.add (j * 7)).block, (ad.add (j * 7)).off + 4, none⟩ = some (.string es[j].cmd.key) ∧ w.cell? ⟨(ad.add (j * 7)).block, (ad.add (j * 7)).off + 5, none⟩ = some (.string es[j].cmd.val) ∧ w.cell? ⟨(ad.add (j * 7)).block, (ad.add (j * 7)).off + 6, none⟩ = some (.string es[j].cmd.old)
theorem EntR.below {w w1 : World} {A : Option Addr} {es : List Ent} (h : EntR w A es) (hb : Below w.heap.size w w1) : EntR w1 A es := by
  intro j hj
  obtain ⟨ad, e, c0, c1, c2, c3, c4, c5, c6⟩ := h j hj
  exact ⟨ad, e, (hb.cell (World.block_lt_of_cell? w _ c0)).trans c0, (hb.cell (World.block_lt_of_cell? w _ c1)).trans c1, (hb.cell (World.block_lt_of_cell? w _ c2)).trans c2, (hb.cell (World.block_lt_of_cell? w _ c3)).trans c3, (hb.cell (World.block_lt_of_cell? w _ c4)).trans c4, (hb.cell (World.block_lt_of_cell? w _ c5)).trans c5, (hb.cell (World.block_lt_of_cell? w _ c6)).trans c6⟩
set_option maxHeartbeats 2000000 in
set_option maxRecDepth 100000 in
theorem entry_calls (t c0 c1 c2 : Int) (c3 c4 c5 : ByteArray) (g b : Nat) (l : List Int) (w : World) (ht : 0 ≤ t ∧ t ≤ 1073741824) (hC : CmdIn ⟨c0, c1, c2, c3, c4, c5⟩) (hW : Wr w b g l) (hb : b ≤ w.heap.size) (hg : b ≤ g) (hl : l.length ≤ 700000) :
    Calls Tryd.prog 94 #[.pointer (some ⟨g, 0, none⟩), .agg #[.int .i64 t, .int .i64 c0, .int .i64 c1, .int .i64 c2, .string c3, .string c4, .string c5]] w fun e w' => e = .returned (.tuple #[]) ∧ Wr w' b g (l ++ entB ⟨t, ⟨c0, c1, c2, c3, c4, c5⟩⟩) ∧ Kp w w' b g := by
  have hu := Tryd.underlying76
  have hu2 := Tryd.underlying36
  have hgl : g < w.heap.size := by
    obtain ⟨v, h, _⟩ := hW
    exact blk_lt h
  have HW := Aside0.mk hW
  have HC := Aside0.mk hC
  clear hW hC
  have HB0 := Aside0.mk (blk_alloc (blk_new w (.cells #[.int .i64 t, .int .i64 c0, .int .i64 c1, .int .i64 c2, .string c3, .string c4, .string c5] 76)) (.cells #[.int .i64 t] 3))
  have HN0 := Aside0.mk (blk_new (w.alloc (.cells #[.int .i64 t, .int .i64 c0, .int .i64 c1, .int .i64 c2, .string c3, .string c4, .string c5] 76)) (.cells #[.int .i64 t] 3))
  have HW0 := Aside0.mk (wr_alloc (wr_alloc HW.out (.cells #[.int .i64 t, .int .i64 c0, .int .i64 c1, .int .i64 c2, .string c3, .string c4, .string c5] 76)) (.cells #[.int .i64 t] 3))
  have HK0 := Aside0.mk (Kp.alloc (Kp.alloc (Kp.refl w b g) hb (.cells #[.int .i64 t, .int .i64 c0, .int .i64 c1, .int .i64 c2, .string c3, .string c4, .string c5] 76)) (by simp; omega) (.cells #[.int .i64 t] 3))
  have hne : w.heap.size ≠ g := by omega
  have hn1 : (numsB [t]).length ≤ 5 := by have := numsB_len [t] (by simp; omega); simpa using this
  go_enter Tryd.func94, Tryd.ntmps94
  (repeat (any_goals (first | (go_at_call 86; refine (nums_calls [t] 1 g (w.heap.size + 1) b l _ HW0.out (by have := HN0.out; simpa using this) (by simp; omega) hg (by simp; omega) (by simp; omega)).mono ?_; rintro e w2 ⟨rfl, hw2, hk2⟩; have W2 := Aside0.mk hw2; have K2 := Aside0.mk (Kp.trans HK0.out hk2); have B2 := Aside0.mk (Kp.blk hk2 HB0.out (by decide) hne); clear hw2 hk2; have C2 := blk_cell B2.out; have hb2 : b ≤ w2.heap.size := Nat.le_trans hb K2.out.size; dsimp only) | (go_at_call 90; clear C2; refine (cmd_calls c0 c1 c2 c3 c4 c5 g b _ _ HC.out W2.out hb2 hg (by simp only [List.length_append]; omega)).mono ?_; rintro e w3 ⟨rfl, hw3, hk3⟩; have W3 := Aside0.mk hw3; have K3 := Aside0.mk (Kp.trans K2.out hk3); clear hw3 hk3; dsimp only) | go_values | go_skip | go_guarded | go_step | go_upon)))
  go_end0
  exact ⟨rfl, by have := W3.out; rwa [List.append_assoc] at this, K3.out⟩

structure Msg where
  kind : Int
  src : Int
  dst : Int
  term : Int
  idx : Int
  lterm : Int
  commit : Int
  ok : Int
  hint : Int
  es : List Ent
def msgNums (m : Msg) : List Int := [m.src, m.dst, m.term, m.idx, m.lterm, m.commit, m.ok, m.hint, (m.es.length : Int)]
def msgB (m : Msg) : List Int := numsB (msgNums m) ++ entsB m.es
structure MsgIn (m : Msg) : Prop where
  n : ∀ v ∈ msgNums m, 0 ≤ v ∧ v ≤ 1073741824
  e : ∀ e ∈ m.es, EntIn e
  l : m.es.length ≤ 32

set_option maxHeartbeats 4000000 in
set_option maxRecDepth 100000 in
theorem msgWrite_calls (a0 a1 a2 a3 a4 a5 a6 a7 a8 : Int) (A : Option Addr) (c : Nat) (es : List Ent) (p g b : Nat) (l : List Int) (w : World) (B : w.heap[p]? = some (.cells #[.int .i64 a0, .int .i64 a1, .int .i64 a2, .int .i64 a3, .int .i64 a4, .int .i64 a5, .int .i64 a6, .int .i64 a7, .int .i64 a8, .slice A es.length c] 80 (0, 0)))
    (hM : MsgIn ⟨a0, a1, a2, a3, a4, a5, a6, a7, a8, es⟩) (hE : ∀ W, Below b w W → EntR W A es) (hW : Wr w b g l) (hb : b ≤ w.heap.size) (hg : b ≤ g) (hl : l.length ≤ 100000) :
    Calls Tryd.prog 92 #[.pointer (some ⟨p, 0, none⟩), .pointer (some ⟨g, 0, none⟩)] w fun e w' => e = .returned (.tuple #[]) ∧ Wr w' b g (l ++ msgB ⟨a0, a1, a2, a3, a4, a5, a6, a7, a8, es⟩) ∧ Kp w w' b g := by
  have hpg : p ≠ g := by
    rintro rfl
    obtain ⟨v, h1, _⟩ := hW
    rw [h1] at B
    injection B with B
    injection B with _ B
    cases B
  have hu := Tryd.underlying76
  have C := blk_cell B
  have HB0 := Aside0.mk B
  have B1 := Aside0.mk (blk_alloc B (.cells #[.int .i64 a1, .int .i64 a2, .int .i64 a3, .int .i64 a4, .int .i64 a5, .int .i64 a6, .int .i64 a7, .int .i64 a8, .int .i64 (es.length : Int)] 3))
  have HW0 := Aside0.mk (wr_alloc (wr_drew hW) (.cells #[.int .i64 a1, .int .i64 a2, .int .i64 a3, .int .i64 a4, .int .i64 a5, .int .i64 a6, .int .i64 a7, .int .i64 a8, .int .i64 (es.length : Int)] 3))
  have HK0 := Aside0.mk (Kp.alloc (Kp.drew (w := w) (b := b) (g := g)) hb (.cells #[.int .i64 a1, .int .i64 a2, .int .i64 a3, .int .i64 a4, .int .i64 a5, .int .i64 a6, .int .i64 a7, .int .i64 a8, .int .i64 (es.length : Int)] 3))
  have HM := Aside0.mk hM
  have HE := Aside0.mk hE
  have hn1 : (numsB (msgNums ⟨a0, a1, a2, a3, a4, a5, a6, a7, a8, es⟩)).length ≤ 45 := by have := numsB_len _ (fun v hv => (hM.n v hv).2); simpa [msgNums] using this
  have hel : es.length ≤ 32 := hM.l
  clear B hW hM hE
  go_enter Tryd.func92, Tryd.ntmps92
  (repeat (any_goals (first | (fail) | go_values | go_skip | go_guarded | go_step | go_upon)))
  go_region_held3 (fun w' => w'.cell? ⟨p, 1, none⟩ = some (.int .i64 a1) ∧ w'.cell? ⟨p, 2, none⟩ = some (.int .i64 a2) ∧ w'.cell? ⟨p, 3, none⟩ = some (.int .i64 a3) ∧ w'.cell? ⟨p, 4, none⟩ = some (.int .i64 a4) ∧ w'.cell? ⟨p, 5, none⟩ = some (.int .i64 a5) ∧ w'.cell? ⟨p, 6, none⟩ = some (.int .i64 a6) ∧ w'.cell? ⟨p, 7, none⟩ = some (.int .i64 a7) ∧ w'.cell? ⟨p, 8, none⟩ = some (.int .i64 a8) ∧ w'.cell? ⟨p, 9, none⟩ = some (.slice A es.length c))
    (first | exact ⟨C 1, C 2, C 3, C 4, C 5, C 6, C 7, C 8, C 9⟩ | exact ⟨blk_cell B1.out 1, blk_cell B1.out 2, blk_cell B1.out 3, blk_cell B1.out 4, blk_cell B1.out 5, blk_cell B1.out 6, blk_cell B1.out 7, blk_cell B1.out 8, blk_cell B1.out 9⟩ | exact ⟨blk_cell B2.out 1, blk_cell B2.out 2, blk_cell B2.out 3, blk_cell B2.out 4, blk_cell B2.out 5, blk_cell B2.out 6, blk_cell B2.out 7, blk_cell B2.out 8, blk_cell B2.out 9⟩ | go_keep)
    ((go_at_call 86; refine (nums_calls (msgNums ⟨a0, a1, a2, a3, a4, a5, a6, a7, a8, es⟩) 9 g w.heap.size b l _ HW0.out (blk_new w.drew _) (by simp; omega) hg HM.out.n (by simp [msgNums]; omega)).mono ?_; rintro e w2 ⟨rfl, hw2, hk2⟩; have W2 := Aside0.mk hw2; have K2 := Aside0.mk (Kp.trans HK0.out hk2); have B2 := Aside0.mk (K2.out.blk HB0.out (by decide) hpg); clear hw2 hk2; dsimp only))
  clear C
  have C2 := blk_cell B2.out
  have hb2 : b ≤ w2.heap.size := Nat.le_trans hb K2.out.size
  (repeat (any_goals (first | (fail) | go_values | go_skip | go_guarded | go_step | go_upon)))
  clear C2
  go_loopw [5, 61] (fun v5 i wr => ∃ k : Nat, k ≤ es.length ∧ i = .int .i64 k ∧ Aside0 (Wr wr b g (l ++ numsB (msgNums ⟨a0, a1, a2, a3, a4, a5, a6, a7, a8, es⟩) ++ entsB (es.take k))) ∧ Aside0 (Kp w wr b g)) (fun _ i _ => es.length - (intOf i).toNat)
  case atStart => exact ⟨0, Nat.zero_le _, rfl, ⟨by simpa [entsB] using W2.out⟩, K2⟩
  case round =>
    obtain ⟨k, hk, rfl, HWk, HK⟩ := hrel
    by_cases hlt : k < es.length
    · obtain ⟨ad, hA, k0, k1, k2, k3, k4, k5, k6⟩ := HE.out wr HK.out.1 k hlt
      subst hA
      have HI := Aside0.mk (HM.out.e _ (List.getElem_mem hlt))
      have HT := Aside0.mk (entsB_take es k hlt)
      have hbr : b ≤ wr.heap.size := Nat.le_trans hb HK.out.size
      have hll : (l ++ numsB (msgNums ⟨a0, a1, a2, a3, a4, a5, a6, a7, a8, es⟩) ++ entsB (es.take k)).length ≤ 200000 := by
        have h3 := entsB_len (es.take k) (fun v hv => HM.out.e v (List.mem_of_mem_take hv))
        have h4 : (es.take k).length = k := by rw [List.length_take]; omega
        simp only [List.length_append] at h3 ⊢
        omega
      have HWk2 := Aside0.mk (wr_alloc HWk.out (.cells #[.int .i64 es[k].term, .int .i64 es[k].cmd.client, .int .i64 es[k].cmd.seq, .int .i64 es[k].cmd.op, .string es[k].cmd.key, .string es[k].cmd.val, .string es[k].cmd.old] 76))
      have HKk2 := Aside0.mk (HK.out.alloc hbr (.cells #[.int .i64 es[k].term, .int .i64 es[k].cmd.client, .int .i64 es[k].cmd.seq, .int .i64 es[k].cmd.op, .string es[k].cmd.key, .string es[k].cmd.val, .string es[k].cmd.old] 76))
      generalize es[k] = e at *
      obtain ⟨t, ⟨c0, c1, c2, c3, c4, c5⟩⟩ := e
      dsimp only at k0 k1 k2 k3 k4 k5 k6 HWk2 HKk2
      (repeat (any_goals (first | (go_at_call 94; refine (entry_calls t c0 c1 c2 c3 c4 c5 g b _ _ HI.out.t HI.out.c HWk2.out (by simp; omega) hg (by omega)).mono ?_; rintro e w3 ⟨rfl, hw3, hk3⟩; have W3 := Aside0.mk hw3; have K3 := Aside0.mk (Kp.trans HKk2.out hk3); clear hw3 hk3; dsimp only) | go_values | go_skip | go_guarded | go_step | go_upon)))
      go_roundw
      case rel => exact ⟨k + 1, by omega, by go_num, ⟨by rw [HT.out]; have := W3.out; rwa [List.append_assoc] at this⟩, K3⟩
      case measure => simp [intOf]; omega
    · go_wp2
      go_end0
      obtain rfl : k = es.length := by omega
      exact ⟨rfl, by have := HWk.out; rw [List.take_of_length_le (Nat.le_refl _), List.append_assoc] at this; exact this, HK.out⟩
end Go.Proofs.YthiebcecflpbnaaDoor.E
