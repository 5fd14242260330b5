/- What the bodies of a reply and of a call write. -/
import Derived.Test.YthiebcecflpbnaaDoorZE2
import Derived.Test.YthiebcecflpbnaaDoorZF
namespace Go.Proofs.YthiebcecflpbnaaDoor.E
open Go.RowKit Go.Proofs.YthiebcecflpbnaaDoorW.PrintWords Go.Proofs.YthiebcecflpbnaaDoorW.PrintLast Go.Proofs.YthiebcecflpbnaaDoorW.PrintMore
set_option linter.unusedVariables false
set_option linter.unusedSimpArgs false

def cmdB (c : Cmd) : List Int := numsB [c.client, c.seq, c.op] ++ textsB [c.key, c.val, c.old]
/-- The numbers and texts of a command are such as the writer takes. -/
structure CmdIn (c : Cmd) : Prop where
  n : ∀ v ∈ [c.client, c.seq, c.op], 0 ≤ v ∧ v ≤ 1073741824
  t : ∀ t ∈ [c.key, c.val, c.old], t.size ≤ 64
theorem cmdB_len (c : Cmd) (h : CmdIn c) : (cmdB c).length ≤ 225 := by
  have h1 := numsB_len _ (fun v hv => (h.n v hv).2)
  have h2 := textsB_len _ h.t
  simp only [cmdB, List.length_append, List.length_cons, List.length_nil] at *
  omega
theorem cmdIn_of (c : Cmd) (h : cmdFault c = 0) (h0 : c.op ≠ 0) : CmdIn c := by
  simp only [cmdFault] at h
  refine ⟨?_, ?_⟩
  · intro v hv
    simp only [List.mem_cons, List.not_mem_nil, or_false] at hv
    repeat' split at h
    all_goals first | (exfalso; omega) | (rcases hv with rfl | rfl | rfl <;> omega)
  · intro t ht
    simp only [List.mem_cons, List.not_mem_nil, or_false] at ht
    repeat' split at h
    all_goals first | (exfalso; omega) | (rcases ht with rfl | rfl | rfl <;> omega)

set_option maxHeartbeats 2000000 in
set_option maxRecDepth 100000 in
theorem cmd_calls (c0 c1 c2 : Int) (c3 c4 c5 : ByteArray) (g b : Nat) (l : List Int) (w : World) (hC : CmdIn ⟨c0, c1, c2, c3, c4, c5⟩) (hW : Wr w b g l) (hb : b ≤ w.heap.size) (hg : b ≤ g) (hl : l.length ≤ 800000) :
    Calls Tryd.prog 90 #[.pointer (some ⟨g, 0, none⟩), .agg #[.int .i64 c0, .int .i64 c1, .int .i64 c2, .string c3, .string c4, .string c5]] w fun e w' => e = .returned (.tuple #[]) ∧ Wr w' b g (l ++ cmdB ⟨c0, c1, c2, c3, c4, c5⟩) ∧ Kp w w' b g := by
  have hu := Tryd.underlying36
  have hgl : g < w.heap.size := by
    obtain ⟨v, h, _⟩ := hW
    exact blk_lt h
  have HW := Aside0.mk hW
  have HC := Aside0.mk hC
  clear hW hC
  have B0 := blk_alloc (blk_new w (.cells #[.int .i64 c0, .int .i64 c1, .int .i64 c2, .string c3, .string c4, .string c5] 36)) (.cells #[.int .i64 c0, .int .i64 c1, .int .i64 c2] 3)
  have N0 := blk_new (w.alloc (.cells #[.int .i64 c0, .int .i64 c1, .int .i64 c2, .string c3, .string c4, .string c5] 36)) (.cells #[.int .i64 c0, .int .i64 c1, .int .i64 c2] 3)
  have W0 := wr_alloc (wr_alloc HW.out (.cells #[.int .i64 c0, .int .i64 c1, .int .i64 c2, .string c3, .string c4, .string c5] 36)) (.cells #[.int .i64 c0, .int .i64 c1, .int .i64 c2] 3)
  have K0 := Kp.alloc (Kp.alloc (Kp.refl w b g) hb (.cells #[.int .i64 c0, .int .i64 c1, .int .i64 c2, .string c3, .string c4, .string c5] 36)) (by simp; omega) (.cells #[.int .i64 c0, .int .i64 c1, .int .i64 c2] 3)
  have HB0 := Aside0.mk B0
  have HN0 := Aside0.mk N0
  have HW0 := Aside0.mk W0
  have HK0 := Aside0.mk K0
  have hne : w.heap.size ≠ g := by omega
  clear B0 N0 W0 K0
  have hcl := Aside0.mk (cmdB_len _ HC.out)
  have hn3 : (numsB [c0, c1, c2]).length ≤ 15 := by have := numsB_len [c0, c1, c2] (fun v hv => (HC.out.n v hv).2); simpa using this
  go_enter Tryd.func90, Tryd.ntmps90
  (repeat (any_goals (first | (go_at_call 86; refine (nums_calls [c0, c1, c2] 3 g (w.heap.size + 1) b l _ HW0.out (by have := HN0.out; simpa using this) (by simp; omega) hg HC.out.n (by simp; omega)).mono ?_; rintro e w2 ⟨rfl, hw2, hk2⟩; have W2 := Aside0.mk hw2; have K2 := Aside0.mk (Kp.trans HK0.out hk2); have B2 := Aside0.mk (Kp.blk hk2 HB0.out (by decide) hne); clear hw2 hk2; have C2 := blk_cell B2.out; have hb2 : b ≤ w2.heap.size := Nat.le_trans hb K2.out.size; dsimp only) | (go_at_call 87; clear C2; refine (texts_calls [c3, c4, c5] 3 g w2.heap.size b _ _ (wr_alloc W2.out _) (blk_new _ _) (by simp; omega) hg HC.out.t (by simp only [List.length_append, List.length_cons, List.length_nil]; omega)).mono ?_; rintro e w3 ⟨rfl, hw3, hk3⟩; have W3 := Aside0.mk hw3; have K3 := Aside0.mk (Kp.trans (Kp.alloc K2.out hb2 _) hk3); clear hw3 hk3; dsimp only) | go_values | go_skip | go_guarded | go_step | go_upon)))
  go_end0
  exact ⟨rfl, by have := W3.out; rwa [List.append_assoc] at this, K3.out⟩

theorem wr_drew {w : World} {b g : Nat} {l : List Int} (h : Wr w b g l) : Wr w.drew b g l := by
  obtain ⟨v, h1, h2⟩ := h
  exact ⟨v, h1, Kd.R_drew h2⟩
theorem Kp.drew {w : World} {b g : Nat} : Kp w w.drew b g := ⟨(Below.refl _ _).drew, fun _ _ _ _ _ h => h⟩
def replyB (r : Reply) : List Int := numsB [r.client, r.seq, r.status, r.code] ++ textsB [r.val] ++ numsB [r.leader]
structure ReplyIn (r : Reply) : Prop where
  n : ∀ v ∈ [r.client, r.seq, r.status, r.code], 0 ≤ v ∧ v ≤ 1073741824
  t : ∀ t ∈ [r.val], t.size ≤ 64
  m : ∀ v ∈ [r.leader], 0 ≤ v ∧ v ≤ 1073741824
theorem replyIn_of (r : Reply) (h : replyFault r = 0) : ReplyIn r := by
  simp only [replyFault] at h
  refine ⟨?_, ?_, ?_⟩
  · intro v hv
    simp only [List.mem_cons, List.not_mem_nil, or_false] at hv
    repeat' split at h
    all_goals first | (exfalso; omega) | (rcases hv with rfl | rfl | rfl | rfl <;> omega)
  · intro t ht
    simp only [List.mem_cons, List.not_mem_nil, or_false] at ht
    repeat' split at h
    all_goals first | (exfalso; omega) | (subst ht; omega)
  · intro v hv
    simp only [List.mem_cons, List.not_mem_nil, or_false] at hv
    repeat' split at h
    all_goals first | (exfalso; omega) | (subst hv; omega)

set_option maxHeartbeats 2000000 in
set_option maxRecDepth 100000 in
theorem replyWrite_calls (a0 a1 a2 a3 : Int) (a4 : ByteArray) (a5 : Int) (p g b : Nat) (l : List Int) (w : World) (B : w.heap[p]? = some (.cells #[.int .i64 a0, .int .i64 a1, .int .i64 a2, .int .i64 a3, .string a4, .int .i64 a5] 66 (0, 0))) (hR : ReplyIn ⟨a0, a1, a2, a3, a4, a5⟩) (hW : Wr w b g l) (hb : b ≤ w.heap.size) (hg : b ≤ g) (hl : l.length ≤ 800000) :
    Calls Tryd.prog 85 #[.pointer (some ⟨p, 0, none⟩), .pointer (some ⟨g, 0, none⟩)] w fun e w' => e = .returned (.tuple #[]) ∧ Wr w' b g (l ++ replyB ⟨a0, a1, a2, a3, a4, a5⟩) ∧ Kp w w' b g := by
  have hpg : p ≠ g := by
    rintro rfl
    obtain ⟨v, h1, _⟩ := hW
    rw [h1] at B
    injection B with B
    injection B with _ B
    cases B
  have C := blk_cell B
  have HB0 := Aside0.mk B
  have B1 := Aside0.mk (blk_alloc B (.cells #[.int .i64 a0, .int .i64 a1, .int .i64 a2, .int .i64 a3] 3))
  have HW0 := Aside0.mk (wr_alloc (wr_drew hW) (.cells #[.int .i64 a0, .int .i64 a1, .int .i64 a2, .int .i64 a3] 3))
  have HK0 := Aside0.mk (Kp.alloc (Kp.drew (w := w) (b := b) (g := g)) hb (.cells #[.int .i64 a0, .int .i64 a1, .int .i64 a2, .int .i64 a3] 3))
  have HR := Aside0.mk hR
  have hn1 : (numsB [a0, a1, a2, a3]).length ≤ 20 := by have := numsB_len _ (fun v hv => (hR.n v hv).2); simpa using this
  have hn2 : (textsB [a4]).length ≤ 70 := by have := textsB_len _ hR.t; simpa using this
  clear B hW hR
  go_enter Tryd.func85, Tryd.ntmps85
  (repeat (any_goals (first | (fail) | go_values | go_skip | go_guarded | go_step | go_upon)))
  go_region_held3 (fun w' => w'.cell? ⟨p, 0, none⟩ = some (.int .i64 a0) ∧ w'.cell? ⟨p, 1, none⟩ = some (.int .i64 a1) ∧ w'.cell? ⟨p, 2, none⟩ = some (.int .i64 a2) ∧ w'.cell? ⟨p, 3, none⟩ = some (.int .i64 a3))
    (first | exact ⟨C 0, C 1, C 2, C 3⟩ | exact ⟨blk_cell B1.out 0, blk_cell B1.out 1, blk_cell B1.out 2, blk_cell B1.out 3⟩ | exact ⟨blk_cell B2.out 0, blk_cell B2.out 1, blk_cell B2.out 2, blk_cell B2.out 3⟩ | go_keep)
    ((go_at_call 86; refine (nums_calls [a0, a1, a2, a3] 4 g w.heap.size b l _ HW0.out (blk_new w.drew _) (by simp; omega) hg HR.out.n (by simp; omega)).mono ?_; rintro e w2 ⟨rfl, hw2, hk2⟩; have W2 := Aside0.mk hw2; have K2 := Aside0.mk (Kp.trans HK0.out hk2); have B2 := Aside0.mk (K2.out.blk HB0.out (by decide) hpg); clear hw2 hk2; dsimp only))
  clear C
  have C2 := blk_cell B2.out
  have hb2 : b ≤ w2.heap.size := Nat.le_trans hb K2.out.size
  (repeat (any_goals (first | (go_at_call 87; clear C2; refine (texts_calls [a4] 1 g w2.heap.size b _ _ (wr_alloc W2.out _) (blk_new _ _) (by simp; omega) hg HR.out.t (by simp only [List.length_append, List.length_cons, List.length_nil]; omega)).mono ?_; rintro e w3 ⟨rfl, hw3, hk3⟩; have W3 := Aside0.mk hw3; have K3 := Aside0.mk (Kp.trans (Kp.alloc K2.out hb2 _) hk3); clear hw3 hk3; have B3 := Aside0.mk (K3.out.blk HB0.out (by decide) hpg); have C3 := blk_cell B3.out; have hb3 : b ≤ w3.heap.size := Nat.le_trans hb K3.out.size; dsimp only) | (go_at_call 86; clear C3; refine (nums_calls [a5] 1 g w3.heap.size b _ _ (wr_alloc W3.out _) (blk_new _ _) (by simp; omega) hg HR.out.m (by simp only [List.length_append, List.length_cons, List.length_nil]; omega)).mono ?_; rintro e w4 ⟨rfl, hw4, hk4⟩; have W4 := Aside0.mk hw4; have K4 := Aside0.mk (Kp.trans (Kp.alloc K3.out hb3 _) hk4); clear hw4 hk4; dsimp only) | go_values | go_skip | go_guarded | go_step | go_upon)))
  go_end0
  exact ⟨rfl, by have := W4.out; unfold replyB; rwa [List.append_assoc, List.append_assoc, ← List.append_assoc (numsB _)] at this, K4.out⟩
end Go.Proofs.YthiebcecflpbnaaDoor.E
