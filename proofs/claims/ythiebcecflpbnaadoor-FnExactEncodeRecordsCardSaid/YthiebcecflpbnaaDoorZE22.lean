/- What a record writes. -/
import Derived.Test.YthiebcecflpbnaaDoorZE21
namespace Go.Proofs.YthiebcecflpbnaaDoor.E
open Go.RowKit Go.Proofs.YthiebcecflpbnaaDoorW.PrintWords Go.Proofs.YthiebcecflpbnaaDoorW.PrintLast Go.Proofs.YthiebcecflpbnaaDoorW.PrintMore
set_option linter.unusedVariables false
set_option linter.unusedSimpArgs false

theorem recFault_impl (k a1 a2 a3 e0 c0 c1 c2 : Int) (c3 c4 c5 : ByteArray) (a : Addr) (w : World) (R : RecR w a ⟨k, a1, a2, a3, ⟨e0, ⟨c0, c1, c2, c3, c4, c5⟩⟩⟩) :
    Calls Tryd.prog 61 #[.pointer (some a)] w fun e w' => e = .returned (.int .i64 (recFault ⟨k, a1, a2, a3, ⟨e0, ⟨c0, c1, c2, c3, c4, c5⟩⟩⟩)) ∧ Below w.heap.size w w' := by
  by_cases h1 : k = 1
  · subst h1; exact rf1 _ _ _ _ _ _ _ _ _ _ a w R
  by_cases h2 : k = 2
  · subst h2; exact rf2 _ _ _ _ _ _ _ _ _ _ a w R
  by_cases h3 : k = 3
  · subst h3; exact rf3 _ _ _ _ _ _ _ _ _ _ a w R
  exact rf0 k _ _ _ _ _ _ _ _ _ _ a w h1 h2 h3 R
def recB (r : Rec) : List Int := if r.kind = 1 then numsB [r.term, r.vote] else if r.kind = 2 then numsB [r.idx] ++ entB r.ent else numsB [r.idx]
theorem recOk_of (r : Rec) (h : recFault r = 0) : RecOk r := by
  unfold recFault at h
  by_cases hp : RecOk r
  · exact hp
  · rw [if_neg hp] at h; cases h
theorem entIn_of (e : Ent) (h : EntOk e) : EntIn e := ⟨⟨by have := h.1; omega, h.2.1⟩, cmdIn_of0 _ h.2.2⟩

set_option maxHeartbeats 4000000 in
set_option maxRecDepth 100000 in
theorem rw1 (a1 a2 a3 : Int) (e : Ent) (a : Addr) (g b : Nat) (l : List Int) (w : World) (hE : ∀ W, Below b w W → RecR W a ⟨1, a1, a2, a3, e⟩) (h1 : 0 ≤ a1 ∧ a1 ≤ 1073741824) (h2 : 0 ≤ a2 ∧ a2 ≤ 1073741824) (hW : Wr w b g l) (hb : b ≤ w.heap.size) (hg : b ≤ g) (hl : l.length ≤ 100000) :
    Calls Tryd.prog 96 #[.pointer (some a), .pointer (some ⟨g, 0, none⟩)] w fun e' w' => e' = .returned (.tuple #[]) ∧ Wr w' b g (l ++ numsB [a1, a2]) ∧ Kp w w' b g := by
  have k0 := (hE w (Below.refl _ _)).c0
  dsimp only at k0
  have HW0 := Aside0.mk (wr_alloc (wr_drew hW) (.cells #[.int .i64 a1, .int .i64 a2] 3))
  have HK0 := Aside0.mk (Kp.alloc (Kp.drew (w := w) (b := b) (g := g)) hb (.cells #[.int .i64 a1, .int .i64 a2] 3))
  have HKd := Aside0.mk (Kp.drew (w := w) (b := b) (g := g))
  have HE := Aside0.mk hE
  have HN : Aside0 (∀ v ∈ [a1, a2], 0 ≤ v ∧ v ≤ 1073741824) := ⟨by intro v hv; simp at hv; rcases hv with rfl | rfl <;> assumption⟩
  clear hE hW h1 h2
  go_enter Tryd.func96, Tryd.ntmps96
  go_upto_region 2 with (fail)
  go_region_held3 (fun w' => w'.cell? ⟨a.block, a.off + 1, none⟩ = some (.int .i64 a1) ∧ w'.cell? ⟨a.block, a.off + 2, none⟩ = some (.int .i64 a2))
    (first | exact ⟨(HE.out _ (Below.refl _ _)).c1, (HE.out _ (Below.refl _ _)).c2⟩ | exact ⟨(HE.out _ HKd.out.1).c1, (HE.out _ HKd.out.1).c2⟩ | exact ⟨(HE.out _ HK0.out.1).c1, (HE.out _ HK0.out.1).c2⟩ | exact ⟨(HE.out _ K2.out.1).c1, (HE.out _ K2.out.1).c2⟩ | go_keep)
    ((go_at_call 86; refine (nums_calls [a1, a2] 2 g w.heap.size b l _ HW0.out (blk_new w.drew _) (by simp; omega) hg HN.out (by simp; omega)).mono ?_; rintro e w2 ⟨rfl, hw2, hk2⟩; have W2 := Aside0.mk hw2; have K2 := Aside0.mk (Kp.trans HK0.out hk2); clear hw2 hk2; dsimp only))
  (repeat (any_goals (first | (fail) | go_values | go_skip | go_guarded | go_step | go_upon)))
  go_end0
  exact ⟨rfl, W2.out, K2.out⟩
set_option maxHeartbeats 4000000 in
set_option maxRecDepth 100000 in
theorem rw3 (a1 a2 a3 : Int) (e : Ent) (a : Addr) (g b : Nat) (l : List Int) (w : World) (hE : ∀ W, Below b w W → RecR W a ⟨3, a1, a2, a3, e⟩) (h1 : 0 ≤ a3 ∧ a3 ≤ 1073741824) (hW : Wr w b g l) (hb : b ≤ w.heap.size) (hg : b ≤ g) (hl : l.length ≤ 100000) :
    Calls Tryd.prog 96 #[.pointer (some a), .pointer (some ⟨g, 0, none⟩)] w fun e' w' => e' = .returned (.tuple #[]) ∧ Wr w' b g (l ++ numsB [a3]) ∧ Kp w w' b g := by
  have k0 := (hE w (Below.refl _ _)).c0
  have k3 := (hE w (Below.refl _ _)).c3
  dsimp only at k0 k3
  have HW0 := Aside0.mk (wr_alloc hW (.cells #[.int .i64 a3] 3))
  have HK0 := Aside0.mk (Kp.alloc (Kp.refl w b g) hb (.cells #[.int .i64 a3] 3))
  clear hE hW
  go_enter Tryd.func96, Tryd.ntmps96
  (repeat (any_goals (first | (go_at_call 86; refine (nums_calls [a3] 1 g w.heap.size b l _ HW0.out (blk_new w _) (by simp; omega) hg (by simpa using h1) (by simp; omega)).mono ?_; rintro e w2 ⟨rfl, hw2, hk2⟩; have W2 := Aside0.mk hw2; have K2 := Aside0.mk (Kp.trans HK0.out hk2); clear hw2 hk2; dsimp only) | go_values | go_skip | go_guarded | go_step | go_upon)))
  go_end0
  exact ⟨rfl, W2.out, K2.out⟩
set_option maxHeartbeats 4000000 in
set_option maxRecDepth 100000 in
theorem rw2 (a1 a2 a3 e0 c0 c1 c2 : Int) (c3 c4 c5 : ByteArray) (a : Addr) (g b : Nat) (l : List Int) (w : World) (hE : ∀ W, Below b w W → RecR W a ⟨2, a1, a2, a3, ⟨e0, ⟨c0, c1, c2, c3, c4, c5⟩⟩⟩) (h1 : 0 ≤ a3 ∧ a3 ≤ 1073741824) (hI : EntIn ⟨e0, ⟨c0, c1, c2, c3, c4, c5⟩⟩) (hW : Wr w b g l) (hb : b ≤ w.heap.size) (hg : b ≤ g) (hl : l.length ≤ 100000) :
    Calls Tryd.prog 96 #[.pointer (some a), .pointer (some ⟨g, 0, none⟩)] w fun e' w' => e' = .returned (.tuple #[]) ∧ Wr w' b g (l ++ (numsB [a3] ++ entB ⟨e0, ⟨c0, c1, c2, c3, c4, c5⟩⟩)) ∧ Kp w w' b g := by
  have hu := Tryd.underlying76
  have k0 := (hE w (Below.refl _ _)).c0
  have k3 := (hE w (Below.refl _ _)).c3
  dsimp only at k0 k3
  have HW0 := Aside0.mk (wr_alloc hW (.cells #[.int .i64 a3] 3))
  have HK0 := Aside0.mk (Kp.alloc (Kp.refl w b g) hb (.cells #[.int .i64 a3] 3))
  have HI := Aside0.mk hI
  have HE := Aside0.mk hE
  have hn1 : (numsB [a3]).length ≤ 5 := by have := numsB_len [a3] (by simpa using h1.2); simpa using this
  clear hE hW hI
  go_enter Tryd.func96, Tryd.ntmps96
  (repeat (any_goals (first | (go_at_call 86; refine (nums_calls [a3] 1 g w.heap.size b l _ HW0.out (blk_new w _) (by simp; omega) hg (by simpa using h1) (by simp; omega)).mono ?_; rintro e w2 ⟨rfl, hw2, hk2⟩; have W2 := Aside0.mk hw2; have K2 := Aside0.mk (Kp.trans HK0.out hk2); clear hw2 hk2; obtain ⟨m0, m1, m2, m3, m4, m5, m6, m7, m8, m9, m10⟩ := HE.out _ K2.out.1; dsimp only at m0 m1 m2 m3 m4 m5 m6 m7 m8 m9 m10; clear k0 k3; have hb2 : b ≤ w2.heap.size := Nat.le_trans hb K2.out.size; dsimp only) | (go_at_call 94; clear m0 m1 m2 m3 m4 m5 m6 m7 m8 m9 m10; refine (entry_calls e0 c0 c1 c2 c3 c4 c5 g b _ _ HI.out.t HI.out.c W2.out hb2 hg (by simp only [List.length_append]; omega)).mono ?_; rintro e w3 ⟨rfl, hw3, hk3⟩; have W3 := Aside0.mk hw3; have K3 := Aside0.mk (Kp.trans K2.out hk3); clear hw3 hk3; dsimp only) | go_values | go_skip | go_guarded | go_step | go_upon)))
  go_end0
  exact ⟨rfl, by have := W3.out; rwa [List.append_assoc] at this, K3.out⟩
end Go.Proofs.YthiebcecflpbnaaDoor.E
