/- The writer: what its methods append to the bytes that it holds. -/
import Derived.Test.YthiebcecflpbnaaDoorZE1
namespace Go.Proofs.YthiebcecflpbnaaDoor.E
open Go.RowKit Go.Proofs.YthiebcecflpbnaaDoorW.PrintWords Go.Proofs.YthiebcecflpbnaaDoorW.PrintLast Go.Proofs.YthiebcecflpbnaaDoorW.PrintMore
set_option linter.unusedVariables false
set_option linter.unusedSimpArgs false

theorem info5 : (Tryd.prog.info? 5).map (fun i => (i.zero, i.size, i.bytes)) = some (some (.int .u8 0), 1, 1) := by kernel_rfl

/-- The writer in block g holds the bytes l, in a row of the call's own (from block b on). -/
def Wr (w : World) (b g : Nat) (l : List Int) : Prop := ∃ v, w.heap[g]? = some (.cells #[v] 106 (0, 0)) ∧ (Kd.int .u8).R 5 w b (fun _ => True) v l
/-- Below block b nothing has changed, and no block has changed but rows of bytes and block g. -/
def Kp (w w' : World) (b g : Nat) : Prop := Below b w w' ∧ ∀ (k : Nat) (cells : Array Value) (t : TypeId), t ≠ 5 → k ≠ g → w.heap[k]? = some (.cells cells t (0, 0)) → w'.heap[k]? = some (.cells cells t (0, 0))
theorem Kp.refl (w : World) (b g : Nat) : Kp w w b g := ⟨Below.refl _ _, fun _ _ _ _ _ h => h⟩
theorem Kp.trans {w w1 w2 : World} {b g : Nat} (h : Kp w w1 b g) (k : Kp w1 w2 b g) : Kp w w2 b g := ⟨h.1.trans k.1, fun i c t ht hi hc => k.2 i c t ht hi (h.2 i c t ht hi hc)⟩
theorem Kp.below {w w1 w2 : World} {b g : Nat} (h : Kp w w1 b g) (hb : b ≤ w1.heap.size) (k : Below w1.heap.size w1 w2) : Kp w w2 b g :=
  ⟨below_then h.1 hb k, fun i c t ht hi hc => blk_below (h.2 i c t ht hi hc) k⟩
theorem Kp.alloc {w w1 : World} {b g : Nat} (h : Kp w w1 b g) (hb : b ≤ w1.heap.size) (o : Obj) : Kp w (w1.alloc o) b g := h.below hb (below_alloc (Below.refl _ _) o)
theorem Kp.size {w w1 : World} {b g : Nat} (h : Kp w w1 b g) : w.heap.size ≤ w1.heap.size := h.1.size
theorem Kp.blk {w w1 : World} {b g k : Nat} {cells : Array Value} {t : TypeId} (h : Kp w w1 b g) (hc : w.heap[k]? = some (.cells cells t (0, 0))) (ht : t ≠ 5) (hk : k ≠ g) : w1.heap[k]? = some (.cells cells t (0, 0)) := h.2 k cells t ht hk hc

theorem wr_alloc {w : World} {b g : Nat} {l : List Int} (h : Wr w b g l) (o : Obj) : Wr (w.alloc o) b g l := by
  obtain ⟨v, h1, h2⟩ := h
  exact ⟨v, blk_alloc h1 o, Kd.R_alloc h2 o⟩
theorem wr_below {w w1 : World} {b g : Nat} {l : List Int} (h : Wr w b g l) (hb : Below w.heap.size w w1) : Wr w1 b g l := by
  obtain ⟨v, h1, h2⟩ := h
  exact ⟨v, blk_below h1 hb, Kd.R_below h2 hb⟩
/-- What an append to the writer's row and the store of its value leave. -/
theorem wr_push {w w1 : World} {b g : Nat} {l l' : List Int} {v v1 : Value} (hb : b ≤ w.heap.size) (hg0 : b ≤ g) (h1 : w.heap[g]? = some (.cells #[v] 106 (0, 0))) (h2 : (Kd.int .u8).R 5 w b (fun _ => True) v l)
    (ho : (Kd.int .u8).R 5 w1 b (fun _ => True) v1 l') (hbel : Below b w w1) (hg : w.grownBy w1 v.ownBlock) :
    Wr (w1.setCell ⟨g, 0, none⟩ v1) b g l' ∧ Kp w (w1.setCell ⟨g, 0, none⟩ v1) b g := by
  have hne : some g ≠ v.ownBlock := Kd.R_ne h2 h1 (by decide)
  have h1' := blk_grown h1 hg hne
  refine ⟨⟨v1, ?_, Kd.R_set ho h1' (by simp [Kd.int, Kd.scalar]) 0 v1⟩, ?_, ?_⟩
  · have := blk_set h1' 0 v1
    simpa using this
  · exact hbel.setCell hg0 _
  · intro k cells t ht hk hc
    have hnk : some k ≠ v.ownBlock := by
      obtain ⟨inner, hown⟩ := Kd.R_own h2
      exact own_ne hown hc (Ne.symm ht)
    exact blk_far (blk_grown hc hg hnk) hk v1

def numN (v : Nat) : List Int := if v < 128 then [(v : Int)] else ((v % 128 + 128 : Nat) : Int) :: numN (v / 128)
termination_by v
decreasing_by omega
theorem numN_len : ∀ (n v : Nat), v < 128 ^ (n + 1) → (numN v).length ≤ n + 1 := by
  intro n
  induction n with
  | zero =>
    intro v h
    rw [numN, if_pos (by simpa using h)]
    simp
  | succ n ih =>
    intro v h
    rw [numN]
    split
    · simp
    · have := ih (v / 128) (by rw [Nat.pow_succ] at h; exact Nat.div_lt_of_lt_mul (by rw [Nat.mul_comm]; exact h))
      simp only [List.length_cons]
      omega
theorem numN_len5 (v : Nat) (h : v ≤ 1073741824) : (numN v).length ≤ 5 := numN_len 4 v (by omega)
theorem numN_byte : ∀ (n v : Nat), v ≤ n → ∀ x ∈ numN v, 0 ≤ x ∧ x < 256 := by
  intro n
  induction n with
  | zero =>
    intro v h x hx
    obtain rfl : v = 0 := by omega
    rw [numN, if_pos (by decide)] at hx
    simp at hx
    omega
  | succ n ih =>
    intro v h x hx
    rw [numN] at hx
    split at hx
    · simp at hx
      omega
    · rcases List.mem_cons.1 hx with rfl | hx
      · omega
      · exact ih (v / 128) (by omega) x hx
def numI (v : Int) : List Int := numN v.toNat
theorem numI_byte (v : Int) : ∀ x ∈ numI v, 0 ≤ x ∧ x < 256 := numN_byte _ _ (Nat.le_refl _)
theorem numI_len (v : Int) (h : v ≤ 1073741824) : (numI v).length ≤ 5 := numN_len5 _ (by omega)
def numsB (vs : List Int) : List Int := vs.flatMap numI
theorem numsB_take (vs : List Int) (k : Nat) (h : k < vs.length) : numsB (vs.take (k + 1)) = numsB (vs.take k) ++ numI vs[k] := by
  unfold numsB
  rw [List.take_succ_eq_append_getElem h, List.flatMap_append, List.flatMap_cons, List.flatMap_nil, List.append_nil]
theorem numsB_len (vs : List Int) (h : ∀ v ∈ vs, v ≤ 1073741824) : (numsB vs).length ≤ 5 * vs.length := by
  induction vs with
  | nil => simp [numsB]
  | cons v vs ih =>
    have h1 := ih (fun x hx => h x (List.mem_cons_of_mem _ hx))
    have h2 := numI_len v (h v List.mem_cons_self)
    simp only [numsB, List.flatMap_cons, List.length_append, List.length_cons] at h1 ⊢
    omega

theorem slice3 {v : Value} {n : Nat} (h : ∃ A c, v = .slice A n c) : ∃ A m c, v = .slice A m c := by
  obtain ⟨A, c, h⟩ := h
  exact ⟨A, n, c, h⟩
theorem or128 (y : Nat) : bits .or .u8 ((y : Int) % 256) 128 = ((y % 128 + 128 : Nat) : Int) := by
  have h := u8_or_nat (y % 256) 128 (by omega) (by decide)
  have e : ((y : Int) % 256) = ((y % 256 : Nat) : Int) := by omega
  rw [e]
  refine h.trans ?_
  congr 1
  have key : ∀ a : Fin 256, a.val ||| 128 = a.val % 128 + 128 := by decide +kernel
  have := key ⟨y % 256, by omega⟩
  simp only at this
  rw [this]
  omega

set_option maxHeartbeats 2000000 in
set_option maxRecDepth 100000 in
theorem nums_calls (vs : List Int) (c g kv b : Nat) (l : List Int) (w : World) (hW : Wr w b g l) (hv : w.heap[kv]? = some (.cells (vs.map (Value.int .i64)).toArray 3 (0, 0))) (hb : b ≤ w.heap.size) (hg : b ≤ g)
    (hvs : ∀ v ∈ vs, 0 ≤ v ∧ v ≤ 1073741824) (hl : l.length + 5 * vs.length ≤ 1000000) :
    Calls Tryd.prog 86 #[.pointer (some ⟨g, 0, none⟩), .slice (some ⟨kv, 0, none⟩) vs.length c] w fun e w' => e = .returned (.tuple #[]) ∧ Wr w' b g (l ++ numsB vs) ∧ Kp w w' b g := by
  have hkg : kv ≠ g := by
    rintro rfl
    obtain ⟨v, h1, _⟩ := hW
    rw [h1] at hv
    injection hv with hv
    injection hv with _ hv
    cases hv
  have HW := Aside0.mk hW
  have HV := Aside0.mk hv
  have HS := Aside0.mk hvs
  clear hW hv hvs
  go_enter Tryd.func86, Tryd.ntmps86
  go_wp2
  go_loopw [5, 8] (fun v i wr => ∃ k : Nat, k ≤ vs.length ∧ i = .int .i64 k ∧ Aside0 (Wr wr b g (l ++ numsB (vs.take k))) ∧ Aside0 (Kp w wr b g)) (fun _ i _ => vs.length - (intOf i).toNat)
  case atStart => exact ⟨0, Nat.zero_le _, rfl, ⟨by simpa [numsB] using HW.out⟩, ⟨Kp.refl _ _ _⟩⟩
  case round =>
    obtain ⟨k, hk, rfl, HWk, HK⟩ := hrel
    by_cases hlt : k < vs.length
    · have hcell : wr.cell? ⟨kv, k, none⟩ = some (.int .i64 vs[k]) := by
        have := blk_cell (HK.out.blk HV.out (by decide) hkg) k
        rw [this]
        simp [hlt]
      have hv0 := HS.out _ (List.getElem_mem hlt)
      have HT := Aside0.mk (numsB_take vs k hlt)
      have hbr : b ≤ wr.heap.size := Nat.le_trans hb HK.out.size
      obtain ⟨x, hx⟩ : ∃ x : Nat, vs[k] = (x : Int) := ⟨vs[k].toNat, by omega⟩
      rw [hx] at hcell hv0
      have HX := Aside0.mk hx
      clear hx
      have HN0 := Aside0.mk (numN_len5 x (by omega))
      obtain ⟨wo, rfl⟩ : ∃ wo : World, wo = wr := ⟨_, rfl⟩
      go_wp2
      go_loopw [5] (fun v5 wi => ∃ (y : Nat) (d : List Int), v5 = .int .i64 y ∧ y ≤ x ∧ Aside0 (d ++ numN y = numN x) ∧ Aside0 (Wr wi b g (l ++ numsB (vs.take k) ++ d)) ∧ Aside0 (Kp w wi b g)) (fun v5 _ => (intOf v5).toNat)
      case atStart => exact ⟨x, [], rfl, Nat.le_refl _, ⟨rfl⟩, ⟨by simpa using HWk.out⟩, HK⟩
      case round =>
        obtain ⟨y, d, rfl, hyx, HD, HWi, HKi⟩ := hrel
        have hll : (l ++ numsB (vs.take k) ++ d).length ≤ 1000000 := by
          have h1 := congrArg List.length HD.out
          have h2 := HN0.out
          have h3 := numsB_len (vs.take k) (fun v hv => (HS.out v (List.mem_of_mem_take hv)).2)
          have h4 : (vs.take k).length = k := by rw [List.length_take]; omega
          simp only [List.length_append] at h1 ⊢
          omega
        generalize hLL : l ++ numsB (vs.take k) ++ d = ll at HWi hll
        have HL := Aside0.mk hLL
        clear hLL
        obtain ⟨v, hv1, hv2⟩ := HWi.out
        obtain ⟨A0, c0, e0_⟩ := Kd.R_slice hv2
        subst e0_
        have hcg := blk_cell hv1 0
        have hfg := blk_frozen hv1 0
        have HB1 := Aside0.mk hv1
        have HR1 := Aside0.mk hv2
        have hbi : b ≤ wr.heap.size := Nat.le_trans hb HKi.out.size
        clear hv1 hv2
        by_cases hy : 127 < y
        · have e1 : bits .or .u8 ((y : Int) % 256) 128 = ((y % 128 + 128 : Nat) : Int) := or128 y
          have HE : Aside0 (numN y = ((y % 128 + 128 : Nat) : Int) :: numN (y / 128)) := ⟨by rw [numN, if_neg (by omega)]⟩
          generalize y % 128 + 128 = z at e1 HE
          go_wp2_with (first | ((with_reducible refine gate_builtin (b := .append) (xs := #[.tmp 20, .tmp 24]) rfl ?_); at_builtin; refine Kd.R_append (Kd.int .u8) (w0 := wr) b rfl (.tmp 20) (.tmp 24) 25 5 (.int .u8 0) 1 rfl Tryd.underlying25 info5 rfl (by decide) (by omega) _ ll ((z : Int)) [.int .u8 ((z : Int))] (fun _ => True) (fun _ => False) rfl rfl ?aP (fun _ hk => hk.elim) ?aF ?aO ?aB ?aS ?aL ?_; (case aP => exact rfl); (case aF => exact (fun _ _ => trivial)); (case aO => exact HR1.out); (case aB => exact Below.refl _ _); (case aS => exact hbi); (case aL => omega); intro v1 w1 ho hbel hgr; intro _; obtain ⟨A1, n1, c1, e1_⟩ := slice3 (Kd.R_slice ho); subst e1_; have HP := Aside0.mk (wr_push hbi hg HB1.out HR1.out ho hbel hgr); have hc1 := blk_cell (blk_grown HB1.out hgr (Kd.R_ne HR1.out HB1.out (by decide))) 0; have hf1 := blk_frozen (blk_grown HB1.out hgr (Kd.R_ne HR1.out HB1.out (by decide))) 0; clear ho hbel hgr))
          go_roundw
          case rel => exact ⟨y / 128, d ++ [(z : Int)], by go_num, by omega, ⟨by rw [← HD.out, HE.out]; simp⟩, ⟨by have := HP.out.1; rwa [← HL.out, List.append_assoc] at this⟩, ⟨HKi.out.trans HP.out.2⟩⟩
          case measure => simp [intOf]; omega
        · have HE : Aside0 (numN y = [(y : Int)]) := ⟨by rw [numN, if_pos (by omega)]⟩
          go_wp2_with (first | ((with_reducible refine gate_builtin (b := .append) (xs := #[.tmp 32, .tmp 35]) rfl ?_); at_builtin; refine Kd.R_append (Kd.int .u8) (w0 := wr) b rfl (.tmp 32) (.tmp 35) 25 5 (.int .u8 0) 1 rfl Tryd.underlying25 info5 rfl (by decide) (by omega) _ ll ((y : Int)) [.int .u8 ((y : Int))] (fun _ => True) (fun _ => False) rfl rfl ?aP (fun _ hk => hk.elim) ?aF ?aO ?aB ?aS ?aL ?_; (case aP => exact rfl); (case aF => exact (fun _ _ => trivial)); (case aO => exact HR1.out); (case aB => exact Below.refl _ _); (case aS => exact hbi); (case aL => omega); intro v1 w1 ho hbel hgr; intro _; obtain ⟨A1, n1, c1, e1_⟩ := slice3 (Kd.R_slice ho); subst e1_; have HP := Aside0.mk (wr_push hbi hg HB1.out HR1.out ho hbel hgr); have hc1 := blk_cell (blk_grown HB1.out hgr (Kd.R_ne HR1.out HB1.out (by decide))) 0; have hf1 := blk_frozen (blk_grown HB1.out hgr (Kd.R_ne HR1.out HB1.out (by decide))) 0; clear ho hbel hgr))
          go_roundw
          case rel => exact ⟨k + 1, by omega, by go_num, ⟨by rw [HT.out, HX.out, show numI (x : Int) = numN x from rfl, ← HD.out, HE.out]; have := HP.out.1; rw [← HL.out] at this; simpa only [List.append_assoc] using this⟩, ⟨HKi.out.trans HP.out.2⟩⟩
          case measure => simp [intOf]; omega
    · go_wp2
      go_end0
      obtain rfl : k = vs.length := by omega
      exact ⟨rfl, by simpa using HWk.out, HK.out⟩

def textI (s : ByteArray) : List Int := numI s.size ++ bytesOf s
def textsB (ts : List ByteArray) : List Int := ts.flatMap textI
theorem bytesOf_byte (s : ByteArray) : ∀ x ∈ bytesOf s, 0 ≤ x ∧ x < 256 := by
  intro x hx
  simp only [bytesOf, List.mem_map] at hx
  obtain ⟨b, _, rfl⟩ := hx
  have := b.toNat_lt
  omega
theorem textI_len (s : ByteArray) (h : s.size ≤ 64) : (textI s).length ≤ 70 := by
  have := numI_len (s.size : Int) (by omega)
  unfold textI
  rw [List.length_append, bytesOf_length]
  omega
theorem textsB_take (ts : List ByteArray) (k : Nat) (h : k < ts.length) : textsB (ts.take (k + 1)) = textsB (ts.take k) ++ textI ts[k] := by
  unfold textsB
  rw [List.take_succ_eq_append_getElem h, List.flatMap_append, List.flatMap_cons, List.flatMap_nil, List.append_nil]
theorem textsB_len (ts : List ByteArray) (h : ∀ t ∈ ts, t.size ≤ 64) : (textsB ts).length ≤ 70 * ts.length := by
  induction ts with
  | nil => simp [textsB]
  | cons v vs ih =>
    have h1 := ih (fun x hx => h x (List.mem_cons_of_mem _ hx))
    have h2 := textI_len v (h v List.mem_cons_self)
    simp only [textsB, List.flatMap_cons, List.length_append, List.length_cons] at h1 ⊢
    omega

set_option maxHeartbeats 2000000 in
set_option maxRecDepth 100000 in
theorem texts_calls (ts : List ByteArray) (c g kv b : Nat) (l : List Int) (w : World) (hW : Wr w b g l) (hv : w.heap[kv]? = some (.cells (ts.map Value.string).toArray 9 (0, 0))) (hb : b ≤ w.heap.size) (hg : b ≤ g)
    (hts : ∀ t ∈ ts, t.size ≤ 64) (hl : l.length + 70 * ts.length ≤ 900000) :
    Calls Tryd.prog 87 #[.pointer (some ⟨g, 0, none⟩), .slice (some ⟨kv, 0, none⟩) ts.length c] w fun e w' => e = .returned (.tuple #[]) ∧ Wr w' b g (l ++ textsB ts) ∧ Kp w w' b g := by
  have hkg : kv ≠ g := by
    rintro rfl
    obtain ⟨v, h1, _⟩ := hW
    rw [h1] at hv
    injection hv with hv
    injection hv with _ hv
    cases hv
  have HW := Aside0.mk hW
  have HV := Aside0.mk hv
  have HS := Aside0.mk hts
  clear hW hv hts
  go_enter Tryd.func87, Tryd.ntmps87
  go_wp2
  go_loopw [5, 8] (fun v i wr => ∃ k : Nat, k ≤ ts.length ∧ i = .int .i64 k ∧ Aside0 (Wr wr b g (l ++ textsB (ts.take k))) ∧ Aside0 (Kp w wr b g)) (fun _ i _ => ts.length - (intOf i).toNat)
  case atStart => exact ⟨0, Nat.zero_le _, rfl, ⟨by simpa [textsB] using HW.out⟩, ⟨Kp.refl _ _ _⟩⟩
  case round =>
    obtain ⟨k, hk, rfl, HWk, HK⟩ := hrel
    by_cases hlt : k < ts.length
    · have hcell : wr.cell? ⟨kv, k, none⟩ = some (.string ts[k]) := by
        have := blk_cell (HK.out.blk HV.out (by decide) hkg) k
        rw [this]
        simp [hlt]
      have hv0 := HS.out _ (List.getElem_mem hlt)
      have HT := Aside0.mk (textsB_take ts k hlt)
      have hbr : b ≤ wr.heap.size := Nat.le_trans hb HK.out.size
      have hll : (l ++ textsB (ts.take k)).length ≤ 900000 := by
        have h3 := textsB_len (ts.take k) (fun v hv => HS.out v (List.mem_of_mem_take hv))
        have h4 : (ts.take k).length = k := by rw [List.length_take]; omega
        simp only [List.length_append] at h3 ⊢
        omega
      generalize hLL : l ++ textsB (ts.take k) = ll at HWk hll
      have HL := Aside0.mk hLL
      clear hLL
      generalize hs : ts[k] = s at *
      have HX := Aside0.mk hs
      clear hs
      go_wp2_with (first | (go_at_call 86; refine (nums_calls [(s.size : Int)] 1 g wr.heap.size b ll _ (wr_alloc HWk.out _) (blk_new _ _) (by simp; omega) hg (by intro v hv; simp at hv; omega) (by simp; omega)).mono ?_; rintro e w2 ⟨rfl, hw2, hk2⟩; have H2 := Aside0.mk hw2; have K2 := Aside0.mk (Kp.trans (Kp.alloc (Kp.refl wr b g) hbr (.cells #[.int .i64 (s.size : Int)] 3)) hk2); clear hw2 hk2; have hb2 : b ≤ w2.heap.size := (Nat.le_trans hbr K2.out.size); have hll2 : (ll ++ numsB [(s.size : Int)]).length ≤ 900010 := (by have := numI_len (s.size : Int) (by omega); simp only [numsB, List.flatMap_cons, List.flatMap_nil, List.append_nil, List.length_append] at this ⊢; omega); generalize hl2 : ll ++ numsB [(s.size : Int)] = l2 at H2 hll2; have HL2 := Aside0.mk hl2; clear hl2; obtain ⟨v, hv1, hv2⟩ := H2.out; obtain ⟨A0, n0, c0, e0_⟩ := slice3 (Kd.R_slice hv2); subst e0_; have hcg := blk_cell hv1 0; have hfg := blk_frozen hv1 0; have HB1 := Aside0.mk hv1; have HR1 := Aside0.mk hv2; clear hv1 hv2) | ((with_reducible refine gate_builtin (b := .append) (xs := #[.tmp 21, .tmp 22]) rfl ?_); at_builtin; refine print_append_str (w0 := w2) b rfl (.tmp 21) (.tmp 22) 25 9 5 rfl Tryd.underlying25 Tryd.underlying9 info5 _ l2 s rfl rfl ?aO ?aB ?aS ?aL ?_; (case aO => exact Kd.own_of_R HR1.out); (case aB => exact Below.refl _ _); (case aS => exact hb2); (case aL => omega); intro v1 w1 hown hbel hgr; have ho := Kd.R_of_own (enc := Value.int .u8) (h1 := fun _ => rfl) (ok := fun _ => True) hown (fun _ _ => trivial); clear hown; obtain ⟨A1, n1, c1, e1_⟩ := slice3 (Kd.R_slice ho); subst e1_; have HP := Aside0.mk (wr_push hb2 hg HB1.out HR1.out ho hbel hgr); have hc1 := blk_cell (blk_grown HB1.out hgr (Kd.R_ne HR1.out HB1.out (by decide))) 0; have hf1 := blk_frozen (blk_grown HB1.out hgr (Kd.R_ne HR1.out HB1.out (by decide))) 0; clear ho hbel hgr))
      go_roundw
      case rel => exact ⟨k + 1, by omega, by go_num, ⟨by rw [HT.out, textI]; have := HP.out.1; rw [← HL2.out, ← HL.out] at this; simpa only [List.append_assoc, numsB, List.flatMap_cons, List.flatMap_nil, List.append_nil] using this⟩, ⟨(HK.out.trans K2.out).trans HP.out.2⟩⟩
      case measure => simp [intOf]; omega
    · go_wp2
      go_end0
      obtain rfl : k = ts.length := by omega
      exact ⟨rfl, by simpa using HWk.out, HK.out⟩
end Go.Proofs.YthiebcecflpbnaaDoor.E
