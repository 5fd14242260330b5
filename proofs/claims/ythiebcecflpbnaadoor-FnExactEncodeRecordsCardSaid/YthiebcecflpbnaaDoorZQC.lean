/- For all records the law of EncodeRecords answers true: in plain Lean (the second half). -/
import Derived.Test.YthiebcecflpbnaaDoorZQB
import Derived.Test.YthiebcecflpbnaaDoorZPFnExactEncodeRecordsx7
namespace Go.Proofs.YthiebcecflpbnaaDoor.PFnExactEncodeRecords
open Go.RowKit Go.Proofs.YthiebcecflpbnaaDoorW.PrintWords Go.Proofs.YthiebcecflpbnaaDoorW.PrintLast Go.Proofs.YthiebcecflpbnaaDoorW.PrintMore
set_option linter.unusedVariables false
set_option linter.unusedSimpArgs false
open E

theorem cmdBytes_eq (a0 a1 a2 : Int) (a3 a4 a5 : ByteArray) (k : Nat) (hk : 200 ≤ k) (hI : E.CmdIn ⟨a0, a1, a2, a3, a4, a5⟩) : spec_l1cmdBytes.f k a0 a1 a2 a3 a4 a5 = some (E.cmdB ⟨a0, a1, a2, a3, a4, a5⟩) := by
  have b0 := hI.n a0 (by simp)
  have b1 := hI.n a1 (by simp)
  have b2 := hI.n a2 (by simp)
  have b3 := hI.t a3 (by simp)
  have b4 := hI.t a4 (by simp)
  have b5 := hI.t a5 (by simp)
  have l0 := E.numI_len a0 b0.2
  have l1 := E.numI_len a1 b1.2
  have l2 := E.numI_len a2 b2.2
  have l3 := E.textI_len a3 b3
  have l4 := E.textI_len a4 b4
  have l5 := E.textI_len a5 b5
  unfold spec_l1cmdBytes.f
  rw [num_int a0 k b0.1 b0.2 (by omega), Option.bind_some,
    num_int a1 k b1.1 b1.2 (by omega), Option.bind_some, if_pos (by omega), Option.bind_some,
    num_int a2 k b2.1 b2.2 (by omega), Option.bind_some, if_pos (by simp; omega), Option.bind_some,
    text_eq a3 k b3 (by omega), Option.bind_some, if_pos (by simp; omega), Option.bind_some,
    text_eq a4 k b4 (by omega), Option.bind_some, if_pos (by simp; omega), Option.bind_some,
    text_eq a5 k b5 (by omega), Option.bind_some, if_pos (by simp; omega)]
  simp [E.cmdB, E.numsB, E.textsB]
theorem entryBytes_eq (s : S76) (k : Nat) (hk : 200 ≤ k) (hI : EntIn (ent s)) : spec_l1entryBytes.f k s.f0 s.f1.f0 s.f1.f1 s.f1.f2 s.f1.f3 s.f1.f4 s.f1.f5 = some (entB (ent s)) := by
  have h1 := num_int s.f0 k hI.t.1 hI.t.2 (by omega)
  have h2 := cmdBytes_eq s.f1.f0 s.f1.f1 s.f1.f2 s.f1.f3 s.f1.f4 s.f1.f5 k hk hI.c
  have l1 := E.numI_len s.f0 hI.t.2
  have l2 := E.cmdB_len _ hI.c
  unfold spec_l1entryBytes.f
  rw [h1, Option.bind_some, h2, Option.bind_some, if_pos (by have : (cmdB (ent s).cmd).length = (cmdB ⟨s.f1.f0, s.f1.f1, s.f1.f2, s.f1.f3, s.f1.f4, s.f1.f5⟩).length := rfl; omega)]
  simp [entB, ent, numsB]
theorem recordBytes_eq (s : S91) (k : Nat) (hk : 10000 ≤ k) (hok : RecOk (rc s)) : spec_l2recordBytes.f k s.f0 s.f1 s.f2 s.f3 s.f4.f0 s.f4.f1.f0 s.f4.f1.f1 s.f4.f1.f2 s.f4.f1.f3 s.f4.f1.f4 s.f4.f1.f5 = some (encRec (rc s)) := by
  have hkd := recKind _ hok
  have hf : recFault (rc s) = 0 := by unfold recFault; rw [if_pos hok]
  have hw : wrap64 (10 + s.f0) % 256 = 10 + s.f0 := by
    rw [w64 _ (by have : (rc s).kind = s.f0 := rfl; omega) (by have : (rc s).kind = s.f0 := rfl; omega)]
    have : (rc s).kind = s.f0 := rfl
    omega
  have hlen := recB_len _ hok
  have hby := recB_byte (rc s)
  have hfr : spec_l1frame.f k ((10 + s.f0) :: recB (rc s)) = some (frameB ((10 + s.f0) :: recB (rc s))) := frame_eq _ k (by simp; omega) (fun x hx => by
    rcases List.mem_cons.1 hx with rfl | hx
    · have : (rc s).kind = s.f0 := rfl
      omega
    · exact hby x hx) (by simp; omega)
  have he : encRec (rc s) = frameB ((10 + s.f0) :: recB (rc s)) := by unfold encRec; rw [if_pos hf]; rfl
  rw [he]
  unfold spec_l2recordBytes.f
  rw [hw, Option.bind_some]
  rcases hok with ⟨h, h1, _, h2⟩ | ⟨h, _, _, h3, h4, h5⟩ | ⟨h, _, _, _, h3, h4⟩
  · have h' : s.f0 = 1 := h
    have h2' : HardP s.f1 s.f2 := h2
    unfold HardP at h2'
    have l1 := E.numI_len s.f1 (by omega)
    have l2 := E.numI_len s.f2 (by omega)
    have hB : recB (rc s) = numI s.f1 ++ numI s.f2 := by unfold recB; rw [if_pos h]; simp [numsB, rc]
    rw [hB] at hfr ⊢
    rw [if_pos h', num_int _ k (by omega) (by omega) (by omega), Option.bind_some, if_pos (by simp; omega), Option.bind_some, num_int _ k (by omega) (by omega) (by omega), Option.bind_some, if_pos (by simp; omega), show ([10 + s.f0] ++ numI s.f1 ++ numI s.f2 : List Int) = (10 + s.f0) :: (numI s.f1 ++ numI s.f2) by simp, hfr, Option.bind_some]
  · have h' : s.f0 = 2 := h
    have h3' : 1 ≤ s.f3 := h3
    have h4' : s.f3 ≤ 4096 := h4
    have hI := entIn_of _ h5
    have l1 := E.numI_len s.f3 (by omega)
    have l2 := entB_len _ hI
    have hB : recB (rc s) = numI s.f3 ++ entB (ent s.f4) := by unfold recB; rw [if_neg (by omega), if_pos h]; simp [numsB, rc]
    rw [hB] at hfr ⊢
    have l2' : (entB (ent s.f4)).length ≤ 230 := l2
    rw [if_neg (by omega), num_int _ k (by omega) (by omega) (by omega), Option.bind_some, if_pos (by simp; omega), Option.bind_some, if_pos h', entryBytes_eq s.f4 k (by omega) hI, Option.bind_some, if_pos (by simp; omega), show ([10 + s.f0] ++ numI s.f3 ++ entB (ent s.f4) : List Int) = (10 + s.f0) :: (numI s.f3 ++ entB (ent s.f4)) by simp, hfr, Option.bind_some]
  · have h' : s.f0 = 3 := h
    have h3' : 0 ≤ s.f3 := h3
    have h4' : s.f3 ≤ 4096 := h4
    have l1 := E.numI_len s.f3 (by omega)
    have hB : recB (rc s) = numI s.f3 := by unfold recB; rw [if_neg (by omega), if_neg (by omega)]; simp [numsB, rc]
    rw [hB] at hfr ⊢
    rw [if_neg (by omega), num_int _ k (by omega) (by omega) (by omega), Option.bind_some, if_pos (by simp; omega), Option.bind_some, if_neg (by omega), show ([10 + s.f0] ++ numI s.f3 : List Int) = (10 + s.f0) :: numI s.f3 by simp, hfr, Option.bind_some]
theorem enc_loop (L : List S91) (hl : L.length ≤ 8192) (hok : ∀ r ∈ rcs L, recFault r = 0) : ∀ (d i k : Nat), L.length - i = d → i ≤ L.length → 20000 + d ≤ k →
    spec_EncodeRecords.l0 k L (recsB ((rcs L).take i)) (i : Int) = some (recsB (rcs L)) := by
  have hle : (rcs L).length = L.length := by simp [rcs]
  intro d
  induction d with
  | zero =>
    intro i k hd hi hk
    obtain ⟨k, rfl⟩ : ∃ m, k = m + 1 := ⟨k - 1, by omega⟩
    rw [spec_EncodeRecords.l0, if_neg (by omega), List.take_of_length_le (by omega)]
  | succ d ih =>
    intro i k hd hi hk
    obtain ⟨k, rfl⟩ : ∃ m, k = m + 1 := ⟨k - 1, by omega⟩
    have hlt : i < L.length := by omega
    have hlt2 : i < (rcs L).length := by omega
    have hge : (rcs L)[i] = rc L[i] := by simp [rcs]
    have hr := recOk_of _ (hok _ (List.getElem_mem hlt2))
    rw [hge] at hr
    have hbt := recsB_len ((rcs L).take i)
    have htl : ((rcs L).take i).length = i := by rw [List.length_take]; omega
    have hb1 := encRec_len (rc L[i])
    rw [spec_EncodeRecords.l0, if_pos (by omega), if_pos (by omega), rd91 L i hlt, recordBytes_eq L[i] k (by omega) hr, Option.bind_some, if_pos (by omega), w64 _ (by omega) (by omega)]
    have h2 := ih (i + 1) k (by omega) (by omega) (by omega)
    rw [recsB_take _ i hlt2, hge] at h2
    exact h2
theorem specRecs_eq (L : List S91) (hl : L.length ≤ 1048576) (k : Nat) (hk : 4000000 ≤ k) : spec_EncodeRecords.f k L = some (encRecs (rcs L)) := by
  have hle : (rcs L).length = L.length := by simp [rcs]
  unfold spec_EncodeRecords.f encRecs
  rw [Option.bind_some, recordsOk_eq L hl k (by omega), Option.bind_some]
  by_cases h : recsOk (rcs L) = true
  · rw [if_pos h, if_pos h]
    simp only [recsOk, Bool.and_eq_true, decide_eq_true_eq, List.all_eq_true, beq_iff_eq] at h
    have := enc_loop L (by omega) h.2 L.length 0 k (by omega) (by omega) (by omega)
    rw [List.take_zero] at this
    exact this
  · rw [if_neg h, if_neg h]
theorem encRecs_len (rs : List Rec) : (encRecs rs).length ≤ 2048000 := by
  unfold encRecs
  split
  · rename_i h
    simp only [recsOk, Bool.and_eq_true, decide_eq_true_eq] at h
    have := recsB_len rs
    omega
  · simp

theorem eqCmd_self (a0 a1 a2 : Int) (a3 a4 a5 : ByteArray) : laws_eqCmd.f a0 a1 a2 a3 a4 a5 a0 a1 a2 a3 a4 a5 = some true := by
  unfold laws_eqCmd.f
  simp only [if_true]
theorem eqEntry_self (a0 a1 a2 a3 : Int) (a4 a5 a6 : ByteArray) : laws_eqEntry.f a0 a1 a2 a3 a4 a5 a6 a0 a1 a2 a3 a4 a5 a6 = some true := by
  unfold laws_eqEntry.f
  rw [if_pos rfl, eqCmd_self, Option.bind_some, if_pos rfl]
theorem eqRecord_self (a0 a1 a2 a3 b0 b1 b2 b3 : Int) (b4 b5 b6 : ByteArray) : laws_eqRecord.f a0 a1 a2 a3 b0 b1 b2 b3 b4 b5 b6 a0 a1 a2 a3 b0 b1 b2 b3 b4 b5 b6 = some true := by
  unfold laws_eqRecord.f
  simp only [if_true, eqEntry_self, Option.bind_some]
theorem eqRecordS_loop (L : List S91) (hl : L.length ≤ 1048576) : ∀ (d i k : Nat), L.length - i = d → i ≤ L.length → d < k → laws_eqRecordS.l0 k L L (i : Int) = some true := by
  intro d
  induction d with
  | zero =>
    intro i k hd hi hk
    obtain ⟨k, rfl⟩ : ∃ m, k = m + 1 := ⟨k - 1, by omega⟩
    rw [laws_eqRecordS.l0, if_neg (by omega)]
  | succ d ih =>
    intro i k hd hi hk
    obtain ⟨k, rfl⟩ : ∃ m, k = m + 1 := ⟨k - 1, by omega⟩
    rw [laws_eqRecordS.l0, if_pos (by omega), if_pos (by omega), if_pos (by omega), eqRecord_self, Option.bind_some, if_pos rfl, w64 _ (by omega) (by omega)]
    exact ih (i + 1) k (by omega) (by omega) (by omega)
theorem eqRecs_self (L : List S91) (hl : L.length ≤ 1048576) (k : Nat) (hk : 1048576 < k) : laws_eqRecordS.f k L L = some true := by
  unfold laws_eqRecordS.f
  rw [if_pos rfl]
  exact eqRecordS_loop L hl L.length 0 k (by omega) (by omega) (by omega)
theorem markText_some (n : Int) (k : Nat) (hn : 0 ≤ n) (hn2 : n ≤ 100000000) (hk : 20 ≤ k) : ∃ t, laws_markText.f k n = some t := by
  have loop : ∀ (d : Nat) (n : Int) (s : ByteArray) (k : Nat), 0 ≤ n → n < 10 ^ d → d ≤ 18 → s.size + d ≤ 40 → d < k → ∃ t, laws_markText.l0 k n s = some t := by
    intro d
    induction d with
    | zero =>
      intro n s k h0 h1 hd hs hk
      obtain ⟨k, rfl⟩ : ∃ m, k = m + 1 := ⟨k - 1, by omega⟩
      rw [laws_markText.l0, if_neg (by omega), if_pos (by omega)]
      exact ⟨_, rfl⟩
    | succ d ih =>
      intro n s k h0 h1 hd hs hk
      obtain ⟨k, rfl⟩ : ∃ m, k = m + 1 := ⟨k - 1, by omega⟩
      rw [laws_markText.l0]
      by_cases hp : n > 0
      · have h9 : (10 : Int) ^ d ≤ 10 ^ 17 := by
          exact_mod_cast Nat.pow_le_pow_right (by decide) (by omega : d ≤ 17)
        have h10 : (10 : Int) ^ (d + 1) = 10 * 10 ^ d := by rw [Int.pow_succ, Int.mul_comm]
        have hw : wrap64 (Int.tdiv n 10) = n / 10 := by
          rw [Int.tdiv_eq_ediv_of_nonneg h0]
          unfold wrap64
          omega
        rw [if_pos hp, Option.bind_some, if_pos (by simp [strOfNums_size]; omega), hw]
        exact ih _ _ k (by omega) (by omega) (by omega) (by simp [strOfNums_size]; omega) (by omega)
      · rw [if_neg hp, if_pos (by omega)]
        exact ⟨_, rfl⟩
  unfold laws_markText.f
  by_cases h : n ≤ 0
  · rw [if_pos h]; exact ⟨_, rfl⟩
  · rw [if_neg h]
    exact loop 9 n _ k hn (by omega) (by omega) (by decide) (by omega)
theorem bind_any (c : Nat) {r : Int} (y : List S91) (f : List S91 → Option (Int × List S91)) (hy : y.length = c) (h : ∀ z : List S91, z.length = c → ∃ L', f z = some (r, L')) : ∃ L', (some y).bind f = some (r, L') := h y hy
theorem markRecord_loop (c : Nat) : ∀ (d i k : Nat) (L : List S91) (n : Int), L.length = c → c ≤ 1048576 → c - i = d → i ≤ c → d + 20 < k → n = 1 + 11 * (i : Int) → ∃ L', laws_markRecordS.l0 k L n (i : Int) = some (1 + 11 * (c : Int), L') := by
  intro d
  induction d with
  | zero =>
    intro i k L n hL hc hd hi hk hn
    obtain ⟨k, rfl⟩ : ∃ m, k = m + 1 := ⟨k - 1, by omega⟩
    rw [laws_markRecordS.l0, if_neg (by omega), hn, show i = c by omega]
    exact ⟨_, rfl⟩
  | succ d ih =>
    intro i k L n hL hc hd hi hk hn
    obtain ⟨k, rfl⟩ : ∃ m, k = m + 1 := ⟨k - 1, by omega⟩
    have w1 : wrap64 (n + 1) = n + 1 := w64 _ (by omega) (by omega)
    have w2 : wrap64 (n + 1 + 1) = n + 2 := by rw [w64 _ (by omega) (by omega)]; omega
    have w3 : wrap64 (n + 2 + 1) = n + 3 := by rw [w64 _ (by omega) (by omega)]; omega
    have w4 : wrap64 (n + 3 + 1) = n + 4 := by rw [w64 _ (by omega) (by omega)]; omega
    have w5 : wrap64 (n + 4 + 1) = n + 5 := by rw [w64 _ (by omega) (by omega)]; omega
    have w6 : wrap64 (n + 5 + 1) = n + 6 := by rw [w64 _ (by omega) (by omega)]; omega
    have w7 : wrap64 (n + 6 + 1) = n + 7 := by rw [w64 _ (by omega) (by omega)]; omega
    have w8 : wrap64 (n + 7 + 1) = n + 8 := by rw [w64 _ (by omega) (by omega)]; omega
    have w9 : wrap64 (n + 8 + 1) = n + 9 := by rw [w64 _ (by omega) (by omega)]; omega
    have w10 : wrap64 (n + 9 + 1) = n + 10 := by rw [w64 _ (by omega) (by omega)]; omega
    have w11 : wrap64 (n + 10 + 1) = n + 11 := by rw [w64 _ (by omega) (by omega)]; omega
    obtain ⟨t8, h8⟩ := markText_some (n + 8) k (by omega) (by omega) (by omega)
    obtain ⟨t9, h9⟩ := markText_some (n + 9) k (by omega) (by omega) (by omega)
    obtain ⟨t10, h10⟩ := markText_some (n + 10) k (by omega) (by omega) (by omega)
    rw [laws_markRecordS.l0, if_pos (by omega), if_pos (by omega)]
    simp only [w1, w2, w3, w4, w5, w6, w7, w8, w9, w10, w11, h8, h9, h10]
    refine bind_any c _ _ (by simp [hL]) (fun y1 e1 => ?_)
    refine bind_any c _ _ (by simp [e1]) (fun y2 e2 => ?_)
    refine bind_any c _ _ (by simp [e2]) (fun y3 e3 => ?_)
    refine bind_any c _ _ (by simp [e3]) (fun y4 e4 => ?_)
    refine bind_any c _ _ (by simp [e4]) (fun y5 e5 => ?_)
    refine bind_any c _ _ (by simp [e5]) (fun y6 e6 => ?_)
    refine bind_any c _ _ (by simp [e6]) (fun y7 e7 => ?_)
    refine bind_any c _ _ (by simp [e7]) (fun y8 e8 => ?_)
    rw [Option.bind_some]
    refine bind_any c _ _ (by simp [e8]) (fun y9 e9 => ?_)
    rw [Option.bind_some]
    refine bind_any c _ _ (by simp [e9]) (fun y10 e10 => ?_)
    rw [Option.bind_some]
    rw [w64 _ (by omega) (by omega)]
    exact ih (i + 1) k _ _ (by simp [e10]) hc (by omega) (by omega) (by omega) (by omega)
theorem markRecs_some (L : List S91) (hl : L.length ≤ 1048576) (k : Nat) (hk : 1048576 + 30 < k) : ∃ L', laws_markRecordS.f k L 1 = some (1 + 11 * (L.length : Int), L') := by
  obtain ⟨L', h⟩ := markRecord_loop L.length L.length 0 k L 1 rfl hl (by omega) (by omega) (by omega) (by omega)
  unfold laws_markRecordS.f
  rw [show (0 : Int) = ((0 : Nat) : Int) from rfl, h]
  exact ⟨_, rfl⟩
end Go.Proofs.YthiebcecflpbnaaDoor.PFnExactEncodeRecords
