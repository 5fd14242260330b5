/- For all records the law of EncodeRecords answers true: in plain Lean. -/
import Derived.Test.YthiebcecflpbnaaDoorZQA
import Derived.Test.YthiebcecflpbnaaDoorZPFnExactEncodeRecordsx6
namespace Go.Proofs.YthiebcecflpbnaaDoor.PFnExactEncodeRecords
open Go.RowKit Go.Proofs.YthiebcecflpbnaaDoorW.PrintWords Go.Proofs.YthiebcecflpbnaaDoorW.PrintLast Go.Proofs.YthiebcecflpbnaaDoorW.PrintMore
set_option linter.unusedVariables false
set_option linter.unusedSimpArgs false
open E

theorem szCmd_some (a0 a1 a2 : Int) (a3 a4 a5 : ByteArray) (n : Int) : ∃ t, laws_szCmd.f a0 a1 a2 a3 a4 a5 n = some t := by
  unfold laws_szCmd.f
  repeat' split
  all_goals exact ⟨_, rfl⟩
theorem szEntry_some (a0 a1 a2 a3 : Int) (a4 a5 a6 : ByteArray) (n : Int) : ∃ t, laws_szEntry.f a0 a1 a2 a3 a4 a5 a6 n = some t := by
  obtain ⟨t, ht⟩ := szCmd_some a1 a2 a3 a4 a5 a6 n
  unfold laws_szEntry.f
  rw [ht, Option.bind_some]
  split
  all_goals exact ⟨_, rfl⟩
theorem szRecord_some (b0 b1 b2 b3 a0 a1 a2 a3 : Int) (a4 a5 a6 : ByteArray) (n : Int) : ∃ t, laws_szRecord.f b0 b1 b2 b3 a0 a1 a2 a3 a4 a5 a6 n = some t := by
  obtain ⟨t, ht⟩ := szEntry_some a0 a1 a2 a3 a4 a5 a6 n
  unfold laws_szRecord.f
  rw [ht, Option.bind_some]
  split
  all_goals exact ⟨_, rfl⟩
theorem sz_loop (l : List S87) (hl : l.length ≤ 1048576) : ∀ (d i k : Nat) (n : Int), l.length - i = d → i ≤ l.length → d < k → ∃ t, laws_szRecordS.l0 k l n (i : Int) = some t := by
  intro d
  induction d with
  | zero =>
    intro i k n hd hi hk
    obtain ⟨k, rfl⟩ : ∃ m, k = m + 1 := ⟨k - 1, by omega⟩
    rw [laws_szRecordS.l0, if_neg (by omega)]
    exact ⟨_, rfl⟩
  | succ d ih =>
    intro i k n hd hi hk
    obtain ⟨k, rfl⟩ : ∃ m, k = m + 1 := ⟨k - 1, by omega⟩
    rw [laws_szRecordS.l0, if_pos (by omega), if_pos (by omega)]
    obtain ⟨t, ht⟩ := szRecord_some (rd_T87 l i).f0 (rd_T87 l i).f1 (rd_T87 l i).f2 (rd_T87 l i).f3 (rd_T87 l i).f4.f0 (rd_T87 l i).f4.f1.f0 (rd_T87 l i).f4.f1.f1 (rd_T87 l i).f4.f1.f2 (rd_T87 l i).f4.f1.f3 (rd_T87 l i).f4.f1.f4 (rd_T87 l i).f4.f1.f5 n
    rw [ht, Option.bind_some]
    split
    · exact ⟨_, rfl⟩
    · rw [w64 _ (by omega) (by omega)]
      exact ih (i + 1) k t (by omega) (by omega) (by omega)
theorem sz_ok (l : List S87) (hl : l.length ≤ 9223372036854775807) (k : Nat) (hk : 1048576 < k) :
    ∃ t, laws_szRecordS.f k l 1048576 = some t ∧ (0 ≤ t → l.length ≤ 1048576) := by
  unfold laws_szRecordS.f
  by_cases h : wrap64 (1048576 - (l.length : Int)) < 0
  · rw [if_pos h]
    exact ⟨_, rfl, fun h => by omega⟩
  · have hn : l.length ≤ 1048576 := by unfold wrap64 at h; omega
    rw [if_neg h]
    obtain ⟨t, ht⟩ := sz_loop l hn l.length 0 k (wrap64 (1048576 - (l.length : Int))) (by omega) (by omega) (by omega)
    exact ⟨t, ht, fun _ => hn⟩

def cp (s : S85) : S76 := ⟨s.f0, ⟨s.f1.f0, s.f1.f1, s.f1.f2, s.f1.f3, s.f1.f4, s.f1.f5⟩⟩
def cr (s : S87) : S91 := ⟨s.f0, s.f1, s.f2, s.f3, cp s.f4⟩
theorem rd87 (l : List S87) (i : Nat) (h : i < l.length) : rd_T87 l (i : Int) = l[i] := by simp [rd_T87, h]
theorem rd91 (l : List S91) (i : Nat) (h : i < l.length) : rd_T91 l (i : Int) = l[i] := by simp [rd_T91, h]
theorem copy_loop (l : List S87) (hl : l.length ≤ 1048576) : ∀ (d i k : Nat), l.length - i = d → i ≤ l.length → d < k →
    laws_toRecordS.l0 k l ((l.take i).map cr ++ List.replicate (l.length - i) z91) (i : Int) = some (l.map cr) := by
  intro d
  induction d with
  | zero =>
    intro i k hd hi hk
    obtain ⟨k, rfl⟩ : ∃ m, k = m + 1 := ⟨k - 1, by omega⟩
    rw [laws_toRecordS.l0, if_neg (by omega), List.take_of_length_le (by omega), hd]
    simp
  | succ d ih =>
    intro i k hd hi hk
    obtain ⟨k, rfl⟩ : ∃ m, k = m + 1 := ⟨k - 1, by omega⟩
    have hlt : i < l.length := by omega
    rw [laws_toRecordS.l0, if_pos (by omega), if_pos (by omega), rd87 l i hlt]
    simp only [laws_toRecord.f, Option.bind_some]
    rw [if_pos (by simp; omega), w64 _ (by omega) (by omega), Int.toNat_natCast]
    have e : ((l.take i).map cr ++ List.replicate (l.length - i) z91).set i (⟨l[i].f0, l[i].f1, l[i].f2, l[i].f3, ⟨l[i].f4.f0, ⟨l[i].f4.f1.f0, l[i].f4.f1.f1, l[i].f4.f1.f2, l[i].f4.f1.f3, l[i].f4.f1.f4, l[i].f4.f1.f5⟩⟩⟩ : S91) = (l.take (i + 1)).map cr ++ List.replicate (l.length - (i + 1)) z91 := by
      rw [List.set_append_right _ _ (by simp; omega), List.take_succ_eq_append_getElem hlt, List.map_append, List.append_assoc]
      congr 1
      rw [show l.length - i = (l.length - (i + 1)) + 1 by omega, List.replicate_succ, show i - ((l.take i).map cr).length = 0 by simp; omega]
      rfl
    rw [e]
    exact ih (i + 1) k (by omega) (by omega) (by omega)
theorem copy_eq (l : List S87) (hl : l.length ≤ 1048576) (k : Nat) (hk : 1048576 < k) : laws_toRecordS.f k l = some (l.map cr) := by
  have := copy_loop l hl l.length 0 k (by omega) (by omega) (by omega)
  unfold laws_toRecordS.f
  rw [if_pos (by omega), if_pos (by omega), Int.toNat_natCast]
  simpa using this
theorem entryOk_eq (s : S76) (k : Nat) : spec_l1entryOk.f k s.f0 s.f1.f0 s.f1.f1 s.f1.f2 s.f1.f3 s.f1.f4 s.f1.f5 = some (decide (EntOk (ent s))) := by
  unfold spec_l1entryOk.f spec_CmdFault.f EntOk ent
  dsimp only
  by_cases h1 : s.f0 ≥ 1
  · by_cases h2 : s.f0 ≤ 1073741824
    · rw [if_pos h1, if_pos h2, Option.bind_some]
      congr 1
      rw [Bool.eq_iff_iff]
      exact ⟨fun h => decide_eq_true ⟨h1, h2, by simpa using h⟩, fun h => by simpa using (of_decide_eq_true h).2.2⟩
    · rw [if_pos h1, if_neg h2]
      congr 1
      symm
      exact decide_eq_false (fun h => h2 h.2.1)
  · rw [if_neg h1]
    congr 1
    symm
    exact decide_eq_false (fun h => h1 h.1)
theorem blank_iff (a5 a6 a7 : Int) (a8 a9 a10 : ByteArray) (a4 : Int) (h : a4 = 0) : (a5 == 0 && (a6 == 0 && (a7 == 0 && (a8.toList == ([] : List UInt8) && (a9.toList == ([] : List UInt8) && (a10.toList == ([] : List UInt8)))))) ) = decide (blankE ⟨a4, ⟨a5, a6, a7, a8, a9, a10⟩⟩) := by
  rw [Bool.eq_iff_iff]
  simp [blankE, h, toList_nil]
theorem in_eq (a b c : Int) : spec_l1in.f a b c = some (decide (b ≤ a ∧ a ≤ c)) := by
  unfold spec_l1in.f
  by_cases h : b ≤ a
  · rw [if_pos h]
    congr 1
    rw [Bool.eq_iff_iff]
    simp [h]
  · rw [if_neg h]
    congr 1
    symm
    exact decide_eq_false (fun h2 => h h2.1)
theorem recordOk_j0 (s : S91) (k : Nat) (hk : 2 ≤ k) : spec_l2recordOk.j0 k (decide (blankE (ent s.f4))) s.f0 s.f1 s.f2 s.f3 s.f4.f0 s.f4.f1.f0 s.f4.f1.f1 s.f4.f1.f2 s.f4.f1.f3 s.f4.f1.f4 s.f4.f1.f5 = some (decide (RecOk (rc s))) := by
  obtain ⟨k, rfl⟩ : ∃ m, k = m + 2 := ⟨k - 2, by omega⟩
  have key : ∃ b, spec_l2recordOk.j0 (k + 1 + 1) (decide (blankE (ent s.f4))) s.f0 s.f1 s.f2 s.f3 s.f4.f0 s.f4.f1.f0 s.f4.f1.f1 s.f4.f1.f2 s.f4.f1.f3 s.f4.f1.f4 s.f4.f1.f5 = some b ∧ (b = true ↔ RecOk (rc s)) := by
    rw [spec_l2recordOk.j0]
    simp only [in_eq, Option.bind_some, spec_l2recordOk.j1, entryOk_eq, decide_eq_true_eq]
    repeat' split
    all_goals
      refine ⟨_, rfl, ?_⟩
      simp_all [rc, RecOk, HardP]
      try omega
  obtain ⟨b, hb, hi⟩ := key
  rw [show k + 2 = k + 1 + 1 from rfl, hb]
  congr 1
  rw [Bool.eq_iff_iff, hi, decide_eq_true_iff]
theorem recordOk_eq (s : S91) (k : Nat) (hk : 2 ≤ k) : spec_l2recordOk.f k s.f0 s.f1 s.f2 s.f3 s.f4.f0 s.f4.f1.f0 s.f4.f1.f1 s.f4.f1.f2 s.f4.f1.f3 s.f4.f1.f4 s.f4.f1.f5 = some (decide (RecOk (rc s))) := by
  unfold spec_l2recordOk.f
  by_cases h : s.f4.f0 = 0
  · rw [if_pos h, blank_iff _ _ _ _ _ _ _ h]
    exact recordOk_j0 s k hk
  · rw [if_neg h]
    have := recordOk_j0 s k hk
    rwa [decide_eq_false (p := blankE (ent s.f4)) (fun hb => h hb.1)] at this
theorem fault0 (r : Rec) : (recFault r == 0) = decide (RecOk r) := by
  unfold recFault
  by_cases h : RecOk r
  · rw [if_pos h, decide_eq_true h]; rfl
  · rw [if_neg h, decide_eq_false h]; rfl
theorem rcs_drop (L : List S91) (i : Nat) (h : i < L.length) : (rcs L).drop i = rc L[i] :: (rcs L).drop (i + 1) := by
  rw [List.drop_eq_getElem_cons (by simp [rcs]; omega)]
  simp [rcs]
theorem recordsOk_loop (L : List S91) (hl : L.length ≤ 1048576) : ∀ (d i k : Nat), L.length - i = d → i ≤ L.length → d + 5 < k → spec_l2recordsOk.l0 k L (i : Int) = some (((rcs L).drop i).all (fun r => recFault r == 0)) := by
  intro d
  induction d with
  | zero =>
    intro i k hd hi hk
    obtain ⟨k, rfl⟩ : ∃ m, k = m + 1 := ⟨k - 1, by omega⟩
    rw [spec_l2recordsOk.l0, if_neg (by omega), List.drop_eq_nil_of_le (by simp [rcs]; omega)]
    rfl
  | succ d ih =>
    intro i k hd hi hk
    obtain ⟨k, rfl⟩ : ∃ m, k = m + 1 := ⟨k - 1, by omega⟩
    have hlt : i < L.length := by omega
    rw [spec_l2recordsOk.l0, if_pos (by omega), if_pos (by omega), rd91 L i hlt, recordOk_eq _ k (by omega), Option.bind_some, rcs_drop L i hlt, List.all_cons, fault0]
    by_cases h : RecOk (rc L[i])
    · rw [decide_eq_true h, if_pos rfl, w64 _ (by omega) (by omega), Bool.true_and]
      exact ih (i + 1) k (by omega) (by omega) (by omega)
    · rw [decide_eq_false h, if_neg (by decide), Bool.false_and]
theorem recordsOk_eq (L : List S91) (hl : L.length ≤ 1048576) (k : Nat) (hk : 1048576 + 10 < k) : spec_l2recordsOk.f k L = some (recsOk (rcs L)) := by
  unfold spec_l2recordsOk.f recsOk
  have hlen : (rcs L).length = L.length := by simp [rcs]
  by_cases h : (L.length : Int) > 8192
  · rw [if_pos h, decide_eq_false (by omega), Bool.false_and]
  · have := recordsOk_loop L hl L.length 0 k (by omega) (by omega) (by omega)
    rw [if_neg h, decide_eq_true (by omega), Bool.true_and]
    rw [List.drop_zero] at this
    exact this
end Go.Proofs.YthiebcecflpbnaaDoor.PFnExactEncodeRecords
