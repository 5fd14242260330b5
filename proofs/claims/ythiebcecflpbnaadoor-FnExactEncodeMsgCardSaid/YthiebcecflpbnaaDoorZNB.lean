/- For every message the law of EncodeMsg answers true: in plain Lean. -/
import Derived.Test.YthiebcecflpbnaaDoorZNA
namespace Go.Proofs.YthiebcecflpbnaaDoor.PFnExactEncodeMsg
open Go.RowKit Go.Proofs.YthiebcecflpbnaaDoorW.PrintWords Go.Proofs.YthiebcecflpbnaaDoorW.PrintLast Go.Proofs.YthiebcecflpbnaaDoorW.PrintMore
set_option linter.unusedVariables false
set_option linter.unusedSimpArgs false
open E

/-! ## The budget -/
theorem szCmd_some (a0 a1 a2 : Int) (a3 a4 a5 : ByteArray) (n : Int) : ∃ t, laws_szCmd.f a0 a1 a2 a3 a4 a5 n = some t := by
  unfold laws_szCmd.f
  repeat' split
  all_goals exact ⟨_, rfl⟩
theorem szEntry_some (a0 a1 a2 a3 : Int) (a4 a5 a6 : ByteArray) (n : Int) : ∃ t, laws_szEntry.f a0 a1 a2 a3 a4 a5 a6 n = some t := by
  obtain ⟨t, ht⟩ := szCmd_some a1 a2 a3 a4 a5 a6 n
  unfold laws_szEntry.f
  rw [ht, Option.bind_some]
  split
  all_goals exact ⟨_, rfl⟩
theorem sz_loop (l : List S85) (hl : l.length ≤ 1048576) : ∀ (d i k : Nat) (n : Int), l.length - i = d → i ≤ l.length → d < k → ∃ t, laws_szEntryS.l0 k l n (i : Int) = some t := by
  intro d
  induction d with
  | zero =>
    intro i k n hd hi hk
    obtain ⟨k, rfl⟩ : ∃ m, k = m + 1 := ⟨k - 1, by omega⟩
    rw [laws_szEntryS.l0, if_neg (by omega)]
    exact ⟨_, rfl⟩
  | succ d ih =>
    intro i k n hd hi hk
    obtain ⟨k, rfl⟩ : ∃ m, k = m + 1 := ⟨k - 1, by omega⟩
    rw [laws_szEntryS.l0, if_pos (by omega), if_pos (by omega)]
    obtain ⟨t, ht⟩ := szEntry_some (rd_T85 l i).f0 (rd_T85 l i).f1.f0 (rd_T85 l i).f1.f1 (rd_T85 l i).f1.f2 (rd_T85 l i).f1.f3 (rd_T85 l i).f1.f4 (rd_T85 l i).f1.f5 n
    rw [ht, Option.bind_some]
    split
    · exact ⟨_, rfl⟩
    · rw [w64 _ (by omega) (by omega)]
      exact ih (i + 1) k t (by omega) (by omega) (by omega)
theorem sz_ok (a0 a1 a2 a3 a4 a5 a6 a7 a8 : Int) (l : List S85) (hl : l.length ≤ 9223372036854775807) (k : Nat) (hk : 1048576 < k) :
    ∃ t, laws_szMsg.f k a0 a1 a2 a3 a4 a5 a6 a7 a8 l 1048576 = some t ∧ (0 ≤ t → l.length ≤ 1048576) := by
  unfold laws_szMsg.f laws_szEntryS.f
  by_cases h : wrap64 (1048576 - (l.length : Int)) < 0
  · rw [if_pos h, Option.bind_some, if_pos (by decide)]
    exact ⟨_, rfl, fun h => by omega⟩
  · have hn : l.length ≤ 1048576 := by unfold wrap64 at h; omega
    rw [if_neg h]
    obtain ⟨t, ht⟩ := sz_loop l hn l.length 0 k (wrap64 (1048576 - (l.length : Int))) (by omega) (by omega) (by omega)
    rw [show ((0 : Nat) : Int) = 0 from rfl] at ht
    rw [ht, Option.bind_some]
    split
    · exact ⟨_, rfl, fun h => by omega⟩
    · exact ⟨_, rfl, fun _ => hn⟩

/-! ## The copy -/
def cp (s : S85) : S76 := ⟨s.f0, ⟨s.f1.f0, s.f1.f1, s.f1.f2, s.f1.f3, s.f1.f4, s.f1.f5⟩⟩
theorem rd85 (l : List S85) (i : Nat) (h : i < l.length) : rd_T85 l (i : Int) = l[i] := by simp [rd_T85, h]
theorem rd76 (l : List S76) (i : Nat) (h : i < l.length) : rd_T76 l (i : Int) = l[i] := by simp [rd_T76, h]
theorem copy_loop (l : List S85) (hl : l.length ≤ 1048576) : ∀ (d i k : Nat), l.length - i = d → i ≤ l.length → d < k →
    laws_toEntryS.l0 k l ((l.take i).map cp ++ List.replicate (l.length - i) z76) (i : Int) = some (l.map cp) := by
  intro d
  induction d with
  | zero =>
    intro i k hd hi hk
    obtain ⟨k, rfl⟩ : ∃ m, k = m + 1 := ⟨k - 1, by omega⟩
    rw [laws_toEntryS.l0, if_neg (by omega), List.take_of_length_le (by omega), hd]
    simp
  | succ d ih =>
    intro i k hd hi hk
    obtain ⟨k, rfl⟩ : ∃ m, k = m + 1 := ⟨k - 1, by omega⟩
    have hlt : i < l.length := by omega
    rw [laws_toEntryS.l0, if_pos (by omega), if_pos (by omega), rd85 l i hlt]
    simp only [laws_toEntry.f, Option.bind_some]
    rw [if_pos (by simp; omega), w64 _ (by omega) (by omega), Int.toNat_natCast]
    have e : ((l.take i).map cp ++ List.replicate (l.length - i) z76).set i (⟨l[i].f0, ⟨l[i].f1.f0, l[i].f1.f1, l[i].f1.f2, l[i].f1.f3, l[i].f1.f4, l[i].f1.f5⟩⟩ : S76) = (l.take (i + 1)).map cp ++ List.replicate (l.length - (i + 1)) z76 := by
      rw [List.set_append_right _ _ (by simp; omega), List.take_succ_eq_append_getElem hlt, List.map_append, List.append_assoc]
      congr 1
      rw [show l.length - i = (l.length - (i + 1)) + 1 by omega, List.replicate_succ, show i - ((l.take i).map cp).length = 0 by simp; omega]
      rfl
    rw [e]
    exact ih (i + 1) k (by omega) (by omega) (by omega)
theorem copy_eq (l : List S85) (hl : l.length ≤ 1048576) (k : Nat) (hk : 1048576 < k) : laws_toEntryS.f k l = some (l.map cp) := by
  have := copy_loop l hl l.length 0 k (by omega) (by omega) (by omega)
  unfold laws_toEntryS.f
  rw [if_pos (by omega), if_pos (by omega), Int.toNat_natCast]
  simpa using this

/-! ## Rising -/
theorem entryOk_eq (s : S76) (k : Nat) : spec_l1entryOk.f k s.f0 s.f1.f0 s.f1.f1 s.f1.f2 s.f1.f3 s.f1.f4 s.f1.f5 = some (decide (EntOk (ent s))) := by
  unfold spec_l1entryOk.f spec_CmdFault.f EntOk ent
  dsimp only
  by_cases h1 : s.f0 ≥ 1
  · by_cases h2 : s.f0 ≤ 1073741824
    · rw [if_pos h1, if_pos h2, Option.bind_some]
      congr 1
      rw [Bool.eq_iff_iff]
      exact ⟨fun h => decide_eq_true ⟨h1, h2, by simpa using h⟩, fun h => by simpa using (of_decide_eq_true h).2.2⟩
    · rw [if_pos h1, if_neg h2]
      congr 1
      symm
      exact decide_eq_false (fun h => h2 h.2.1)
  · rw [if_neg h1]
    congr 1
    symm
    exact decide_eq_false (fun h => h1 h.1)
theorem ents_get (L : List S76) (i : Nat) (h : i < L.length) : (ents L).drop i = ent L[i] :: (ents L).drop (i + 1) := by
  rw [List.drop_eq_getElem_cons (by simp [ents]; omega)]
  simp [ents]
def lowAt (L : List S76) (lo : Int) (i : Nat) : Int := if i = 0 then lo else (rd_T76 L ((i : Int) - 1)).f0
theorem rising_loop (L : List S76) (hl : L.length ≤ 1048576) (lo hi : Int) : ∀ (d i k : Nat), L.length - i = d → i ≤ L.length → 3 * d < k →
    spec_l1rising.l0 k L lo hi (i : Int) = some (rising ((ents L).drop i) (lowAt L lo i) hi) := by
  intro d
  induction d with
  | zero =>
    intro i k hd hi' hk
    obtain ⟨k, rfl⟩ : ∃ m, k = m + 1 := ⟨k - 1, by omega⟩
    rw [spec_l1rising.l0, if_neg (by omega), List.drop_eq_nil_of_le (by simp [ents]; omega), rising]
  | succ d ih =>
    intro i k hd hi' hk
    obtain ⟨k, rfl⟩ : ∃ m, k = m + 3 := ⟨k - 3, by omega⟩
    have hlt : i < L.length := by omega
    have h2 := ih (i + 1) k (by omega) (by omega) (by omega)
    have hlow : lowAt L lo (i + 1) = L[i].f0 := by
      unfold lowAt
      rw [if_neg (by omega), show ((i + 1 : Nat) : Int) - 1 = (i : Int) by omega, rd76 L i hlt]
    rw [hlow] at h2
    rw [show k + 3 = (k + 2) + 1 from rfl, spec_l1rising.l0, if_pos (by omega), if_pos (by omega), rd76 L i hlt, entryOk_eq, Option.bind_some, ents_get L i hlt, rising]
    have ht : (ent L[i]).term = L[i].f0 := rfl
    rw [ht]
    generalize hs : L[i] = s at *
    by_cases hok : EntOk (ent s)
    · rw [if_pos (by simpa using hok)]
      by_cases h3 : s.f0 > hi
      · rw [show k + 2 = (k + 1) + 1 from rfl, spec_l1rising.j1, if_pos (by simpa using h3), if_neg (by omega)]
      · rw [show k + 2 = (k + 1) + 1 from rfl, spec_l1rising.j1, if_neg (by simpa using h3)]
        by_cases h0 : i = 0
        · subst h0
          have hlo : lowAt L lo 0 = lo := rfl
          rw [hlo]
          rw [if_pos (by omega), if_pos (by omega), if_pos (by omega), spec_l1rising.j2, rd76 L 0 hlt, hs]
          by_cases h4 : s.f0 < lo
          · rw [if_pos (by simpa using h4), if_neg (by omega)]
          · rw [if_neg (by simpa using h4), if_neg (by omega), w64 _ (by omega) (by omega), if_pos ⟨hok, by omega, by omega⟩]
            exact h2
        · have hw : wrap64 ((i : Int) - 1) = (i : Int) - 1 := w64 _ (by omega) (by omega)
          have hlo : lowAt L lo i = (rd_T76 L ((i : Int) - 1)).f0 := by unfold lowAt; rw [if_neg h0]
          rw [hlo, if_neg (by omega), spec_l1rising.j2, if_neg (by decide), if_pos (by omega), if_pos (by omega), if_pos (by omega), hw, if_pos (by omega), if_pos (by omega), rd76 L i hlt, hs]
          by_cases h4 : s.f0 < (rd_T76 L ((i : Int) - 1)).f0
          · rw [if_pos h4, if_neg (by omega)]
          · rw [if_neg h4, w64 _ (by omega) (by omega), if_pos ⟨hok, by omega, by omega⟩]
            exact h2
    · rw [if_neg (by simpa using hok), show k + 2 = (k + 1) + 1 from rfl, spec_l1rising.j1, if_pos rfl, if_neg (fun h => hok h.1)]
theorem rising_eq (L : List S76) (hl : L.length ≤ 1048576) (lo hi : Int) (k : Nat) (hk : 4000000 ≤ k) : spec_l1rising.f k L lo hi = some (rising (ents L) lo hi) := by
  have := rising_loop L hl lo hi L.length 0 k (by omega) (by omega) (by omega)
  unfold spec_l1rising.f
  rw [show ((0 : Nat) : Int) = 0 from rfl, List.drop_zero] at this
  exact this
theorem fault_eq (a0 a1 a2 a3 a4 a5 a6 a7 a8 : Int) (L : List S76) (hl : L.length ≤ 1048576) (k : Nat) (hk : 4000000 ≤ k) : spec_MsgFault.f k a0 a1 a2 a3 a4 a5 a6 a7 a8 L = some (msgF ⟨a0, a1, a2, a3, a4, a5, a6, a7, a8, ents L⟩) := by
  unfold spec_MsgFault.f
  rw [if_pos (rising_eq L hl a5 a3 k hk)]
end Go.Proofs.YthiebcecflpbnaaDoor.PFnExactEncodeMsg
