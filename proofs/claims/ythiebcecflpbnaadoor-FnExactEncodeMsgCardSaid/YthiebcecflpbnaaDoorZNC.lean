/- For every message the law of EncodeMsg answers true: in plain Lean (the second half). -/
import Derived.Test.YthiebcecflpbnaaDoorZNB
import Derived.Test.YthiebcecflpbnaaDoorZH32
import Derived.Test.YthiebcecflpbnaaDoorZPFnExactEncodeMsgx5
namespace Go.Proofs.YthiebcecflpbnaaDoor.PFnExactEncodeMsg
open Go.RowKit Go.Proofs.YthiebcecflpbnaaDoorW.PrintWords Go.Proofs.YthiebcecflpbnaaDoorW.PrintLast Go.Proofs.YthiebcecflpbnaaDoorW.PrintMore
set_option linter.unusedVariables false
set_option linter.unusedSimpArgs false
open E

/-! ## The bytes -/
theorem cmdBytes_eq (a0 a1 a2 : Int) (a3 a4 a5 : ByteArray) (k : Nat) (hk : 200 ≤ k) (hI : E.CmdIn ⟨a0, a1, a2, a3, a4, a5⟩) : spec_l1cmdBytes.f k a0 a1 a2 a3 a4 a5 = some (E.cmdB ⟨a0, a1, a2, a3, a4, a5⟩) := by
  have b0 := hI.n a0 (by simp)
  have b1 := hI.n a1 (by simp)
  have b2 := hI.n a2 (by simp)
  have b3 := hI.t a3 (by simp)
  have b4 := hI.t a4 (by simp)
  have b5 := hI.t a5 (by simp)
  have l0 := E.numI_len a0 b0.2
  have l1 := E.numI_len a1 b1.2
  have l2 := E.numI_len a2 b2.2
  have l3 := E.textI_len a3 b3
  have l4 := E.textI_len a4 b4
  have l5 := E.textI_len a5 b5
  unfold spec_l1cmdBytes.f
  rw [num_int a0 k b0.1 b0.2 (by omega), Option.bind_some,
    num_int a1 k b1.1 b1.2 (by omega), Option.bind_some, if_pos (by omega), Option.bind_some,
    num_int a2 k b2.1 b2.2 (by omega), Option.bind_some, if_pos (by simp; omega), Option.bind_some,
    text_eq a3 k b3 (by omega), Option.bind_some, if_pos (by simp; omega), Option.bind_some,
    text_eq a4 k b4 (by omega), Option.bind_some, if_pos (by simp; omega), Option.bind_some,
    text_eq a5 k b5 (by omega), Option.bind_some, if_pos (by simp; omega)]
  simp [E.cmdB, E.numsB, E.textsB]
theorem entryBytes_eq (s : S76) (k : Nat) (hk : 200 ≤ k) (hI : EntIn (ent s)) : spec_l1entryBytes.f k s.f0 s.f1.f0 s.f1.f1 s.f1.f2 s.f1.f3 s.f1.f4 s.f1.f5 = some (entB (ent s)) := by
  have h1 := num_int s.f0 k hI.t.1 hI.t.2 (by omega)
  have h2 := cmdBytes_eq s.f1.f0 s.f1.f1 s.f1.f2 s.f1.f3 s.f1.f4 s.f1.f5 k hk hI.c
  have l1 := E.numI_len s.f0 hI.t.2
  have l2 := E.cmdB_len _ hI.c
  unfold spec_l1entryBytes.f
  rw [h1, Option.bind_some, h2, Option.bind_some, if_pos (by have : (cmdB (ent s).cmd).length = (cmdB ⟨s.f1.f0, s.f1.f1, s.f1.f2, s.f1.f3, s.f1.f4, s.f1.f5⟩).length := rfl; omega)]
  simp [entB, ent, numsB]
theorem msg_l1 (a0 a1 a2 a3 a4 a5 a6 a7 a8 : Int) (L : List S76) (hl : L.length ≤ 32) (hE : ∀ e ∈ ents L, EntIn e) (pre : List Int) (hp : pre.length ≤ 100) (hb : ∀ x ∈ pre, 0 ≤ x ∧ x < 256) : ∀ (d i k : Nat), L.length - i = d → i ≤ L.length → 300000 + d ≤ k →
    spec_EncodeMsg.l1 k (pre ++ entsB ((ents L).take i)) (i : Int) a0 a1 a2 a3 a4 a5 a6 a7 a8 L = some (frameB (pre ++ entsB (ents L))) := by
  have hle : (ents L).length = L.length := by simp [ents]
  have hbl := entsB_len (ents L) hE
  intro d
  induction d with
  | zero =>
    intro i k hd hi hk
    obtain ⟨k, rfl⟩ : ∃ m, k = m + 1 := ⟨k - 1, by omega⟩
    rw [spec_EncodeMsg.l1, if_neg (by omega), List.take_of_length_le (by omega), frame_eq _ k (by rw [List.length_append]; omega) (fun x hx => by
      rcases List.mem_append.1 hx with hx | hx
      · exact hb x hx
      · simp only [entsB, List.mem_flatMap] at hx
        obtain ⟨e, _, hx⟩ := hx
        exact entB_byte e x hx) (by rw [List.length_append]; omega), Option.bind_some]
  | succ d ih =>
    intro i k hd hi hk
    obtain ⟨k, rfl⟩ : ∃ m, k = m + 1 := ⟨k - 1, by omega⟩
    have hlt : i < L.length := by omega
    have hlt2 : i < (ents L).length := by omega
    have hge : (ents L)[i] = ent L[i] := by simp [ents]
    have hin : EntIn (ent L[i]) := by rw [← hge]; exact hE _ (List.getElem_mem hlt2)
    have hbt := entsB_len ((ents L).take i) (fun e he => hE e (List.mem_of_mem_take he))
    have htl : ((ents L).take i).length = i := by rw [List.length_take]; omega
    have hb1 := entB_len _ hin
    rw [spec_EncodeMsg.l1, if_pos (by omega), if_pos (by omega), rd76 L i hlt, entryBytes_eq L[i] k (by omega) hin, Option.bind_some, if_pos (by rw [List.length_append]; omega), w64 _ (by omega) (by omega)]
    have h2 := ih (i + 1) k (by omega) (by omega) (by omega)
    rw [entsB_take _ i hlt2, hge, ← List.append_assoc] at h2
    exact h2
theorem numsB_take (l : List Int) (i : Nat) (h : i < l.length) : numsB (l.take (i + 1)) = numsB (l.take i) ++ numI l[i] := by
  unfold numsB
  rw [List.take_succ_eq_append_getElem h, List.flatMap_append, List.flatMap_cons, List.flatMap_nil, List.append_nil]
theorem msg_l0 (a0 a1 a2 a3 a4 a5 a6 a7 a8 : Int) (L : List S76) (hl : L.length ≤ 32) (hE : ∀ e ∈ ents L, EntIn e) (b : Int) (hb : 0 ≤ b ∧ b < 256) (ns : List Int) (hn : ∀ v ∈ ns, 0 ≤ v ∧ v ≤ 1073741824) (hnl : ns.length ≤ 10) : ∀ (d i k : Nat), ns.length - i = d → i ≤ ns.length → 400000 + d ≤ k →
    spec_EncodeMsg.l0 k ns ([b] ++ numsB (ns.take i)) (i : Int) a0 a1 a2 a3 a4 a5 a6 a7 a8 L = some (frameB ([b] ++ numsB ns ++ entsB (ents L))) := by
  have hbl := numsB_len ns (fun v hv => (hn v hv).2)
  intro d
  induction d with
  | zero =>
    intro i k hd hi hk
    obtain ⟨k, rfl⟩ : ∃ m, k = m + 1 := ⟨k - 1, by omega⟩
    rw [spec_EncodeMsg.l0, if_neg (by omega), List.take_of_length_le (by omega)]
    have h2 := msg_l1 a0 a1 a2 a3 a4 a5 a6 a7 a8 L hl hE ([b] ++ numsB ns) (by simp; omega) (fun x hx => by
      rcases List.mem_append.1 hx with hx | hx
      · rw [List.mem_singleton.1 hx]; exact hb
      · simp only [numsB, List.mem_flatMap] at hx
        obtain ⟨v, _, hx⟩ := hx
        exact numI_byte v x hx) L.length 0 k (by omega) (by omega) (by omega)
    simpa [entsB] using h2
  | succ d ih =>
    intro i k hd hi hk
    obtain ⟨k, rfl⟩ : ∃ m, k = m + 1 := ⟨k - 1, by omega⟩
    have hlt : i < ns.length := by omega
    have hv := hn _ (List.getElem_mem hlt)
    have hbt := numsB_len (ns.take i) (fun v hv => (hn v (List.mem_of_mem_take hv)).2)
    have htl : (ns.take i).length = i := by rw [List.length_take]; omega
    have hb1 := E.numI_len ns[i] hv.2
    rw [spec_EncodeMsg.l0, if_pos (by omega), if_pos (by omega), rd_get ns i hlt, num_int _ k hv.1 hv.2 (by omega), Option.bind_some, if_pos (by simp; omega), w64 _ (by omega) (by omega)]
    have h2 := ih (i + 1) k (by omega) (by omega) (by omega)
    rw [numsB_take ns i hlt, ← List.append_assoc] at h2
    exact h2
theorem specMsg_eq (a0 a1 a2 a3 a4 a5 a6 a7 a8 : Int) (L : List S76) (hl : L.length ≤ 1048576) (k : Nat) (hk : 4000000 ≤ k) : spec_EncodeMsg.f k a0 a1 a2 a3 a4 a5 a6 a7 a8 L = some (encM ⟨a0, a1, a2, a3, a4, a5, a6, a7, a8, ents L⟩) := by
  have hle : (ents L).length = L.length := by simp [ents]
  unfold spec_EncodeMsg.f encM
  rw [fault_eq a0 a1 a2 a3 a4 a5 a6 a7 a8 L hl k hk, Option.bind_some]
  by_cases hf : msgF ⟨a0, a1, a2, a3, a4, a5, a6, a7, a8, ents L⟩ = 0
  · rw [if_pos hf, if_pos hf]
    rw [msgF_eq] at hf
    have hI := msgIn_of _ hf
    have hK := (msgFault_split _ hf).1
    have h32 : L.length ≤ 32 := by have := hI.l; dsimp only at this; omega
    dsimp only at hK
    have hm : a0 % 256 = a0 := by omega
    rw [hm]
    have h2 := msg_l0 a0 a1 a2 a3 a4 a5 a6 a7 a8 L h32 hI.e a0 (by omega) [a1, a2, a3, a4, a5, a6, a7, a8, (L.length : Int)] (fun v hv => hI.n v (by simpa [msgNums, hle] using hv)) (by simp) 9 0 k (by simp) (by simp) (by omega)
    have e1 : ([a0] ++ numsB (List.take 0 [a1, a2, a3, a4, a5, a6, a7, a8, (L.length : Int)]) : List Int) = [a0] := by simp [numsB]
    rw [e1] at h2
    rw [show (0 : Int) = ((0 : Nat) : Int) from rfl, h2]
    simp only [msgB, msgNums, hle, List.append_assoc, List.cons_append, List.nil_append]
  · rw [if_neg hf, if_neg hf]
theorem encM_len (m : Msg) : (encM m).length ≤ 8000 := by
  unfold encM
  split
  · have h := msgB_len m (msgIn_of m (by rw [← msgF_eq]; assumption))
    simp [frameB, leI]
    omega
  · simp

/-! ## Alike, and the marks -/
theorem eqCmd_self (a0 a1 a2 : Int) (a3 a4 a5 : ByteArray) : laws_eqCmd.f a0 a1 a2 a3 a4 a5 a0 a1 a2 a3 a4 a5 = some true := by
  unfold laws_eqCmd.f
  simp only [if_true]
theorem eqEntry_self (a0 a1 a2 a3 : Int) (a4 a5 a6 : ByteArray) : laws_eqEntry.f a0 a1 a2 a3 a4 a5 a6 a0 a1 a2 a3 a4 a5 a6 = some true := by
  unfold laws_eqEntry.f
  rw [if_pos rfl, eqCmd_self, Option.bind_some, if_pos rfl]
theorem eqEntryS_loop (L : List S76) (hl : L.length ≤ 1048576) : ∀ (d i k : Nat), L.length - i = d → i ≤ L.length → d < k → laws_eqEntryS.l0 k L L (i : Int) = some true := by
  intro d
  induction d with
  | zero =>
    intro i k hd hi hk
    obtain ⟨k, rfl⟩ : ∃ m, k = m + 1 := ⟨k - 1, by omega⟩
    rw [laws_eqEntryS.l0, if_neg (by omega)]
  | succ d ih =>
    intro i k hd hi hk
    obtain ⟨k, rfl⟩ : ∃ m, k = m + 1 := ⟨k - 1, by omega⟩
    rw [laws_eqEntryS.l0, if_pos (by omega), if_pos (by omega), if_pos (by omega), eqEntry_self, Option.bind_some, if_pos rfl, w64 _ (by omega) (by omega)]
    exact ih (i + 1) k (by omega) (by omega) (by omega)
theorem eqMsg_self (a0 a1 a2 a3 a4 a5 a6 a7 a8 : Int) (L : List S76) (hl : L.length ≤ 1048576) (k : Nat) (hk : 1048576 < k) : laws_eqMsg.f k a0 a1 a2 a3 a4 a5 a6 a7 a8 L a0 a1 a2 a3 a4 a5 a6 a7 a8 L = some true := by
  have := eqEntryS_loop L hl L.length 0 k (by omega) (by omega) (by omega)
  unfold laws_eqMsg.f laws_eqEntryS.f
  simp only [if_true]
  rw [show (0 : Int) = ((0 : Nat) : Int) from rfl, this]
  rfl
theorem markText_some (n : Int) (k : Nat) (hn : 0 ≤ n) (hn2 : n ≤ 100000000) (hk : 20 ≤ k) : ∃ t, laws_markText.f k n = some t := by
  have loop : ∀ (d : Nat) (n : Int) (s : ByteArray) (k : Nat), 0 ≤ n → n < 10 ^ d → d ≤ 18 → s.size + d ≤ 40 → d < k → ∃ t, laws_markText.l0 k n s = some t := by
    intro d
    induction d with
    | zero =>
      intro n s k h0 h1 hd hs hk
      obtain ⟨k, rfl⟩ : ∃ m, k = m + 1 := ⟨k - 1, by omega⟩
      rw [laws_markText.l0, if_neg (by omega), if_pos (by omega)]
      exact ⟨_, rfl⟩
    | succ d ih =>
      intro n s k h0 h1 hd hs hk
      obtain ⟨k, rfl⟩ : ∃ m, k = m + 1 := ⟨k - 1, by omega⟩
      rw [laws_markText.l0]
      by_cases hp : n > 0
      · have h9 : (10 : Int) ^ d ≤ 10 ^ 17 := by
          exact_mod_cast Nat.pow_le_pow_right (by decide) (by omega : d ≤ 17)
        have h10 : (10 : Int) ^ (d + 1) = 10 * 10 ^ d := by rw [Int.pow_succ, Int.mul_comm]
        have hw : wrap64 (Int.tdiv n 10) = n / 10 := by
          rw [Int.tdiv_eq_ediv_of_nonneg h0]
          unfold wrap64
          omega
        rw [if_pos hp, Option.bind_some, if_pos (by simp [strOfNums_size]; omega), hw]
        exact ih _ _ k (by omega) (by omega) (by omega) (by simp [strOfNums_size]; omega) (by omega)
      · rw [if_neg hp, if_pos (by omega)]
        exact ⟨_, rfl⟩
  unfold laws_markText.f
  by_cases h : n ≤ 0
  · rw [if_pos h]; exact ⟨_, rfl⟩
  · rw [if_neg h]
    exact loop 9 n _ k hn (by omega) (by omega) (by decide) (by omega)
theorem markEntry_loop (c : Nat) : ∀ (d i k : Nat) (L : List S76) (n : Int), L.length = c → c ≤ 1048576 → c - i = d → i ≤ c → d + 20 < k → n = 1 + 7 * (i : Int) → ∃ L', laws_markEntryS.l0 k L n (i : Int) = some (1 + 7 * (c : Int), L') := by
  intro d
  induction d with
  | zero =>
    intro i k L n hL hc hd hi hk hn
    obtain ⟨k, rfl⟩ : ∃ m, k = m + 1 := ⟨k - 1, by omega⟩
    rw [laws_markEntryS.l0, if_neg (by omega), hn, show i = c by omega]
    exact ⟨_, rfl⟩
  | succ d ih =>
    intro i k L n hL hc hd hi hk hn
    obtain ⟨k, rfl⟩ : ∃ m, k = m + 1 := ⟨k - 1, by omega⟩
    have w1 : wrap64 (n + 1) = n + 1 := w64 _ (by omega) (by omega)
    have w2 : wrap64 (n + 1 + 1) = n + 2 := by rw [w64 _ (by omega) (by omega)]; omega
    have w3 : wrap64 (n + 2 + 1) = n + 3 := by rw [w64 _ (by omega) (by omega)]; omega
    have w4 : wrap64 (n + 3 + 1) = n + 4 := by rw [w64 _ (by omega) (by omega)]; omega
    have w5 : wrap64 (n + 4 + 1) = n + 5 := by rw [w64 _ (by omega) (by omega)]; omega
    have w6 : wrap64 (n + 5 + 1) = n + 6 := by rw [w64 _ (by omega) (by omega)]; omega
    have w7 : wrap64 (n + 6 + 1) = n + 7 := by rw [w64 _ (by omega) (by omega)]; omega
    obtain ⟨t4, h4⟩ := markText_some (n + 4) k (by omega) (by omega) (by omega)
    obtain ⟨t5, h5⟩ := markText_some (n + 5) k (by omega) (by omega) (by omega)
    obtain ⟨t6, h6⟩ := markText_some (n + 6) k (by omega) (by omega) (by omega)
    rw [laws_markEntryS.l0, if_pos (by omega), if_pos (by omega)]
    simp only [Option.bind_some, w1, w2, w3, w4, w5, w6, w7, h4, h5, h6]
    rw [w64 _ (by omega) (by omega)]
    exact ih (i + 1) k _ _ (by simp [hL]) hc (by omega) (by omega) (by omega) (by omega)
theorem markMsg_some (a0 a1 a2 a3 a4 a5 a6 a7 a8 : Int) (L : List S76) (hl : L.length ≤ 1048576) (k : Nat) (hk : 1048576 + 30 < k) : ∃ L', laws_markMsg.f k a0 a1 a2 a3 a4 a5 a6 a7 a8 L 1 = some (1 + 7 * (L.length : Int), L') := by
  obtain ⟨L', h⟩ := markEntry_loop L.length L.length 0 k L 1 rfl hl (by omega) (by omega) (by omega) (by omega)
  unfold laws_markMsg.f laws_markEntryS.f
  rw [show (0 : Int) = ((0 : Nat) : Int) from rfl, h, Option.bind_some]
  exact ⟨_, rfl⟩
end Go.Proofs.YthiebcecflpbnaaDoor.PFnExactEncodeMsg
