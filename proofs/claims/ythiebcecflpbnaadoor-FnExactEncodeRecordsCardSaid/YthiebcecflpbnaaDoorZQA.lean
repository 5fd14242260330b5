/- The reference's bytes are the program's: its functions in plain Lean answer the same lists. -/
import Derived.Test.YthiebcecflpbnaaDoorZPFnExactEncodeRecordsx5
import Derived.Test.YthiebcecflpbnaaDoorZN1
import Derived.Test.YthiebcecflpbnaaDoorZPFnExactEncodeRecordsx3
import Derived.Test.YthiebcecflpbnaaDoorZE6
namespace Go.Proofs.YthiebcecflpbnaaDoor.PFnExactEncodeRecords
open Go.RowKit Go.Proofs.YthiebcecflpbnaaDoorW.PrintWords Go.Proofs.YthiebcecflpbnaaDoorW.PrintLast Go.Proofs.YthiebcecflpbnaaDoorW.PrintMore
set_option linter.unusedVariables false

theorem w64 (x : Int) (h0 : -1000000000000 ≤ x) (h1 : x ≤ 1000000000000) : wrap64 x = x := by unfold wrap64; omega
theorem num_eq : ∀ (n v k : Nat), v < 128 ^ (n + 1) → v ≤ 1073741824 → n < k → spec_l1num.f k (v : Int) = some (E.numN v) := by
  intro n
  induction n with
  | zero =>
    intro v k h hv hk
    obtain ⟨k, rfl⟩ : ∃ m, k = m + 1 := ⟨k - 1, by omega⟩
    have h' : v < 128 := by simpa using h
    simp only [spec_l1num.f]
    rw [if_pos (by omega), E.numN, if_pos h']
    congr 2
    omega
  | succ n ih =>
    intro v k h hv hk
    obtain ⟨k, rfl⟩ : ∃ m, k = m + 1 := ⟨k - 1, by omega⟩
    by_cases h' : v < 128
    · simp only [spec_l1num.f]
      rw [if_pos (by omega), E.numN, if_pos h']
      congr 2
      omega
    · have h2 := ih (v / 128) k (by rw [Nat.pow_succ] at h; exact Nat.div_lt_of_lt_mul (by rw [Nat.mul_comm]; exact h)) (by omega) (by omega)
      have hl := E.numN_len5 (v / 128) (by omega)
      have e1 : wrap64 (Int.tdiv (v : Int) 128) = ((v / 128 : Nat) : Int) := by
        rw [Int.tdiv_eq_ediv_of_nonneg (by omega), w64 _ (by omega) (by omega)]
        omega
      have e2 : wrap64 (Int.tmod (v : Int) 128 + 128) % 256 = ((v % 128 + 128 : Nat) : Int) := by
        rw [Int.tmod_eq_emod_of_nonneg (by omega), w64 _ (by omega) (by omega)]
        omega
      simp only [spec_l1num.f]
      rw [if_neg (by omega), Option.bind_some, e1, h2, Option.bind_some, e2, if_pos (by simp; omega)]
      conv => rhs; rw [E.numN, if_neg h']
      rfl
theorem num_int (v : Int) (k : Nat) (h0 : 0 ≤ v) (h1 : v ≤ 1073741824) (hk : 5 ≤ k) : spec_l1num.f k v = some (E.numI v) := by
  obtain ⟨n, rfl⟩ := Int.eq_ofNat_of_zero_le h0
  exact num_eq 4 n k (by omega) (by omega) (by omega)
theorem bytesOf_get (s : ByteArray) (i : Nat) (h : i < (bytesOf s).length) : (bytesOf s)[i] = bt s i := by
  rw [← rd_bytesOf]
  unfold rd
  simp [List.getD_eq_getElem?_getD, h]
theorem text_loop (s : ByteArray) (pre : List Int) (hp : pre.length ≤ 1000) (hs : s.size ≤ 64) : ∀ (d i k : Nat), s.size - i = d → i ≤ s.size → d < k → spec_l1text.l0 k s (pre ++ (bytesOf s).take i) (i : Int) = some (pre ++ bytesOf s) := by
  intro d
  induction d with
  | zero =>
    intro i k hd hi hk
    obtain ⟨k, rfl⟩ : ∃ m, k = m + 1 := ⟨k - 1, by omega⟩
    simp only [spec_l1text.l0]
    rw [if_neg (by omega), List.take_of_length_le (by rw [bytesOf_length]; omega)]
  | succ d ih =>
    intro i k hd hi hk
    obtain ⟨k, rfl⟩ : ∃ m, k = m + 1 := ⟨k - 1, by omega⟩
    have hlt : i < (bytesOf s).length := by rw [bytesOf_length]; omega
    simp only [spec_l1text.l0]
    rw [if_pos (by omega), if_pos (by omega), if_pos (by simp only [List.length_append, List.length_take]; omega), w64 _ (by omega) (by omega)]
    have := ih (i + 1) k (by omega) (by omega) (by omega)
    rw [List.take_succ_eq_append_getElem hlt, ← List.append_assoc, bytesOf_get s i hlt] at this
    exact this
theorem text_eq (s : ByteArray) (k : Nat) (hs : s.size ≤ 64) (hk : 70 ≤ k) : spec_l1text.f k s = some (E.textI s) := by
  have h1 := num_int (s.size : Int) k (by omega) (by omega) (by omega)
  have hl := E.numI_len (s.size : Int) (by omega)
  have h2 := text_loop s (E.numI s.size) (by omega) hs s.size 0 k (by omega) (by omega) (by omega)
  simp only [List.take_zero, List.append_nil] at h2
  unfold spec_l1text.f
  rw [h1, Option.bind_some]
  exact h2
theorem rd_get (l : List Int) (i : Nat) (h : i < l.length) : rd l (i : Int) = l[i] := by
  unfold rd
  simp [List.getD_eq_getElem?_getD, h]
theorem low_xor (a b : Nat) : (a ^^^ b % 2) % 2 = (a ^^^ b) % 2 := by rw [E.xor_odd, E.xor_odd, Nat.mod_mod]
/-- One round over the bits. -/
theorem crc_bit (l : List Int) (i j r b k : Nat) (hi : i < l.length) (hl : l.length ≤ 100000000) (hj : j < 8) (hr : r < 4294967296) (hb : b < 256) (hx : l[i] = (b : Int)) :
    spec_Crc32.l1 (k + 1) l (r : Int) (i : Int) (j : Int) = spec_Crc32.l1 k l ((E.bitS r b j : Nat) : Int) (i : Int) ((j + 1 : Nat) : Int) := by
  have hjw : IntKind.u64.wrap (j : Int) = (j : Int) := IntWalk.u64_in _ (by omega)
  have hsh : shr .u8 (b : Int) (j : Int) = ((b / 2 ^ j : Nat) : Int) := by
    unfold shr
    rw [Int.toNat_natCast, Nat.min_eq_left (by simp [IntKind.bits]; omega)]
    simp
  have hbj : b / 2 ^ j ≤ b := Nat.div_le_self _ _
  unfold E.bitS
  generalize b / 2 ^ j = q at *
  have e1 : Go.bits .and .u32 ((q : Int) % 4294967296) 1 = ((q % 2 : Nat) : Int) := by
    rw [show (q : Int) % 4294967296 = (q : Int) by omega]
    refine (u32_and_nat q 1 (by omega) (by decide)).trans ?_
    rw [Nat.and_one_is_mod]
  have e2 : Go.bits .xor .u32 (r : Int) ((q % 2 : Nat) : Int) = ((r ^^^ (q % 2) : Nat) : Int) := u32_xor_nat r _ hr (by omega)
  have hx2 : r ^^^ (q % 2) < 4294967296 := Nat.xor_lt_two_pow (n := 32) hr (by omega)
  have e3 : Go.bits .and .u32 ((r ^^^ (q % 2) : Nat) : Int) 1 = (((r ^^^ (q % 2)) % 2 : Nat) : Int) := by
    refine (u32_and_nat _ 1 hx2 (by decide)).trans ?_
    rw [Nat.and_one_is_mod]
  have e4 : Go.bits .xor .u32 ((r : Int) / 2) 3988292384 = ((r / 2 ^^^ 3988292384 : Nat) : Int) := by
    have := u32_xor_nat (r / 2) 3988292384 (by omega) (by decide)
    exact this
  rw [spec_Crc32.l1]
  rw [if_pos (by omega), if_pos (by omega), if_pos (by omega), hjw, if_pos (by omega), rd_get l i hi, hx, hsh, e1, e2, e3, e4, w64 _ (by omega) (by omega)]
  by_cases hc : (r ^^^ (q % 2)) % 2 = 1
  · rw [if_pos (by omega), if_pos hc]
    rfl
  · rw [if_neg (by omega), if_neg hc, Nat.xor_zero]
    rfl
theorem crc_bits (l : List Int) (i r b k : Nat) (hi : i < l.length) (hl : l.length ≤ 100000000) (hr : r < 4294967296) (hb : b < 256) (hx : l[i] = (b : Int)) :
    ∀ j, j ≤ 8 → spec_Crc32.l1 (k + 8) l (r : Int) (i : Int) 0 = spec_Crc32.l1 (k + (8 - j)) l ((E.bits8 r b j : Nat) : Int) (i : Int) ((j : Nat) : Int)
  | 0, _ => rfl
  | j + 1, hj => by
    rw [crc_bits l i r b k hi hl hr hb hx j (by omega), show k + (8 - j) = (k + (8 - (j + 1))) + 1 by omega, crc_bit l i j _ b _ hi hl (by omega) (E.bits8_lt r b hr j) hb hx]
    rfl
theorem crc_loop (l : List Int) (hl : l.length ≤ 100000000) (hx : ∀ x ∈ l, 0 ≤ x ∧ x < 256) : ∀ (d i k : Nat), l.length - i = d → i ≤ l.length → 10 * d < k →
    spec_Crc32.l0 k l ((E.crcN ((l.take i).map Int.toNat) : Nat) : Int) (i : Int) = some (E.crcI l) := by
  intro d
  induction d with
  | zero =>
    intro i k hd hi hk
    obtain ⟨k, rfl⟩ : ∃ m, k = m + 1 := ⟨k - 1, by omega⟩
    rw [spec_Crc32.l0, if_neg (by omega), List.take_of_length_le (by omega)]
    have := u32_xor_nat (E.crcN (l.map Int.toNat)) 4294967295 (E.crcN_lt _) (by decide)
    unfold E.crcI
    rw [Nat.xor_comm]
    exact congrArg some this
  | succ d ih =>
    intro i k hd hi hk
    obtain ⟨k, rfl⟩ : ∃ m, k = m + 10 := ⟨k - 10, by omega⟩
    have hlt : i < l.length := by omega
    have hb := hx _ (List.getElem_mem hlt)
    obtain ⟨b, hbx⟩ : ∃ b : Nat, l[i] = (b : Int) := ⟨l[i].toNat, by omega⟩
    have hr := E.crcN_lt ((l.take i).map Int.toNat)
    rw [spec_Crc32.l0, if_pos (by omega), show k + 9 = (k + 1) + 8 by omega, crc_bits l i _ b (k + 1) hlt hl hr (by omega) hbx 8 (by omega), E.bits8_byte _ b (by omega), show k + 1 + (8 - 8) = k + 1 by omega, spec_Crc32.l1, if_neg (by decide), w64 _ (by omega) (by omega)]
    have h2 := ih (i + 1) k (by omega) (by omega) (by omega)
    rw [E.crc_take l i hlt, hbx, Int.toNat_natCast] at h2
    exact h2
theorem crc_eq (l : List Int) (k : Nat) (hl : l.length ≤ 100000000) (hx : ∀ x ∈ l, 0 ≤ x ∧ x < 256) (hk : 10 * l.length < k) : spec_Crc32.f k l = some (E.crcI l) :=
  crc_loop l hl hx l.length 0 k (by omega) (by omega) hk
theorem four_eq (x : Int) (h0 : 0 ≤ x) (h1 : x < 4294967296) : spec_l1four.f x = some (E.leI x) := by
  unfold spec_l1four.f E.leI
  rw [Int.tmod_eq_emod_of_nonneg h0, Int.tdiv_eq_ediv_of_nonneg h0, Int.tdiv_eq_ediv_of_nonneg h0, Int.tdiv_eq_ediv_of_nonneg h0]
  congr 2
  · omega
  · congr 1
    · omega
    · congr 1
      · omega
      · congr 1
        omega
theorem frame_eq (l : List Int) (k : Nat) (hl : l.length ≤ 900000) (hx : ∀ x ∈ l, 0 ≤ x ∧ x < 256) (hk : 10 * l.length < k) : spec_l1frame.f k l = some (E.frameB l) := by
  unfold spec_l1frame.f E.frameB
  rw [show ((l.length : Int)) % 4294967296 = (l.length : Int) by omega, four_eq _ (by omega) (by omega), Option.bind_some, crc_eq l k (by omega) hx hk, Option.bind_some, four_eq _ (E.crcI_u32 l).1 (E.crcI_u32 l).2, Option.bind_some]
  rw [if_pos (by simp [E.leI]), Option.bind_some, if_pos (by simp [E.leI]; omega)]
theorem eq_loop (l : List Int) (hl : l.length ≤ 100000000) : ∀ (d i k : Nat), l.length - i = d → i ≤ l.length → d < k → laws_eqByteS.l0 k l l (i : Int) = some true := by
  intro d
  induction d with
  | zero =>
    intro i k hd hi hk
    obtain ⟨k, rfl⟩ : ∃ m, k = m + 1 := ⟨k - 1, by omega⟩
    rw [laws_eqByteS.l0, if_neg (by omega)]
  | succ d ih =>
    intro i k hd hi hk
    obtain ⟨k, rfl⟩ : ∃ m, k = m + 1 := ⟨k - 1, by omega⟩
    rw [laws_eqByteS.l0, if_pos (by omega), if_pos (by omega), if_pos (by omega), if_pos rfl, w64 _ (by omega) (by omega)]
    exact ih (i + 1) k (by omega) (by omega) (by omega)
theorem eq_self (l : List Int) (k : Nat) (hl : l.length ≤ 100000000) (hk : l.length < k) : laws_eqByteS.f k l l = some true := by
  unfold laws_eqByteS.f
  rw [if_pos rfl]
  exact eq_loop l hl l.length 0 k (by omega) (by omega) hk
/-- The marks. -/
def marks (n : Nat) : List Int := (List.range n).map fun i => ((1 + i : Nat) : Int) % 256
theorem marks_length (n : Nat) : (marks n).length = n := by simp [marks]
theorem marks_succ (n : Nat) : marks (n + 1) = marks n ++ [((1 + n : Nat) : Int) % 256] := by simp [marks, List.range_succ]
theorem marks_get (n i : Nat) (h : i < n) : rd (marks n) (i : Int) = ((1 + i : Nat) : Int) % 256 := by
  rw [rd_get _ _ (by rw [marks_length]; exact h)]
  simp [marks]
theorem mark_loop : ∀ (rest : List Int) (i k : Nat), i + rest.length ≤ 100000000 → rest.length < k → laws_markByteS.l0 k (marks i ++ rest) ((1 + i : Nat) : Int) (i : Int) = some (((1 + (i + rest.length) : Nat) : Int), marks (i + rest.length)) := by
  intro rest
  induction rest with
  | nil =>
    intro i k hi hk
    obtain ⟨k, rfl⟩ : ∃ m, k = m + 1 := ⟨k - 1, by omega⟩
    rw [laws_markByteS.l0, if_neg (by simp [marks_length])]
    simp
  | cons x rest ih =>
    intro i k hi hk
    obtain ⟨k, rfl⟩ : ∃ m, k = m + 1 := ⟨k - 1, by omega⟩
    simp only [List.length_cons] at hi hk
    rw [laws_markByteS.l0, if_pos (by simp [marks_length]; omega), if_pos (by omega), w64 _ (by omega) (by omega), w64 _ (by omega) (by omega), Int.toNat_natCast]
    have e : (marks i ++ x :: rest).set i (((1 + i : Nat) : Int) % 256) = marks (i + 1) ++ rest := by
      rw [marks_succ, List.set_append_right _ _ (by rw [marks_length]; omega), marks_length]
      simp
    rw [e]
    have := ih (i + 1) k (by omega) (by omega)
    rw [show i + 1 + rest.length = i + (x :: rest).length by simp; omega] at this
    exact this
theorem mark_eq (l : List Int) (k : Nat) (hl : l.length ≤ 100000000) (hk : l.length < k) : laws_markByteS.f k l 1 = some (((1 + l.length : Nat) : Int), marks l.length) := by
  have := mark_loop l 0 k (by omega) hk
  unfold laws_markByteS.f
  simpa [marks] using this
theorem held_loop (n : Nat) (hn : n ≤ 100000000) : ∀ (d i k : Nat), n - i = d → i ≤ n → d < k → laws_heldByteS.l0 k (marks n) ((1 + i : Nat) : Int) (i : Int) = some ((1 + n : Nat) : Int) := by
  intro d
  induction d with
  | zero =>
    intro i k hd hi hk
    obtain ⟨k, rfl⟩ : ∃ m, k = m + 1 := ⟨k - 1, by omega⟩
    obtain rfl : i = n := by omega
    rw [laws_heldByteS.l0, if_neg (by rw [marks_length]; omega)]
  | succ d ih =>
    intro i k hd hi hk
    obtain ⟨k, rfl⟩ : ∃ m, k = m + 1 := ⟨k - 1, by omega⟩
    rw [laws_heldByteS.l0, if_pos (by rw [marks_length]; omega), if_pos (by omega), if_pos (marks_get n i (by omega)), w64 _ (by omega) (by omega), w64 _ (by omega) (by omega)]
    exact ih (i + 1) k (by omega) (by omega) (by omega)
theorem held_eq (n k : Nat) (hn : n ≤ 100000000) (hk : n < k) : laws_heldByteS.f k (marks n) 1 = some ((1 + n : Nat) : Int) :=
  held_loop n hn n 0 k (by omega) (by omega) hk
end Go.Proofs.YthiebcecflpbnaaDoor.PFnExactEncodeRecords
