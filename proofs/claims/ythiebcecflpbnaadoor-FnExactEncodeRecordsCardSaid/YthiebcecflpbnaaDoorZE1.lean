/- The program's check sum by nibbles: what the Go function answers, as a plain function on lists of bytes; the writer's bytes. -/
import Derived.Test.YthiebcecflpbnaaDoorZB
namespace Go.Proofs.YthiebcecflpbnaaDoor.E
open Go.RowKit Go.Proofs.YthiebcecflpbnaaDoorW.PrintWords Go.Proofs.YthiebcecflpbnaaDoorW.PrintLast Go.Proofs.YthiebcecflpbnaaDoorW.PrintMore
set_option linter.unusedVariables false
set_option linter.unusedSimpArgs false


def crcTab : List Nat := [0, 498536548, 997073096, 651767980, 1994146192, 1802195444, 1303535960, 1342533948, 3988292384, 4027552580, 3604390888, 3412177804, 2607071920, 2262029012, 2685067896, 3183342108]
def tabN (i : Nat) : Nat := crcTab.getD i 0
theorem tabN_lt (i : Nat) : tabN i < 4294967296 := by
  unfold tabN crcTab
  rcases Nat.lt_or_ge i 16 with h | h
  · have : ∀ j : Fin 16, [0, 498536548, 997073096, 651767980, 1994146192, 1802195444, 1303535960, 1342533948, 3988292384, 4027552580, 3604390888, 3412177804, 2607071920, 2262029012, 2685067896, 3183342108].getD j.val 0 < 4294967296 := by decide
    exact this ⟨i, h⟩
  · rw [List.getD_eq_getElem?_getD, List.getElem?_eq_none (by simpa using h)]
    decide
/-- The table of the program holds the sixteen numbers. -/
def Nib (w : World) : Prop := ∀ i : Nat, i < 16 → w.cell? ⟨0, i, none⟩ = some (.int .u32 (tabN i : Nat))
theorem Nib.below {w w1 : World} {B : Nat} (h : Nib w) (hB : 0 < B) (hb : Below B w w1) : Nib w1 := fun i hi => (hb.cell (p := ⟨0, i, none⟩) hB).trans (h i hi)
theorem Nib.pos {w : World} (h : Nib w) : 0 < w.heap.size := by
  have := World.block_lt_of_cell? w _ (h 0 (by decide))
  exact this
def nibStep (r x : Nat) : Nat := tabN ((r ^^^ x) &&& 15) ^^^ (r / 16)
theorem nibStep_lt (r x : Nat) (hr : r < 4294967296) : nibStep r x < 4294967296 := by
  unfold nibStep
  exact Nat.xor_lt_two_pow (n := 32) (tabN_lt _) (by omega)
def crcByte (r b : Nat) : Nat := nibStep (nibStep r b) (b / 16)
theorem crcByte_lt (r b : Nat) (hr : r < 4294967296) : crcByte r b < 4294967296 := nibStep_lt _ _ (nibStep_lt _ _ hr)
def crcN (l : List Nat) : Nat := l.foldl crcByte 4294967295
theorem crcN_lt (l : List Nat) : crcN l < 4294967296 := by
  have key : ∀ (l : List Nat) (r : Nat), r < 4294967296 → l.foldl crcByte r < 4294967296 := by
    intro l
    induction l with
    | nil => exact fun r h => h
    | cons b l ih => exact fun r h => ih _ (crcByte_lt r b h)
  exact key l _ (by decide)
theorem crcN_snoc (l : List Nat) (b : Nat) : crcN (l ++ [b]) = crcByte (crcN l) b := by simp [crcN, List.foldl_append]
def crcI (xs : List Int) : Int := ((4294967295 ^^^ crcN (xs.map Int.toNat) : Nat) : Int)

theorem crc_take (xs : List Int) (k : Nat) (h : k < xs.length) : crcN ((xs.take (k + 1)).map Int.toNat) = crcByte (crcN ((xs.take k).map Int.toNat)) (xs[k].toNat) := by
  rw [List.take_succ_eq_append_getElem h, List.map_append, List.map_cons, List.map_nil, crcN_snoc]

set_option maxHeartbeats 1000000 in
theorem crc_calls (A : Option Addr) (c : Nat) (xs : List Int) (w : World) (hr : (Kd.int .u8).C w A xs.length xs) (hx : ∀ x ∈ xs, 0 ≤ x ∧ x < 256) (hN : Nib w) :
    Calls Tryd.prog 55 #[.slice A xs.length c] w fun e w' => e = .returned (.int .u32 (crcI xs)) ∧ w = w' := by
  have hml : xs.length ≤ 9223372036854775807 := hr.2.1
  have HR := Aside0.mk hr
  have HX := Aside0.mk hx
  have HN := Aside0.mk hN
  clear hr hx hN
  go_enter Tryd.func55, Tryd.ntmps55
  go_wp2
  go_loop [3, 8] (fun r i => ∃ k : Nat, k ≤ xs.length ∧ i = .int .i64 k ∧ r = .int .u32 (crcN ((xs.take k).map Int.toNat) : Nat)) (fun _ i => xs.length - (intOf i).toNat)
  case atStart => exact ⟨0, Nat.zero_le _, rfl, rfl⟩
  case round =>
    obtain ⟨k, hk, rfl, rfl⟩ := hrel
    by_cases hlt : k < xs.length
    · have hcl : ∃ ad, A = some ad ∧ w.cell? (ad.add k) = some (.int .u8 xs[k]) := by
        obtain ⟨ad, e, hc⟩ := HR.out.2.2 (by omega)
        obtain ⟨cs, h1, h2, h3⟩ := hc k _ (List.getElem?_eq_getElem hlt)
        obtain rfl : cs = [.int .u8 xs[k]] := h2
        have := h3 0 _ rfl
        exact ⟨ad, e, by simpa [Kd.int, Kd.scalar] using this⟩
      obtain ⟨ad, rfl, hcell⟩ := hcl
      have hb0 := HX.out _ (List.getElem_mem hlt)
      have hst := crc_take xs k hlt
      have hrl := crcN_lt ((xs.take k).map Int.toNat)
      obtain ⟨b, hb⟩ : ∃ b : Nat, xs[k] = (b : Int) := ⟨xs[k].toNat, by omega⟩
      rw [hb] at hst hcell hb0
      rw [Int.toNat_natCast] at hst
      generalize crcN ((xs.take k).map Int.toNat) = r at hrl hst ⊢
      have hb2 : b < 256 := by omega
      clear hb hb0
      have f1 := u32_xor_nat r b hrl (by omega)
      have m1 : (r ^^^ b) &&& 15 < 16 := Nat.lt_succ_of_le Nat.and_le_right
      have f2 : bits .and .u32 ((r ^^^ b : Nat) : Int) 15 = (((r ^^^ b) &&& 15 : Nat) : Int) := u32_and_nat (r ^^^ b) 15 (Nat.xor_lt_two_pow (n := 32) hrl (by omega)) (by decide)
      have c1 := HN.out _ m1
      have f3 : bits .xor .u32 ((tabN ((r ^^^ b) &&& 15) : Nat) : Int) ((r : Int) / 16) = ((tabN ((r ^^^ b) &&& 15) ^^^ (r / 16) : Nat) : Int) := u32_xor_nat (tabN ((r ^^^ b) &&& 15)) (r / 16) (tabN_lt _) (by omega)
      have hs1 : nibStep r b = tabN ((r ^^^ b) &&& 15) ^^^ (r / 16) := rfl
      rw [← hs1] at f3
      have hsl := nibStep_lt r b hrl
      have hst2 : crcByte r b = nibStep (nibStep r b) (b / 16) := rfl
      rw [hst2] at hst
      clear hst2 hs1
      generalize (r ^^^ b) &&& 15 = m at *
      generalize r ^^^ b = rb at *
      generalize nibStep r b = s at *
      generalize tabN m = t at *
      have g1 : bits .xor .u32 (s : Int) ((b : Int) / 16) = ((s ^^^ (b / 16) : Nat) : Int) := u32_xor_nat s (b / 16) hsl (by omega)
      have m2 : (s ^^^ (b / 16)) &&& 15 < 16 := Nat.lt_succ_of_le Nat.and_le_right
      have g2 : bits .and .u32 ((s ^^^ (b / 16) : Nat) : Int) 15 = (((s ^^^ (b / 16)) &&& 15 : Nat) : Int) := u32_and_nat (s ^^^ (b / 16)) 15 (Nat.xor_lt_two_pow (n := 32) hsl (by omega)) (by decide)
      have c2 := HN.out _ m2
      have g3 : bits .xor .u32 ((tabN ((s ^^^ (b / 16)) &&& 15) : Nat) : Int) ((s : Int) / 16) = ((tabN ((s ^^^ (b / 16)) &&& 15) ^^^ (s / 16) : Nat) : Int) := u32_xor_nat (tabN ((s ^^^ (b / 16)) &&& 15)) (s / 16) (tabN_lt _) (by omega)
      have hs2 : nibStep s (b / 16) = tabN ((s ^^^ (b / 16)) &&& 15) ^^^ (s / 16) := rfl
      rw [← hs2] at g3
      clear hs2
      generalize nibStep s (b / 16) = s2 at *
      generalize (s ^^^ (b / 16)) &&& 15 = n at *
      generalize s ^^^ (b / 16) = sb at *
      generalize tabN n = t2 at *
      have HS := Aside0.mk hst
      clear hst
      go_wp2
      all_goals
        go_round
        case rel => exact ⟨k + 1, by omega, by go_num, by rw [HS.out]⟩
        case measure => simp [intOf]; omega
    · go_wp2
      go_ret
      go_light
      refine ⟨?_, rfl⟩
      obtain rfl : k = xs.length := by omega
      refine ret_int ?_
      rw [List.take_of_length_le (by simp)]
      exact u32_xor_nat 4294967295 _ (by decide) (crcN_lt _)
end Go.Proofs.YthiebcecflpbnaaDoor.E
