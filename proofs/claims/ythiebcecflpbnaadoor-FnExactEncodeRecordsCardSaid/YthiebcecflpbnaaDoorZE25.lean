/- EncodeRecords. -/
import Derived.Test.YthiebcecflpbnaaDoorZE24
namespace Go.Proofs.YthiebcecflpbnaaDoor.E
open Go.RowKit Go.Proofs.YthiebcecflpbnaaDoorW.PrintWords Go.Proofs.YthiebcecflpbnaaDoorW.PrintLast Go.Proofs.YthiebcecflpbnaaDoorW.PrintMore
set_option linter.unusedVariables false
set_option linter.unusedSimpArgs false

theorem encRec_len (r : Rec) : (encRec r).length ≤ 250 := by
  unfold encRec
  split
  · have h := recB_len r (recOk_of r ‹_›)
    simp [frameB, leI]
    omega
  · simp
def recsB (rs : List Rec) : List Int := rs.flatMap encRec
theorem recsB_len (rs : List Rec) : (recsB rs).length ≤ 250 * rs.length := by
  induction rs with
  | nil => simp [recsB]
  | cons r rs ih =>
    have := encRec_len r
    simp only [recsB, List.flatMap_cons, List.length_append, List.length_cons] at ih ⊢
    omega
theorem recsB_take (rs : List Rec) (k : Nat) (h : k < rs.length) : recsB (rs.take (k + 1)) = recsB (rs.take k) ++ encRec rs[k] := by
  unfold recsB
  rw [List.take_succ_eq_append_getElem h, List.flatMap_append, List.flatMap_cons, List.flatMap_nil, List.append_nil]
def encRecs (rs : List Rec) : List Int := if recsOk rs = true then recsB rs else []
set_option maxHeartbeats 2000000 in
set_option maxRecDepth 100000 in
theorem encodeRecords_calls (A : Option Addr) (c : Nat) (rs : List Rec) (w : World) (hE : RecsR w A rs) (hl : rs.length ≤ 9223372036854775807) (hN : Nib w) :
    Calls Tryd.prog 27 #[.slice A rs.length c] w (Made w (encRecs rs)) := by
  have HE := Aside0.mk hE
  have HN := Aside0.mk hN
  clear hE hN
  obtain ⟨ok, hok, HOK⟩ : ∃ b, recsOk rs = b ∧ Aside0 (recsOk rs = b) := ⟨_, rfl, ⟨rfl⟩⟩
  cases ok
  · go_enter Tryd.func27, Tryd.ntmps27
    (repeat (any_goals (first | (go_at_call 47; refine (recordsOk_impl A c rs _ HE.out hl).mono ?_; rintro e w1 ⟨rfl, hb⟩; have HB1 := Aside0.mk hb; clear hb; rw [HOK.out]; dsimp only) | go_values | go_skip | go_guarded | go_step | go_upon)))
    go_ret
    have : encRecs rs = [] := by unfold encRecs; rw [HOK.out]; rfl
    rw [this]
    exact made_nil HB1.out
  · have h8 : rs.length ≤ 8192 := by
      have := hok
      simp only [recsOk, Bool.and_eq_true, decide_eq_true_eq] at this
      exact this.1
    have HEQ : Aside0 (encRecs rs = recsB rs) := ⟨by unfold encRecs; rw [HOK.out]; rfl⟩
    rw [HEQ.out]
    clear hok
    go_enter Tryd.func27, Tryd.ntmps27
    (repeat (any_goals (first | (go_at_call 47; refine (recordsOk_impl A c rs _ HE.out hl).mono ?_; rintro e w1 ⟨rfl, hb⟩; have HB1 := Aside0.mk hb; clear hb; rw [HOK.out]; dsimp only) | go_values | go_skip | go_guarded | go_step | go_upon)))
    go_loopw [3, 4, 11] (fun v3 v4 i wr => ∃ (k : Nat), k ≤ rs.length ∧ i = .int .i64 k ∧ Aside0 ((Kd.int .u8).R 5 wr w.heap.size (fun _ => True) v3 (recsB (rs.take k))) ∧ Aside0 (Below w.heap.size w wr)) (fun _ _ i _ => rs.length - (intOf i).toNat)
    case atStart => exact ⟨0, Nat.zero_le _, rfl, ⟨by rw [List.take_zero]; exact Kd.R_nil _ _ _ _ _⟩, HB1⟩
    case round =>
      obtain ⟨k, hk, rfl, HO, HB⟩ := hrel
      by_cases hlt : k < rs.length
      · obtain ⟨ad, hA, R⟩ := HE.out.below HB.out k hlt
        subst hA
        have HRk := Aside0.mk R
        have HT := Aside0.mk (recsB_take rs k hlt)
        have hlen : (recsB (rs.take k)).length ≤ 250 * 8192 := by
          have h3 := recsB_len (rs.take k)
          have h4 : (rs.take k).length = k := by rw [List.length_take]; omega
          omega
        have hNk := HN.out.below HN.out.pos HB.out
        have HNk := Aside0.mk hNk
        have hszr : w.heap.size ≤ wr.heap.size := HB.out.size
        clear R hNk
        generalize rs[k] = r at *
        have hrl := encRec_len r
        generalize recsB (rs.take k) = pre at *
        (repeat (any_goals (first | (go_at_call 34; refine (encode_rec r _ _ HRk.out HNk.out).mono ?_; intro e w2 hm; obtain ⟨v2, rfl, hr2, hb2⟩ := hm; obtain ⟨A6, n6, c6, e6_⟩ := slice3 (Kd.R_slice hr2); subst e6_; have hn6 := (Kd.R_reads' hr2).1; have HC6 : Aside0 ((Kd.int .u8).C w2 A6 n6 (encRec r)) := ⟨by rw [hn6]; exact (Kd.R_reads' hr2).2.2⟩; have HN6 := Aside0.mk hn6; clear hn6; have HB2 := Aside0.mk (below_step HB.out hb2); have HO2 := Aside0.mk (Kd.R_below HO.out hb2); have hsz2 : w.heap.size ≤ w2.heap.size := HB2.out.size; clear hr2 hb2; dsimp only) | ((with_reducible refine gate_builtin (b := .append) (xs := #[.tmp 14, .tmp 19]) rfl ?_); at_builtin; refine Kd.R_append_rows (Kd.int .u8) (w0 := w) w.heap.size rfl (.tmp 14) (.tmp 19) 25 5 (.int .u8 0) 1 rfl Tryd.underlying25 info5 rfl (by decide) (by omega) u3 pre (encRec r) A6 n6 c6 (fun _ => True) (fun _ => False) rfl rfl HO2.out HC6.out (fun _ _ h => h) (fun _ h => h.elim) (fun _ _ => trivial) HB2.out hsz2 (by have := HN6.out; omega) ?_; intro v8 w8 ho8 hb8 _ _; have HO8 := Aside0.mk ho8; have HB8 := Aside0.mk hb8; clear ho8 hb8) | go_values | go_skip | go_guarded | go_step | go_upon)))
        go_roundw
        case rel => exact ⟨k + 1, by omega, by go_num, ⟨by rw [HT.out]; exact HO8.out⟩, HB8⟩
        case measure => simp [intOf]; omega
      · (repeat (any_goals (first | (fail) | go_values | go_skip | go_guarded | go_step | go_upon)))
        go_ret
        obtain rfl : k = rs.length := by omega
        refine ⟨_, rfl, ?_, HB.out⟩
        have := HO.out
        rwa [List.take_of_length_le (Nat.le_refl _)] at this
end Go.Proofs.YthiebcecflpbnaaDoor.E
