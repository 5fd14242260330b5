/- For every command, in whatever memory where the listed table reads as listed: the law of EncodeCall answers true; the command and the table read as before. -/
import Derived.Test.YthiebcecflpbnaaDoorCB
import Derived.Test.YthiebcecflpbnaaDoorCards
import Derived.Test.YthiebcecflpbnaaDoorTie
import Derived.ProofKit
import Derived.LaidMore
import Derived.OpenShut
import Derived.OpenVars
import Derived.Stop.Joined
import Derived.Lib.LaidTab
import Derived.SevenTiedAt
namespace Go.Proofs.YthiebcecflpbnaaDoor
namespace RowCall
open Go.ChangeShapes Go.WideShapes Go.ChangeAt Go.WideMaps Go.WideElems Go.RowKit

theorem own : ownKnob Tryd.prog.godebug = none := by kernel_rfl
theorem laidOut : laidOutB Tryd.prog = true := by kernel_rfl
theorem gN : Tryd.prog.globalNamed "loop.example/s01586/impl.nibbles" = some 0 := by kernel_rfl
theorem gT : (Tryd.prog.globals[0]?).map (·.type) = some 114 := by kernel_rfl
theorem cells98 : Tryd.prog.cellsOf 98 = 1 := by kernel_rfl
theorem cells114 : Tryd.prog.cellsOf 114 = 16 := by kernel_rfl
abbrev laid1 : List (String × DataW Unit) := [("loop.example/s01586/impl.nibbles", Rows.laid_loop_example_s01586_impl_nibbles)]
def tabZ : List Int := E.crcTab.map (fun n : Nat => (n : Int))
theorem door_met (os : Os) (args : Array Value) : laidMetH Tryd.prog laid1 ((World.doorLaid Tryd.prog 400 os).forCall (fun _ _ => 0) ⟨#[], args, []⟩).memory :=
  laidMetH_of_parts3 (fuel := 8) (laidMet_of_run' 8 (by kernel_rfl) (by kernel_rfl)) (by kernel_rfl) (by kernel_rfl)
theorem nib_of_laid {W : World} (h : laidMetH Tryd.prog laid1 W) : E.Nib W := by
  rw [MakeChecks.laidMetH_plain _ _ _ (by kernel_rfl)] at h
  have h' : laidMet Tryd.prog [("loop.example/s01586/impl.nibbles", Lib.tabData .u32 tabZ)] W := h
  have hT := Lib.tabIs_of_head gN gT Tryd.underlying114 Tryd.underlying98 cells98 cells114 h'
  intro i hi
  rw [hT.cell gN i (by simpa [tabZ, E.crcTab] using hi)]
  have hz : tabZ.getD i 0 = ((E.tabN i : Nat) : Int) := by
    unfold tabZ E.tabN
    simp only [List.getD_eq_getElem?_getD, List.getElem?_map]
    have : i < E.crcTab.length := by simpa [E.crcTab] using hi
    simp [List.getElem?_eq_getElem this]
  rw [hz]
set_option maxRecDepth 100000 in
theorem open6 {H : Type} {enc : TypeId × Value → H} {W : World} {base : Nat} {v : Value} {d : DataW H} {p : List MemPlace} (hv : Value.okWide Tryd.prog W .any base 33 v) (h : DataW.Trod enc Tryd.prog W 0 (fun _ => true) true 33 v d p) :
    ∃ (a0 a1 a2 : Int) (a3 a4 a5 : ByteArray), v = .agg #[.int .i64 a0, .int .i64 a1, .int .i64 a2, .string a3, .string a4, .string a5] := by
  obtain ⟨cs, rfl, hsz⟩ := okWide_struct Tryd.underlying33 hv
  obtain ⟨fuel, hf⟩ := h
  obtain ⟨xs, n, rfl, hx, hl, hxl, hel⟩ := DataW.trod_struct Tryd.underlying33 hf
  have c6 : Tryd.prog.cellsOf 33 = 6 := by kernel_rfl
  have k3 : Tryd.prog.cellsOf 3 = 1 := by kernel_rfl
  have k9 : Tryd.prog.cellsOf 9 = 1 := by kernel_rfl
  rw [c6] at hsz
  obtain ⟨l⟩ := cs
  obtain ⟨c0, c1, c2, c3, c4, c5, rfl⟩ : ∃ c0 c1 c2 c3 c4 c5, l = [c0, c1, c2, c3, c4, c5] := by
    match l, hsz with
    | [a, b, c, d, e, f], _ => exact ⟨a, b, c, d, e, f, rfl⟩
  obtain ⟨x0, x1, x2, x3, x4, x5, rfl⟩ : ∃ x0 x1 x2 x3 x4 x5, xs = [x0, x1, x2, x3, x4, x5] := by
    match xs, hxl with
    | [a, b, c, d, e, f], _ => exact ⟨a, b, c, d, e, f, rfl⟩
  have e0 := hel 0 _ rfl
  have e1 := hel 1 _ rfl
  have e2 := hel 2 _ rfl
  have e3 := hel 3 _ rfl
  have e4 := hel 4 _ rfl
  have e5 := hel 5 _ rfl
  simp [Value.cells, k3, k9] at e0 e1 e2 e3 e4 e5
  obtain ⟨a0, g0, _⟩ := DataW.trod_int Tryd.underlying3 e0
  obtain ⟨a1, g1, _⟩ := DataW.trod_int Tryd.underlying3 e1
  obtain ⟨a2, g2, _⟩ := DataW.trod_int Tryd.underlying3 e2
  obtain ⟨a3, g3, _⟩ := DataW.trod_string Tryd.underlying9 e3
  obtain ⟨a4, g4, _⟩ := DataW.trod_string Tryd.underlying9 e4
  obtain ⟨a5, g5, _⟩ := DataW.trod_string Tryd.underlying9 e5
  simp at g0 g1 g2 g3 g4 g5
  subst g0 g1 g2 g3 g4 g5
  exact ⟨a0, a1, a2, a3, a4, a5, rfl⟩

set_option maxRecDepth 100000 in
theorem lifted (os : Os) (started : os.Started) (H : Type) (enc : TypeId × Value → H) :
    ReturnsInHanded {} Tryd.checked os 4 .any (fun w args => (Rows.fnExactEncodeCallSpec.pre enc Tryd.prog Tryd.f4 [] false w args ∧ laidMetH Tryd.prog laid1 w) ∧ sizedMet enc Tryd.prog Tryd.f4 (OpenSpec.ofChange Rows.fnExactEncodeCallSpec) false w args)
      (Rows.fnExactEncodeCallSpec.post enc Tryd.prog Tryd.f4 false true false false) := by
  refine returnsInHanded_of_change_and (C := Tryd.checked) (X := fun w _ => laidMetH Tryd.prog laid1 w) (fun _ _ _ hh h => h.of_heap hh) own started (by kernel_rfl) Tryd.func4
    (ChangeSpec.witness_shaped (enc := enc) (C := Tryd.checked) (os := os) (X := fun w _ => laidMetH Tryd.prog laid1 w) false (World.doorLaid Tryd.prog 400 os) #[.agg #[.int .i64 0, .int .i64 0, .int .i64 0, .string ByteArray.empty, .string ByteArray.empty, .string ByteArray.empty]] 8 rfl (World.shaped_of_RefB (by kernel_rfl) (by kernel_rfl)) (by kernel_rfl) (by kernel_rfl) (by kernel_rfl) (door_met os _)) ?_
  intro W base args ds gs before hval0 hW _ _ hL _
  have hval : ∀ (j : Nat) t v, Tryd.f4.params[j]? = some t → args[j]? = some v → Value.okWide Tryd.prog W .any base t v := hval0
  have hW' := hW
  obtain ⟨p, q, hA0, hV, rfl, hfz, hnd⟩ := hW
  have hA : DataW.TrodAll enc Tryd.prog W 0 (fun _ => true) true Tryd.f4.params.toList args.toList ds p := hA0
  rw [Tryd.params4] at hA hval
  obtain ⟨v0, d0, rfl, rfl, h0⟩ := trodAll_one hA
  have k0 := h0
  have lt0 : ∀ x ∈ p, x.block < W.heap.size := by obtain ⟨m, hm⟩ := k0; exact DataW.trod_lt m _ _ _ hm
  obtain ⟨a0, a1, a2, a3, a4, a5, rfl⟩ := open6 (hval 0 33 v0 rfl rfl) h0
  have hN := nib_of_laid hL
  have hV2 : DataW.TrodVars enc Tryd.prog W (fun _ => true) ["loop.example/s01586/impl.nibbles"] gs q := hV
  obtain ⟨_, _, _, _, dg, _, rfl, _⟩ := trodVars_one hV2
  clear hA0 hval0
  refine (PFnExactEncodeCall.laws_FnExactEncodeCall.calls 20000 a0 a1 a2 a3 a4 a5 true W hN (PFnExactEncodeCall.pure a0 a1 a2 a3 a4 a5)).mono fun e W' ⟨he, bel⟩ => ?_
  subst he
  exact ⟨_, rfl, _, _, _, [], _, q, hW', trodAll_mk1 (shut_bool Tryd.underlying4 _), trodAll_mk1 (Below.trod laidOut (by kernel_rfl) (of_decide_eq_true (by kernel_rfl)) k0 bel lt0), Below.trodVars laidOut bel (by kernel_rfl) hV, bel.frame _, fun h => by cases h⟩
theorem row : Rows.FnExactEncodeCallSaid :=
  OpenClaim.holds_of_wide 4 Tryd.f4 rfl rfl rfl rfl rfl rfl rfl ⟨rfl, rfl, rfl, rfl, rfl⟩ rfl rfl rfl rfl rfl (by kernel_rfl) Tryd.func4 (by kernel_rfl)
    (of_decide_eq_true (by kernel_rfl)) (by unfold Func.isWrapper; first | (rw [if_pos (by decide +kernel)]; kernel_rfl) | (rw [if_neg (by decide +kernel)]; exact ⟨rfl, rfl⟩))
    (fun os started H enc _ => lifted os started H enc)
theorem card_holds : Rows.FnExactEncodeCallCardSaid :=
  Claim7.holds_tied_plain_at .later [] [.data] true (true, "f1920cc5b64af87ceb7e397994734ae8dc2b4587187861ee4dd4cfd29b099aee") true
    row (fun _ h => by cases h) (by kernel_rfl) (fun _ h => by cases h) fnExactEncodeCall_row_tie rfl ⟨rfl, rfl⟩ (by kernel_rfl) rfl
    (fun f fn hf hfn => by
      obtain rfl : f = 4 := Option.some.inj ((show Tryd.prog.funcNamed "loop.example/s01586/laws.FnExactEncodeCall" = some 4 by kernel_rfl).symm.trans hf) |>.symm
      obtain rfl : fn = Tryd.f4 := (Option.some.inj (Tryd.func4.symm.trans hfn)).symm
      exact ⟨by kernel_rfl, fun j t ht => by
        rw [Tryd.params4] at ht
        have hm : t ∈ [33] := by simpa using Array.mem_of_getElem? ht
        have hall : ([33].all fun u => !Tryd.prog.wantsStandIn u) = true := by kernel_rfl
        exact (show Tryd.prog.wantsStandIn t = false by simpa using List.all_eq_true.1 hall t hm)⟩)
    (by kernel_rfl)
#print axioms card_holds
end RowCall
theorem fnExactEncodeCall_card_holds : Rows.FnExactEncodeCallCardSaid := RowCall.card_holds
end Go.Proofs.YthiebcecflpbnaaDoor
