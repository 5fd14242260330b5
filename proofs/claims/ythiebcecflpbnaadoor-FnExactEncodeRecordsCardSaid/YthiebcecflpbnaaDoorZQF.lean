/- For all records, in whatever memory where the listed table reads as listed: the law of EncodeRecords answers true; the records and the table read as before. -/
import Derived.Test.YthiebcecflpbnaaDoorZQD
import Derived.Test.YthiebcecflpbnaaDoorZQE
import Derived.Test.YthiebcecflpbnaaDoorCards
import Derived.Test.YthiebcecflpbnaaDoorTie
import Derived.ProofKit
import Derived.LaidMore
import Derived.OpenShut
import Derived.OpenVars
import Derived.Stop.Joined
import Derived.Lib.LaidTab
import Derived.SevenTiedAt
namespace Go.Proofs.YthiebcecflpbnaaDoor
namespace RowRecs
open Go.ChangeShapes Go.WideShapes Go.ChangeAt Go.WideMaps Go.WideElems Go.RowKit

theorem own : ownKnob Tryd.prog.godebug = none := by kernel_rfl
theorem laidOut : laidOutB Tryd.prog = true := by kernel_rfl
theorem gN : Tryd.prog.globalNamed "loop.example/s01586/impl.nibbles" = some 0 := by kernel_rfl
theorem gT : (Tryd.prog.globals[0]?).map (·.type) = some 114 := by kernel_rfl
theorem cells98 : Tryd.prog.cellsOf 98 = 1 := by kernel_rfl
theorem cells114 : Tryd.prog.cellsOf 114 = 16 := by kernel_rfl
abbrev laid1 : List (String × DataW Unit) := [("loop.example/s01586/impl.nibbles", Rows.laid_loop_example_s01586_impl_nibbles)]
def tabZ : List Int := E.crcTab.map (fun n : Nat => (n : Int))
theorem door_met (os : Os) (args : Array Value) : laidMetH Tryd.prog laid1 ((World.doorLaid Tryd.prog 400 os).forCall (fun _ _ => 0) ⟨#[], args, []⟩).memory :=
  laidMetH_of_parts3 (fuel := 8) (laidMet_of_run' 8 (by kernel_rfl) (by kernel_rfl)) (by kernel_rfl) (by kernel_rfl)
theorem nib_of_laid {W : World} (h : laidMetH Tryd.prog laid1 W) : E.Nib W := by
  rw [MakeChecks.laidMetH_plain _ _ _ (by kernel_rfl)] at h
  have h' : laidMet Tryd.prog [("loop.example/s01586/impl.nibbles", Lib.tabData .u32 tabZ)] W := h
  have hT := Lib.tabIs_of_head gN gT Tryd.underlying114 Tryd.underlying98 cells98 cells114 h'
  intro i hi
  rw [hT.cell gN i (by simpa [tabZ, E.crcTab] using hi)]
  have hz : tabZ.getD i 0 = ((E.tabN i : Nat) : Int) := by
    unfold tabZ E.tabN
    simp only [List.getD_eq_getElem?_getD, List.getElem?_map]
    have : i < E.crcTab.length := by simpa [E.crcTab] using hi
    simp [List.getElem?_eq_getElem this]
  rw [hz]
set_option maxRecDepth 100000 in
theorem lifted (os : Os) (started : os.Started) (H : Type) (enc : TypeId × Value → H) :
    ReturnsInHanded {} Tryd.checked os 6 .any (fun w args => (Rows.fnExactEncodeRecordsSpec.pre enc Tryd.prog Tryd.f6 [] false w args ∧ laidMetH Tryd.prog laid1 w) ∧ sizedMet enc Tryd.prog Tryd.f6 (OpenSpec.ofChange Rows.fnExactEncodeRecordsSpec) false w args)
      (Rows.fnExactEncodeRecordsSpec.post enc Tryd.prog Tryd.f6 false true false false) := by
  refine returnsInHanded_of_change_and (C := Tryd.checked) (X := fun w _ => laidMetH Tryd.prog laid1 w) (fun _ _ _ hh h => h.of_heap hh) own started (by kernel_rfl) Tryd.func6
    (ChangeSpec.witness_shaped (enc := enc) (C := Tryd.checked) (os := os) (X := fun w _ => laidMetH Tryd.prog laid1 w) false (World.doorLaid Tryd.prog 400 os) #[.slice none 0 0] 8 rfl (World.shaped_of_RefB (by kernel_rfl) (by kernel_rfl)) (by kernel_rfl) (by kernel_rfl) (by kernel_rfl) (door_met os _)) ?_
  intro W base args ds gs before hval0 hW _ _ hL _
  have hval : ∀ (j : Nat) t v, Tryd.f6.params[j]? = some t → args[j]? = some v → Value.okWide Tryd.prog W .any base t v := hval0
  have hW' := hW
  obtain ⟨p, q, hA0, hV, rfl, hfz, hnd⟩ := hW
  have hA : DataW.TrodAll enc Tryd.prog W 0 (fun _ => true) true Tryd.f6.params.toList args.toList ds p := hA0
  rw [Tryd.params6] at hA hval
  obtain ⟨v0, d0, rfl, rfl, h0⟩ := trodAll_one hA
  have k0 := h0
  have lt0 : ∀ x ∈ p, x.block < W.heap.size := by obtain ⟨m, hm⟩ := k0; exact DataW.trod_lt m _ _ _ hm
  obtain ⟨A, l, c, rfl, hC, hc⟩ := PFnExactEncodeRecords.open51 (hval 0 51 v0 rfl rfl) h0
  have hN := nib_of_laid hL
  have hV2 : DataW.TrodVars enc Tryd.prog W (fun _ => true) ["loop.example/s01586/impl.nibbles"] gs q := hV
  obtain ⟨_, _, _, _, dg, _, rfl, _⟩ := trodVars_one hV2
  clear hA0 hval0
  refine (PFnExactEncodeRecords.laws_FnExactEncodeRecords.calls 5000000 A c l true W hN hC hc (PFnExactEncodeRecords.pure l hC.2.1)).mono fun e W' ⟨he, bel⟩ => ?_
  subst he
  exact ⟨_, rfl, _, _, _, [], _, q, hW', trodAll_mk1 (shut_bool Tryd.underlying4 _), trodAll_mk1 (Below.trod laidOut (by kernel_rfl) (of_decide_eq_true (by kernel_rfl)) k0 bel lt0), Below.trodVars laidOut bel (by kernel_rfl) hV, bel.frame _, fun h => by cases h⟩
theorem row : Rows.FnExactEncodeRecordsSaid :=
  OpenClaim.holds_of_wide 6 Tryd.f6 rfl rfl rfl rfl rfl rfl rfl ⟨rfl, rfl, rfl, rfl, rfl⟩ rfl rfl rfl rfl rfl (by kernel_rfl) Tryd.func6 (by kernel_rfl)
    (of_decide_eq_true (by kernel_rfl)) (by unfold Func.isWrapper; first | (rw [if_pos (by decide +kernel)]; kernel_rfl) | (rw [if_neg (by decide +kernel)]; exact ⟨rfl, rfl⟩))
    (fun os started H enc _ => lifted os started H enc)
theorem card_holds : Rows.FnExactEncodeRecordsCardSaid :=
  Claim7.holds_tied_plain_at .later [] [.data] true (true, "f1920cc5b64af87ceb7e397994734ae8dc2b4587187861ee4dd4cfd29b099aee") true
    row (fun _ h => by cases h) (by kernel_rfl) (fun _ h => by cases h) fnExactEncodeRecords_row_tie rfl ⟨rfl, rfl⟩ (by kernel_rfl) rfl
    (fun f fn hf hfn => by
      obtain rfl : f = 6 := Option.some.inj ((show Tryd.prog.funcNamed "loop.example/s01586/laws.FnExactEncodeRecords" = some 6 by kernel_rfl).symm.trans hf) |>.symm
      obtain rfl : fn = Tryd.f6 := (Option.some.inj (Tryd.func6.symm.trans hfn)).symm
      exact ⟨by kernel_rfl, fun j t ht => by
        rw [Tryd.params6] at ht
        have hm : t ∈ [51] := by simpa using Array.mem_of_getElem? ht
        have hall : ([51].all fun u => !Tryd.prog.wantsStandIn u) = true := by kernel_rfl
        exact (show Tryd.prog.wantsStandIn t = false by simpa using List.all_eq_true.1 hall t hm)⟩)
    (by kernel_rfl)
#print axioms card_holds
end RowRecs
theorem fnExactEncodeRecords_card_holds : Rows.FnExactEncodeRecordsCardSaid := RowRecs.card_holds
end Go.Proofs.YthiebcecflpbnaaDoor
