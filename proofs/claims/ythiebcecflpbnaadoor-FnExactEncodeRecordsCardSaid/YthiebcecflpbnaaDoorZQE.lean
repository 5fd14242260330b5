/- Records that came in, opened. -/
import Derived.Test.YthiebcecflpbnaaDoorZPFnExactEncodeRecordsx0
import Derived.ProofKit
import Derived.WideShapes
import Derived.Deep.Slices
import Derived.ChangeSlices
namespace Go.Proofs.YthiebcecflpbnaaDoor.PFnExactEncodeRecords
open Go.ChangeShapes Go.WideShapes Go.ChangeAt Go.WideMaps Go.WideElems Go.RowKit Go.Deep
open Go.Proofs.YthiebcecflpbnaaDoorW.PrintWords Go.Proofs.YthiebcecflpbnaaDoorW.PrintLast Go.Proofs.YthiebcecflpbnaaDoorW.PrintMore
instance : Inhabited S87 := ⟨z87⟩
theorem cl3 : Tryd.prog.cellsOf 3 = 1 := by kernel_rfl
theorem cl9 : Tryd.prog.cellsOf 9 = 1 := by kernel_rfl
theorem cl33 : Tryd.prog.cellsOf 33 = 6 := by kernel_rfl
theorem cl87 : Tryd.prog.cellsOf 87 = 11 := by kernel_rfl
theorem cl85 : Tryd.prog.cellsOf 85 = 7 := by kernel_rfl
set_option maxRecDepth 100000 in
theorem entry_cells {H : Type} {enc : TypeId × Value → H} {W : World} {spare : Nat → Bool} {held : Bool} {n : Nat} {cs : List Value} {x : DataW H × List MemPlace} (h : DataW.trod enc Tryd.prog W 0 spare held n 85 cs = some x) :
    ∃ s : S85, cs = [.int .i64 s.f0, .int .i64 s.f1.f0, .int .i64 s.f1.f1, .int .i64 s.f1.f2, .string s.f1.f3, .string s.f1.f4, .string s.f1.f5] := by
  obtain ⟨xs, m, rfl, hx, hl, hxl, hel⟩ := DataW.trod_struct Tryd.underlying85 h
  rw [cl85] at hl
  obtain ⟨c0, c1, c2, c3, c4, c5, c6, rfl⟩ : ∃ c0 c1 c2 c3 c4 c5 c6, cs = [c0, c1, c2, c3, c4, c5, c6] := by
    match cs, hl with
    | [a, b, c, d, e, f, g], _ => exact ⟨a, b, c, d, e, f, g, rfl⟩
  obtain ⟨x0, x1, rfl⟩ : ∃ x0 x1, xs = [x0, x1] := by
    match xs, hxl with
    | [a, b], _ => exact ⟨a, b, rfl⟩
  have e0 := hel 0 _ rfl
  have e1 := hel 1 _ rfl
  simp [cl3, cl33] at e0 e1
  obtain ⟨a0, g0, _⟩ := DataW.trod_int Tryd.underlying3 e0
  obtain ⟨ys, m', rfl, hy, hyl, hyxl, hyel⟩ := DataW.trod_struct Tryd.underlying33 e1
  obtain ⟨y0, y1, y2, y3, y4, y5, rfl⟩ : ∃ y0 y1 y2 y3 y4 y5, ys = [y0, y1, y2, y3, y4, y5] := by
    match ys, hyxl with
    | [a, b, c, d, e, f], _ => exact ⟨a, b, c, d, e, f, rfl⟩
  have d0 := hyel 0 _ rfl
  have d1 := hyel 1 _ rfl
  have d2 := hyel 2 _ rfl
  have d3 := hyel 3 _ rfl
  have d4 := hyel 4 _ rfl
  have d5 := hyel 5 _ rfl
  simp [cl3, cl9] at d0 d1 d2 d3 d4 d5
  obtain ⟨b0, f0, _⟩ := DataW.trod_int Tryd.underlying3 d0
  obtain ⟨b1, f1, _⟩ := DataW.trod_int Tryd.underlying3 d1
  obtain ⟨b2, f2, _⟩ := DataW.trod_int Tryd.underlying3 d2
  obtain ⟨b3, f3, _⟩ := DataW.trod_string Tryd.underlying9 d3
  obtain ⟨b4, f4, _⟩ := DataW.trod_string Tryd.underlying9 d4
  obtain ⟨b5, f5, _⟩ := DataW.trod_string Tryd.underlying9 d5
  simp at g0 f0 f1 f2 f3 f4 f5
  subst g0 f0 f1 f2 f3 f4 f5
  exact ⟨⟨a0, ⟨b0, b1, b2, b3, b4, b5⟩⟩, rfl⟩
set_option maxRecDepth 100000 in
theorem record_cells {H : Type} {enc : TypeId × Value → H} {W : World} {spare : Nat → Bool} {held : Bool} {n : Nat} {cs : List Value} {x : DataW H × List MemPlace} (h : DataW.trod enc Tryd.prog W 0 spare held n 87 cs = some x) :
    ∃ s : S87, cs = [.int .i64 s.f0, .int .i64 s.f1, .int .i64 s.f2, .int .i64 s.f3, .int .i64 s.f4.f0, .int .i64 s.f4.f1.f0, .int .i64 s.f4.f1.f1, .int .i64 s.f4.f1.f2, .string s.f4.f1.f3, .string s.f4.f1.f4, .string s.f4.f1.f5] := by
  obtain ⟨xs, m, rfl, hx, hl, hxl, hel⟩ := DataW.trod_struct Tryd.underlying87 h
  rw [cl87] at hl
  obtain ⟨c0, c1, c2, c3, c4, c5, c6, c7, c8, c9, c10, rfl⟩ : ∃ c0 c1 c2 c3 c4 c5 c6 c7 c8 c9 c10, cs = [c0, c1, c2, c3, c4, c5, c6, c7, c8, c9, c10] := by
    match cs, hl with
    | [a, b, c, d, e, f, g, h, i, j, k], _ => exact ⟨a, b, c, d, e, f, g, h, i, j, k, rfl⟩
  obtain ⟨x0, x1, x2, x3, x4, rfl⟩ : ∃ x0 x1 x2 x3 x4, xs = [x0, x1, x2, x3, x4] := by
    match xs, hxl with
    | [a, b, c, d, e], _ => exact ⟨a, b, c, d, e, rfl⟩
  have e0 := hel 0 _ rfl
  have e1 := hel 1 _ rfl
  have e2 := hel 2 _ rfl
  have e3 := hel 3 _ rfl
  have e4 := hel 4 _ rfl
  simp [cl3, cl85] at e0 e1 e2 e3 e4
  obtain ⟨a0, g0, _⟩ := DataW.trod_int Tryd.underlying3 e0
  obtain ⟨a1, g1, _⟩ := DataW.trod_int Tryd.underlying3 e1
  obtain ⟨a2, g2, _⟩ := DataW.trod_int Tryd.underlying3 e2
  obtain ⟨a3, g3, _⟩ := DataW.trod_int Tryd.underlying3 e3
  obtain ⟨s, g4⟩ := entry_cells e4
  simp at g0 g1 g2 g3 g4
  obtain ⟨r0, r1, r2, r3, r4, r5, r6⟩ := g4
  subst g0 g1 g2 g3 r0 r1 r2 r3 r4 r5 r6
  exact ⟨⟨a0, a1, a2, a3, s⟩, rfl⟩
/-- A slice of records that came in. -/
theorem open_records {H : Type} {enc : TypeId × Value → H} {W : World} {held : Bool} {n : Nat} {cs : List Value} {x : DataW H × List MemPlace} (h : DataW.trod enc Tryd.prog W 0 (fun _ => true) held n 51 cs = some x) :
    ∃ (A : Option Addr) (l : List S87) (c : Nat), cs = [.slice A l.length c] ∧ Kd.C k87 W A l.length l ∧ l.length ≤ c := by
  rcases open_slice Tryd.underlying51 h with ⟨rfl, _⟩ | ⟨a, len, cap, m, n', D, Pl, rfl, hb, hl, hm, hmm, hx, hel⟩
  · exact ⟨none, [], 0, rfl, Kd.C_nil _ _, by simp⟩
  · have hmm' : m = cap := by simpa using hmm
    rw [cl87] at hel
    have hs : ∀ i, i < len → ∃ s : S87, ∀ j u, [Value.int .i64 s.f0, .int .i64 s.f1, .int .i64 s.f2, .int .i64 s.f3, .int .i64 s.f4.f0, .int .i64 s.f4.f1.f0, .int .i64 s.f4.f1.f1, .int .i64 s.f4.f1.f2, .string s.f4.f1.f3, .string s.f4.f1.f4, .string s.f4.f1.f5][j]? = some u → W.cell? (a.add (i * 11 + j)) = some u := by
      intro i hi
      obtain ⟨cs', h1, h2⟩ := hel i (by omega)
      obtain ⟨s, rfl⟩ := record_cells h2
      obtain ⟨_, hlen, hc⟩ := World.cells?_some h1
      refine ⟨s, fun j u hj => ?_⟩
      have hj7 : j < 11 := by
        have := (List.getElem?_eq_some_iff.1 hj).1
        simpa using this
      have h3 := hc j hj7
      rw [Go.Deep.add_add] at h3
      rw [h3, hj]
    obtain ⟨f, hf⟩ := choose_lt hs
    have hll : ((List.range len).map f).length = len := by simp
    refine ⟨some a, (List.range len).map f, cap, by rw [hll], ⟨rfl, by rw [hll]; simp only [maxLen] at hm; omega, fun _ => ⟨a, rfl, ?_⟩⟩, by rw [hll]; exact hl⟩
    intro j p hp
    have hj : j < len := by
      have := (List.getElem?_eq_some_iff.1 hp).1
      rwa [hll] at this
    obtain rfl : f j = p := by simpa [hj] using hp
    exact ⟨_, rfl, k87_mk W (f j), hf j hj⟩
set_option maxRecDepth 100000 in
theorem open51 {H : Type} {enc : TypeId × Value → H} {W : World} {base : Nat} {v : Value} {d : DataW H} {p : List MemPlace} (hv : Value.okWide Tryd.prog W .any base 51 v) (h : DataW.Trod enc Tryd.prog W 0 (fun _ => true) true 51 v d p) :
    ∃ (A : Option Addr) (l : List S87) (c : Nat), v = .slice A l.length c ∧ Kd.C k87 W A l.length l ∧ l.length ≤ c := by
  obtain ⟨a0, len, cap, rfl⟩ := okWide_slice Tryd.underlying51 hv
  obtain ⟨fuel, hf⟩ := h
  obtain ⟨A, l, c, e, hC, hc⟩ := open_records hf
  simp [Value.cells] at e
  exact ⟨A, l, c, by rw [e.1, e.2.1, e.2.2], hC, hc⟩
end Go.Proofs.YthiebcecflpbnaaDoor.PFnExactEncodeRecords
