/- A message that came in, opened. -/
import Derived.Test.YthiebcecflpbnaaDoorZPFnExactEncodeMsgx0
import Derived.ProofKit
import Derived.WideShapes
import Derived.Deep.Slices
import Derived.ChangeSlices
namespace Go.Proofs.YthiebcecflpbnaaDoor.PFnExactEncodeMsg
open Go.ChangeShapes Go.WideShapes Go.ChangeAt Go.WideMaps Go.WideElems Go.RowKit Go.Deep
open Go.Proofs.YthiebcecflpbnaaDoorW.PrintWords Go.Proofs.YthiebcecflpbnaaDoorW.PrintLast Go.Proofs.YthiebcecflpbnaaDoorW.PrintMore
instance : Inhabited S85 := ⟨z85⟩
theorem cl3 : Tryd.prog.cellsOf 3 = 1 := by kernel_rfl
theorem cl9 : Tryd.prog.cellsOf 9 = 1 := by kernel_rfl
theorem cl33 : Tryd.prog.cellsOf 33 = 6 := by kernel_rfl
theorem cl39 : Tryd.prog.cellsOf 39 = 1 := by kernel_rfl
theorem cl41 : Tryd.prog.cellsOf 41 = 10 := by kernel_rfl
theorem cl85 : Tryd.prog.cellsOf 85 = 7 := by kernel_rfl
set_option maxRecDepth 100000 in
theorem entry_cells {H : Type} {enc : TypeId × Value → H} {W : World} {spare : Nat → Bool} {held : Bool} {n : Nat} {cs : List Value} {x : DataW H × List MemPlace} (h : DataW.trod enc Tryd.prog W 0 spare held n 85 cs = some x) :
    ∃ s : S85, cs = [.int .i64 s.f0, .int .i64 s.f1.f0, .int .i64 s.f1.f1, .int .i64 s.f1.f2, .string s.f1.f3, .string s.f1.f4, .string s.f1.f5] := by
  obtain ⟨xs, m, rfl, hx, hl, hxl, hel⟩ := DataW.trod_struct Tryd.underlying85 h
  rw [cl85] at hl
  obtain ⟨c0, c1, c2, c3, c4, c5, c6, rfl⟩ : ∃ c0 c1 c2 c3 c4 c5 c6, cs = [c0, c1, c2, c3, c4, c5, c6] := by
    match cs, hl with
    | [a, b, c, d, e, f, g], _ => exact ⟨a, b, c, d, e, f, g, rfl⟩
  obtain ⟨x0, x1, rfl⟩ : ∃ x0 x1, xs = [x0, x1] := by
    match xs, hxl with
    | [a, b], _ => exact ⟨a, b, rfl⟩
  have e0 := hel 0 _ rfl
  have e1 := hel 1 _ rfl
  simp [cl3, cl33] at e0 e1
  obtain ⟨a0, g0, _⟩ := DataW.trod_int Tryd.underlying3 e0
  obtain ⟨ys, m', rfl, hy, hyl, hyxl, hyel⟩ := DataW.trod_struct Tryd.underlying33 e1
  obtain ⟨y0, y1, y2, y3, y4, y5, rfl⟩ : ∃ y0 y1 y2 y3 y4 y5, ys = [y0, y1, y2, y3, y4, y5] := by
    match ys, hyxl with
    | [a, b, c, d, e, f], _ => exact ⟨a, b, c, d, e, f, rfl⟩
  have d0 := hyel 0 _ rfl
  have d1 := hyel 1 _ rfl
  have d2 := hyel 2 _ rfl
  have d3 := hyel 3 _ rfl
  have d4 := hyel 4 _ rfl
  have d5 := hyel 5 _ rfl
  simp [cl3, cl9] at d0 d1 d2 d3 d4 d5
  obtain ⟨b0, f0, _⟩ := DataW.trod_int Tryd.underlying3 d0
  obtain ⟨b1, f1, _⟩ := DataW.trod_int Tryd.underlying3 d1
  obtain ⟨b2, f2, _⟩ := DataW.trod_int Tryd.underlying3 d2
  obtain ⟨b3, f3, _⟩ := DataW.trod_string Tryd.underlying9 d3
  obtain ⟨b4, f4, _⟩ := DataW.trod_string Tryd.underlying9 d4
  obtain ⟨b5, f5, _⟩ := DataW.trod_string Tryd.underlying9 d5
  simp at g0 f0 f1 f2 f3 f4 f5
  subst g0 f0 f1 f2 f3 f4 f5
  exact ⟨⟨a0, ⟨b0, b1, b2, b3, b4, b5⟩⟩, rfl⟩
/-- A slice of entries that came in. -/
theorem open_entries {H : Type} {enc : TypeId × Value → H} {W : World} {held : Bool} {n : Nat} {cs : List Value} {x : DataW H × List MemPlace} (h : DataW.trod enc Tryd.prog W 0 (fun _ => true) held n 39 cs = some x) :
    ∃ (A : Option Addr) (l : List S85) (c : Nat), cs = [.slice A l.length c] ∧ Kd.C k85 W A l.length l ∧ l.length ≤ c := by
  rcases open_slice Tryd.underlying39 h with ⟨rfl, _⟩ | ⟨a, len, cap, m, n', D, Pl, rfl, hb, hl, hm, hmm, hx, hel⟩
  · exact ⟨none, [], 0, rfl, Kd.C_nil _ _, by simp⟩
  · have hmm' : m = cap := by simpa using hmm
    rw [cl85] at hel
    have hs : ∀ i, i < len → ∃ s : S85, ∀ j u, [Value.int .i64 s.f0, .int .i64 s.f1.f0, .int .i64 s.f1.f1, .int .i64 s.f1.f2, .string s.f1.f3, .string s.f1.f4, .string s.f1.f5][j]? = some u → W.cell? (a.add (i * 7 + j)) = some u := by
      intro i hi
      obtain ⟨cs', h1, h2⟩ := hel i (by omega)
      obtain ⟨s, rfl⟩ := entry_cells h2
      obtain ⟨_, hlen, hc⟩ := World.cells?_some h1
      refine ⟨s, fun j u hj => ?_⟩
      have hj7 : j < 7 := by
        have := (List.getElem?_eq_some_iff.1 hj).1
        simpa using this
      have h3 := hc j hj7
      rw [Go.Deep.add_add] at h3
      rw [h3, hj]
    obtain ⟨f, hf⟩ := choose_lt hs
    have hll : ((List.range len).map f).length = len := by simp
    refine ⟨some a, (List.range len).map f, cap, by rw [hll], ⟨rfl, by rw [hll]; simp only [maxLen] at hm; omega, fun _ => ⟨a, rfl, ?_⟩⟩, by rw [hll]; exact hl⟩
    intro j p hp
    have hj : j < len := by
      have := (List.getElem?_eq_some_iff.1 hp).1
      rwa [hll] at this
    obtain rfl : f j = p := by simpa [hj] using hp
    exact ⟨_, rfl, k85_mk W (f j), hf j hj⟩
set_option maxRecDepth 100000 in
theorem open10 {H : Type} {enc : TypeId × Value → H} {W : World} {base : Nat} {v : Value} {d : DataW H} {p : List MemPlace} (hv : Value.okWide Tryd.prog W .any base 41 v) (h : DataW.Trod enc Tryd.prog W 0 (fun _ => true) true 41 v d p) :
    ∃ (a0 a1 a2 a3 a4 a5 a6 a7 a8 : Int) (A : Option Addr) (l : List S85) (c : Nat), v = .agg #[.int .i64 a0, .int .i64 a1, .int .i64 a2, .int .i64 a3, .int .i64 a4, .int .i64 a5, .int .i64 a6, .int .i64 a7, .int .i64 a8, .slice A l.length c] ∧ Kd.C k85 W A l.length l ∧ l.length ≤ c := by
  obtain ⟨cs, rfl, hsz⟩ := okWide_struct Tryd.underlying41 hv
  obtain ⟨fuel, hf⟩ := h
  obtain ⟨xs, n, rfl, hx, hl, hxl, hel⟩ := DataW.trod_struct Tryd.underlying41 hf
  rw [cl41] at hsz
  obtain ⟨l⟩ := cs
  obtain ⟨c0, c1, c2, c3, c4, c5, c6, c7, c8, c9, rfl⟩ : ∃ c0 c1 c2 c3 c4 c5 c6 c7 c8 c9, l = [c0, c1, c2, c3, c4, c5, c6, c7, c8, c9] := by
    match l, hsz with
    | [a, b, c, d, e, f, g, h, i, j], _ => exact ⟨a, b, c, d, e, f, g, h, i, j, rfl⟩
  obtain ⟨x0, x1, x2, x3, x4, x5, x6, x7, x8, x9, rfl⟩ : ∃ x0 x1 x2 x3 x4 x5 x6 x7 x8 x9, xs = [x0, x1, x2, x3, x4, x5, x6, x7, x8, x9] := by
    match xs, hxl with
    | [a, b, c, d, e, f, g, h, i, j], _ => exact ⟨a, b, c, d, e, f, g, h, i, j, rfl⟩
  have e0 := hel 0 _ rfl
  have e1 := hel 1 _ rfl
  have e2 := hel 2 _ rfl
  have e3 := hel 3 _ rfl
  have e4 := hel 4 _ rfl
  have e5 := hel 5 _ rfl
  have e6 := hel 6 _ rfl
  have e7 := hel 7 _ rfl
  have e8 := hel 8 _ rfl
  have e9 := hel 9 _ rfl
  simp [Value.cells, cl3, cl39] at e0 e1 e2 e3 e4 e5 e6 e7 e8 e9
  obtain ⟨a0, g0, _⟩ := DataW.trod_int Tryd.underlying3 e0
  obtain ⟨a1, g1, _⟩ := DataW.trod_int Tryd.underlying3 e1
  obtain ⟨a2, g2, _⟩ := DataW.trod_int Tryd.underlying3 e2
  obtain ⟨a3, g3, _⟩ := DataW.trod_int Tryd.underlying3 e3
  obtain ⟨a4, g4, _⟩ := DataW.trod_int Tryd.underlying3 e4
  obtain ⟨a5, g5, _⟩ := DataW.trod_int Tryd.underlying3 e5
  obtain ⟨a6, g6, _⟩ := DataW.trod_int Tryd.underlying3 e6
  obtain ⟨a7, g7, _⟩ := DataW.trod_int Tryd.underlying3 e7
  obtain ⟨a8, g8, _⟩ := DataW.trod_int Tryd.underlying3 e8
  obtain ⟨A, es, c, g9, hC, hc⟩ := open_entries e9
  simp at g0 g1 g2 g3 g4 g5 g6 g7 g8 g9
  subst g0 g1 g2 g3 g4 g5 g6 g7 g8 g9
  exact ⟨a0, a1, a2, a3, a4, a5, a6, a7, a8, A, es, c, rfl, hC, hc⟩
end Go.Proofs.YthiebcecflpbnaaDoor.PFnExactEncodeMsg
