/- The two struct arguments, opened. -/
import Derived.Test.YtfkbodhnemokjaaDoorOpen
import Derived.WideShapes
namespace Go.Proofs.YtfkbodhnemokjaaDoor.W
open Go.RowKit Go.WideShapes Go.Proofs.YtfkbodhnemokjaaDoorW.PrintWords
set_option linter.unusedVariables false
set_option linter.unusedSimpArgs false
section
variable {H : Type} {enc : TypeId × Value → H} {w : World} {base b0 : Nat} {spare : Nat → Bool} {held : Bool} {r : Reach} {d : DataW H} {p : List MemPlace}
theorem cellsSl1 : Tryd.prog.cellsOf 22 = 1 := by kernel_rfl
theorem cellsSch : Tryd.prog.cellsOf 24 = 5 := by kernel_rfl
set_option maxRecDepth 100000 in
theorem open_Schema {v : Value} (hv : Value.okWide Tryd.prog w r b0 24 v) (h : DataW.Trod enc Tryd.prog w base spare held 24 v d p) :
    ∃ (A : Option Addr) (c : Nat) (l : List Col) (key cmp del so : Int), v = .agg #[.slice A l.length c, .int .i64 key, .int .i64 cmp, .int .i64 del, .int .i64 so] ∧ SC w A c l := by
  obtain ⟨cs, rfl, hsz⟩ := okWide_struct Tryd.underlying24 hv
  obtain ⟨fuel, h⟩ := h
  obtain ⟨m, hl, hf⟩ := inv_struct Tryd.underlying24 h
  rw [cellsSch] at hsz
  obtain ⟨cs⟩ := cs
  match cs, hsz with
  | [a, b, c, e, f], _ =>
    obtain ⟨y0, h0⟩ := hf _ (by simp; left; rfl)
    obtain ⟨y1, h1⟩ := hf _ (by simp; right; left; rfl)
    obtain ⟨y2, h2⟩ := hf _ (by simp; right; right; left; rfl)
    obtain ⟨y3, h3⟩ := hf _ (by simp; right; right; right; left; rfl)
    obtain ⟨y4, h4⟩ := hf _ (by simp; right; right; right; right; rfl)
    simp only [Value.cells, cellsSl1, cellsInt, List.drop, List.take] at h0 h1 h2 h3 h4
    obtain ⟨A, k, l, rfl, hlk, hC, hB⟩ := open_rows kdCol Tryd.underlying22 cellsCol (by decide) (fun z : Col => z.name.size ≤ maxLen) (fun m cs y h => open_Col h) h0
    obtain ⟨i1, rfl⟩ := inv_int Tryd.underlying3 h1
    obtain ⟨i2, rfl⟩ := inv_int Tryd.underlying3 h2
    obtain ⟨i3, rfl⟩ := inv_int Tryd.underlying3 h3
    obtain ⟨i4, rfl⟩ := inv_int Tryd.underlying3 h4
    exact ⟨A, k, l, i1, i2, i3, i4, rfl, hC, hlk, fun z hz => by have := hB z hz; simp only [maxLen] at this; omega⟩
theorem cellsSlN : Tryd.prog.cellsOf 25 = 1 := by kernel_rfl
theorem cellsSlI : Tryd.prog.cellsOf 26 = 1 := by kernel_rfl
theorem cellsSlA : Tryd.prog.cellsOf 27 = 1 := by kernel_rfl
theorem cellsSlB : Tryd.prog.cellsOf 28 = 1 := by kernel_rfl
theorem cellsQry : Tryd.prog.cellsOf 30 = 6 := by kernel_rfl
set_option maxRecDepth 100000 in
theorem open_intE {cs : List Value} {m : Nat} {y : DataW H × List MemPlace} (h : DataW.trod enc Tryd.prog w base spare held m 3 cs = some y) : ∃ z : Int, cs.length = kI.sz ∧ kI.K w z cs ∧ True := by
  have hl : cs.length = 1 := by
    cases m with
    | zero => simp [DataW.trod] at h
    | succ m =>
      unfold DataW.trod at h
      rw [Tryd.underlying3] at h
      match cs, h with
      | [_], _ => rfl
      | [], h => simp at h
      | _ :: _ :: _, h => simp at h
  obtain ⟨i, rfl⟩ := open_int1 h hl
  exact ⟨i, rfl, rfl, trivial⟩
set_option maxRecDepth 100000 in
theorem open_Query {v : Value} (hv : Value.okWide Tryd.prog w r b0 30 v) (h : DataW.Trod enc Tryd.prog w base spare held 30 v d p) :
    ∃ (pp : QAt) (q : Qry), v = q.v pp ∧ QC w pp q := by
  obtain ⟨cs, rfl, hsz⟩ := okWide_struct Tryd.underlying30 hv
  obtain ⟨fuel, h⟩ := h
  obtain ⟨m, hl, hf⟩ := inv_struct Tryd.underlying30 h
  rw [cellsQry] at hsz
  obtain ⟨cs⟩ := cs
  match cs, hsz with
  | [a, b, c, e, f, g], _ =>
    obtain ⟨y0, h0⟩ := hf _ (by simp; left; rfl)
    obtain ⟨y1, h1⟩ := hf _ (by simp; right; left; rfl)
    obtain ⟨y2, h2⟩ := hf _ (by simp; right; right; left; rfl)
    obtain ⟨y3, h3⟩ := hf _ (by simp; right; right; right; left; rfl)
    obtain ⟨y4, h4⟩ := hf _ (by simp; right; right; right; right; left; rfl)
    obtain ⟨y5, h5⟩ := hf _ (by simp; right; right; right; right; right; rfl)
    simp only [Value.cells, cellsSlN, cellsSlI, cellsSlA, cellsSlB, cellsInt, List.drop, List.take] at h0 h1 h2 h3 h4 h5
    obtain ⟨A0, k0, l0, rfl, n0, C0, _⟩ := open_rows kdNode Tryd.underlying25 cellsNode (by decide) (fun _ => True) (fun m cs y h => open_Node h) h0
    obtain ⟨A1, k1, l1, rfl, n1, C1, _⟩ := open_rows kI Tryd.underlying26 cellsInt (by decide) (fun _ => True) (fun m cs y h => open_intE h) h1
    obtain ⟨A2, k2, l2, rfl, n2, C2, _⟩ := open_rows kI Tryd.underlying26 cellsInt (by decide) (fun _ => True) (fun m cs y h => open_intE h) h2
    obtain ⟨A3, k3, l3, rfl, n3, C3, _⟩ := open_rows kdAgg Tryd.underlying27 cellsAgg (by decide) (fun _ => True) (fun m cs y h => open_Agg h) h3
    obtain ⟨A4, k4, l4, rfl, n4, C4, _⟩ := open_rows kdBy Tryd.underlying28 cellsBy (by decide) (fun _ => True) (fun m cs y h => open_By h) h4
    obtain ⟨i5, rfl⟩ := inv_int Tryd.underlying3 h5
    exact ⟨⟨A0, k0, A1, k1, A2, k2, A3, k3, A4, k4⟩, ⟨l0, l1, l2, l3, l4, i5⟩, rfl, ⟨C0, n0⟩, ⟨C1, n1⟩, ⟨C2, n2⟩, ⟨C3, n3⟩, ⟨C4, n4⟩⟩
end
end Go.Proofs.YtfkbodhnemokjaaDoor.W
