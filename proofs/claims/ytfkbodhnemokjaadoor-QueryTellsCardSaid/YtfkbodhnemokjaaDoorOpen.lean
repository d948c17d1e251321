/- The arguments' reading, opened: rows of structs of scalars. -/
import Derived.Test.YtfkbodhnemokjaaDoorRefI
import Derived.Deep.Slices
namespace Go.Proofs.YtfkbodhnemokjaaDoor.W
open Go.RowKit Go.Proofs.YtfkbodhnemokjaaDoorW.PrintWords
set_option linter.unusedVariables false
set_option linter.unusedSimpArgs false
section
variable {H : Type} {enc : TypeId × Value → H} {P : Program} {w : World} {base n : Nat} {spare : Nat → Bool} {held : Bool} {t : TypeId} {x : DataW H × List MemPlace}
theorem inv_int {k : IntKind} {v : Value} (hu : P.underlying t = some (.int k)) (h : DataW.trod enc P w base spare held n t [v] = some x) : ∃ i, v = .int k i := by
  cases n with
  | zero => simp [DataW.trod] at h
  | succ n =>
    unfold DataW.trod at h
    rw [hu] at h
    cases v <;> simp at h
    exact ⟨_, by rw [h.1.1]⟩
theorem inv_bool {v : Value} (hu : P.underlying t = some .bool) (h : DataW.trod enc P w base spare held n t [v] = some x) : ∃ i, v = .bool i := by
  cases n with
  | zero => simp [DataW.trod] at h
  | succ n =>
    unfold DataW.trod at h
    rw [hu] at h
    cases v <;> simp at h
    exact ⟨_, rfl⟩
theorem inv_string {v : Value} (hu : P.underlying t = some .string) (h : DataW.trod enc P w base spare held n t [v] = some x) : ∃ s, v = .string s ∧ s.size ≤ maxLen := by
  cases n with
  | zero => simp [DataW.trod] at h
  | succ n =>
    unfold DataW.trod at h
    rw [hu] at h
    cases v <;> simp at h
    exact ⟨_, rfl, h.1⟩
theorem mapM_some {α β : Type} (f : α → Option β) : ∀ (l : List α) (ys : List β), l.mapM f = some ys → ∀ a, a ∈ l → ∃ y, f a = some y
  | [], _, _, a, ha => by cases ha
  | b :: r, ys, h, a, ha => by
    rw [List.mapM_cons] at h
    cases hb : f b with
    | none => rw [hb] at h; simp at h
    | some y =>
      rw [hb] at h
      cases hr : r.mapM f with
      | none => rw [hr] at h; simp at h
      | some zs =>
        rcases List.mem_cons.1 ha with rfl | ha
        · exact ⟨y, hb⟩
        · exact mapM_some f r zs hr a ha
theorem inv_struct {fs : Array Field} {cs : List Value} (hu : P.underlying t = some (.struct fs)) (h : DataW.trod enc P w base spare held n t cs = some x) :
    ∃ m, cs.length = P.cellsOf t ∧ ∀ f, f ∈ fs.toList → ∃ y, DataW.trod enc P w base spare held m f.type ((cs.drop f.offset).take (P.cellsOf f.type)) = some y := by
  cases n with
  | zero => simp [DataW.trod] at h
  | succ n =>
    unfold DataW.trod at h
    rw [hu] at h
    dsimp only at h
    split at h
    · rename_i hl
      refine ⟨n, hl, fun f hf => ?_⟩
      cases hm : fs.toList.mapM fun f => DataW.trod enc P w base spare held n f.type ((cs.drop f.offset).take (P.cellsOf f.type)) with
      | none => rw [hm] at h; simp at h
      | some ys => exact mapM_some _ _ ys hm f hf
    · cases h
theorem choose_list {α : Type} {Q : Nat → α → Prop} : ∀ (m : Nat), (∀ i, i < m → ∃ x, Q i x) → ∃ xs : List α, xs.length = m ∧ ∀ j p, xs[j]? = some p → Q j p
  | 0, _ => ⟨[], rfl, fun j p h => by simp at h⟩
  | m + 1, h => by
    obtain ⟨xs, hl, hx⟩ := choose_list m (fun i hi => h i (by omega))
    obtain ⟨y, hy⟩ := h m (by omega)
    refine ⟨xs ++ [y], by simp [hl], fun j p hj => ?_⟩
    rcases Nat.lt_or_ge j xs.length with h1 | h1
    · rw [List.getElem?_append_left h1] at hj; exact hx j p hj
    · rw [List.getElem?_append_right h1] at hj
      have h0 : j - xs.length = 0 := by
        rcases Nat.eq_zero_or_pos (j - xs.length) with h0 | h0
        · exact h0
        · rw [List.getElem?_eq_none (by simp; omega)] at hj; cases hj
      rw [h0] at hj
      obtain rfl : y = p := by simpa using hj
      obtain rfl : j = m := by omega
      exact hy
/-- A slice's reading, opened: its row. -/
theorem open_rows {α : Type} (d : Kd α) {e : TypeId} {v : Value} (hu : P.underlying t = some (.slice e)) (hsz : P.cellsOf e = d.sz) (hs0 : 0 < d.sz) (Bd : α → Prop)
    (hel : ∀ m cs y, DataW.trod enc P w base spare held m e cs = some y → ∃ z : α, cs.length = d.sz ∧ d.K w z cs ∧ Bd z)
    (h : DataW.trod enc P w base spare held n t [v] = some x) :
    ∃ (A : Option Addr) (c : Nat) (xs : List α), v = .slice A xs.length c ∧ xs.length ≤ c ∧ d.C w A xs.length xs ∧ ∀ z, z ∈ xs → Bd z := by
  rcases Go.Deep.open_slice hu h with ⟨hv, _⟩ | ⟨a, len, cap, m, k, D, Pl, hv, hb, hlc, hcm, hm, _, hc⟩
  · obtain rfl : v = .slice none 0 0 := by simpa using hv
    exact ⟨none, 0, [], rfl, Nat.le_refl _, ⟨rfl, Nat.zero_le _, fun h => absurd h (Nat.lt_irrefl 0)⟩, fun z hz => by cases hz⟩
  · obtain rfl : v = .slice (some a) len cap := by simpa using hv
    have hlm : len ≤ m := by rw [hm]; split <;> omega
    obtain ⟨xs, hl, hx⟩ := choose_list (Q := fun (j : Nat) (z : α) => Bd z ∧ ∃ c : List Value, c.length = d.sz ∧ d.K w z c ∧ ∀ i u, c[i]? = some u → w.cell? (a.add (j * d.sz + i)) = some u) len (fun i hi => by
      obtain ⟨cs, hcs, ht⟩ := hc i (by omega)
      obtain ⟨z, hl, hK, hB⟩ := hel _ _ _ ht
      refine ⟨z, hB, cs, hl, hK, fun j u hu => ?_⟩
      rw [hsz] at hcs
      have hj : j < d.sz := by rw [← hl]; exact (List.getElem?_eq_some_iff.1 hu).1
      have := (World.cells?_some hcs).2.2 j hj
      rw [← hu, ← this, Addr.add_add])
    subst hl
    refine ⟨some a, cap, xs, rfl, hlc, ⟨rfl, (by simp only [maxLen] at hcm; omega), fun _ => ⟨a, rfl, fun j p hj => (hx j p hj).2⟩⟩, fun z hz => ?_⟩
    obtain ⟨j, hj, rfl⟩ := List.getElem_of_mem hz
    exact (hx j _ (List.getElem?_eq_getElem hj)).1
end
section
variable {H : Type} {enc : TypeId × Value → H} {w : World} {base n : Nat} {spare : Nat → Bool} {held : Bool} {x : DataW H × List MemPlace}
theorem cellsInt : Tryd.prog.cellsOf 3 = 1 := by kernel_rfl
theorem cellsStr : Tryd.prog.cellsOf 9 = 1 := by kernel_rfl
theorem cellsBool : Tryd.prog.cellsOf 4 = 1 := by kernel_rfl
theorem cellsCol : Tryd.prog.cellsOf 45 = 3 := by kernel_rfl
theorem open_int1 {cs : List Value} (h : DataW.trod enc Tryd.prog w base spare held n 3 cs = some x) (hl : cs.length = 1) : ∃ i : Int, cs = [.int .i64 i] := by
  obtain ⟨v, rfl⟩ : ∃ v, cs = [v] := by
    match cs, hl with
    | [v], _ => exact ⟨v, rfl⟩
  obtain ⟨i, rfl⟩ := inv_int Tryd.underlying3 h
  exact ⟨i, rfl⟩
set_option maxRecDepth 100000 in
theorem open_Col {cs : List Value} (h : DataW.trod enc Tryd.prog w base spare held n 45 cs = some x) : ∃ z : Col, cs.length = kdCol.sz ∧ kdCol.K w z cs ∧ z.name.size ≤ maxLen := by
  obtain ⟨m, hl, hf⟩ := inv_struct Tryd.underlying45 h
  rw [cellsCol] at hl
  match cs, hl with
  | [a, b, c], _ =>
    obtain ⟨y0, h0⟩ := hf _ (by simp; left; rfl)
    obtain ⟨y1, h1⟩ := hf _ (by simp; right; left; rfl)
    obtain ⟨y2, h2⟩ := hf _ (by simp; right; right; rfl)
    simp only [cellsInt, cellsStr, cellsBool, List.drop, List.take] at h0 h1 h2
    obtain ⟨s, rfl, hs⟩ := inv_string Tryd.underlying9 h0
    obtain ⟨i, rfl⟩ := inv_int Tryd.underlying3 h1
    obtain ⟨q, rfl⟩ := inv_bool Tryd.underlying4 h2
    exact ⟨⟨s, i, q⟩, rfl, kdCol_mk w ⟨s, i, q⟩, hs⟩
theorem cellsAgg : Tryd.prog.cellsOf 43 = 2 := by kernel_rfl
set_option maxRecDepth 100000 in
theorem open_Agg {cs : List Value} (h : DataW.trod enc Tryd.prog w base spare held n 43 cs = some x) : ∃ z : Agg, cs.length = kdAgg.sz ∧ kdAgg.K w z cs ∧ True := by
  obtain ⟨m, hl, hf⟩ := inv_struct Tryd.underlying43 h
  rw [cellsAgg] at hl
  match cs, hl with
  | [a, b], _ =>
    obtain ⟨y0, h0⟩ := hf _ (by simp; left; rfl)
    obtain ⟨y1, h1⟩ := hf _ (by simp; right; rfl)
    simp only [cellsInt, List.drop, List.take] at h0 h1
    obtain ⟨i, rfl⟩ := inv_int Tryd.underlying3 h0
    obtain ⟨q, rfl⟩ := inv_int Tryd.underlying3 h1
    exact ⟨⟨i, q⟩, rfl, kdAgg_mk w ⟨i, q⟩, trivial⟩
theorem cellsBy : Tryd.prog.cellsOf 63 = 2 := by kernel_rfl
set_option maxRecDepth 100000 in
theorem open_By {cs : List Value} (h : DataW.trod enc Tryd.prog w base spare held n 63 cs = some x) : ∃ z : By, cs.length = kdBy.sz ∧ kdBy.K w z cs ∧ True := by
  obtain ⟨m, hl, hf⟩ := inv_struct Tryd.underlying63 h
  rw [cellsBy] at hl
  match cs, hl with
  | [a, b], _ =>
    obtain ⟨y0, h0⟩ := hf _ (by simp; left; rfl)
    obtain ⟨y1, h1⟩ := hf _ (by simp; right; rfl)
    simp only [cellsInt, cellsBool, List.drop, List.take] at h0 h1
    obtain ⟨i, rfl⟩ := inv_int Tryd.underlying3 h0
    obtain ⟨q, rfl⟩ := inv_bool Tryd.underlying4 h1
    exact ⟨⟨i, q⟩, rfl, kdBy_mk w ⟨i, q⟩, trivial⟩
theorem cellsVal : Tryd.prog.cellsOf 47 = 4 := by kernel_rfl
theorem cellsNode : Tryd.prog.cellsOf 49 = 8 := by kernel_rfl
set_option maxRecDepth 100000 in
theorem open_Val {cs : List Value} (h : DataW.trod enc Tryd.prog w base spare held n 47 cs = some x) : ∃ z : Val, cs = [.int .i64 z.kind, .int .i64 z.i, .string z.s, .bool z.b] ∧ z.s.size ≤ maxLen := by
  obtain ⟨m, hl, hf⟩ := inv_struct Tryd.underlying47 h
  rw [cellsVal] at hl
  match cs, hl with
  | [a, b, c, d], _ =>
    obtain ⟨y0, h0⟩ := hf _ (by simp; left; rfl)
    obtain ⟨y1, h1⟩ := hf _ (by simp; right; left; rfl)
    obtain ⟨y2, h2⟩ := hf _ (by simp; right; right; left; rfl)
    obtain ⟨y3, h3⟩ := hf _ (by simp; right; right; right; rfl)
    simp only [cellsInt, cellsStr, cellsBool, List.drop, List.take] at h0 h1 h2 h3
    obtain ⟨i, rfl⟩ := inv_int Tryd.underlying3 h0
    obtain ⟨j, rfl⟩ := inv_int Tryd.underlying3 h1
    obtain ⟨s, rfl, hs⟩ := inv_string Tryd.underlying9 h2
    obtain ⟨q, rfl⟩ := inv_bool Tryd.underlying4 h3
    exact ⟨⟨i, j, s, q⟩, rfl, hs⟩
set_option maxRecDepth 100000 in
theorem open_Node {cs : List Value} (h : DataW.trod enc Tryd.prog w base spare held n 49 cs = some x) : ∃ z : Node, cs.length = kdNode.sz ∧ kdNode.K w z cs ∧ True := by
  obtain ⟨m, hl, hf⟩ := inv_struct Tryd.underlying49 h
  rw [cellsNode] at hl
  match cs, hl with
  | [a, b, c, d, e, f, g, k], _ =>
    obtain ⟨y0, h0⟩ := hf _ (by simp; left; rfl)
    obtain ⟨y1, h1⟩ := hf _ (by simp; right; left; rfl)
    obtain ⟨y2, h2⟩ := hf _ (by simp; right; right; left; rfl)
    obtain ⟨y3, h3⟩ := hf _ (by simp; right; right; right; left; rfl)
    obtain ⟨y4, h4⟩ := hf _ (by simp; right; right; right; right; rfl)
    simp only [cellsInt, cellsVal, List.drop, List.take] at h0 h1 h2 h3 h4
    obtain ⟨i0, rfl⟩ := inv_int Tryd.underlying3 h0
    obtain ⟨i1, rfl⟩ := inv_int Tryd.underlying3 h1
    obtain ⟨v, hv, _⟩ := open_Val h2
    obtain ⟨i3, rfl⟩ := inv_int Tryd.underlying3 h3
    obtain ⟨i4, rfl⟩ := inv_int Tryd.underlying3 h4
    simp only [List.cons.injEq, and_true] at hv
    obtain ⟨rfl, rfl, rfl, rfl⟩ := hv
    exact ⟨⟨i0, i1, v, i3, i4⟩, rfl, kdNode_mk w ⟨i0, i1, v, i3, i4⟩, trivial⟩
end
end Go.Proofs.YtfkbodhnemokjaaDoor.W
