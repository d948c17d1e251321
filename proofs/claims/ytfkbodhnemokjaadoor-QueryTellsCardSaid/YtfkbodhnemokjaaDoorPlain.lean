/- The plain law: Uses names what the document says. -/
import Derived.Test.YtfkbodhnemokjaaDoorRefG
namespace Go.Proofs.YtfkbodhnemokjaaDoor.W
open Go.RowKit Go.Shelf Go.Lib Go.Proofs.YtfkbodhnemokjaaDoorW.PrintWords
set_option linter.unusedVariables false
set_option linter.unusedSimpArgs false
theorem sorted_ext : ∀ (l1 l2 : List Int), l1.Pairwise (· < ·) → l2.Pairwise (· < ·) → (∀ x, x ∈ l1 ↔ x ∈ l2) → l1 = l2
  | [], [], _, _, _ => rfl
  | [], b :: r, _, _, h => by have := (h b).2 (List.mem_cons_self); cases this
  | a :: r, [], _, _, h => by have := (h a).1 (List.mem_cons_self); cases this
  | a :: r, b :: t, h1, h2, h => by
    rw [List.pairwise_cons] at h1 h2
    have e : a = b := by
      rcases List.mem_cons.1 ((h a).1 List.mem_cons_self) with e | e
      · exact e
      · rcases List.mem_cons.1 ((h b).2 List.mem_cons_self) with e' | e'
        · exact e'.symm
        · have := h2.1 a e; have := h1.1 b e'; omega
    subst e
    rw [sorted_ext r t h1.2 h2.2 (fun x => by
      constructor
      · intro hx
        rcases List.mem_cons.1 ((h x).1 (List.mem_cons_of_mem _ hx)) with e | e
        · have := h1.1 x hx; omega
        · exact e
      · intro hx
        rcases List.mem_cons.1 ((h x).2 (List.mem_cons_of_mem _ hx)) with e | e
        · have := h2.1 x hx; omega
        · exact e)]
theorem keeps_eq (d : Array Int) (m : Nat) : keeps d m = true ↔ m = 0 ∨ d[m]! ≠ d[m - 1]! := by simp [keeps]
theorem compact_mem (xs : List Int) (x : Int) : x ∈ compact xs ↔ x ∈ xs := by
  have hget : ∀ j, j < xs.length → xs.toArray[j]! = xs.getD j 0 := fun j hj => by rw [getElem!_pos xs.toArray j (by simpa using hj), getD_at xs 0 j hj]; simp
  unfold compact compactUpTo
  simp only [List.mem_map, List.mem_filter, List.mem_range]
  constructor
  · rintro ⟨j, ⟨hj, _⟩, rfl⟩
    rw [hget j hj, getD_at xs 0 j hj]
    exact List.getElem_mem _
  · intro hx
    obtain ⟨j, hj, rfl⟩ := List.getElem_of_mem hx
    have key : ∀ m, m < xs.length → ∃ i, (i < xs.length ∧ keeps xs.toArray i = true) ∧ xs.toArray[i]! = xs.toArray[m]! := by
      intro m
      induction m with
      | zero => intro hm; exact ⟨0, ⟨hm, (keeps_eq _ _).2 (.inl rfl)⟩, rfl⟩
      | succ m ih =>
        intro hm
        by_cases he : xs.toArray[m + 1]! = xs.toArray[m]!
        · obtain ⟨i, hi, e⟩ := ih (by omega)
          exact ⟨i, hi, e.trans he.symm⟩
        · exact ⟨m + 1, ⟨hm, (keeps_eq _ _).2 (.inr (by simpa using he))⟩, rfl⟩
    obtain ⟨i, hi, e⟩ := key j hj
    exact ⟨i, hi, e.trans (by rw [hget j hj, getD_at xs 0 j hj])⟩
theorem compact_sorted (xs : List Int) (h : xs.Pairwise (· ≤ ·)) : (compact xs).Pairwise (· < ·) := by
  have hget : ∀ j, j < xs.length → xs.toArray[j]! = xs.getD j 0 := fun j hj => by rw [getElem!_pos xs.toArray j (by simpa using hj), getD_at xs 0 j hj]; simp
  have hle : ∀ i j, i ≤ j → j < xs.length → xs.toArray[i]! ≤ xs.toArray[j]! := by
    intro i j hij hj
    rw [hget i (by omega), hget j hj, getD_at xs 0 i (by omega), getD_at xs 0 j hj]
    rcases Nat.lt_or_ge i j with hlt | hge
    · exact (List.pairwise_iff_getElem.1 h) i j (by omega) hj hlt
    · obtain rfl : i = j := by omega
      exact Int.le_refl _
  unfold compact compactUpTo
  rw [List.pairwise_map]
  refine List.Pairwise.imp_of_mem ?_ ((List.pairwise_lt_range (n := xs.length)).filter _)
  intro a b ha hb hlt
  simp only [List.mem_filter, List.mem_range] at ha hb
  rcases (keeps_eq _ _).1 hb.2 with h0 | h0
  · omega
  · have h1 := hle a (b - 1) (by omega) (by omega)
    have h2 := hle (b - 1) b (by omega) hb.1
    omega
theorem uses_law (q : Qry) (h : ∀ k, k ∈ namedL q → k < 50) : usesL q = refUsesL q 50 := by
  apply sorted_ext
  · unfold usesL sortI
    apply compact_sorted
    have := List.pairwise_mergeSort (le := fun x y : Int => decide (x ≤ y)) (by intro a b c h1 h2; simp at *; omega) (by intro a b; simp; omega) ((namedL q).filter fun k => !decide (k < 0))
    simpa using this
  · unfold refUsesL
    rw [List.pairwise_map]
    refine List.Pairwise.imp ?_ ((List.pairwise_lt_range (n := 50)).filter _)
    intro a b hlt
    omega
  · intro x
    unfold usesL sortI refUsesL
    rw [compact_mem, List.mem_mergeSort]
    simp only [List.mem_filter, List.mem_map, List.mem_range, decide_eq_true_eq, Bool.not_eq_true', decide_eq_false_iff_not]
    constructor
    · rintro ⟨hx, h0⟩
      obtain ⟨n, rfl⟩ := Int.eq_ofNat_of_zero_le (show 0 ≤ x by omega)
      exact ⟨n, ⟨by have := h _ hx; omega, hx⟩, rfl⟩
    · rintro ⟨n, ⟨_, hx⟩, rfl⟩
      exact ⟨hx, by omega⟩
end Go.Proofs.YtfkbodhnemokjaaDoor.W
