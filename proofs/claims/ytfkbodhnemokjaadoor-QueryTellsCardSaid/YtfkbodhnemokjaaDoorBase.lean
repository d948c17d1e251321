/- Words shared by all walks of this seat: imports, small lemmas on worlds and lists. -/
import Derived.Test.YtfkbodhnemokjaaDoorProg
import Derived.Test.YtfkbodhnemokjaaDoorWWords
namespace Go.Proofs.YtfkbodhnemokjaaDoor.W
open Go.RowKit Go.Proofs.YtfkbodhnemokjaaDoorW.PrintWords
set_option linter.unusedVariables false
set_option linter.unusedSimpArgs false

theorem getD_at {α : Type} (l : List α) (d : α) (i : Nat) (h : i < l.length) : l.getD i d = l[i] := by simp [List.getD_eq_getElem?_getD, h]
/-- The first place at which p holds; -1 if there is none. -/
def idxF {α : Type} (p : α → Bool) (l : List α) : Int := match l.findIdx? p with | some i => (i : Int) | none => -1
theorem idxF_at {α : Type} (p : α → Bool) (d : α) (l : List α) (i : Nat) (hi : i < l.length) (hp : p (l.getD i d) = true) (hn : ∀ j, j < i → p (l.getD j d) = false) : idxF p l = i := by
  unfold idxF
  have : l.findIdx? p = some i := by
    rw [List.findIdx?_eq_some_iff_getElem]
    refine ⟨hi, by rw [← getD_at l d i hi]; exact hp, fun j hj => ?_⟩
    have := hn j hj
    rw [getD_at l d j (by omega)] at this
    simp [this]
  rw [this]
theorem idxF_none {α : Type} (p : α → Bool) (d : α) (l : List α) (hn : ∀ j, j < l.length → p (l.getD j d) = false) : idxF p l = -1 := by
  unfold idxF
  have : l.findIdx? p = none := by
    rw [List.findIdx?_eq_none_iff]
    intro x hx
    obtain ⟨j, hj, rfl⟩ := List.getElem_of_mem hx
    have := hn j hj
    rw [getD_at l d j hj] at this
    exact this
  rw [this]
theorem idxF_nonneg {α : Type} (p : α → Bool) (l : List α) : (0 ≤ idxF p l) ↔ l.any p = true := by
  unfold idxF
  cases h : l.findIdx? p with
  | none =>
    have : l.any p = false := by rw [List.any_eq_false]; intro x hx; simpa using List.findIdx?_eq_none_iff.1 h x hx
    simp [this]
  | some i =>
    obtain ⟨hi, hp, _⟩ := List.findIdx?_eq_some_iff_getElem.1 h
    have : l.any p = true := List.any_eq_true.2 ⟨_, List.getElem_mem hi, hp⟩
    simp [this]
theorem forall_snoc {P : Nat → Prop} {i : Nat} (h : ∀ j, j < i → P j) (hi : P i) : ∀ j, j < i + 1 → P j := fun j hj => by
  rcases Nat.lt_or_ge j i with h1 | h1
  · exact h j h1
  · obtain rfl : j = i := by omega
    exact hi
theorem bcell {W w1 : World} (hb : Below W.heap.size W w1) : (∀ b o, b < W.heap.size → w1.cell? ⟨b, o, none⟩ = W.cell? ⟨b, o, none⟩) ∧ (∀ b o, b < W.heap.size → w1.frozen? ⟨b, o, none⟩ = W.frozen? ⟨b, o, none⟩) :=
  ⟨fun b o h => hb.cell (p := ⟨b, o, none⟩) h, fun b o h => hb.frozen (p := ⟨b, o, none⟩) h⟩
/-- For a region that draws its order, whose callees only add blocks: what is kept of the world in which it begins. -/
theorem keepS {B W W1 : World} (h : Below B.heap.size B W) (hb : Below W.heap.size W W1) : Below B.heap.size B W1 ∧ (∀ b o, b < B.heap.size → W1.cell? ⟨b, o, none⟩ = B.cell? ⟨b, o, none⟩) :=
  ⟨below_then h h.size hb, fun b o hlt => (below_then h h.size hb).cell (p := ⟨b, o, none⟩) hlt⟩
theorem keepS0 (B : World) : Below B.heap.size B B.drew ∧ (∀ b o, b < B.heap.size → B.drew.cell? ⟨b, o, none⟩ = B.cell? ⟨b, o, none⟩) := ⟨below_drew (Below.refl _ _), fun _ _ _ => rfl⟩
end Go.Proofs.YtfkbodhnemokjaaDoor.W
