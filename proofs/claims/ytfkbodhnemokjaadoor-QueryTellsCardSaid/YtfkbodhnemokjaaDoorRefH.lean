/- The law's examples: Small, awake. -/
import Derived.Test.YtfkbodhnemokjaaDoorPlain
namespace Go.Proofs.YtfkbodhnemokjaaDoor.W
open Go.RowKit Go.Shelf Go.Proofs.YtfkbodhnemokjaaDoorW.PrintWords
set_option linter.unusedVariables false
set_option linter.unusedSimpArgs false
/-- A made row is read. -/
theorem C_of_blk {α : Type} (d : Kd α) {w : World} {g t : Nat} {xs : List α} {inner : List Value} (hb : w.heap[g]? = some (.cells inner.toArray t (0, 0))) (hr : Reps (d.K w) d.sz xs inner) (hm : xs.length ≤ 9223372036854775807) : d.C w (some ⟨g, 0, none⟩) xs.length xs := by
  refine ⟨rfl, hm, fun _ => ⟨⟨g, 0, none⟩, rfl, fun j p hj => ⟨(inner.drop (j * d.sz)).take d.sz, ?_, hr.2 j p hj, fun i u hu => ?_⟩⟩⟩
  · obtain ⟨hl, _⟩ := List.getElem?_eq_some_iff.1 hj
    have h1 : (j + 1) * d.sz ≤ xs.length * d.sz := Nat.mul_le_mul_right _ (by omega)
    rw [List.length_take, List.length_drop, hr.1]
    rw [Nat.add_mul, Nat.one_mul] at h1
    omega
  · have h2 : inner[j * d.sz + i]? = some u := by
      rcases Nat.lt_or_ge i d.sz with h | h
      · rwa [List.getElem?_take_of_lt h, List.getElem?_drop] at hu
      · rw [List.getElem?_take_eq_none h] at hu; cases hu
    have := blk_cell hb (j * d.sz + i)
    rw [show (⟨g, 0, none⟩ : Addr).add (j * d.sz + i) = ⟨g, j * d.sz + i, none⟩ by simp [Addr.add, Nat.zero_add]; try omega]
    rw [this]
    simpa using h2
def smallL : List Col := [⟨⟨#[107]⟩, 1, false⟩, ⟨⟨#[118]⟩, 2, true⟩]
set_option maxHeartbeats 1000000 in
theorem small_any (w : World) : Calls Tryd.prog 14 #[] w fun e w' => ∃ g, e = .returned (.agg #[.slice (some ⟨g, 0, none⟩) smallL.length 2, .int .i64 (-1), .int .i64 (-1), .int .i64 (-1), .int .i64 (-1)]) ∧ SC w' (some ⟨g, 0, none⟩) 2 smallL ∧ Below w.heap.size w w' := by
  have hu := Tryd.underlying24
  have hu2 := Tryd.underlying45
  go_enter Tryd.func14, Tryd.ntmps14
  go_wp2
  have hg : ((w.alloc (.cells #[.slice (some ⟨w.heap.size + 1, 0, none⟩) 2 2, .int .i64 (-1), .int .i64 (-1), .int .i64 (-1), .int .i64 (-1)] 24)).alloc (.cells #[.string ⟨#[107]⟩, .int .i64 1, .bool false, .string ⟨#[118]⟩, .int .i64 2, .bool true] 45)).heap[w.heap.size]? = some (.cells #[.slice (some ⟨w.heap.size + 1, 0, none⟩) 2 2, .int .i64 (-1), .int .i64 (-1), .int .i64 (-1), .int .i64 (-1)] 24 (0, 0)) := blk_alloc (blk_new w _) _
  have hg2 : ((w.alloc (.cells #[.slice (some ⟨w.heap.size + 1, 0, none⟩) 2 2, .int .i64 (-1), .int .i64 (-1), .int .i64 (-1), .int .i64 (-1)] 24)).alloc (.cells #[.string ⟨#[107]⟩, .int .i64 1, .bool false, .string ⟨#[118]⟩, .int .i64 2, .bool true] 45)).heap[w.heap.size + 1]? = some (.cells #[.string ⟨#[107]⟩, .int .i64 1, .bool false, .string ⟨#[118]⟩, .int .i64 2, .bool true] 45 (0, 0)) := by
    have := blk_new (w.alloc (.cells #[.slice (some ⟨w.heap.size + 1, 0, none⟩) 2 2, .int .i64 (-1), .int .i64 (-1), .int .i64 (-1), .int .i64 (-1)] 24)) (.cells #[.string ⟨#[107]⟩, .int .i64 1, .bool false, .string ⟨#[118]⟩, .int .i64 2, .bool true] 45)
    simpa using this
  refine bodyPost_ret (results_single rfl (Vals.cell w.heap.size 24 _ (0, 0) _ rfl hg hu rfl (by kernel_rfl) .nil)) rfl ?_
  refine ⟨w.heap.size + 1, rfl, ⟨C_of_blk kdCol (xs := smallL) (inner := [.string ⟨#[107]⟩, .int .i64 1, .bool false, .string ⟨#[118]⟩, .int .i64 2, .bool true]) hg2 ?_ (by decide), by decide, ?_⟩, below_alloc (below_alloc (Below.refl _ _) _) _⟩
  · exact ((Reps.none (kdCol.K _) 3).snoc (kdCol_mk _ ⟨⟨#[107]⟩, 1, false⟩) rfl).snoc (kdCol_mk _ ⟨⟨#[118]⟩, 2, true⟩) rfl
  · intro x hx
    simp only [smallL, List.mem_cons, List.not_mem_nil, or_false] at hx
    rcases hx with rfl | rfl <;> decide
def q1 : Qry := ⟨[], [0], [], [], [], 5⟩
def q2 : Qry := ⟨[], [], [], [⟨2, 1⟩], [], 0⟩
theorem small_may : mayB smallL (-1) (-1) (-1) (-1) = true := by
  have h : colsOk smallL := by
    intro i hi
    rcases (show i = 0 ∨ i = 1 from by have : smallL.length = 2 := rfl; omega) with rfl | rfl
    · exact ⟨by decide, by decide, by decide, fun j hj => absurd hj (by omega)⟩
    · refine ⟨by decide, by decide, by decide, fun j hj => ?_⟩
      obtain rfl : j = 0 := by omega
      intro e
      have := toList_inj e
      simp [rdCol, smallL] at this
  unfold mayB
  simp only [h, decide_true, Bool.true_and]
  decide
theorem q1_ok : checkE smallL (-1) (-1) (-1) (-1) q1 = 0 := by
  unfold checkE
  rw [if_neg (by rw [small_may]; simp), if_neg (by decide), if_neg (by decide), if_neg (by decide), if_neg (by decide), if_neg (by decide), if_neg (by decide)]
theorem q2_bad : checkE smallL (-1) (-1) (-1) (-1) q2 = 9 := by
  unfold checkE
  rw [if_neg (by rw [small_may]; simp), if_neg (by decide), if_neg (by decide), if_neg (by decide), if_pos (by decide)]
  decide
theorem q1_outs : outsL smallL (-1) (-1) (-1) (-1) q1 = [1] := by
  unfold outsL
  rw [if_pos q1_ok]
  decide
theorem QC_q1 {w : World} {g t : Nat} (hb : w.heap[g]? = some (.cells #[.int .i64 0] t (0, 0))) : QC w ⟨none, 0, some ⟨g, 0, none⟩, 1, none, 0, none, 0, none, 0⟩ q1 := by
  have hz : ∀ {α : Type} (d : Kd α), Kd.C d w none 0 [] := fun d => ⟨rfl, by omega, fun h => absurd h (by omega)⟩
  refine ⟨⟨hz _, Nat.le_refl _⟩, ⟨?_, Nat.le_refl _⟩, ⟨hz _, Nat.le_refl _⟩, ⟨hz _, Nat.le_refl _⟩, ⟨hz _, Nat.le_refl _⟩⟩
  exact C_of_blk kI (xs := [0]) (inner := [.int .i64 0]) hb ((Reps.none _ 1).snoc rfl rfl) (by decide)
theorem QC_q2 {w : World} {g t : Nat} (hb : w.heap[g]? = some (.cells #[.int .i64 2, .int .i64 1] t (0, 0))) : QC w ⟨none, 0, none, 0, none, 0, some ⟨g, 0, none⟩, 1, none, 0⟩ q2 := by
  have hz : ∀ {α : Type} (d : Kd α), Kd.C d w none 0 [] := fun d => ⟨rfl, by omega, fun h => absurd h (by omega)⟩
  refine ⟨⟨hz _, Nat.le_refl _⟩, ⟨hz _, Nat.le_refl _⟩, ⟨hz _, Nat.le_refl _⟩, ⟨?_, Nat.le_refl _⟩, ⟨hz _, Nat.le_refl _⟩⟩
  exact C_of_blk kdAgg (xs := [⟨2, 1⟩]) (inner := [.int .i64 2, .int .i64 1]) hb ((Reps.none _ 2).snoc (kdAgg_mk _ ⟨2, 1⟩) rfl) (by decide)
set_option maxHeartbeats 4000000 in
set_option maxRecDepth 100000 in
theorem awake_any (w : World) : Calls Tryd.prog 4 #[] w fun e w' => e = .returned (.bool true) ∧ Below w.heap.size w w' := by
  have hu := Tryd.underlying24
  have hu2 := Tryd.underlying30
  have hu3 := Tryd.underlying43
  go_enter Tryd.func4, Tryd.ntmps4
  go_wp2_with fail
  refine (small_any _).mono ?_
  rintro e w1 ⟨g, rfl, hs, hb⟩
  have HS := Aside0.mk hs
  have HB := Aside0.mk hb
  clear hs hb
  have hl2 : smallL.length = 2 := rfl
  go_wp2_with fail
  have HK : Aside0 (((w1.alloc (.cells #[.slice (some ⟨g, 0, none⟩) 2 2, .int .i64 (-1), .int .i64 (-1), .int .i64 (-1), .int .i64 (-1)] 24)).alloc (.cells #[.int .i64 0] 3)).heap[w1.heap.size]? = some (.cells #[.slice (some ⟨g, 0, none⟩) 2 2, .int .i64 (-1), .int .i64 (-1), .int .i64 (-1), .int .i64 (-1)] 24 (0, 0))) := ⟨blk_alloc (blk_new w1 _) _⟩
  have HC : Aside0 (((w1.alloc (.cells #[.slice (some ⟨g, 0, none⟩) 2 2, .int .i64 (-1), .int .i64 (-1), .int .i64 (-1), .int .i64 (-1)] 24)).alloc (.cells #[.int .i64 0] 3)).heap[w1.heap.size + 1]? = some (.cells #[.int .i64 0] 3 (0, 0))) := ⟨by have := blk_new (w1.alloc (.cells #[.slice (some ⟨g, 0, none⟩) 2 2, .int .i64 (-1), .int .i64 (-1), .int .i64 (-1), .int .i64 (-1)] 24)) (.cells #[.int .i64 0] 3); simpa using this⟩
  have HS1 : Aside0 (∀ W, Below w1.heap.size w1 W → SC W (some ⟨g, 0, none⟩) 2 smallL) := ⟨fun W h => HS.out.below h⟩
  have HBW : Aside0 (Below w1.heap.size w1 ((w1.alloc (.cells #[.slice (some ⟨g, 0, none⟩) 2 2, .int .i64 (-1), .int .i64 (-1), .int .i64 (-1), .int .i64 (-1)] 24)).alloc (.cells #[.int .i64 0] 3))) := ⟨below_alloc (below_alloc (Below.refl _ _) _) _⟩
  generalize (w1.alloc (.cells #[.slice (some ⟨g, 0, none⟩) 2 2, .int .i64 (-1), .int .i64 (-1), .int .i64 (-1), .int .i64 (-1)] 24)).alloc (.cells #[.int .i64 0] 3) = W2 at HK HC HBW ⊢
  refine (outs_any (some ⟨g, 0, none⟩) 2 smallL (-1) (-1) (-1) (-1) ⟨none, 0, some ⟨w1.heap.size + 1, 0, none⟩, 1, none, 0, none, 0, none, 0⟩ q1 W2 (HS1.out _ HBW.out) (QC_q1 HC.out)).mono ?_
  rintro e w3 ⟨v7, rfl, hr, hb⟩
  rw [q1_outs] at hr
  obtain ⟨Ar, cr, rfl, hlr, hcr⟩ := Kd.R_reads hr
  have HR := Aside0.mk hcr
  have HB3 := Aside0.mk hb
  have HK3 := Aside0.mk (blk_below HK.out hb)
  clear hr hcr hb hlr
  go_wp2_with fail
  have HC4 := Aside0.mk (blk_new w3 (.cells #[.int .i64 1] 3))
  have HK4 := Aside0.mk (blk_alloc HK3.out (.cells #[.int .i64 1] 3))
  have HB4 : Aside0 (Below w1.heap.size w1 (w3.alloc (.cells #[.int .i64 1] 3))) := ⟨below_alloc (below_then HBW.out HBW.out.size HB3.out) _⟩
  have HR4 := Aside0.mk (Kd.C_alloc HR.out (.cells #[.int .i64 1] 3))
  generalize w3.alloc (.cells #[.int .i64 1] 3) = W4 at HC4 HK4 HB4 HR4 ⊢
  refine (ints_any Ar (some ⟨w3.heap.size, 0, none⟩) cr 1 [1] [1] W4 HR4.out (C_of_blk kI (xs := [1]) (inner := [.int .i64 1]) HC4.out ((Reps.none _ 1).snoc rfl rfl) (by decide))).mono ?_
  rintro e w5 ⟨rfl, hb⟩
  rw [show decide (([1] : List Int) = [1]) = true by decide]
  have HK5 := Aside0.mk (blk_below HK4.out hb)
  have HB5 := Aside0.mk (below_then HB4.out HB4.out.size hb)
  clear hb HK4 HB4 HR4 HC4 HB3 HK3 HK HC HBW
  obtain ⟨k0, k1, k2, k3, k4⟩ := cells5 HK5.out
  have hz5 := blk_lt HK5.out
  go_wp2_with fail
  have HC6 := Aside0.mk (blk_new w5 (.cells #[.int .i64 0] 3))
  have HK6 := Aside0.mk (blk_alloc HK5.out (.cells #[.int .i64 0] 3))
  have HB6 : Aside0 (Below w1.heap.size w1 (w5.alloc (.cells #[.int .i64 0] 3))) := ⟨below_alloc HB5.out _⟩
  generalize w5.alloc (.cells #[.int .i64 0] 3) = W6 at HC6 HK6 HB6 ⊢
  refine (check_any (some ⟨g, 0, none⟩) 2 smallL (-1) (-1) (-1) (-1) ⟨none, 0, some ⟨w5.heap.size, 0, none⟩, 1, none, 0, none, 0, none, 0⟩ q1 W6 (HS1.out _ HB6.out) (QC_q1 HC6.out)).mono ?_
  rintro e w7 ⟨rfl, hb⟩
  rw [q1_ok]
  have HK7 := Aside0.mk (blk_below HK6.out hb)
  have HB7 := Aside0.mk (below_then HB6.out HB6.out.size hb)
  clear hb HK5 HB5 HK6 HB6 HC6 k0 k1 k2 k3 k4 hz5
  obtain ⟨k0, k1, k2, k3, k4⟩ := cells5 HK7.out
  have hz7 := blk_lt HK7.out
  go_wp2_with fail
  have HC8 := Aside0.mk (blk_new w7 (.cells #[.int .i64 2, .int .i64 1] 43))
  have HB8 : Aside0 (Below w1.heap.size w1 (w7.alloc (.cells #[.int .i64 2, .int .i64 1] 43))) := ⟨below_alloc HB7.out _⟩
  generalize w7.alloc (.cells #[.int .i64 2, .int .i64 1] 43) = W8 at HC8 HB8 ⊢
  refine (check_any (some ⟨g, 0, none⟩) 2 smallL (-1) (-1) (-1) (-1) ⟨none, 0, none, 0, none, 0, some ⟨w7.heap.size, 0, none⟩, 1, none, 0⟩ q2 W8 (HS1.out _ HB8.out) (QC_q2 HC8.out)).mono ?_
  rintro e w9 ⟨rfl, hb⟩
  rw [q2_bad]
  have HB9 := Aside0.mk (below_then HB8.out HB8.out.size hb)
  clear hb
  go_wp2
  go_ret
  exact ⟨rfl, below_weaken HB.out HB.out.size HB9.out⟩
end Go.Proofs.YtfkbodhnemokjaaDoor.W
