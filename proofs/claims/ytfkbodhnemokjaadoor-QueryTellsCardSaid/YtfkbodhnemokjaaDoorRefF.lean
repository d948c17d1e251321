/- The document's answer of layer 16: names, Uses. -/
import Derived.Test.YtfkbodhnemokjaaDoorRefD
namespace Go.Proofs.YtfkbodhnemokjaaDoor.W
open Go.RowKit Go.Shelf Go.Proofs.YtfkbodhnemokjaaDoorW.PrintWords
set_option linter.unusedVariables false
set_option linter.unusedSimpArgs false
theorem mem_at {xs : List Int} {i : Nat} (h : i < xs.length) : rdI xs i ∈ xs := by rw [rdI, getD_at _ _ _ h]; exact List.getElem_mem _
theorem not_mem_rd {xs : List Int} {k : Int} (h : ∀ j, j < xs.length → (rdI xs j == k) = false) : k ∉ xs := by
  intro hx
  obtain ⟨j, hj, e⟩ := List.getElem_of_mem hx
  have := h j hj
  rw [rdI, getD_at _ _ _ hj, e] at this
  simp at this
theorem namedL_iff (q : Qry) (k : Int) : k ∈ namedL q ↔ k ∈ q.cols ∨ k ∈ q.grp ∨ (∃ i, i < q.fil.length ∧ (needsCol (rdNode q.fil i) && (rdNode q.fil i).col == k) = true) ∨ ∃ i, i < q.aggs.length ∧ ((rdAgg q.aggs i).col == k) = true := by
  unfold namedL
  simp only [List.mem_append, List.mem_map, List.mem_filter, or_assoc]
  have e1 : (∃ a, (a ∈ q.fil ∧ needsCol a = true) ∧ a.col = k) ↔ ∃ i, i < q.fil.length ∧ (needsCol (rdNode q.fil i) && (rdNode q.fil i).col == k) = true := by
    constructor
    · rintro ⟨a, ⟨ha, hn⟩, rfl⟩
      obtain ⟨i, hi, rfl⟩ := List.getElem_of_mem ha
      exact ⟨i, hi, by rw [rdNode, getD_at _ _ _ hi]; simp [hn]⟩
    · rintro ⟨i, hi, h⟩
      rw [rdNode, getD_at _ _ _ hi] at h
      simp only [Bool.and_eq_true, beq_iff_eq] at h
      exact ⟨_, ⟨List.getElem_mem hi, h.1⟩, h.2⟩
  have e2 : (∃ a, a ∈ q.aggs ∧ a.col = k) ↔ ∃ i, i < q.aggs.length ∧ ((rdAgg q.aggs i).col == k) = true := by
    constructor
    · rintro ⟨a, ha, rfl⟩
      obtain ⟨i, hi, rfl⟩ := List.getElem_of_mem ha
      exact ⟨i, hi, by rw [rdAgg, getD_at _ _ _ hi]; simp⟩
    · rintro ⟨i, hi, h⟩
      rw [rdAgg, getD_at _ _ _ hi] at h
      exact ⟨_, List.getElem_mem hi, by simpa using h⟩
  rw [e1, e2]
set_option maxHeartbeats 8000000 in
set_option maxRecDepth 100000 in
theorem names_any (p : QAt) (q : Qry) (k : Int) (w : World) (hq : QC w p q) :
    Calls Tryd.prog 21 #[q.v p, .int .i64 k] w fun e w' => e = .returned (.bool (decide (k ∈ namedL q))) ∧ Below w.heap.size w w' := by
  have hu2 := Tryd.underlying30
  have hu3 := Tryd.underlying43
  have hu4 := Tryd.underlying49
  have hu6 := Tryd.underlying47
  have hl0 := hq.1.1.2.1
  have hl1 := hq.2.1.1.2.1
  have hl2 := hq.2.2.1.1.2.1
  have hl3 := hq.2.2.2.1.1.2.1
  have HIF := Aside0.mk (namedL_iff q k)
  obtain ⟨A0, c0, A1, c1, A2, c2, A3, c3, A4, c4⟩ := p
  unfold Qry.v
  dsimp only
  have HB : Aside0 (Below w.heap.size w (w.alloc (.cells #[.slice A0 q.fil.length c0, .slice A1 q.cols.length c1, .slice A2 q.grp.length c2, .slice A3 q.aggs.length c3, .slice A4 q.sort.length c4, .int .i64 q.lim] 30))) := ⟨below_alloc (Below.refl _ _) _⟩
  have HQ := Aside0.mk (hq.below HB.out)
  clear hq
  have HK : Aside0 ((w.alloc (.cells #[.slice A0 q.fil.length c0, .slice A1 q.cols.length c1, .slice A2 q.grp.length c2, .slice A3 q.aggs.length c3, .slice A4 q.sort.length c4, .int .i64 q.lim] 30)).heap[w.heap.size]? = some (.cells #[.slice A0 q.fil.length c0, .slice A1 q.cols.length c1, .slice A2 q.grp.length c2, .slice A3 q.aggs.length c3, .slice A4 q.sort.length c4, .int .i64 q.lim] 30 (0, 0))) := ⟨blk_new w _⟩
  go_enter Tryd.func21, Tryd.ntmps21
  go_wp2
  go_loopg [5] q.fil.length (fun kq v w' => ∃ i : Nat, v = .int .i64 i ∧ Aside0 (i + kq = q.fil.length) ∧ Aside0 (∀ j, j < i → (needsCol (rdNode q.fil j) && (rdNode q.fil j).col == k) = false) ∧ Aside0 (w' = w.alloc (.cells #[.slice A0 q.fil.length c0, .slice A1 q.cols.length c1, .slice A2 q.grp.length c2, .slice A3 q.aggs.length c3, .slice A4 q.sort.length c4, .int .i64 q.lim] 30)))
  case atStart => exact ⟨0, rfl, ⟨by omega⟩, ⟨fun j hj => absurd hj (by omega)⟩, ⟨rfl⟩⟩
  case round =>
    obtain ⟨i, rfl, HI, HN, HW⟩ := hrel
    rw [← HW.out] at HB HQ HK
    have HW1 := HW
    clear HW
    have hi := HI.out
    obtain ⟨j0, j1, j2, j3, j4, j5⟩ := cells6 HK.out
    by_cases hlt : i < q.fil.length
    · obtain ⟨ad, hA, d0, d1, d2, d3, d4, d5, d6, d7⟩ := atNode HQ.out.1.1 i hlt
      dsimp only at hA
      subst hA
      have HX : Aside0 ((needsCol (rdNode q.fil i) && (rdNode q.fil i).col == k) = (decide (1 ≤ (rdNode q.fil i).ask) && decide ((rdNode q.fil i).ask ≤ 7) && (rdNode q.fil i).col == k)) := ⟨rfl⟩
      cases hx : (needsCol (rdNode q.fil i) && (rdNode q.fil i).col == k)
      · have HXX := Aside0.mk hx
        have hy := HX.out.symm.trans hx
        have h3 : (rdNode q.fil i).ask < 1 ∨ (1 ≤ (rdNode q.fil i).ask ∧ 7 < (rdNode q.fil i).ask) ∨ (1 ≤ (rdNode q.fil i).ask ∧ (rdNode q.fil i).ask ≤ 7 ∧ ((rdNode q.fil i).col == k) = false) := by
          by_cases g1 : 1 ≤ (rdNode q.fil i).ask
          · by_cases g2 : (rdNode q.fil i).ask ≤ 7
            · right; right; refine ⟨g1, g2, ?_⟩; simpa [g1, g2] using hy
            · right; left; omega
          · left; omega
        clear hx hy
        rcases h3 with h | ⟨h, h'⟩ | ⟨h, h', h''⟩
        · go_wp2
          go_roundg (gk - 1)
          case measure => omega
          case rel => exact ⟨i + 1, by go_num, ⟨by omega⟩, ⟨forall_snoc HN.out HXX.out⟩, HW1⟩
        · have f7 : decide ((rdNode q.fil i).ask ≤ 7) = false := decide_eq_false (by omega)
          go_wp2
          go_roundg (gk - 1)
          case measure => omega
          case rel => exact ⟨i + 1, by go_num, ⟨by omega⟩, ⟨forall_snoc HN.out HXX.out⟩, HW1⟩
        · have f7 : decide ((rdNode q.fil i).ask ≤ 7) = true := decide_eq_true (by omega)
          go_wp2
          go_roundg (gk - 1)
          case measure => omega
          case rel => exact ⟨i + 1, by go_num, ⟨by omega⟩, ⟨forall_snoc HN.out HXX.out⟩, HW1⟩
      · have HE : Aside0 (decide (k ∈ namedL q) = true) := ⟨decide_eq_true (HIF.out.2 (.inr (.inr (.inl ⟨i, hlt, hx⟩))))⟩
        have hy := HX.out.symm.trans hx
        simp only [Bool.and_eq_true, decide_eq_true_eq] at hy
        obtain ⟨⟨h1, h2⟩, h3⟩ := hy
        clear hx
        have f7 : decide ((rdNode q.fil i).ask ≤ 7) = true := decide_eq_true h2
        go_wp2
        go_ret
        exact ⟨by rw [HE.out]; rfl, HB.out⟩
    · have HM1 : Aside0 (∀ j, j < q.fil.length → (needsCol (rdNode q.fil j) && (rdNode q.fil j).col == k) = false) := ⟨fun j hj => HN.out j (by omega)⟩
      go_wp2
      go_loopg [6] q.cols.length (fun kq v w' => ∃ i : Nat, v = .int .i64 i ∧ Aside0 (i + kq = q.cols.length) ∧ Aside0 (∀ j, j < i → (rdI q.cols j == k) = false) ∧ Aside0 (w' = wr))
      case atStart => exact ⟨0, rfl, ⟨by omega⟩, ⟨fun j hj => absurd hj (by omega)⟩, ⟨rfl⟩⟩
      case round =>
        obtain ⟨i, rfl, HI, HN, HW⟩ := hrel
        obtain rfl := HW.out
        have hi := HI.out
        by_cases hlt : i < q.cols.length
        · obtain ⟨ad, hA, d0⟩ := atI HQ.out.2.1.1 i hlt
          dsimp only at hA
          subst hA
          cases hx : (rdI q.cols i == k)
          · have HXX := Aside0.mk hx
            go_wp2
            go_roundg (gk - 1)
            case measure => omega
            case rel => exact ⟨i + 1, by go_num, ⟨by omega⟩, ⟨forall_snoc HN.out HXX.out⟩, ⟨rfl⟩⟩
          · have HE : Aside0 (decide (k ∈ namedL q) = true) := ⟨decide_eq_true (HIF.out.2 (.inl (by rw [← beq_iff_eq.1 hx]; exact mem_at hlt)))⟩
            go_wp2
            go_ret
            exact ⟨by rw [HE.out]; rfl, HB.out⟩
        · have HM2 : Aside0 (∀ j, j < q.cols.length → (rdI q.cols j == k) = false) := ⟨fun j hj => HN.out j (by omega)⟩
          go_wp2
          go_loopg [7] q.grp.length (fun kq v w' => ∃ i : Nat, v = .int .i64 i ∧ Aside0 (i + kq = q.grp.length) ∧ Aside0 (∀ j, j < i → (rdI q.grp j == k) = false) ∧ Aside0 (w' = wr))
          case atStart => exact ⟨0, rfl, ⟨by omega⟩, ⟨fun j hj => absurd hj (by omega)⟩, ⟨rfl⟩⟩
          case round =>
            obtain ⟨i, rfl, HI, HN, HW⟩ := hrel
            obtain rfl := HW.out
            have hi := HI.out
            by_cases hlt : i < q.grp.length
            · obtain ⟨ad, hA, d0⟩ := atI HQ.out.2.2.1.1 i hlt
              dsimp only at hA
              subst hA
              cases hx : (rdI q.grp i == k)
              · have HXX := Aside0.mk hx
                go_wp2
                go_roundg (gk - 1)
                case measure => omega
                case rel => exact ⟨i + 1, by go_num, ⟨by omega⟩, ⟨forall_snoc HN.out HXX.out⟩, ⟨rfl⟩⟩
              · have HE : Aside0 (decide (k ∈ namedL q) = true) := ⟨decide_eq_true (HIF.out.2 (.inr (.inl (by rw [← beq_iff_eq.1 hx]; exact mem_at hlt))))⟩
                go_wp2
                go_ret
                exact ⟨by rw [HE.out]; rfl, HB.out⟩
            · have HM3 : Aside0 (∀ j, j < q.grp.length → (rdI q.grp j == k) = false) := ⟨fun j hj => HN.out j (by omega)⟩
              go_wp2
              go_loopg [8] q.aggs.length (fun kq v w' => ∃ i : Nat, v = .int .i64 i ∧ Aside0 (i + kq = q.aggs.length) ∧ Aside0 (∀ j, j < i → ((rdAgg q.aggs j).col == k) = false) ∧ Aside0 (w' = wr))
              case atStart => exact ⟨0, rfl, ⟨by omega⟩, ⟨fun j hj => absurd hj (by omega)⟩, ⟨rfl⟩⟩
              case round =>
                obtain ⟨i, rfl, HI, HN, HW⟩ := hrel
                obtain rfl := HW.out
                have hi := HI.out
                by_cases hlt : i < q.aggs.length
                · obtain ⟨ad, hA, d0, d1⟩ := atAgg HQ.out.2.2.2.1.1 i hlt
                  dsimp only at hA
                  subst hA
                  cases hx : ((rdAgg q.aggs i).col == k)
                  · have HXX := Aside0.mk hx
                    go_wp2
                    go_roundg (gk - 1)
                    case measure => omega
                    case rel => exact ⟨i + 1, by go_num, ⟨by omega⟩, ⟨forall_snoc HN.out HXX.out⟩, ⟨rfl⟩⟩
                  · have HE : Aside0 (decide (k ∈ namedL q) = true) := ⟨decide_eq_true (HIF.out.2 (.inr (.inr (.inr ⟨i, hlt, hx⟩))))⟩
                    go_wp2
                    go_ret
                    exact ⟨by rw [HE.out]; rfl, HB.out⟩
                · have HM4 : Aside0 (∀ j, j < q.aggs.length → ((rdAgg q.aggs j).col == k) = false) := ⟨fun j hj => HN.out j (by omega)⟩
                  have HE : Aside0 (decide (k ∈ namedL q) = false) := ⟨decide_eq_false (by
                    rw [HIF.out]
                    rintro (h | h | ⟨i, hi, h⟩ | ⟨i, hi, h⟩)
                    · exact not_mem_rd HM2.out h
                    · exact not_mem_rd HM3.out h
                    · rw [HM1.out i hi] at h; cases h
                    · rw [HM4.out i hi] at h; cases h)⟩
                  go_wp2
                  go_ret
                  exact ⟨by rw [HE.out]; rfl, HB.out⟩
def refUsesL (q : Qry) (n : Nat) : List Int := ((List.range n).filter fun k : Nat => decide ((k : Int) ∈ namedL q)).map fun k : Nat => (k : Int)
theorem refUsesL_succ (q : Qry) (n : Nat) : refUsesL q (n + 1) = refUsesL q n ++ if decide ((n : Int) ∈ namedL q) = true then [(n : Int)] else [] := by
  unfold refUsesL
  rw [List.range_succ, List.filter_append, List.map_append]
  cases h : decide ((n : Int) ∈ namedL q)
  · simp only [decide_eq_false_iff_not] at h; simp [h]
  · simp only [decide_eq_true_eq] at h; simp [h]
theorem refUsesL_len (q : Qry) (n : Nat) : (refUsesL q n).length ≤ n := by
  unfold refUsesL
  rw [List.length_map]
  exact Nat.le_trans (List.length_filter_le _ _) (by simp)
set_option maxHeartbeats 8000000 in
set_option maxRecDepth 100000 in
theorem refUses_any (p : QAt) (q : Qry) (w : World) (hq : QC w p q) :
    Calls Tryd.prog 11 #[q.v p, .int .i64 50] w fun e w' => ∃ v, e = .returned v ∧ rowI w' w.heap.size v (refUsesL q 50) ∧ Below w.heap.size w w' := by
  have hu2 := Tryd.underlying30
  have HQ := Aside0.mk hq
  clear hq
  have HCn : Aside0 (∀ (k : Int) (W : World), Below w.heap.size w W → Calls Tryd.prog 21 #[q.v p, .int .i64 k] W fun e w' => e = .returned (.bool (decide (k ∈ namedL q))) ∧ Below W.heap.size W w') := ⟨fun k W h => names_any p q k W (HQ.out.below h)⟩
  obtain ⟨A0, c0, A1, c1, A2, c2, A3, c3, A4, c4⟩ := p
  unfold Qry.v at HCn ⊢
  dsimp only at HCn ⊢
  have HB0 : Aside0 (Below w.heap.size w (w.alloc (.cells #[.slice A0 q.fil.length c0, .slice A1 q.cols.length c1, .slice A2 q.grp.length c2, .slice A3 q.aggs.length c3, .slice A4 q.sort.length c4, .int .i64 q.lim] 30))) := ⟨below_alloc (Below.refl _ _) _⟩
  have HK0 : Aside0 ((w.alloc (.cells #[.slice A0 q.fil.length c0, .slice A1 q.cols.length c1, .slice A2 q.grp.length c2, .slice A3 q.aggs.length c3, .slice A4 q.sort.length c4, .int .i64 q.lim] 30)).heap[w.heap.size]? = some (.cells #[.slice A0 q.fil.length c0, .slice A1 q.cols.length c1, .slice A2 q.grp.length c2, .slice A3 q.aggs.length c3, .slice A4 q.sort.length c4, .int .i64 q.lim] 30 (0, 0))) := ⟨blk_new w _⟩
  go_enter Tryd.func11, Tryd.ntmps11
  go_wp2
  generalize w.alloc (.cells #[.slice A0 q.fil.length c0, .slice A1 q.cols.length c1, .slice A2 q.grp.length c2, .slice A3 q.aggs.length c3, .slice A4 q.sort.length c4, .int .i64 q.lim] 30) = W1 at HB0 HK0 ⊢
  go_loopg [5, 6] 50 (fun kq v5 v w' => ∃ i : Nat, v = .int .i64 i ∧ Aside0 (i + kq = 50) ∧ Aside0 (rowI w' W1.heap.size v5 (refUsesL q i)) ∧ Aside0 (Below W1.heap.size W1 w'))
  case atStart => exact ⟨0, rfl, ⟨by omega⟩, ⟨Kd.R_nil _ _ _ _ _⟩, ⟨Below.refl _ _⟩⟩
  case round =>
    obtain ⟨i, rfl, HI, HO, HB⟩ := hrel
    have hi := HI.out
    have HK := Aside0.mk (blk_below HK0.out HB.out)
    obtain ⟨j0, j1, j2, j3, j4, j5⟩ := cells6 HK.out
    have hz := blk_lt HK.out
    have HBw := Aside0.mk (below_weaken HB0.out HB0.out.size HB.out)
    by_cases hlt : i < 50
    · have HT := Aside0.mk (refUsesL_succ q i)
      have hlen := refUsesL_len q i
      cases hx : decide ((i : Int) ∈ namedL q)
      · rw [hx, if_neg (by simp), List.append_nil] at HT
        have HX := Aside0.mk hx
        clear hx
        go_wp2_with fail
        refine (HCn.out _ _ HBw.out).mono ?_
        rintro e w6 ⟨rfl, hb⟩
        rw [HX.out]
        have HO2 := Aside0.mk (Kd.R_below HO.out hb)
        rw [← HT.out] at HO2
        have HB2 := Aside0.mk (below_then HB.out HB.out.size hb)
        clear hb
        go_wp2
        go_roundg (gk - 1)
        case measure => omega
        case rel => exact ⟨i + 1, by go_num, ⟨by omega⟩, HO2, HB2⟩
      · rw [hx, if_pos rfl] at HT
        have HX := Aside0.mk hx
        clear hx
        go_wp2_with fail
        refine (HCn.out _ _ HBw.out).mono ?_
        rintro e w6 ⟨rfl, hb⟩
        rw [HX.out]
        have HO2 := Aside0.mk (Kd.R_below HO.out hb)
        have HB2 := Aside0.mk (below_then HB.out HB.out.size hb)
        clear hb HO HB
        have HO := HO2
        have HB := HB2
        clear HO2 HB2
        go_wp2_with (at_builtin; refine appI rfl (.tmp 15) (.tmp 17) rfl _ _ _ rfl rfl (by repeat (first | exact HO.out | apply Kd.R_alloc | apply Kd.R_drew | apply Kd.R_drewN)) (by repeat (first | exact HB.out | apply below_alloc | apply below_drew | apply pw_below_drewN)) (below_size (by repeat (first | exact HB.out | apply below_alloc | apply below_drew | apply pw_below_drewN))) (by omega) ?_; intro v2 w2 ho hb hg; rw [← HT.out] at ho; have HO2 := Aside0.mk ho; have HB2 := Aside0.mk hb; clear ho hb hg)
        go_roundg (gk - 1)
        case measure => omega
        case rel => exact ⟨i + 1, by go_num, ⟨by omega⟩, HO2, HB2⟩
    · obtain rfl : i = 50 := by omega
      go_wp2
      go_ret
      exact ⟨_, rfl, Kd.R_lower HO.out HB0.out.size, HBw.out⟩
end Go.Proofs.YtfkbodhnemokjaaDoor.W
