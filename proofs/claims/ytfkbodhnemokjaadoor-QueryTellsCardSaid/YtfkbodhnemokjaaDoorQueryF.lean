/- Package query: Uses comes to a plain function. -/
import Derived.Test.YtfkbodhnemokjaaDoorQueryE
import Derived.Test.YtfkbodhnemokjaaDoorShelfRows
namespace Go.Proofs.YtfkbodhnemokjaaDoor.W
open Go.RowKit Go.Shelf Go.Proofs.YtfkbodhnemokjaaDoorW.PrintWords
set_option linter.unusedVariables false
set_option linter.unusedSimpArgs false
def needsCol (x : Node) : Bool := decide (1 ≤ x.ask) && decide (x.ask ≤ 7)
theorem needsCol_iff (x : Node) : needsCol x = (decide (needsI x.ask = 1) || decide (needsI x.ask = 2)) := by
  rw [Bool.eq_iff_iff]
  unfold needsCol
  rcases needsI_cases x.ask with ⟨h, e⟩ | ⟨h, h', e⟩ | ⟨h, e⟩ | ⟨h, e⟩ | ⟨h, e⟩ | ⟨h, e⟩ | ⟨h | h, e⟩ <;> rw [e] <;> simp <;> omega
def namedL (q : Qry) : List Int := q.cols ++ q.grp ++ (q.fil.filter needsCol).map (·.col) ++ q.aggs.map (·.col)
def usesL (q : Qry) : List Int := Lib.compact (sortI ((namedL q).filter fun k => !decide (k < 0)))
set_option maxHeartbeats 400000 in
theorem usesFn_any (k : Int) (w : World) : FnGives Tryd.prog 18 #[] #[.int .i64 k] (.bool (decide (k < 0))) w := by
  show Calls Tryd.prog 18 #[.int .i64 k] w _
  go_enter Tryd.func18, Tryd.ntmps18
  go_wp2
  go_ret
  exact ⟨rfl, 0, rfl⟩
set_option maxHeartbeats 8000000 in
set_option maxRecDepth 100000 in
theorem uses_any (p : QAt) (q : Qry) (w : World) (hq : QC w p q) (b0 : q.fil.length ≤ 60) (b1 : q.cols.length ≤ 20) (b2 : q.grp.length ≤ 20) (b3 : q.aggs.length ≤ 20) :
    Calls Tryd.prog 10 #[q.v p] w fun e w' => ∃ v, e = .returned v ∧ rowI w' w.heap.size v (usesL q) ∧ Below w.heap.size w w' := by
  have hu2 := Tryd.underlying30
  have hu3 := Tryd.underlying43
  have hu4 := Tryd.underlying49
  have HQ := Aside0.mk hq
  clear hq
  obtain ⟨A0, c0, A1, c1, A2, c2, A3, c3, A4, c4⟩ := p
  unfold Qry.v
  dsimp only
  have HB := Aside0.mk (Below.refl w.heap.size w)
  have HK3 : Aside0 ((w.alloc (.cells #[.slice A0 q.fil.length c0, .slice A1 q.cols.length c1, .slice A2 q.grp.length c2, .slice A3 q.aggs.length c3, .slice A4 q.sort.length c4, .int .i64 q.lim] 30)).heap[w.heap.size]? = some (.cells #[.slice A0 q.fil.length c0, .slice A1 q.cols.length c1, .slice A2 q.grp.length c2, .slice A3 q.aggs.length c3, .slice A4 q.sort.length c4, .int .i64 q.lim] 30 (0, 0))) := ⟨blk_new w _⟩
  go_enter Tryd.func10, Tryd.ntmps10
  go_wp2_with fail
  have HK4 := Aside0.mk (blk_alloc HK3.out (.cells #[.slice A1 q.cols.length c1, .slice A2 q.grp.length c2] 26))
  have HG : Aside0 (((w.alloc (.cells #[.slice A0 q.fil.length c0, .slice A1 q.cols.length c1, .slice A2 q.grp.length c2, .slice A3 q.aggs.length c3, .slice A4 q.sort.length c4, .int .i64 q.lim] 30)).alloc (.cells #[.slice A1 q.cols.length c1, .slice A2 q.grp.length c2] 26)).heap[w.heap.size + 1]? = some (.cells #[.slice A1 q.cols.length c1, .slice A2 q.grp.length c2] 26 (0, 0))) := ⟨by have := blk_new (w.alloc (.cells #[.slice A0 q.fil.length c0, .slice A1 q.cols.length c1, .slice A2 q.grp.length c2, .slice A3 q.aggs.length c3, .slice A4 q.sort.length c4, .int .i64 q.lim] 30)) (.cells #[.slice A1 q.cols.length c1, .slice A2 q.grp.length c2] 26); simpa using this⟩
  have HBW : Aside0 (Below w.heap.size w ((w.alloc (.cells #[.slice A0 q.fil.length c0, .slice A1 q.cols.length c1, .slice A2 q.grp.length c2, .slice A3 q.aggs.length c3, .slice A4 q.sort.length c4, .int .i64 q.lim] 30)).alloc (.cells #[.slice A1 q.cols.length c1, .slice A2 q.grp.length c2] 26))) := ⟨below_alloc (below_alloc (Below.refl _ _) _) _⟩
  generalize (w.alloc (.cells #[.slice A0 q.fil.length c0, .slice A1 q.cols.length c1, .slice A2 q.grp.length c2, .slice A3 q.aggs.length c3, .slice A4 q.sort.length c4, .int .i64 q.lim] 30)).alloc (.cells #[.slice A1 q.cols.length c1, .slice A2 q.grp.length c2] 26) = W1 at HK4 HG HBW ⊢
  clear HK3 HB
  refine (concat_any _ A1 A2 c1 c2 q.cols q.grp _ HG.out (HQ.out.below HBW.out).2.1.1 (HQ.out.below HBW.out).2.2.1.1 (by omega) (by omega)).mono ?_
  rintro e w4 ⟨vr, rfl, hr, hb⟩
  have HB := Aside0.mk hb
  have HKQ := Aside0.mk (blk_below HK4.out hb)
  have HQ2 : Aside0 (∀ W, Below W1.heap.size W1 W → QC W ⟨A0, c0, A1, c1, A2, c2, A3, c3, A4, c4⟩ q) := ⟨fun W h => (HQ.out.below HBW.out).below h⟩
  have HK5 : Aside0 (∀ W, Below W1.heap.size W1 W → W.heap[w.heap.size]? = some (.cells #[.slice A0 q.fil.length c0, .slice A1 q.cols.length c1, .slice A2 q.grp.length c2, .slice A3 q.aggs.length c3, .slice A4 q.sort.length c4, .int .i64 q.lim] 30 (0, 0))) := ⟨fun W h => blk_below HK4.out h⟩
  clear hb HK4 HG HQ
  have hkl : (q.cols ++ q.grp).length ≤ 40 := by rw [List.length_append]; omega
  have HO : Aside0 (rowI w4 W1.heap.size vr (q.cols ++ q.grp ++ ((q.fil.take 0).filter needsCol).map (·.col))) := ⟨by simpa using hr⟩
  clear hr
  obtain ⟨j0, j1, j2, j3, j4, j5⟩ := cells6 HKQ.out
  clear HKQ
  have HE : Aside0 (namedL q = q.cols ++ q.grp ++ (q.fil.filter needsCol).map (·.col) ++ q.aggs.map (·.col)) := ⟨rfl⟩
  generalize q.cols ++ q.grp = ks at hkl HE HO ⊢
  go_wp2
  go_loopg [3, 18] q.fil.length (fun kq v3 v w' => ∃ i : Nat, v = .int .i64 i ∧ Aside0 (i + kq = q.fil.length) ∧ Aside0 (rowI w' W1.heap.size v3 (ks ++ ((q.fil.take i).filter needsCol).map (·.col))) ∧ Aside0 (Below W1.heap.size W1 w'))
  case atStart => exact ⟨0, rfl, ⟨by omega⟩, HO, HB⟩
  case round =>
    clear HB HO j0 j1 j2 j3 j4 j5
    obtain ⟨i, rfl, HI, HO, HB⟩ := hrel
    have hi := HI.out
    obtain ⟨j0, j1, j2, j3, j4, j5⟩ := cells6 (HK5.out _ HB.out)
    have hz3 := blk_lt (HK5.out _ HB.out)
    by_cases hlt : i < q.fil.length
    · obtain ⟨ad, hA, d0, d1, d2, d3, d4, d5, d6, d7⟩ := atNode (HQ2.out _ HB.out).1.1 i hlt
      dsimp only at hA
      subst hA
      have hln : ((q.fil.take i).filter needsCol).length ≤ 60 := Nat.le_trans (List.length_filter_le _ _) (by rw [List.length_take]; omega)
      have HT : Aside0 (((q.fil.take (i + 1)).filter needsCol).map (·.col) = ((q.fil.take i).filter needsCol).map (·.col) ++ if needsCol (rdNode q.fil i) = true then [(rdNode q.fil i).col] else []) := ⟨by
        rw [show rdNode q.fil i = q.fil[i] from getD_at _ _ _ hlt, List.take_add_one, List.getElem?_eq_getElem hlt, List.filter_append, List.map_append]
        cases hx : needsCol q.fil[i] <;> simp [hx]⟩
      have HN := Aside0.mk (needsCol_iff (rdNode q.fil i))
      generalize rdNode q.fil i = x at d0 d1 d2 d3 d4 d5 d6 d7 HT HN
      obtain ⟨ask, col, vv, xa, xb⟩ := x
      dsimp only at d0 d1 d2 d3 d4 d5 d6 d7
      go_wp2_with fail
      refine (needs_any _ _).mono ?_
      rintro e w6 ⟨rfl, hb⟩
      have hz5 := blk_lt (HK5.out _ (below_then HB.out HB.out.size (below_step (Below.refl _ _ |> fun h => below_alloc h _) hb)))
      have g0 : w6.cell? ⟨wr.heap.size, 1, none⟩ = some (.int .i64 col) := by
        have h0 : (wr.alloc (.cells #[.int .i64 ask, .int .i64 col, .int .i64 vv.kind, .int .i64 vv.i, .string vv.s, .bool vv.b, .int .i64 xa, .int .i64 xb] 49)).cell? ⟨wr.heap.size, 1, none⟩ = some (.int .i64 col) := by go_simp
        exact pw_cell_below hb h0
      have HO2 := Aside0.mk (Kd.R_below (Kd.R_alloc HO.out (.cells #[.int .i64 ask, .int .i64 col, .int .i64 vv.kind, .int .i64 vv.i, .string vv.s, .bool vv.b, .int .i64 xa, .int .i64 xb] 49)) hb)
      have HB2 := Aside0.mk (below_then (below_alloc HB.out (.cells #[.int .i64 ask, .int .i64 col, .int .i64 vv.kind, .int .i64 vv.i, .string vv.s, .bool vv.b, .int .i64 xa, .int .i64 xb] 49)) (by have := HB.out.size; simp; omega) hb)
      clear HB HO hb
      have HB := HB2
      have HO := HO2
      clear HB2 HO2
      cases hn : needsCol ⟨ask, col, vv, xa, xb⟩
      · have hn2 := HN.out
        rw [hn] at hn2
        have hn3 : (needsI ask == 1) = false := by
          have := hn2.symm; simp only [Bool.or_eq_false_iff, decide_eq_false_iff_not] at this; simpa using this.1
        have hn4 : (needsI ask == 2) = false := by
          have := hn2.symm; simp only [Bool.or_eq_false_iff, decide_eq_false_iff_not] at this; simpa using this.2
        rw [hn, if_neg (by simp), List.append_nil] at HT
        rw [← HT.out] at HO
        clear HN hn2 hn
        generalize needsI ask = nn at hn3 hn4 ⊢
        go_wp2
        go_roundg (gk - 1)
        case measure => omega
        case rel => exact ⟨i + 1, by go_num, ⟨by omega⟩, HO, HB⟩
      · have hn2 := HN.out
        rw [hn] at hn2
        have hn5 : needsI ask = 1 ∨ needsI ask = 2 := by
          have := hn2.symm; simpa using this
        rw [hn, if_pos rfl] at HT
        have HT2 : Aside0 (ks ++ List.map (·.col) (List.filter needsCol (List.take i q.fil)) ++ [col] = ks ++ List.map (·.col) (List.filter needsCol (List.take (i + 1) q.fil))) := ⟨by rw [HT.out, List.append_assoc]⟩
        clear HN hn2 hn HT
        rcases hn5 with h | h
        all_goals
          rw [h]
          clear h
          go_wp2_with (at_builtin; refine appI rfl (.tmp 31) (.tmp 34) rfl _ _ _ rfl rfl (by repeat (first | exact HO.out | apply Kd.R_alloc | apply Kd.R_drew | apply Kd.R_drewN)) (by repeat (first | exact HB.out | apply below_alloc | apply below_drew | apply pw_below_drewN)) (below_size (by repeat (first | exact HB.out | apply below_alloc | apply below_drew | apply pw_below_drewN))) (by simp; omega) ?_; intro v2 w2 ho hb hg; rw [HT2.out] at ho; have HO2 := Aside0.mk ho; have HB2 := Aside0.mk hb; clear ho hb hg)
          go_roundg (gk - 1)
          case measure => omega
          case rel => exact ⟨i + 1, by go_num, ⟨by omega⟩, HO2, HB2⟩
    · obtain rfl : i = q.fil.length := by omega
      have hfl : (q.fil.filter needsCol).length ≤ 60 := Nat.le_trans (List.length_filter_le _ _) b0
      rw [List.take_length, show ks ++ (q.fil.filter needsCol).map (·.col) = ks ++ (q.fil.filter needsCol).map (·.col) ++ (q.aggs.take 0).map (·.col) by simp] at HO
      have hml : (ks ++ (q.fil.filter needsCol).map (·.col)).length ≤ 100 := by rw [List.length_append, List.length_map]; omega
      generalize ks ++ (q.fil.filter needsCol).map (·.col) = ms at HO HE hml
      go_wp2
      go_loopg [3, 40] q.aggs.length (fun kq v3 v w' => ∃ i : Nat, v = .int .i64 i ∧ Aside0 (i + kq = q.aggs.length) ∧ Aside0 (rowI w' W1.heap.size v3 (ms ++ (q.aggs.take i).map (·.col))) ∧ Aside0 (Below W1.heap.size W1 w'))
      case atStart => exact ⟨0, rfl, ⟨by omega⟩, HO, HB⟩
      case round =>
        clear HB HO j0 j1 j2 j3 j4 j5 HI hi hlt hz3
        obtain ⟨i, rfl, HI, HO, HB⟩ := hrel
        have hi := HI.out
        obtain ⟨j0, j1, j2, j3, j4, j5⟩ := cells6 (HK5.out _ HB.out)
        have hz3 := blk_lt (HK5.out _ HB.out)
        by_cases hlt : i < q.aggs.length
        · obtain ⟨ad, hA, d0, d1⟩ := atAgg (HQ2.out _ HB.out).2.2.2.1.1 i hlt
          dsimp only at hA
          subst hA
          have HT : Aside0 (ms ++ (q.aggs.take i).map (·.col) ++ [(rdAgg q.aggs i).col] = ms ++ (q.aggs.take (i + 1)).map (·.col)) := ⟨by rw [← map_take_snoc (·.col) zAgg q.aggs i hlt, List.append_assoc]; rfl⟩
          generalize rdAgg q.aggs i = x at d0 d1 HT
          obtain ⟨fn, col⟩ := x
          dsimp only at d0 d1
          go_wp2_with (at_builtin; refine appI rfl (.tmp 44) (.tmp 47) rfl _ _ _ rfl (one_alloc _ _) (by repeat (first | exact HO.out | apply Kd.R_alloc | apply Kd.R_drew | apply Kd.R_drewN)) (by repeat (first | exact HB.out | apply below_alloc | apply below_drew | apply pw_below_drewN)) (below_size (by repeat (first | exact HB.out | apply below_alloc | apply below_drew | apply pw_below_drewN))) (by simp; omega) ?_; intro v2 w2 ho hb hg; rw [HT.out] at ho; have HO2 := Aside0.mk ho; have HB2 := Aside0.mk hb; clear ho hb hg)
          go_roundg (gk - 1)
          case measure => omega
          case rel => exact ⟨i + 1, by go_num, ⟨by omega⟩, HO2, HB2⟩
        · obtain rfl : i = q.aggs.length := by omega
          rw [List.take_length, ← HE.out] at HO
          have hnl : (namedL q).length ≤ 120 := by rw [HE.out, List.length_append, List.length_map]; omega
          have HU : Aside0 (usesL q = Lib.compact (sortI ((namedL q).filter fun k => !decide (k < 0)))) := ⟨rfl⟩
          generalize namedL q = ns at HO hnl HU
          clear HE hml
          go_wp2_with fail
          refine (delete_R HO.out HB.out.size (by omega) _ _ (fun k => decide (k < 0)) (fun args w => by rfl) (fun W x => usesFn_any x W)).mono ?_
          rintro e w7 ⟨v7, rfl, h7, hb7⟩
          have hfl2 : (ns.filter fun k => !decide (k < 0)).length ≤ 120 := Nat.le_trans (List.length_filter_le _ _) hnl
          generalize (ns.filter fun k => !decide (k < 0)) = ds at h7 hfl2 HU
          have HO7 := Aside0.mk h7
          have HB7 := Aside0.mk (below_weaken HB.out (Nat.le_refl _) hb7)
          clear h7 hb7 HB HO hnl
          go_wp2_with fail
          refine (sort_R HO7.out (by omega)).mono ?_
          rintro e w8 ⟨rfl, h8, hb8⟩
          have hsl : (sortI ds).length ≤ 120 := by rw [show (sortI ds).length = ds.length from List.length_mergeSort _]; exact hfl2
          generalize sortI ds = ss at h8 HU hsl
          have HO8 := Aside0.mk h8
          have HB8 := Aside0.mk (below_weaken HB7.out (Nat.le_refl _) hb8)
          clear h8 hb8 HB7 HO7 hfl2
          go_wp2_with fail
          refine (compact_R HO8.out (by omega)).mono ?_
          rintro e w9 ⟨v9, rfl, h9, hb9⟩
          rw [← HU.out] at h9
          have HO9 := Aside0.mk (Kd.R_lower h9 HBW.out.size)
          have HB9 := Aside0.mk (below_weaken HBW.out HBW.out.size (below_weaken HB8.out (Nat.le_refl _) hb9))
          clear h9 hb9
          go_wp2
          go_ret
          exact ⟨_, rfl, HO9.out, HB9.out⟩
end Go.Proofs.YtfkbodhnemokjaaDoor.W
