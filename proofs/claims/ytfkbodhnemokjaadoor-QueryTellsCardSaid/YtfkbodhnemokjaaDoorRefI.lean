/- The law itself. -/
import Derived.Test.YtfkbodhnemokjaaDoorRefH
import Derived.Test.YtfkbodhnemokjaaDoorRefE
namespace Go.Proofs.YtfkbodhnemokjaaDoor.W
open Go.RowKit Go.Shelf Go.Proofs.YtfkbodhnemokjaaDoorW.PrintWords
set_option linter.unusedVariables false
set_option linter.unusedSimpArgs false
theorem ints_same (A B : Option Addr) (c d : Nat) (xs : List Int) (w : World) (hx : Kd.C kI w A xs.length xs) (hy : Kd.C kI w B xs.length xs) :
    Calls Tryd.prog 7 #[.slice A xs.length c, .slice B xs.length d] w fun e w' => e = .returned (.bool true) ∧ Below w.heap.size w w' := by
  have := ints_any A B c d xs xs w hx hy
  rwa [decide_eq_true rfl] at this
theorem refUsesS (p : QAt) (q : Qry) (w : World) (hq : QC w p q) (h : ∀ k, k ∈ namedL q → k < 50) :
    Calls Tryd.prog 11 #[q.v p, .int .i64 50] w fun e w' => ∃ v, e = .returned v ∧ rowI w' w.heap.size v (usesL q) ∧ Below w.heap.size w w' := by
  rw [uses_law q h]
  exact refUses_any p q w hq
set_option maxHeartbeats 8000000 in
set_option maxRecDepth 100000 in
theorem law_any (A : Option Addr) (c : Nat) (l : List Col) (key cmp del so : Int) (p : QAt) (q : Qry) (w : World) (hs : SC w A c l) (hq : QC w p q) :
    Calls Tryd.prog 3 #[.agg #[.slice A l.length c, .int .i64 key, .int .i64 cmp, .int .i64 del, .int .i64 so], q.v p] w fun e w' => e = .returned (.bool true) ∧ Below w.heap.size w w' := by
  have hu := Tryd.underlying24
  have hu2 := Tryd.underlying30
  have hu3 := Tryd.underlying43
  have hu4 := Tryd.underlying49
  have hu5 := Tryd.underlying63
  have hu6 := Tryd.underlying47
  have HS := Aside0.mk hs
  have HQ := Aside0.mk hq
  clear hs hq
  obtain ⟨A0, c0, A1, c1, A2, c2, A3, c3, A4, c4⟩ := p
  unfold Qry.v
  dsimp only
  have HB := Aside0.mk (Below.refl w.heap.size w)
  have HK2 : Aside0 (((w.alloc (.cells #[.slice A l.length c, .int .i64 key, .int .i64 cmp, .int .i64 del, .int .i64 so] 24)).alloc (.cells #[.slice A0 q.fil.length c0, .slice A1 q.cols.length c1, .slice A2 q.grp.length c2, .slice A3 q.aggs.length c3, .slice A4 q.sort.length c4, .int .i64 q.lim] 30)).heap[w.heap.size]? = some (.cells #[.slice A l.length c, .int .i64 key, .int .i64 cmp, .int .i64 del, .int .i64 so] 24 (0, 0))) := ⟨blk_alloc (blk_new w _) _⟩
  have HK3 : Aside0 (((w.alloc (.cells #[.slice A l.length c, .int .i64 key, .int .i64 cmp, .int .i64 del, .int .i64 so] 24)).alloc (.cells #[.slice A0 q.fil.length c0, .slice A1 q.cols.length c1, .slice A2 q.grp.length c2, .slice A3 q.aggs.length c3, .slice A4 q.sort.length c4, .int .i64 q.lim] 30)).heap[w.heap.size + 1]? = some (.cells #[.slice A0 q.fil.length c0, .slice A1 q.cols.length c1, .slice A2 q.grp.length c2, .slice A3 q.aggs.length c3, .slice A4 q.sort.length c4, .int .i64 q.lim] 30 (0, 0))) := ⟨by have := blk_new (w.alloc (.cells #[.slice A l.length c, .int .i64 key, .int .i64 cmp, .int .i64 del, .int .i64 so] 24)) (.cells #[.slice A0 q.fil.length c0, .slice A1 q.cols.length c1, .slice A2 q.grp.length c2, .slice A3 q.aggs.length c3, .slice A4 q.sort.length c4, .int .i64 q.lim] 30); simpa using this⟩
  go_enter Tryd.func3, Tryd.ntmps3
  go_wp2_with fail
  refine (awake_any _).mono ?_
  rintro e w1 ⟨rfl, hb⟩
  have HX2 := Aside0.mk (blk_below (g := w.heap.size) (by repeat (first | exact HK2.out | apply blk_alloc | apply blk_drew | apply blk_drewN)) hb); have HX3 := Aside0.mk (blk_below (g := w.heap.size + 1) (by repeat (first | exact HK3.out | apply blk_alloc | apply blk_drew | apply blk_drewN)) hb); clear HK2 HK3; have HK2 := HX2; have HK3 := HX3; clear HX2 HX3
  have HB1 := Aside0.mk (below_step (by repeat (first | exact HB.out | apply below_alloc | apply below_drew | apply pw_below_drewN)) hb); clear hb HB; have HB := HB1; clear HB1
  (try clear k0 k1 k2 k3 k4 j0 j1 j2 j3 j4 j5); obtain ⟨k0, k1, k2, k3, k4⟩ := cells5 HK2.out; obtain ⟨j0, j1, j2, j3, j4, j5⟩ := cells6 HK3.out
  have hz2 := blk_lt HK2.out
  have hz3 := blk_lt HK3.out
  go_wp2_with fail
  refine (fewS_any _ _ _ _ _ _ _ _ (HS.out.below HB.out).1 HS.out.2.1).mono ?_
  rintro e w2 ⟨rfl, hb⟩
  have HX2 := Aside0.mk (blk_below (g := w.heap.size) (by repeat (first | exact HK2.out | apply blk_alloc | apply blk_drew | apply blk_drewN)) hb); have HX3 := Aside0.mk (blk_below (g := w.heap.size + 1) (by repeat (first | exact HK3.out | apply blk_alloc | apply blk_drew | apply blk_drewN)) hb); clear HK2 HK3; have HK2 := HX2; have HK3 := HX3; clear HX2 HX3
  have HB1 := Aside0.mk (below_step (by repeat (first | exact HB.out | apply below_alloc | apply below_drew | apply pw_below_drewN)) hb); clear hb HB; have HB := HB1; clear HB1
  (try clear k0 k1 k2 k3 k4 j0 j1 j2 j3 j4 j5); obtain ⟨k0, k1, k2, k3, k4⟩ := cells5 HK2.out; obtain ⟨j0, j1, j2, j3, j4, j5⟩ := cells6 HK3.out
  go_wp2_with fail
  refine (fewQ_any ⟨A0, c0, A1, c1, A2, c2, A3, c3, A4, c4⟩ q _ (HQ.out.below HB.out)).mono ?_
  rintro e wB ⟨b, rfl, hfew, hb⟩
  have HX2 := Aside0.mk (blk_below (g := w.heap.size) (by repeat (first | exact HK2.out | apply blk_alloc | apply blk_drew | apply blk_drewN)) hb); have HX3 := Aside0.mk (blk_below (g := w.heap.size + 1) (by repeat (first | exact HK3.out | apply blk_alloc | apply blk_drew | apply blk_drewN)) hb); clear HK2 HK3; have HK2 := HX2; have HK3 := HX3; clear HX2 HX3
  have HB1 := Aside0.mk (below_step (by repeat (first | exact HB.out | apply below_alloc | apply below_drew | apply pw_below_drewN)) hb); clear hb HB; have HB := HB1; clear HB1
  (try clear k0 k1 k2 k3 k4 j0 j1 j2 j3 j4 j5); obtain ⟨k0, k1, k2, k3, k4⟩ := cells5 HK2.out; obtain ⟨j0, j1, j2, j3, j4, j5⟩ := cells6 HK3.out
  clear hz2 hz3
  have hz2 := blk_lt HK2.out
  have hz3 := blk_lt HK3.out
  cases hfs : fewB l
  · go_wp2
    go_ret
    exact ⟨rfl, HB.out⟩
  · cases b
    · go_wp2
      go_ret
      exact ⟨rfl, HB.out⟩
    · obtain ⟨⟨b0, b1, b2, b3⟩, hul0⟩ := hfew rfl
      have hul := Aside0.mk hul0
      clear hul0 hfew hfs
      have HC1 : Aside0 (∀ W, Below wB.heap.size wB W → Calls Tryd.prog 8 #[.agg #[.slice A l.length c, .int .i64 key, .int .i64 cmp, .int .i64 del, .int .i64 so], .agg #[.slice A0 q.fil.length c0, .slice A1 q.cols.length c1, .slice A2 q.grp.length c2, .slice A3 q.aggs.length c3, .slice A4 q.sort.length c4, .int .i64 q.lim]] W fun e w' => ∃ v, e = .returned v ∧ rowI w' W.heap.size v (outsL l key cmp del so q) ∧ Below W.heap.size W w') := ⟨fun W h => outs_any A c l key cmp del so ⟨A0, c0, A1, c1, A2, c2, A3, c3, A4, c4⟩ q W (HS.out.below (below_then HB.out HB.out.size h)) (HQ.out.below (below_then HB.out HB.out.size h))⟩
      have HC2 : Aside0 (∀ W, Below wB.heap.size wB W → Calls Tryd.prog 9 #[.agg #[.slice A l.length c, .int .i64 key, .int .i64 cmp, .int .i64 del, .int .i64 so], .agg #[.slice A0 q.fil.length c0, .slice A1 q.cols.length c1, .slice A2 q.grp.length c2, .slice A3 q.aggs.length c3, .slice A4 q.sort.length c4, .int .i64 q.lim]] W fun e w' => ∃ v, e = .returned v ∧ rowI w' W.heap.size v (outsL l key cmp del so q) ∧ Below W.heap.size W w') := ⟨fun W h => refOuts_any A c l key cmp del so ⟨A0, c0, A1, c1, A2, c2, A3, c3, A4, c4⟩ q W (HS.out.below (below_then HB.out HB.out.size h)) (HQ.out.below (below_then HB.out HB.out.size h))⟩
      have HC3 : Aside0 (∀ W, Below wB.heap.size wB W → Calls Tryd.prog 10 #[.agg #[.slice A0 q.fil.length c0, .slice A1 q.cols.length c1, .slice A2 q.grp.length c2, .slice A3 q.aggs.length c3, .slice A4 q.sort.length c4, .int .i64 q.lim]] W fun e w' => ∃ v, e = .returned v ∧ rowI w' W.heap.size v (usesL q) ∧ Below W.heap.size W w') := ⟨fun W h => uses_any ⟨A0, c0, A1, c1, A2, c2, A3, c3, A4, c4⟩ q W (HQ.out.below (below_then HB.out HB.out.size h)) b0 b1 b2 b3⟩
      have HC4 : Aside0 (∀ W, Below wB.heap.size wB W → Calls Tryd.prog 11 #[.agg #[.slice A0 q.fil.length c0, .slice A1 q.cols.length c1, .slice A2 q.grp.length c2, .slice A3 q.aggs.length c3, .slice A4 q.sort.length c4, .int .i64 q.lim], .int .i64 50] W fun e w' => ∃ v, e = .returned v ∧ rowI w' W.heap.size v (usesL q) ∧ Below W.heap.size W w') := ⟨fun W h => refUsesS ⟨A0, c0, A1, c1, A2, c2, A3, c3, A4, c4⟩ q W (HQ.out.below (below_then HB.out HB.out.size h)) hul.out⟩
      generalize outsL l key cmp del so q = ol at HC1 HC2
      generalize usesL q = ul at HC3 HC4
      go_wp2
      go_region_held3 (fun w' => Below wB.heap.size wB w' ∧ (∀ a : Addr, a.block < wB.heap.size → w'.cell? a = wB.cell? a)) (first | exact keepT0 _ | (refine keepT ?_ (by assumption); first | assumption | (refine And.left (b := ?_) ?_; rotate_left; assumption))) ((first | (go_at_call 8; refine (HC1.out _ (by refine And.left (b := ?_) ?_; rotate_left; assumption)).mono ?_; rintro e wC ⟨v1, rfl, hr1, hb⟩; obtain ⟨Ar1, cr1, rfl, hlr1, hcr1⟩ := Kd.R_reads hr1; have HR1 := Aside0.mk hcr1; clear hr1 hlr1 hcr1) | (go_at_call 7; refine (ints_same _ _ _ _ _ _ (by first | exact HR1b.out | exact Kd.C_drew HR1b.out) (by first | exact HR2.out | exact Kd.C_drew HR2.out)).mono ?_; rintro e wE ⟨rfl, hb⟩) | (go_at_call 9; refine (HC2.out _ (by refine And.left (b := ?_) ?_; rotate_left; assumption)).mono ?_; rintro e wD ⟨v2, rfl, hr2, hb⟩; obtain ⟨Ar2, cr2, rfl, hlr2, hcr2⟩ := Kd.R_reads hr2; have HR2 := Aside0.mk hcr2; have HR1b := Aside0.mk (Kd.C_below (by first | exact HR1.out | exact Kd.C_drew HR1.out) hb); clear hr2 hlr2 hcr2)))
      have hS : Below wB.heap.size wB wE ∧ (∀ a : Addr, a.block < wB.heap.size → wE.cell? a = wB.cell? a) := by assumption
      clear HR1 HR2 HR1b
      go_wp2
      go_region_held3 (fun w' => Below wB.heap.size wB w' ∧ (∀ a : Addr, a.block < wB.heap.size → w'.cell? a = wB.cell? a)) (first | exact keepT1 (below_drew hS.1) | (refine keepT ?_ (by assumption); first | assumption | (refine And.left (b := ?_) ?_; rotate_left; assumption))) ((first | (go_at_call 10; refine (HC3.out _ (by refine And.left (b := ?_) ?_; rotate_left; assumption)).mono ?_; rintro e wC ⟨v1, rfl, hr1, hb⟩; obtain ⟨Ar1, cr1, rfl, hlr1, hcr1⟩ := Kd.R_reads hr1; have HR1 := Aside0.mk hcr1; clear hr1 hlr1 hcr1) | (go_at_call 7; refine (ints_same _ _ _ _ _ _ (by first | exact HR1b.out | exact Kd.C_drew HR1b.out) (by first | exact HR2.out | exact Kd.C_drew HR2.out)).mono ?_; rintro e wE ⟨rfl, hb⟩) | (go_at_call 11; refine (HC4.out _ (by refine And.left (b := ?_) ?_; rotate_left; assumption)).mono ?_; rintro e wD ⟨v2, rfl, hr2, hb⟩; obtain ⟨Ar2, cr2, rfl, hlr2, hcr2⟩ := Kd.R_reads hr2; have HR2 := Aside0.mk hcr2; have HR1b := Aside0.mk (Kd.C_below (by first | exact HR1.out | exact Kd.C_drew HR1.out) hb); clear hr2 hlr2 hcr2)))
      have hS : Below wB.heap.size wB wE ∧ (∀ a : Addr, a.block < wB.heap.size → wE.cell? a = wB.cell? a) := by assumption
      clear HR1 HR2 HR1b
      have HC5 : Aside0 (∀ W, Below wB.heap.size wB W → Calls Tryd.prog 12 #[.agg #[.slice A l.length c, .int .i64 key, .int .i64 cmp, .int .i64 del, .int .i64 so], .agg #[.slice A0 q.fil.length c0, .slice A1 q.cols.length c1, .slice A2 q.grp.length c2, .slice A3 q.aggs.length c3, .slice A4 q.sort.length c4, .int .i64 q.lim]] W fun e w' => e = .returned (.int .i64 (checkE l key cmp del so q)) ∧ Below W.heap.size W w') := ⟨fun W h => check_any A c l key cmp del so ⟨A0, c0, A1, c1, A2, c2, A3, c3, A4, c4⟩ q W (HS.out.below (below_then HB.out HB.out.size h)) (HQ.out.below (below_then HB.out HB.out.size h))⟩
      have HC6 : Aside0 (∀ W, Below wB.heap.size wB W → Calls Tryd.prog 13 #[.agg #[.slice A l.length c, .int .i64 key, .int .i64 cmp, .int .i64 del, .int .i64 so], .agg #[.slice A0 q.fil.length c0, .slice A1 q.cols.length c1, .slice A2 q.grp.length c2, .slice A3 q.aggs.length c3, .slice A4 q.sort.length c4, .int .i64 q.lim]] W fun e w' => e = .returned (.int .i64 (checkE l key cmp del so q)) ∧ Below W.heap.size W w') := ⟨fun W h => refCheck_any A c l key cmp del so ⟨A0, c0, A1, c1, A2, c2, A3, c3, A4, c4⟩ q W (HS.out.below (below_then HB.out HB.out.size h)) (HQ.out.below (below_then HB.out HB.out.size h))⟩
      generalize checkE l key cmp del so q = ce at HC5 HC6
      go_wp2
      go_region_held3 (fun w' => Below wB.heap.size wB w' ∧ (∀ a : Addr, a.block < wB.heap.size → w'.cell? a = wB.cell? a)) (first | exact keepT1 (below_drew hS.1) | (refine keepT ?_ (by assumption); first | assumption | (refine And.left (b := ?_) ?_; rotate_left; assumption))) ((first | (go_at_call 12; refine (HC5.out _ (by refine And.left (b := ?_) ?_; rotate_left; assumption)).mono ?_; rintro e wC ⟨rfl, hb⟩) | (go_at_call 13; refine (HC6.out _ (by refine And.left (b := ?_) ?_; rotate_left; assumption)).mono ?_; rintro e wD ⟨rfl, hb⟩)))
      have hS : Below wB.heap.size wB wD ∧ (∀ a : Addr, a.block < wB.heap.size → wD.cell? a = wB.cell? a) := by assumption
      go_wp2
      go_ret
      exact ⟨rfl, below_then HB.out HB.out.size hS.1⟩
end Go.Proofs.YtfkbodhnemokjaaDoor.W
