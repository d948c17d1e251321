/- Package query: Check comes to a plain function. -/
import Derived.Test.YtfkbodhnemokjaaDoorQueryC
namespace Go.Proofs.YtfkbodhnemokjaaDoor.W
open Go.RowKit Go.Proofs.YtfkbodhnemokjaaDoorW.PrintWords
set_option linter.unusedVariables false
set_option linter.unusedSimpArgs false
def aggsE (l : List Col) (xs : List Agg) : Int := firstNZ (fun i => aggE l (rdAgg xs i)) xs.length
open Classical in
noncomputable def checkE (l : List Col) (key cmp del so : Int) (q : Qry) : Int :=
  if mayB l key cmp del so = false then 1 else if longB q = true then 2 else if filterE l q.fil ≠ 0 then filterE l q.fil
  else if ((q.cols ++ q.grp).any fun k => !hasB l k) = true then 3 else if aggsE l q.aggs ≠ 0 then aggsE l q.aggs
  else if decide (0 < q.grp.length + q.aggs.length) = decide (0 < q.cols.length) then 5 else if q.sort.any (outOf q) = true then 3 else 0
/-- How a schema lies in memory. -/
def SC (w : World) (A : Option Addr) (c : Nat) (l : List Col) : Prop := Kd.C kdCol w A l.length l ∧ l.length ≤ c ∧ ∀ x, x ∈ l → x.name.size ≤ 9223372036854775807
theorem SC.below {w w1 : World} {A : Option Addr} {c : Nat} {l : List Col} (h : SC w A c l) (hb : Below w.heap.size w w1) : SC w1 A c l := ⟨Kd.C_below h.1 hb, h.2.1, h.2.2⟩
theorem cells5 {w : World} {B t : Nat} {v0 v1 v2 v3 v4 : Value} (h : w.heap[B]? = some (.cells #[v0, v1, v2, v3, v4] t (0, 0))) :
    w.cell? ⟨B, 0, none⟩ = some v0 ∧ w.cell? ⟨B, 1, none⟩ = some v1 ∧ w.cell? ⟨B, 2, none⟩ = some v2 ∧ w.cell? ⟨B, 3, none⟩ = some v3 ∧ w.cell? ⟨B, 4, none⟩ = some v4 :=
  ⟨(blk_cell h 0).trans rfl, (blk_cell h 1).trans rfl, (blk_cell h 2).trans rfl, (blk_cell h 3).trans rfl, (blk_cell h 4).trans rfl⟩
theorem cells6 {w : World} {B t : Nat} {v0 v1 v2 v3 v4 v5 : Value} (h : w.heap[B]? = some (.cells #[v0, v1, v2, v3, v4, v5] t (0, 0))) :
    w.cell? ⟨B, 0, none⟩ = some v0 ∧ w.cell? ⟨B, 1, none⟩ = some v1 ∧ w.cell? ⟨B, 2, none⟩ = some v2 ∧ w.cell? ⟨B, 3, none⟩ = some v3 ∧ w.cell? ⟨B, 4, none⟩ = some v4 ∧ w.cell? ⟨B, 5, none⟩ = some v5 :=
  ⟨(blk_cell h 0).trans rfl, (blk_cell h 1).trans rfl, (blk_cell h 2).trans rfl, (blk_cell h 3).trans rfl, (blk_cell h 4).trans rfl, (blk_cell h 5).trans rfl⟩
set_option maxHeartbeats 8000000 in
set_option maxRecDepth 100000 in
theorem check_any (A : Option Addr) (c : Nat) (l : List Col) (key cmp del so : Int) (p : QAt) (q : Qry) (w : World) (hs : SC w A c l) (hq : QC w p q) :
    Calls Tryd.prog 12 #[.agg #[.slice A l.length c, .int .i64 key, .int .i64 cmp, .int .i64 del, .int .i64 so], q.v p] w fun e w' => e = .returned (.int .i64 (checkE l key cmp del so q)) ∧ Below w.heap.size w w' := by
  have hu := Tryd.underlying24
  have hu2 := Tryd.underlying30
  have hu3 := Tryd.underlying43
  have HS := Aside0.mk hs
  have HQ := Aside0.mk hq
  clear hs hq
  obtain ⟨A0, c0, A1, c1, A2, c2, A3, c3, A4, c4⟩ := p
  unfold Qry.v
  dsimp only
  have HB := Aside0.mk (Below.refl w.heap.size w)
  have HK2 : Aside0 (((w.alloc (.cells #[.slice A l.length c, .int .i64 key, .int .i64 cmp, .int .i64 del, .int .i64 so] 24)).alloc (.cells #[.slice A0 q.fil.length c0, .slice A1 q.cols.length c1, .slice A2 q.grp.length c2, .slice A3 q.aggs.length c3, .slice A4 q.sort.length c4, .int .i64 q.lim] 30)).heap[w.heap.size]? = some (.cells #[.slice A l.length c, .int .i64 key, .int .i64 cmp, .int .i64 del, .int .i64 so] 24 (0, 0))) := ⟨blk_alloc (blk_new w _) _⟩
  have HK3 : Aside0 (((w.alloc (.cells #[.slice A l.length c, .int .i64 key, .int .i64 cmp, .int .i64 del, .int .i64 so] 24)).alloc (.cells #[.slice A0 q.fil.length c0, .slice A1 q.cols.length c1, .slice A2 q.grp.length c2, .slice A3 q.aggs.length c3, .slice A4 q.sort.length c4, .int .i64 q.lim] 30)).heap[w.heap.size + 1]? = some (.cells #[.slice A0 q.fil.length c0, .slice A1 q.cols.length c1, .slice A2 q.grp.length c2, .slice A3 q.aggs.length c3, .slice A4 q.sort.length c4, .int .i64 q.lim] 30 (0, 0))) := ⟨by have := blk_new (w.alloc (.cells #[.slice A l.length c, .int .i64 key, .int .i64 cmp, .int .i64 del, .int .i64 so] 24)) (.cells #[.slice A0 q.fil.length c0, .slice A1 q.cols.length c1, .slice A2 q.grp.length c2, .slice A3 q.aggs.length c3, .slice A4 q.sort.length c4, .int .i64 q.lim] 30); simpa using this⟩
  go_enter Tryd.func12, Tryd.ntmps12
  go_wp2_with fail
  refine (may_any _ _ _ _ _ _ _ _ (Kd.C_below HS.out.1 (by repeat (first | exact HB.out | apply below_alloc | apply below_drew | apply pw_below_drewN))) HS.out.2.1 HS.out.2.2).mono ?_
  rintro e w1 ⟨rfl, hb⟩
  have HX2 := Aside0.mk (blk_below (g := w.heap.size) (by repeat (first | exact HK2.out | apply blk_alloc | apply blk_drew | apply blk_drewN)) hb)
  have HX3 := Aside0.mk (blk_below (g := w.heap.size + 1) (by repeat (first | exact HK3.out | apply blk_alloc | apply blk_drew | apply blk_drewN)) hb)
  clear HK2 HK3
  have HK2 := HX2
  have HK3 := HX3
  clear HX2 HX3
  have HB1 := Aside0.mk (below_step (by repeat (first | exact HB.out | apply below_alloc | apply below_drew | apply pw_below_drewN)) hb); clear hb HB; have HB := HB1; clear HB1
  obtain ⟨k0, k1, k2, k3, k4⟩ := cells5 HK2.out
  obtain ⟨j0, j1, j2, j3, j4, j5⟩ := cells6 HK3.out
  cases hmay : mayB l key cmp del so
  · have H1 := Aside0.mk hmay; clear hmay
    have hE : checkE l key cmp del so q = 1 := by unfold checkE; rw [if_pos H1.out]
    have HE := Aside0.mk hE; clear hE
    go_wp2
    go_ret
    exact ⟨by rw [HE.out]; rfl, (by repeat (first | exact HB.out | apply below_alloc | apply below_drew | apply pw_below_drewN))⟩
  · have H1 := Aside0.mk hmay; clear hmay
    go_wp2_with fail
    refine (long_any ⟨A0, c0, A1, c1, A2, c2, A3, c3, A4, c4⟩ q _ (HQ.out.below (by repeat (first | exact HB.out | apply below_alloc | apply below_drew | apply pw_below_drewN)))).mono ?_
    rintro e w2 ⟨rfl, hb⟩
    have HX2 := Aside0.mk (blk_below (g := w.heap.size) (by repeat (first | exact HK2.out | apply blk_alloc | apply blk_drew | apply blk_drewN)) hb)
    have HX3 := Aside0.mk (blk_below (g := w.heap.size + 1) (by repeat (first | exact HK3.out | apply blk_alloc | apply blk_drew | apply blk_drewN)) hb)
    clear HK2 HK3
    have HK2 := HX2
    have HK3 := HX3
    clear HX2 HX3
    have HB1 := Aside0.mk (below_step (by repeat (first | exact HB.out | apply below_alloc | apply below_drew | apply pw_below_drewN)) hb); clear hb HB; have HB := HB1; clear HB1
    clear k0 k1 k2 k3 k4 j0 j1 j2 j3 j4 j5
    obtain ⟨k0, k1, k2, k3, k4⟩ := cells5 HK2.out
    obtain ⟨j0, j1, j2, j3, j4, j5⟩ := cells6 HK3.out
    rcases long_case q with hlong | ⟨hlong, b0, b1, b2, b3, b4, b5, b6⟩
    · rw [hlong]
      have H2 := Aside0.mk hlong; clear hlong
      have hE : checkE l key cmp del so q = 2 := by unfold checkE; rw [if_neg (by rw [H1.out]; simp), if_pos H2.out]
      have HE := Aside0.mk hE; clear hE
      go_wp2
      go_ret
      exact ⟨by rw [HE.out]; rfl, (by repeat (first | exact HB.out | apply below_alloc | apply below_drew | apply pw_below_drewN))⟩
    · rw [hlong]
      have H2 := Aside0.mk hlong; clear hlong
      go_wp2_with fail
      refine (filter_any _ _ _ _ _ _ _ _ _ _ _ (Kd.C_below HS.out.1 (by repeat (first | exact HB.out | apply below_alloc | apply below_drew | apply pw_below_drewN))) HS.out.2.1 (HQ.out.below (by repeat (first | exact HB.out | apply below_alloc | apply below_drew | apply pw_below_drewN))).1.1 HQ.out.1.2).mono ?_
      rintro e w3 ⟨rfl, hb⟩
      have HX2 := Aside0.mk (blk_below (g := w.heap.size) (by repeat (first | exact HK2.out | apply blk_alloc | apply blk_drew | apply blk_drewN)) hb)
      have HX3 := Aside0.mk (blk_below (g := w.heap.size + 1) (by repeat (first | exact HK3.out | apply blk_alloc | apply blk_drew | apply blk_drewN)) hb)
      clear HK2 HK3
      have HK2 := HX2
      have HK3 := HX3
      clear HX2 HX3
      have HB1 := Aside0.mk (below_step (by repeat (first | exact HB.out | apply below_alloc | apply below_drew | apply pw_below_drewN)) hb); clear hb HB; have HB := HB1; clear HB1
      clear k0 k1 k2 k3 k4 j0 j1 j2 j3 j4 j5
      obtain ⟨k0, k1, k2, k3, k4⟩ := cells5 HK2.out
      obtain ⟨j0, j1, j2, j3, j4, j5⟩ := cells6 HK3.out
      by_cases hf : filterE l q.fil = 0
      rotate_left
      · have hf' : (filterE l q.fil != 0) = true := by simpa using hf
        have H3 := Aside0.mk hf; clear hf
        generalize hfe : filterE l q.fil = fe at *
        have HF := Aside0.mk hfe; clear hfe
        have hE : checkE l key cmp del so q = fe := by unfold checkE; rw [if_neg (by rw [H1.out]; simp), if_neg (by rw [H2.out]; simp), HF.out, if_pos H3.out]
        have HE := Aside0.mk hE; clear hE
        go_wp2
        go_ret
        exact ⟨by rw [HE.out]; rfl, (by repeat (first | exact HB.out | apply below_alloc | apply below_drew | apply pw_below_drewN))⟩
      · rw [hf]
        have H3 := Aside0.mk hf; clear hf
        go_wp2_with fail
        refine (concat_any w3.heap.size A1 A2 c1 c2 q.cols q.grp _ (blk_new _ _) (HQ.out.below (by repeat (first | exact HB.out | apply below_alloc | apply below_drew | apply pw_below_drewN))).2.1.1 (HQ.out.below (by repeat (first | exact HB.out | apply below_alloc | apply below_drew | apply pw_below_drewN))).2.2.1.1 (by omega) (by omega)).mono ?_
        rintro e w4 ⟨vr, rfl, hr, hb⟩
        have HX2 := Aside0.mk (blk_below (g := w.heap.size) (by repeat (first | exact HK2.out | apply blk_alloc | apply blk_drew | apply blk_drewN)) hb); have HX3 := Aside0.mk (blk_below (g := w.heap.size + 1) (by repeat (first | exact HK3.out | apply blk_alloc | apply blk_drew | apply blk_drewN)) hb); clear HK2 HK3; have HK2 := HX2; have HK3 := HX3; clear HX2 HX3
        have HB1 := Aside0.mk (below_step (by repeat (first | exact HB.out | apply below_alloc | apply below_drew | apply pw_below_drewN)) hb); clear hb HB; have HB := HB1; clear HB1
        (try clear k0 k1 k2 k3 k4 j0 j1 j2 j3 j4 j5); obtain ⟨k0, k1, k2, k3, k4⟩ := cells5 HK2.out; obtain ⟨j0, j1, j2, j3, j4, j5⟩ := cells6 HK3.out
        obtain ⟨Ar, cr, rfl, hlr, hcr⟩ := Kd.R_reads hr
        clear hr
        generalize hks : q.cols ++ q.grp = ks at hlr hcr ⊢
        have HKS := Aside0.mk hks
        clear hks
        have HR := Aside0.mk hcr
        clear hcr
        cases hany : ks.any fun k => !hasB l k
        rotate_left
        · have HA := Aside0.mk hany
          have hE : checkE l key cmp del so q = 3 := by unfold checkE; rw [if_neg (by rw [H1.out]; simp), if_neg (by rw [H2.out]; simp), if_neg (by rw [H3.out]; simp), if_pos (by rw [HKS.out, HA.out])]
          have HE := Aside0.mk hE; clear hE
          go_wp2_with fail
          refine (containsI_any A c l key cmp del so w.heap.size Ar cr ks _ HK2.out HR.out).mono ?_
          rintro e w5 ⟨rfl, hb⟩
          rw [HA.out]
          have HB1 := Aside0.mk (below_step (by repeat (first | exact HB.out | apply below_alloc | apply below_drew | apply pw_below_drewN)) hb); clear hb HB; have HB := HB1; clear HB1
          go_wp2
          go_ret
          exact ⟨by rw [HE.out]; rfl, (by repeat (first | exact HB.out | apply below_alloc | apply below_drew | apply pw_below_drewN))⟩
        · have HA := Aside0.mk hany
          clear hany
          go_wp2_with fail
          refine (containsI_any A c l key cmp del so w.heap.size Ar cr ks _ HK2.out HR.out).mono ?_
          rintro e w5 ⟨rfl, hb⟩
          rw [HA.out]
          have HX2 := Aside0.mk (blk_below (g := w.heap.size) (by repeat (first | exact HK2.out | apply blk_alloc | apply blk_drew | apply blk_drewN)) hb); have HX3 := Aside0.mk (blk_below (g := w.heap.size + 1) (by repeat (first | exact HK3.out | apply blk_alloc | apply blk_drew | apply blk_drewN)) hb); clear HK2 HK3; have HK2 := HX2; have HK3 := HX3; clear HX2 HX3
          have HB1 := Aside0.mk (below_step (by repeat (first | exact HB.out | apply below_alloc | apply below_drew | apply pw_below_drewN)) hb); clear hb HB; have HB := HB1; clear HB1
          (try clear k0 k1 k2 k3 k4 j0 j1 j2 j3 j4 j5); obtain ⟨k0, k1, k2, k3, k4⟩ := cells5 HK2.out; obtain ⟨j0, j1, j2, j3, j4, j5⟩ := cells6 HK3.out
          go_wp2
          have K52 := HK2
          have K53 := HK3
          go_loopg [35] q.aggs.length (fun kq v w' => ∃ i : Nat, v = .int .i64 i ∧ Aside0 (i + kq = q.aggs.length) ∧ Aside0 (∀ j, j < i → aggE l (rdAgg q.aggs j) = 0) ∧ Aside0 (w'.heap[w.heap.size]? = w5.heap[w.heap.size]?) ∧ Aside0 (w'.heap[w.heap.size + 1]? = w5.heap[w.heap.size + 1]?) ∧ Aside0 (Below w.heap.size w w'))
          case atStart => exact ⟨0, rfl, ⟨by omega⟩, ⟨fun j hj => absurd hj (by omega)⟩, ⟨rfl⟩, ⟨rfl⟩, HB⟩
          case round =>
            obtain ⟨i, rfl, HI, HN, HT2, HT3, HB'⟩ := hrel
            have HY2 := Aside0.mk (HT2.out.trans K52.out)
            have HY3 := Aside0.mk (HT3.out.trans K53.out)
            clear HK2 HK3 HT2 HT3 HB
            have HK2 := HY2
            have HK3 := HY3
            have HB := HB'
            clear HY2 HY3 HB'
            (try clear k0 k1 k2 k3 k4 j0 j1 j2 j3 j4 j5); obtain ⟨k0, k1, k2, k3, k4⟩ := cells5 HK2.out; obtain ⟨j0, j1, j2, j3, j4, j5⟩ := cells6 HK3.out
            have hi := HI.out
            have hz2 := blk_lt HK2.out
            have hz3 := blk_lt HK3.out
            by_cases hlt : i < q.aggs.length
            · obtain ⟨ad, hA, d0, d1⟩ := atAgg (HQ.out.below HB.out).2.2.2.1.1 i hlt
              dsimp only at hA
              subst hA
              by_cases hag : aggE l (rdAgg q.aggs i) = 0
              · have HG := Aside0.mk hag
                clear hag
                go_wp2_with fail
                refine (agg_any A c l key cmp del so (rdAgg q.aggs i) _ (Kd.C_below HS.out.1 (by repeat (first | exact HB.out | apply below_alloc | apply below_drew | apply pw_below_drewN))) HS.out.2.1).mono ?_
                rintro e w6 ⟨rfl, hb⟩
                rw [HG.out]
                have HT2 := Aside0.mk ((blk_below (by repeat (first | exact HK2.out | apply blk_alloc | apply blk_drew | apply blk_drewN)) hb).trans K52.out.symm)
                have HT3 := Aside0.mk ((blk_below (by repeat (first | exact HK3.out | apply blk_alloc | apply blk_drew | apply blk_drewN)) hb).trans K53.out.symm)
                have HB1 := Aside0.mk (below_step (by repeat (first | exact HB.out | apply below_alloc | apply below_drew | apply pw_below_drewN)) hb); clear hb HB; have HB := HB1; clear HB1
                go_wp2
                go_roundg (gk - 1)
                case measure => omega
                case rel => exact ⟨i + 1, by go_num, ⟨by omega⟩, ⟨forall_snoc HN.out HG.out⟩, HT2, HT3, HB⟩
              · have hne : (aggE l (rdAgg q.aggs i) != 0) = true := by simpa using hag
                have hE : checkE l key cmp del so q = aggE l (rdAgg q.aggs i) := by
                  have hAE : aggsE l q.aggs = aggE l (rdAgg q.aggs i) := firstNZ_at _ _ i hlt hag HN.out
                  unfold checkE; rw [if_neg (by rw [H1.out]; simp), if_neg (by rw [H2.out]; simp), if_neg (by rw [H3.out]; simp), if_neg (by rw [HKS.out, HA.out]; simp), if_pos (by rw [hAE]; exact hag), hAE]
                have HE := Aside0.mk hE
                clear hE hag
                go_wp2_with fail
                refine (agg_any A c l key cmp del so (rdAgg q.aggs i) _ (Kd.C_below HS.out.1 (by repeat (first | exact HB.out | apply below_alloc | apply below_drew | apply pw_below_drewN))) HS.out.2.1).mono ?_
                rintro e w6 ⟨rfl, hb⟩
                generalize aggE l (rdAgg q.aggs i) = fe at HE hne ⊢
                have HB1 := Aside0.mk (below_step (by repeat (first | exact HB.out | apply below_alloc | apply below_drew | apply pw_below_drewN)) hb); clear hb HB; have HB := HB1; clear HB1
                go_wp2
                go_ret
                exact ⟨by rw [HE.out]; rfl, (by repeat (first | exact HB.out | apply below_alloc | apply below_drew | apply pw_below_drewN))⟩
            · have hAE : Aside0 (¬ aggsE l q.aggs ≠ 0) := ⟨by intro h; exact h (firstNZ_all _ _ (fun j hj => HN.out j (by omega)))⟩
              have HF : Aside0 (checkE l key cmp del so q = if decide (0 < q.grp.length + q.aggs.length) = decide (0 < q.cols.length) then 5 else if q.sort.any (outOf q) = true then 3 else 0) := ⟨by unfold checkE; rw [if_neg (by rw [H1.out]; simp), if_neg (by rw [H2.out]; simp), if_neg (by rw [H3.out]; simp), if_neg (by rw [HKS.out, HA.out]; simp), if_neg hAE.out]⟩
              rcases (show (q.cols.length = 0 ∧ q.grp.length + q.aggs.length = 0) ∨ (0 < q.cols.length ∧ 0 < q.grp.length + q.aggs.length) ∨ (q.cols.length = 0 ∧ 0 < q.grp.length + q.aggs.length) ∨ (0 < q.cols.length ∧ q.grp.length + q.aggs.length = 0) from by omega) with ⟨g1, g2⟩ | ⟨g1, g2⟩ | ⟨g1, g2⟩ | ⟨g1, g2⟩
              · have g3 : decide (0 < (q.grp.length : Int) + q.aggs.length) = false := decide_eq_false (by omega)
                have g4 : decide (0 < (q.cols.length : Int)) = false := decide_eq_false (by omega)
                have hE := Aside0.mk (HF.out.trans (if_pos (by rw [g1, g2])))
                clear HF
                go_wp2
                go_ret
                exact ⟨by rw [hE.out]; rfl, (by repeat (first | exact HB.out | apply below_alloc | apply below_drew | apply pw_below_drewN))⟩
              · have g3 : decide (0 < (q.grp.length : Int) + q.aggs.length) = true := decide_eq_true (by omega)
                have g4 : decide (0 < (q.cols.length : Int)) = true := decide_eq_true (by omega)
                have hE := Aside0.mk (HF.out.trans (if_pos (by rw [decide_eq_true g1, decide_eq_true g2])))
                clear HF
                go_wp2
                go_ret
                exact ⟨by rw [hE.out]; rfl, (by repeat (first | exact HB.out | apply below_alloc | apply below_drew | apply pw_below_drewN))⟩
              · have g3 : decide (0 < (q.grp.length : Int) + q.aggs.length) = true := decide_eq_true (by omega)
                have g4 : decide (0 < (q.cols.length : Int)) = false := decide_eq_false (by omega)
                have hE := Aside0.mk (HF.out.trans (if_neg (by rw [g1, decide_eq_true g2]; decide)))
                clear HF
                cases hso : q.sort.any (outOf q)
                all_goals
                  have HSO := Aside0.mk hso
                  clear hso
                  go_wp2_with fail
                  refine (containsBy_any ⟨A0, c0, A1, c1, A2, c2, A3, c3, A4, c4⟩ q (w.heap.size + 1) A4 c4 q.sort _ (by omega) (by omega) (by omega) HK3.out (HQ.out.below (by repeat (first | exact HB.out | apply below_alloc | apply below_drew | apply pw_below_drewN))).2.2.2.2.1).mono ?_
                  rintro e w6 ⟨rfl, hb⟩
                  rw [HSO.out]
                  have HB1 := Aside0.mk (below_step (by repeat (first | exact HB.out | apply below_alloc | apply below_drew | apply pw_below_drewN)) hb); clear hb HB; have HB := HB1; clear HB1
                  go_wp2
                  go_ret
                  exact ⟨by rw [hE.out, HSO.out]; rfl, (by repeat (first | exact HB.out | apply below_alloc | apply below_drew | apply pw_below_drewN))⟩
              · have g3 : decide (0 < (q.grp.length : Int) + q.aggs.length) = false := decide_eq_false (by omega)
                have g4 : decide (0 < (q.cols.length : Int)) = true := decide_eq_true (by omega)
                have hE := Aside0.mk (HF.out.trans (if_neg (by rw [g2, decide_eq_true g1]; decide)))
                clear HF
                cases hso : q.sort.any (outOf q)
                all_goals
                  have HSO := Aside0.mk hso
                  clear hso
                  go_wp2_with fail
                  refine (containsBy_any ⟨A0, c0, A1, c1, A2, c2, A3, c3, A4, c4⟩ q (w.heap.size + 1) A4 c4 q.sort _ (by omega) (by omega) (by omega) HK3.out (HQ.out.below (by repeat (first | exact HB.out | apply below_alloc | apply below_drew | apply pw_below_drewN))).2.2.2.2.1).mono ?_
                  rintro e w6 ⟨rfl, hb⟩
                  rw [HSO.out]
                  have HB1 := Aside0.mk (below_step (by repeat (first | exact HB.out | apply below_alloc | apply below_drew | apply pw_below_drewN)) hb); clear hb HB; have HB := HB1; clear HB1
                  go_wp2
                  go_ret
                  exact ⟨by rw [hE.out, HSO.out]; rfl, (by repeat (first | exact HB.out | apply below_alloc | apply below_drew | apply pw_below_drewN))⟩
end Go.Proofs.YtfkbodhnemokjaaDoor.W
