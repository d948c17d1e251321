/- Package query: Outs comes to a plain function. -/
import Derived.Test.YtfkbodhnemokjaaDoorQueryD
namespace Go.Proofs.YtfkbodhnemokjaaDoor.W
open Go.RowKit Go.Proofs.YtfkbodhnemokjaaDoorW.PrintWords
set_option linter.unusedVariables false
set_option linter.unusedSimpArgs false
/-- What a query that may be asked tells. -/
theorem checkE_ok {l : List Col} {key cmp del so : Int} {q : Qry} (h : checkE l key cmp del so q = 0) :
    longB q = false ∧ ((q.cols ++ q.grp).any fun k => !hasB l k) = false ∧ ∀ i, i < q.aggs.length → aggE l (rdAgg q.aggs i) = 0 := by
  unfold checkE at h
  split at h
  · simp at h
  split at h
  · simp at h
  split at h
  · rename_i h3; exact absurd h h3
  split at h
  · simp at h
  split at h
  · rename_i h5; exact absurd h h5
  · rename_i h1 h2 h3 h4 h5
    refine ⟨by simpa using h2, by simpa using h4, fun i hi => ?_⟩
    by_cases hne : ∃ i, i < q.aggs.length ∧ aggE l (rdAgg q.aggs i) ≠ 0
    · exfalso
      have hall : ∀ n, n ≤ q.aggs.length → ∀ j, j < n → aggE l (rdAgg q.aggs j) = 0 := by
        intro n
        induction n with
        | zero => intro _ j hj; omega
        | succ n ih =>
          intro hn j hj
          rcases Nat.lt_or_ge j n with hj' | hj'
          · exact ih (by omega) j hj'
          · obtain rfl : j = n := by omega
            by_cases hz : aggE l (rdAgg q.aggs j) = 0
            · exact hz
            · exfalso
              apply h5
              unfold aggsE
              rw [firstNZ_at _ _ j (by omega) hz (fun k hk => ih (by omega) k hk)]
              exact hz
      obtain ⟨i, hi, h⟩ := hne
      exact h (hall _ (Nat.le_refl _) i hi)
    · exact Classical.byContradiction fun hz => hne ⟨i, hi, hz⟩
theorem map_take_snoc {α β : Type} (f : α → β) (d : α) (l : List α) (i : Nat) (h : i < l.length) : (l.take i).map f ++ [f (l.getD i d)] = (l.take (i + 1)).map f := by
  rw [getD_at l d i h, List.take_add_one, List.getElem?_eq_getElem h, List.map_append]
  rfl
def kindAt (l : List Col) (k : Int) : Int := (rdCol l k.toNat).kind
def aggK (l : List Col) (x : Agg) : Int := if x.fn = 3 ∨ x.fn = 4 then kindAt l x.col else 1
noncomputable def outsL (l : List Col) (key cmp del so : Int) (q : Qry) : List Int :=
  if checkE l key cmp del so q = 0 then (q.cols ++ q.grp).map (kindAt l) ++ q.aggs.map (aggK l) else []
set_option maxHeartbeats 8000000 in
set_option maxRecDepth 100000 in
theorem outs_any (A : Option Addr) (c : Nat) (l : List Col) (key cmp del so : Int) (p : QAt) (q : Qry) (w : World) (hs : SC w A c l) (hq : QC w p q) :
    Calls Tryd.prog 8 #[.agg #[.slice A l.length c, .int .i64 key, .int .i64 cmp, .int .i64 del, .int .i64 so], q.v p] w fun e w' => ∃ v, e = .returned v ∧ rowI w' w.heap.size v (outsL l key cmp del so q) ∧ Below w.heap.size w w' := by
  have hu := Tryd.underlying24
  have hu2 := Tryd.underlying30
  have hu3 := Tryd.underlying43
  have hu4 := Tryd.underlying45
  have HS := Aside0.mk hs
  have HQ := Aside0.mk hq
  clear hs hq
  obtain ⟨A0, c0, A1, c1, A2, c2, A3, c3, A4, c4⟩ := p
  unfold Qry.v
  dsimp only
  have HB := Aside0.mk (Below.refl w.heap.size w)
  have HK2 : Aside0 (((w.alloc (.cells #[.slice A l.length c, .int .i64 key, .int .i64 cmp, .int .i64 del, .int .i64 so] 24)).alloc (.cells #[.slice A0 q.fil.length c0, .slice A1 q.cols.length c1, .slice A2 q.grp.length c2, .slice A3 q.aggs.length c3, .slice A4 q.sort.length c4, .int .i64 q.lim] 30)).heap[w.heap.size]? = some (.cells #[.slice A l.length c, .int .i64 key, .int .i64 cmp, .int .i64 del, .int .i64 so] 24 (0, 0))) := ⟨blk_alloc (blk_new w _) _⟩
  have HK3 : Aside0 (((w.alloc (.cells #[.slice A l.length c, .int .i64 key, .int .i64 cmp, .int .i64 del, .int .i64 so] 24)).alloc (.cells #[.slice A0 q.fil.length c0, .slice A1 q.cols.length c1, .slice A2 q.grp.length c2, .slice A3 q.aggs.length c3, .slice A4 q.sort.length c4, .int .i64 q.lim] 30)).heap[w.heap.size + 1]? = some (.cells #[.slice A0 q.fil.length c0, .slice A1 q.cols.length c1, .slice A2 q.grp.length c2, .slice A3 q.aggs.length c3, .slice A4 q.sort.length c4, .int .i64 q.lim] 30 (0, 0))) := ⟨by have := blk_new (w.alloc (.cells #[.slice A l.length c, .int .i64 key, .int .i64 cmp, .int .i64 del, .int .i64 so] 24)) (.cells #[.slice A0 q.fil.length c0, .slice A1 q.cols.length c1, .slice A2 q.grp.length c2, .slice A3 q.aggs.length c3, .slice A4 q.sort.length c4, .int .i64 q.lim] 30); simpa using this⟩
  go_enter Tryd.func8, Tryd.ntmps8
  go_wp2_with fail
  refine (check_any A c l key cmp del so ⟨A0, c0, A1, c1, A2, c2, A3, c3, A4, c4⟩ q _ (HS.out.below (by repeat (first | exact HB.out | apply below_alloc | apply below_drew | apply pw_below_drewN))) (HQ.out.below (by repeat (first | exact HB.out | apply below_alloc | apply below_drew | apply pw_below_drewN)))).mono ?_
  rintro e w1 ⟨rfl, hb⟩
  have HX2 := Aside0.mk (blk_below (g := w.heap.size) (by repeat (first | exact HK2.out | apply blk_alloc | apply blk_drew | apply blk_drewN)) hb); have HX3 := Aside0.mk (blk_below (g := w.heap.size + 1) (by repeat (first | exact HK3.out | apply blk_alloc | apply blk_drew | apply blk_drewN)) hb); clear HK2 HK3; have HK2 := HX2; have HK3 := HX3; clear HX2 HX3
  have HB1 := Aside0.mk (below_step (by repeat (first | exact HB.out | apply below_alloc | apply below_drew | apply pw_below_drewN)) hb); clear hb HB; have HB := HB1; clear HB1
  (try clear k0 k1 k2 k3 k4 j0 j1 j2 j3 j4 j5); obtain ⟨k0, k1, k2, k3, k4⟩ := cells5 HK2.out; obtain ⟨j0, j1, j2, j3, j4, j5⟩ := cells6 HK3.out
  by_cases hck : checkE l key cmp del so q = 0
  rotate_left
  · have hck' : (checkE l key cmp del so q != 0) = true := by simpa using hck
    have HE : Aside0 (outsL l key cmp del so q = []) := ⟨by unfold outsL; rw [if_neg hck]⟩
    generalize checkE l key cmp del so q = ce at *
    clear hck
    go_wp2
    go_ret
    refine ⟨_, rfl, ?_, (by repeat (first | exact HB.out | apply below_alloc | apply below_drew | apply pw_below_drewN))⟩
    rw [HE.out]
    exact Kd.R_nil _ _ _ _ _
  · have HE : Aside0 (outsL l key cmp del so q = (q.cols ++ q.grp).map (kindAt l) ++ q.aggs.map (aggK l)) := ⟨by unfold outsL; rw [if_pos hck]⟩
    obtain ⟨hlong, hany, haggs⟩ := checkE_ok hck
    rw [hck]
    have HAG := Aside0.mk haggs
    clear hck haggs
    rcases long_case q with hl | ⟨_, b0, b1, b2, b3, b4, b5, b6⟩
    · exfalso; rw [hlong] at hl; cases hl
    clear hlong
    have HAN := Aside0.mk hany
    clear hany
    go_wp2_with fail
    refine (concat_any w1.heap.size A1 A2 c1 c2 q.cols q.grp _ (blk_new _ _) (HQ.out.below (by repeat (first | exact HB.out | apply below_alloc | apply below_drew | apply pw_below_drewN))).2.1.1 (HQ.out.below (by repeat (first | exact HB.out | apply below_alloc | apply below_drew | apply pw_below_drewN))).2.2.1.1 (by omega) (by omega)).mono ?_
    rintro e w4 ⟨vr, rfl, hr, hb⟩
    have HX2 := Aside0.mk (blk_below (g := w.heap.size) (by repeat (first | exact HK2.out | apply blk_alloc | apply blk_drew | apply blk_drewN)) hb); have HX3 := Aside0.mk (blk_below (g := w.heap.size + 1) (by repeat (first | exact HK3.out | apply blk_alloc | apply blk_drew | apply blk_drewN)) hb); clear HK2 HK3; have HK2 := HX2; have HK3 := HX3; clear HX2 HX3
    have HB1 := Aside0.mk (below_step (by repeat (first | exact HB.out | apply below_alloc | apply below_drew | apply pw_below_drewN)) hb); clear hb HB; have HB := HB1; clear HB1
    (try clear k0 k1 k2 k3 k4 j0 j1 j2 j3 j4 j5); obtain ⟨k0, k1, k2, k3, k4⟩ := cells5 HK2.out; obtain ⟨j0, j1, j2, j3, j4, j5⟩ := cells6 HK3.out
    obtain ⟨Ar, cr, rfl, hlr, hcr⟩ := Kd.R_reads hr
    clear hr
    have hkl : (q.cols ++ q.grp).length ≤ 12 := by rw [List.length_append]; omega
    generalize hks : q.cols ++ q.grp = ks at hlr hcr hkl HE HAN ⊢
    clear hks
    have HR := Aside0.mk hcr
    clear hcr
    have K2 := HK2
    have K3 := HK3
    have HB4 := HB
    go_wp2
    go_loopg [5, 22] ks.length (fun kq v5 v w' => ∃ i : Nat, v = .int .i64 i ∧ Aside0 (i + kq = ks.length) ∧ Aside0 (rowI w' w4.heap.size v5 ((ks.take i).map (kindAt l))) ∧ Aside0 (Below w4.heap.size w4 w'))
    case atStart => exact ⟨0, rfl, ⟨by omega⟩, ⟨Kd.R_nil _ _ _ _ _⟩, ⟨Below.refl _ _⟩⟩
    case round =>
      clear HK2 HK3 HB k0 k1 k2 k3 k4 j0 j1 j2 j3 j4 j5
      obtain ⟨i, rfl, HI, HO, HB⟩ := hrel
      have hi := HI.out
      have HK2 := Aside0.mk (blk_below K2.out HB.out)
      have HK3 := Aside0.mk (blk_below K3.out HB.out)
      (try clear k0 k1 k2 k3 k4 j0 j1 j2 j3 j4 j5); obtain ⟨k0, k1, k2, k3, k4⟩ := cells5 HK2.out; obtain ⟨j0, j1, j2, j3, j4, j5⟩ := cells6 HK3.out
      by_cases hlt : i < ks.length
      · obtain ⟨ad, hA, d0⟩ := atI (Kd.C_below HR.out HB.out) i hlt
        subst hA
        have hk : hasB l (rdI ks i) = true := by
          have := List.any_eq_false.1 HAN.out (rdI ks i) (by rw [rdI, getD_at _ _ _ hlt]; exact List.getElem_mem _)
          simpa using this
        have h5 : 0 ≤ rdI ks i ∧ rdI ks i < l.length := by unfold hasB at hk; simpa using hk
        clear hk
        have HT : Aside0 ((ks.take i).map (kindAt l) ++ [kindAt l (rdI ks i)] = (ks.take (i + 1)).map (kindAt l)) := ⟨map_take_snoc (kindAt l) 0 ks i hlt⟩
        obtain ⟨n, hn⟩ := Int.eq_ofNat_of_zero_le h5.1
        have hKA : Aside0 (kindAt l (rdI ks i) = (rdCol l n).kind) := ⟨by unfold kindAt; rw [hn]; rfl⟩
        rw [hn] at d0 h5
        have hnl : n < l.length := by omega
        obtain ⟨ad2, hA2, f0, f1, f2⟩ := atCol (Kd.C_below (HS.out.below HB4.out).1 HB.out) n hnl
        subst hA2
        clear h5
        go_wp2_with (at_builtin; refine appI rfl (.tmp 26) (.tmp 33) rfl _ _ _ rfl rfl (by repeat (first | exact HO.out | apply Kd.R_alloc | apply Kd.R_drew | apply Kd.R_drewN)) HB.out HB.out.size (by simp; omega) ?_; intro v2 w2 ho hb hg; rw [← hKA.out, HT.out] at ho; have HO2 := Aside0.mk ho; have HB2 := Aside0.mk hb; clear ho hb hg)
        go_roundg (gk - 1)
        case measure => omega
        case rel => exact ⟨i + 1, by go_num, ⟨by omega⟩, HO2, HB2⟩
      · obtain rfl : i = ks.length := by omega
        rw [show (ks.take ks.length).map (kindAt l) = ks.map (kindAt l) ++ (q.aggs.take 0).map (aggK l) by simp] at HO
        have HB5 := HB
        go_wp2
        go_loopg [5, 39] q.aggs.length (fun kq v5 v w' => ∃ i : Nat, v = .int .i64 i ∧ Aside0 (i + kq = q.aggs.length) ∧ Aside0 (rowI w' w4.heap.size v5 (ks.map (kindAt l) ++ (q.aggs.take i).map (aggK l))) ∧ Aside0 (Below w4.heap.size w4 w'))
        case atStart => exact ⟨0, rfl, ⟨by omega⟩, HO, HB⟩
        case round =>
          clear HK2 HK3 HB HO k0 k1 k2 k3 k4 j0 j1 j2 j3 j4 j5 HI hi hlt
          obtain ⟨i, rfl, HI, HO, HB⟩ := hrel
          have hi := HI.out
          have HK2 := Aside0.mk (blk_below K2.out HB.out)
          have HK3 := Aside0.mk (blk_below K3.out HB.out)
          (try clear k0 k1 k2 k3 k4 j0 j1 j2 j3 j4 j5); obtain ⟨k0, k1, k2, k3, k4⟩ := cells5 HK2.out; obtain ⟨j0, j1, j2, j3, j4, j5⟩ := cells6 HK3.out
          have hz2 := blk_lt HK2.out
          have hz3 := blk_lt HK3.out
          by_cases hlt : i < q.aggs.length
          · obtain ⟨ad, hA, d0, d1⟩ := atAgg (Kd.C_below (HQ.out.below HB4.out).2.2.2.1.1 HB.out) i hlt
            dsimp only at hA
            subst hA
            have HT : Aside0 (ks.map (kindAt l) ++ (q.aggs.take i).map (aggK l) ++ [aggK l (rdAgg q.aggs i)] = ks.map (kindAt l) ++ (q.aggs.take (i + 1)).map (aggK l)) := ⟨by rw [← map_take_snoc (aggK l) zAgg q.aggs i hlt, List.append_assoc]; rfl⟩
            have HG := Aside0.mk (HAG.out i hlt)
            generalize rdAgg q.aggs i = x at d0 d1 HT HG
            obtain ⟨fn, col⟩ := x
            dsimp only at d0 d1
            by_cases h34 : fn = 3 ∨ fn = 4
            · have h5 : hasB l col = true := by
                have := HG.out
                unfold aggE at this
                dsimp only at this
                rw [if_neg (by omega), if_neg (by omega)] at this
                cases hb : hasB l col
                · rw [hb, if_pos rfl] at this; cases this
                · rfl
              have hKA : Aside0 (aggK l ⟨fn, col⟩ = kindAt l col) := ⟨by unfold aggK; rw [if_pos h34]⟩
              replace h5 : 0 ≤ col ∧ col < l.length := by unfold hasB at h5; simpa using h5
              obtain ⟨n, rfl⟩ := Int.eq_ofNat_of_zero_le h5.1
              have hKB : Aside0 (kindAt l (n : Int) = (rdCol l n).kind) := ⟨rfl⟩
              have hnl : n < l.length := by omega
              obtain ⟨ad2, hA2, f0, f1, f2⟩ := atCol (Kd.C_below (HS.out.below HB4.out).1 HB.out) n hnl
              subst hA2
              have hbl := World.block_lt_of_cell? wr _ f1
              clear h5
              rcases h34 with rfl | rfl
              all_goals
                go_wp2_with (at_builtin; refine appI rfl (.tmp 58) (.tmp 60) rfl _ _ _ rfl (one_alloc _ _) (by repeat (first | exact HO.out | apply Kd.R_alloc | apply Kd.R_drew | apply Kd.R_drewN)) (by repeat (first | exact HB.out | apply below_alloc | apply below_drew | apply pw_below_drewN)) (below_size (by repeat (first | exact HB.out | apply below_alloc | apply below_drew | apply pw_below_drewN))) (by simp; omega) ?_; intro v2 w2 ho hb hg; rw [← hKB.out, ← hKA.out, HT.out] at ho; have HO2 := Aside0.mk ho; have HB2 := Aside0.mk hb; clear ho hb hg)
                go_roundg (gk - 1)
                case measure => omega
                case rel => exact ⟨i + 1, by go_num, ⟨by omega⟩, HO2, HB2⟩
            · have hKA : Aside0 (aggK l ⟨fn, col⟩ = 1) := ⟨by unfold aggK; rw [if_neg h34]⟩
              have h3 : (fn == 3) = false := by simp; omega
              have h4 : (fn == 4) = false := by simp; omega
              go_wp2_with (at_builtin; refine appI rfl (.tmp 58) (.tmp 60) rfl _ _ _ rfl (one_alloc _ _) (by repeat (first | exact HO.out | apply Kd.R_alloc | apply Kd.R_drew | apply Kd.R_drewN)) (by repeat (first | exact HB.out | apply below_alloc | apply below_drew | apply pw_below_drewN)) (below_size (by repeat (first | exact HB.out | apply below_alloc | apply below_drew | apply pw_below_drewN))) (by simp; omega) ?_; intro v2 w2 ho hb hg; rw [← hKA.out, HT.out] at ho; have HO2 := Aside0.mk ho; have HB2 := Aside0.mk hb; clear ho hb hg)
              go_roundg (gk - 1)
              case measure => omega
              case rel => exact ⟨i + 1, by go_num, ⟨by omega⟩, HO2, HB2⟩
          · obtain rfl : i = q.aggs.length := by omega
            rw [show (q.aggs.take q.aggs.length).map (aggK l) = q.aggs.map (aggK l) by simp, ← HE.out] at HO
            go_wp2
            go_ret
            exact ⟨_, rfl, Kd.R_lower HO.out HB4.out.size, below_weaken HB4.out HB4.out.size HB.out⟩
end Go.Proofs.YtfkbodhnemokjaaDoor.W
