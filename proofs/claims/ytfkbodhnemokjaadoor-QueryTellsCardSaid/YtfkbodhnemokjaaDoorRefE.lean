/- The document's answer of layer 16: Outs. -/
import Derived.Test.YtfkbodhnemokjaaDoorRefD
namespace Go.Proofs.YtfkbodhnemokjaaDoor.W
open Go.RowKit Go.Shelf Go.Proofs.YtfkbodhnemokjaaDoorW.PrintWords
set_option linter.unusedVariables false
set_option linter.unusedSimpArgs false
/-- append(v, p), in a region that draws its order. -/
theorem appI_step {ops : Array Oper} {o : Oper} {a : Act} {Q : Exit → Act → World → Prop} {Kc : Act → World → Prop} {w0 W : World} {base : Nat} (hw : Region.wanted o (yielded ops a.tmps) = true) (s x : Operand) (ho : o.op = .call { callee := .builtin .append, args := #[s, x], argTypes := #[26, 26] })
    (v : Value) (xs : List Int) (p : Int) (hs : a.eval s = v) (hx : a.eval x = .slice (some ⟨W.heap.size, 0, none⟩) 1 1)
    (HO : rowI W base v xs) (HB : Below base w0 W) (hbase : base ≤ W.heap.size) (hl : xs.length < 17592186044416)
    (h : ∀ v1 w1, rowI w1 base v1 (xs ++ [p]) → Below base w0 w1 → Kc (a.put o.dst v1) w1) :
    if Region.wanted o (yielded ops a.tmps) = true then Oper.wp Tryd.prog o a (W.alloc (.cells #[.int .i64 p] 3)) Kc Q else Kc (a.put o.dst undef) (W.alloc (.cells #[.int .i64 p] 3)) :=
  Kd.R_append_step kI (w0 := w0) base hw s x 26 3 (.int .i64 0) 8 ho Tryd.underlying26 infoInt rfl (by decide) (by omega) v xs p [.int .i64 p] (fun _ => True) (fun _ => False) hs hx rfl (fun _ hk => hk.elim) (fun _ _ => trivial) HO HB hbase (by omega)
    (fun v1 w1 h1 h2 h3 _ => h v1 w1 h1 h2)
theorem appI_stepD {ops : Array Oper} {o : Oper} {a : Act} {Q : Exit → Act → World → Prop} {Kc : Act → World → Prop} {w0 W : World} {base : Nat} (hw : Region.wanted o (yielded ops a.tmps) = true) (s x : Operand) (ho : o.op = .call { callee := .builtin .append, args := #[s, x], argTypes := #[26, 26] })
    (v : Value) (xs : List Int) (p : Int) (hs : a.eval s = v) (hx : a.eval x = .slice (some ⟨W.heap.size, 0, none⟩) 1 1)
    (HO : rowI W base v xs) (HB : Below base w0 W) (hbase : base ≤ W.heap.size) (hl : xs.length < 17592186044416)
    (h : ∀ v1 w1, rowI w1 base v1 (xs ++ [p]) → Below base w0 w1 → Kc (a.put o.dst v1) w1) :
    if Region.wanted o (yielded ops a.tmps) = true then Oper.wp Tryd.prog o a (W.alloc (.cells #[.int .i64 p] 3)).drew Kc Q else Kc (a.put o.dst undef) (W.alloc (.cells #[.int .i64 p] 3)).drew :=
  appI_step (W := W.drew) hw s x ho v xs p hs hx (Kd.R_drew HO) (below_drew HB) hbase hl h
set_option maxHeartbeats 8000000 in
set_option maxRecDepth 100000 in
theorem refOuts_any (A : Option Addr) (c : Nat) (l : List Col) (key cmp del so : Int) (p : QAt) (q : Qry) (w : World) (hs : SC w A c l) (hq : QC w p q) :
    Calls Tryd.prog 9 #[.agg #[.slice A l.length c, .int .i64 key, .int .i64 cmp, .int .i64 del, .int .i64 so], q.v p] w fun e w' => ∃ v, e = .returned v ∧ rowI w' w.heap.size v (outsL l key cmp del so q) ∧ Below w.heap.size w w' := by
  have hu := Tryd.underlying24
  have hu2 := Tryd.underlying30
  have hu3 := Tryd.underlying43
  have hu4 := Tryd.underlying45
  have HS := Aside0.mk hs
  have HQ := Aside0.mk hq
  clear hs hq
  obtain ⟨A0, c0, A1, c1, A2, c2, A3, c3, A4, c4⟩ := p
  unfold Qry.v
  dsimp only
  have HB := Aside0.mk (Below.refl w.heap.size w)
  have HK2 : Aside0 (((w.alloc (.cells #[.slice A l.length c, .int .i64 key, .int .i64 cmp, .int .i64 del, .int .i64 so] 24)).alloc (.cells #[.slice A0 q.fil.length c0, .slice A1 q.cols.length c1, .slice A2 q.grp.length c2, .slice A3 q.aggs.length c3, .slice A4 q.sort.length c4, .int .i64 q.lim] 30)).heap[w.heap.size]? = some (.cells #[.slice A l.length c, .int .i64 key, .int .i64 cmp, .int .i64 del, .int .i64 so] 24 (0, 0))) := ⟨blk_alloc (blk_new w _) _⟩
  have HK3 : Aside0 (((w.alloc (.cells #[.slice A l.length c, .int .i64 key, .int .i64 cmp, .int .i64 del, .int .i64 so] 24)).alloc (.cells #[.slice A0 q.fil.length c0, .slice A1 q.cols.length c1, .slice A2 q.grp.length c2, .slice A3 q.aggs.length c3, .slice A4 q.sort.length c4, .int .i64 q.lim] 30)).heap[w.heap.size + 1]? = some (.cells #[.slice A0 q.fil.length c0, .slice A1 q.cols.length c1, .slice A2 q.grp.length c2, .slice A3 q.aggs.length c3, .slice A4 q.sort.length c4, .int .i64 q.lim] 30 (0, 0))) := ⟨by have := blk_new (w.alloc (.cells #[.slice A l.length c, .int .i64 key, .int .i64 cmp, .int .i64 del, .int .i64 so] 24)) (.cells #[.slice A0 q.fil.length c0, .slice A1 q.cols.length c1, .slice A2 q.grp.length c2, .slice A3 q.aggs.length c3, .slice A4 q.sort.length c4, .int .i64 q.lim] 30); simpa using this⟩
  go_enter Tryd.func9, Tryd.ntmps9
  go_wp2_with fail
  refine (refCheck_any A c l key cmp del so ⟨A0, c0, A1, c1, A2, c2, A3, c3, A4, c4⟩ q _ (HS.out.below (by repeat (first | exact HB.out | apply below_alloc | apply below_drew | apply pw_below_drewN))) (HQ.out.below (by repeat (first | exact HB.out | apply below_alloc | apply below_drew | apply pw_below_drewN)))).mono ?_
  rintro e w1 ⟨rfl, hb⟩
  have HX2 := Aside0.mk (blk_below (g := w.heap.size) (by repeat (first | exact HK2.out | apply blk_alloc | apply blk_drew | apply blk_drewN)) hb); have HX3 := Aside0.mk (blk_below (g := w.heap.size + 1) (by repeat (first | exact HK3.out | apply blk_alloc | apply blk_drew | apply blk_drewN)) hb); clear HK2 HK3; have HK2 := HX2; have HK3 := HX3; clear HX2 HX3
  have HB1 := Aside0.mk (below_step (by repeat (first | exact HB.out | apply below_alloc | apply below_drew | apply pw_below_drewN)) hb); clear hb HB; have HB := HB1; clear HB1
  (try clear k0 k1 k2 k3 k4 j0 j1 j2 j3 j4 j5); obtain ⟨k0, k1, k2, k3, k4⟩ := cells5 HK2.out; obtain ⟨j0, j1, j2, j3, j4, j5⟩ := cells6 HK3.out
  by_cases hck : checkE l key cmp del so q = 0
  rotate_left
  · have hck' : (checkE l key cmp del so q != 0) = true := by simpa using hck
    have HE : Aside0 (outsL l key cmp del so q = []) := ⟨by unfold outsL; rw [if_neg hck]⟩
    generalize checkE l key cmp del so q = ce at *
    clear hck
    go_wp2
    go_ret
    refine ⟨_, rfl, ?_, (by repeat (first | exact HB.out | apply below_alloc | apply below_drew | apply pw_below_drewN))⟩
    rw [HE.out]
    exact Kd.R_nil _ _ _ _ _
  · have HE : Aside0 (outsL l key cmp del so q = (q.cols ++ q.grp).map (kindAt l) ++ q.aggs.map (aggK l)) := ⟨by unfold outsL; rw [if_pos hck]⟩
    obtain ⟨hlong, hany, haggs⟩ := checkE_ok hck
    rw [hck]
    have HAG := Aside0.mk haggs
    clear hck haggs
    rcases long_case q with hl | ⟨_, b0, b1, b2, b3, b4, b5, b6⟩
    · exfalso; rw [hlong] at hl; cases hl
    clear hlong
    have HAN := Aside0.mk hany
    clear hany
    have K2 := HK2
    have K3 := HK3
    have HB4 := HB
    have hck1 : q.cols.length ≤ 8 := b1
    have HA1 : Aside0 (∀ i, i < q.cols.length → hasB l (rdI q.cols i) = true) := ⟨fun i hi => by
      have := List.any_eq_false.1 HAN.out (rdI q.cols i) (List.mem_append_left _ (by rw [rdI, getD_at _ _ _ hi]; exact List.getElem_mem _))
      simpa using this⟩
    have HA2 : Aside0 (∀ i, i < q.grp.length → hasB l (rdI q.grp i) = true) := ⟨fun i hi => by
      have := List.any_eq_false.1 HAN.out (rdI q.grp i) (List.mem_append_right _ (by rw [rdI, getD_at _ _ _ hi]; exact List.getElem_mem _))
      simpa using this⟩
    have HS4 := Aside0.mk (HS.out.below HB.out)
    have HQ4 := Aside0.mk (HQ.out.below HB.out)
    have hw2 := blk_lt HK2.out
    have hw3 := blk_lt HK3.out
    clear k0 k1 k2 k3 k4 j0 j1 j2 j3 j4 j5
    obtain ⟨K0, K1, K22, K33, K4⟩ := cells5 K2.out
    obtain ⟨J0, J1, J2, J3, J4, J5⟩ := cells6 K3.out
    clear HB HK2 HK3
    have HK2 := K2
    have HK3 := K3
    (try clear k0 k1 k2 k3 k4 j0 j1 j2 j3 j4 j5); obtain ⟨k0, k1, k2, k3, k4⟩ := cells5 HK2.out; obtain ⟨j0, j1, j2, j3, j4, j5⟩ := cells6 HK3.out
    clear HK2 HK3
    go_wp2
    go_loopg [6, 7] q.cols.length (fun kq v6 v w' => ∃ i : Nat, v = .int .i64 i ∧ Aside0 (i + kq = q.cols.length) ∧ Aside0 (rowI w' w1.heap.size v6 ((q.cols.take i).map (kindAt l))) ∧ Aside0 (Below w1.heap.size w1 w'))
    case atStart => exact ⟨0, rfl, ⟨by omega⟩, ⟨Kd.R_nil _ _ _ _ _⟩, ⟨Below.refl _ _⟩⟩
    case round =>
      clear k0 k1 k2 k3 k4 j0 j1 j2 j3 j4 j5
      obtain ⟨i, rfl, HI, HO, HB⟩ := hrel
      have hi := HI.out
      have HK2 := Aside0.mk (blk_below K2.out HB.out)
      have HK3 := Aside0.mk (blk_below K3.out HB.out)
      (try clear k0 k1 k2 k3 k4 j0 j1 j2 j3 j4 j5); obtain ⟨k0, k1, k2, k3, k4⟩ := cells5 HK2.out; obtain ⟨j0, j1, j2, j3, j4, j5⟩ := cells6 HK3.out
      by_cases hlt : i < q.cols.length
      · obtain ⟨ad, hA, d0⟩ := atI HQ4.out.2.1.1 i hlt
        dsimp only at hA
        subst hA
        have hbl := World.block_lt_of_cell? w1 _ d0
        have hk : hasB l (rdI q.cols i) = true := HA1.out i hlt
        have h5 : 0 ≤ rdI q.cols i ∧ rdI q.cols i < l.length := by unfold hasB at hk; simpa using hk
        clear hk
        have HT : Aside0 ((q.cols.take i).map (kindAt l) ++ [kindAt l (rdI q.cols i)] = (q.cols.take (i + 1)).map (kindAt l)) := ⟨map_take_snoc (kindAt l) 0 q.cols i hlt⟩
        obtain ⟨n, hn⟩ := Int.eq_ofNat_of_zero_le h5.1
        have HKA : Aside0 (kindAt l (rdI q.cols i) = (rdCol l n).kind) := ⟨by unfold kindAt; rw [hn]; rfl⟩
        rw [hn] at d0 h5
        have hnl : n < l.length := by omega
        obtain ⟨ad2, hA2, f0, f1, f2⟩ := atCol HS4.out.1 n hnl
        subst hA2
        have hbl2 := World.block_lt_of_cell? w1 _ f1
        have hn0 : (0 : Int) ≤ (n : Int) := h5.1
        have hn1 : (n : Int) < (l.length : Int) := h5.2
        clear h5
        go_wp2
        go_region_held3 (fun w' => Below w1.heap.size w1 w' ∧ (∀ a : Addr, a.block < w1.heap.size → w'.cell? a = w1.cell? a)) (first | exact keepT1 HBk.out | exact keepT1 (below_drew HBk.out) | exact keepT1 (by repeat (first | exact HB.out | apply below_alloc | apply below_drew | apply pw_below_drewN))) ((refine appI_stepD (w0 := w1) (base := w1.heap.size) (by rfl) (.tmp 23) (.tmp 34) rfl _ _ _ rfl rfl (by repeat (first | exact HO.out | apply Kd.R_alloc | apply Kd.R_drew | apply Kd.R_drewN)) (by repeat (first | exact HB.out | apply below_alloc | apply below_drew | apply pw_below_drewN)) (below_size (by repeat (first | exact HB.out | apply below_alloc | apply below_drew | apply pw_below_drewN))) (by simp; omega) ?_; intro v2 w2 ho hb; rw [← HKA.out, HT.out] at ho; have HO2 := Aside0.mk ho; have HBk := Aside0.mk hb; clear ho hb))
        go_wp2
        go_roundg (gk - 1)
        case measure => omega
        case rel => exact ⟨i + 1, by go_num, ⟨by omega⟩, HO2, HBk⟩
      · obtain rfl : i = q.cols.length := by omega
        rw [show (q.cols.take q.cols.length).map (kindAt l) = q.cols.map (kindAt l) ++ (q.grp.take 0).map (kindAt l) by simp] at HO
        go_wp2
        go_loopg [6, 8] q.grp.length (fun kq v6 v w' => ∃ i : Nat, v = .int .i64 i ∧ Aside0 (i + kq = q.grp.length) ∧ Aside0 (rowI w' w1.heap.size v6 (q.cols.map (kindAt l) ++ (q.grp.take i).map (kindAt l))) ∧ Aside0 (Below w1.heap.size w1 w'))
        case atStart => exact ⟨0, rfl, ⟨by omega⟩, HO, HB⟩
        case round =>
          clear HB HO HI hi hlt HK2 HK3
          clear k0 k1 k2 k3 k4 j0 j1 j2 j3 j4 j5
          obtain ⟨i, rfl, HI, HO, HB⟩ := hrel
          have hi := HI.out
          have HK2 := Aside0.mk (blk_below K2.out HB.out)
          have HK3 := Aside0.mk (blk_below K3.out HB.out)
          (try clear k0 k1 k2 k3 k4 j0 j1 j2 j3 j4 j5); obtain ⟨k0, k1, k2, k3, k4⟩ := cells5 HK2.out; obtain ⟨j0, j1, j2, j3, j4, j5⟩ := cells6 HK3.out
          by_cases hlt : i < q.grp.length
          · obtain ⟨ad, hA, d0⟩ := atI HQ4.out.2.2.1.1 i hlt
            dsimp only at hA
            subst hA
            have hbl := World.block_lt_of_cell? w1 _ d0
            have hk : hasB l (rdI q.grp i) = true := HA2.out i hlt
            have h5 : 0 ≤ rdI q.grp i ∧ rdI q.grp i < l.length := by unfold hasB at hk; simpa using hk
            clear hk
            have HT : Aside0 (q.cols.map (kindAt l) ++ (q.grp.take i).map (kindAt l) ++ [kindAt l (rdI q.grp i)] = q.cols.map (kindAt l) ++ (q.grp.take (i + 1)).map (kindAt l)) := ⟨by rw [← map_take_snoc (kindAt l) 0 q.grp i hlt, List.append_assoc]; rfl⟩
            obtain ⟨n, hn⟩ := Int.eq_ofNat_of_zero_le h5.1
            have HKA : Aside0 (kindAt l (rdI q.grp i) = (rdCol l n).kind) := ⟨by unfold kindAt; rw [hn]; rfl⟩
            rw [hn] at d0 h5
            have hnl : n < l.length := by omega
            obtain ⟨ad2, hA2, f0, f1, f2⟩ := atCol HS4.out.1 n hnl
            subst hA2
            have hbl2 := World.block_lt_of_cell? w1 _ f1
            have hn0 : (0 : Int) ≤ (n : Int) := h5.1
            have hn1 : (n : Int) < (l.length : Int) := h5.2
            clear h5
            go_wp2
            go_region_held3 (fun w' => Below w1.heap.size w1 w' ∧ (∀ a : Addr, a.block < w1.heap.size → w'.cell? a = w1.cell? a)) (first | exact keepT1 HBk.out | exact keepT1 (below_drew HBk.out) | exact keepT1 (by repeat (first | exact HB.out | apply below_alloc | apply below_drew | apply pw_below_drewN))) ((refine appI_stepD (w0 := w1) (base := w1.heap.size) (by rfl) (.tmp 43) (.tmp 54) rfl _ _ _ rfl rfl (by repeat (first | exact HO.out | apply Kd.R_alloc | apply Kd.R_drew | apply Kd.R_drewN)) (by repeat (first | exact HB.out | apply below_alloc | apply below_drew | apply pw_below_drewN)) (below_size (by repeat (first | exact HB.out | apply below_alloc | apply below_drew | apply pw_below_drewN))) (by simp; omega) ?_; intro v2 w2 ho hb; rw [← HKA.out, HT.out] at ho; have HO2 := Aside0.mk ho; have HBk := Aside0.mk hb; clear ho hb))
            go_wp2
            go_roundg (gk - 1)
            case measure => omega
            case rel => exact ⟨i + 1, by go_num, ⟨by omega⟩, HO2, HBk⟩
          · obtain rfl : i = q.grp.length := by omega
            rw [show q.cols.map (kindAt l) ++ (q.grp.take q.grp.length).map (kindAt l) = (q.cols ++ q.grp).map (kindAt l) ++ (q.aggs.take 0).map (aggK l) by simp] at HO
            have hml : ((q.cols ++ q.grp).map (kindAt l)).length ≤ 12 := by rw [List.length_map, List.length_append]; omega
            generalize (q.cols ++ q.grp).map (kindAt l) = ms at HO HE hml
            go_wp2
            go_loopg [6, 9] q.aggs.length (fun kq v6 v w' => ∃ i : Nat, v = .int .i64 i ∧ Aside0 (i + kq = q.aggs.length) ∧ Aside0 (rowI w' w1.heap.size v6 (ms ++ (q.aggs.take i).map (aggK l))) ∧ Aside0 (Below w1.heap.size w1 w'))
            case atStart => exact ⟨0, rfl, ⟨by omega⟩, HO, HB⟩
            case round =>
              clear HB HO HI hi hlt HK2 HK3 k0 k1 k2 k3 k4 j0 j1 j2 j3 j4 j5
              obtain ⟨i, rfl, HI, HO, HB⟩ := hrel
              have hi := HI.out
              have HK2 := Aside0.mk (blk_below K2.out HB.out)
              have HK3 := Aside0.mk (blk_below K3.out HB.out)
              (try clear k0 k1 k2 k3 k4 j0 j1 j2 j3 j4 j5); obtain ⟨k0, k1, k2, k3, k4⟩ := cells5 HK2.out; obtain ⟨j0, j1, j2, j3, j4, j5⟩ := cells6 HK3.out
              have hz2 := blk_lt HK2.out
              have hz3 := blk_lt HK3.out
              by_cases hlt : i < q.aggs.length
              · obtain ⟨ad, hA, d0, d1⟩ := atAgg (Kd.C_below HQ4.out.2.2.2.1.1 HB.out) i hlt
                dsimp only at hA
                subst hA
                have HT : Aside0 (ms ++ (q.aggs.take i).map (aggK l) ++ [aggK l (rdAgg q.aggs i)] = ms ++ (q.aggs.take (i + 1)).map (aggK l)) := ⟨by rw [← map_take_snoc (aggK l) zAgg q.aggs i hlt, List.append_assoc]; rfl⟩
                have HG := Aside0.mk (HAG.out i hlt)
                generalize rdAgg q.aggs i = x at d0 d1 HT HG
                obtain ⟨fn, col⟩ := x
                dsimp only at d0 d1
                by_cases h34 : fn = 3 ∨ fn = 4
                · have h5 : hasB l col = true := by
                    have := HG.out
                    unfold aggE at this
                    dsimp only at this
                    rw [if_neg (by omega), if_neg (by omega)] at this
                    cases hb : hasB l col
                    · rw [hb, if_pos rfl] at this; cases this
                    · rfl
                  have hKA : Aside0 (aggK l ⟨fn, col⟩ = kindAt l col) := ⟨by unfold aggK; rw [if_pos h34]⟩
                  replace h5 : 0 ≤ col ∧ col < l.length := by unfold hasB at h5; simpa using h5
                  obtain ⟨n, rfl⟩ := Int.eq_ofNat_of_zero_le h5.1
                  have hKB : Aside0 (kindAt l (n : Int) = (rdCol l n).kind) := ⟨rfl⟩
                  have hnl : n < l.length := by omega
                  obtain ⟨ad2, hA2, f0, f1, f2⟩ := atCol (Kd.C_below HS4.out.1 HB.out) n hnl
                  subst hA2
                  have hbl := World.block_lt_of_cell? wr _ f1
                  clear h5
                  rcases h34 with rfl | rfl
                  all_goals
                    go_wp2_with (at_builtin; refine appI rfl (.tmp 76) (.tmp 84) rfl _ _ _ rfl (one_alloc _ _) (by repeat (first | exact HO.out | apply Kd.R_alloc | apply Kd.R_drew | apply Kd.R_drewN)) (by repeat (first | exact HB.out | apply below_alloc | apply below_drew | apply pw_below_drewN)) (below_size (by repeat (first | exact HB.out | apply below_alloc | apply below_drew | apply pw_below_drewN))) (by simp; omega) ?_; intro v2 w2 ho hb hg; rw [← hKB.out, ← hKA.out, HT.out] at ho; have HO2 := Aside0.mk ho; have HB2 := Aside0.mk hb; clear ho hb hg)
                    go_roundg (gk - 1)
                    case measure => omega
                    case rel => exact ⟨i + 1, by go_num, ⟨by omega⟩, HO2, HB2⟩
                · have hKA : Aside0 (aggK l ⟨fn, col⟩ = 1) := ⟨by unfold aggK; rw [if_neg h34]⟩
                  have h3 : (fn == 3) = false := by simp; omega
                  have h4 : (fn == 4) = false := by simp; omega
                  go_wp2_with (at_builtin; refine appI rfl (.tmp 86) (.tmp 87) rfl _ _ _ rfl (one_alloc _ _) (by repeat (first | exact HO.out | apply Kd.R_alloc | apply Kd.R_drew | apply Kd.R_drewN)) (by repeat (first | exact HB.out | apply below_alloc | apply below_drew | apply pw_below_drewN)) (below_size (by repeat (first | exact HB.out | apply below_alloc | apply below_drew | apply pw_below_drewN))) (by simp; omega) ?_; intro v2 w2 ho hb hg; rw [← hKA.out, HT.out] at ho; have HO2 := Aside0.mk ho; have HB2 := Aside0.mk hb; clear ho hb hg)
                  go_roundg (gk - 1)
                  case measure => omega
                  case rel => exact ⟨i + 1, by go_num, ⟨by omega⟩, HO2, HB2⟩
              · obtain rfl : i = q.aggs.length := by omega
                rw [show (q.aggs.take q.aggs.length).map (aggK l) = q.aggs.map (aggK l) by simp, ← HE.out] at HO
                go_wp2
                go_ret
                exact ⟨_, rfl, Kd.R_lower HO.out HB4.out.size, below_weaken HB4.out HB4.out.size HB.out⟩
end Go.Proofs.YtfkbodhnemokjaaDoor.W
