/- The document's answer of layer 16: Check. -/
import Derived.Test.YtfkbodhnemokjaaDoorRefN
namespace Go.Proofs.YtfkbodhnemokjaaDoor.W
open Go.RowKit Go.Shelf Go.Proofs.YtfkbodhnemokjaaDoorW.PrintWords
set_option linter.unusedVariables false
set_option linter.unusedSimpArgs false
/-! For a region that draws its order: what is kept of the world B in which it begins. -/
theorem keepT {B W W1 : World} (h : Below B.heap.size B W) (hb : Below W.heap.size W W1) : Below B.heap.size B W1 ∧ (∀ a : Addr, a.block < B.heap.size → W1.cell? a = B.cell? a) :=
  ⟨below_then h h.size hb, fun a hlt => (below_then h h.size hb).cell hlt⟩
theorem keepT1 {B W1 : World} (h : Below B.heap.size B W1) : Below B.heap.size B W1 ∧ (∀ a : Addr, a.block < B.heap.size → W1.cell? a = B.cell? a) := ⟨h, fun a hlt => h.cell hlt⟩
theorem keepT0 (B : World) : Below B.heap.size B B.drew ∧ (∀ a : Addr, a.block < B.heap.size → B.drew.cell? a = B.cell? a) := ⟨below_drew (Below.refl _ _), fun _ _ => rfl⟩
/-- append(v, ys...), in a region that draws its order. -/
theorem appRowI_step {ops : Array Oper} {o : Oper} {a : Act} {Q : Exit → Act → World → Prop} {Kc : Act → World → Prop} {w0 W : World} {base : Nat} (hw : Region.wanted o (yielded ops a.tmps) = true) (s x : Operand) (ho : o.op = .call { callee := .builtin .append, args := #[s, x], argTypes := #[26, 26] })
    (v : Value) (xs ys : List Int) (A : Option Addr) (c : Nat) (hs : a.eval s = v) (hx : a.eval x = .slice A ys.length c)
    (HO : rowI W base v xs) (HR : Kd.C kI W A ys.length ys) (HB : Below base w0 W) (hbase : base ≤ W.heap.size) (hl : xs.length + ys.length < 17592186044416)
    (h : ∀ v1 w1, rowI w1 base v1 (xs ++ ys) → Below base w0 w1 → Kc (a.put o.dst v1) w1) :
    if Region.wanted o (yielded ops a.tmps) = true then Oper.wp Tryd.prog o a W Kc Q else Kc (a.put o.dst undef) W :=
  Kd.R_append_rows_step kI (Rr := kI.K W) (w0 := w0) base hw s x 26 3 (.int .i64 0) 8 ho Tryd.underlying26 infoInt rfl (by decide) (by omega) v xs ys A ys.length c (fun _ => True) (fun _ => False) hs hx HO HR (fun _ _ h => h) (fun _ h => h.elim) (fun _ _ => trivial) HB hbase (by omega)
    (fun v1 w1 h1 h2 _ _ => h v1 w1 h1 h2)
set_option maxHeartbeats 8000000 in
set_option maxRecDepth 100000 in
theorem refCheck_any (A : Option Addr) (c : Nat) (l : List Col) (key cmp del so : Int) (p : QAt) (q : Qry) (w : World) (hs : SC w A c l) (hq : QC w p q) :
    Calls Tryd.prog 13 #[.agg #[.slice A l.length c, .int .i64 key, .int .i64 cmp, .int .i64 del, .int .i64 so], q.v p] w fun e w' => e = .returned (.int .i64 (checkE l key cmp del so q)) ∧ Below w.heap.size w w' := by
  have hu := Tryd.underlying24
  have hu2 := Tryd.underlying30
  have hu3 := Tryd.underlying43
  have hu4 := Tryd.underlying49
  have hu5 := Tryd.underlying63
  have hu6 := Tryd.underlying47
  have HS := Aside0.mk hs
  have HQ := Aside0.mk hq
  clear hs hq
  obtain ⟨A0, c0, A1, c1, A2, c2, A3, c3, A4, c4⟩ := p
  unfold Qry.v
  dsimp only
  have HB := Aside0.mk (Below.refl w.heap.size w)
  have HK2 : Aside0 (((w.alloc (.cells #[.slice A l.length c, .int .i64 key, .int .i64 cmp, .int .i64 del, .int .i64 so] 24)).alloc (.cells #[.slice A0 q.fil.length c0, .slice A1 q.cols.length c1, .slice A2 q.grp.length c2, .slice A3 q.aggs.length c3, .slice A4 q.sort.length c4, .int .i64 q.lim] 30)).heap[w.heap.size]? = some (.cells #[.slice A l.length c, .int .i64 key, .int .i64 cmp, .int .i64 del, .int .i64 so] 24 (0, 0))) := ⟨blk_alloc (blk_new w _) _⟩
  have HK3 : Aside0 (((w.alloc (.cells #[.slice A l.length c, .int .i64 key, .int .i64 cmp, .int .i64 del, .int .i64 so] 24)).alloc (.cells #[.slice A0 q.fil.length c0, .slice A1 q.cols.length c1, .slice A2 q.grp.length c2, .slice A3 q.aggs.length c3, .slice A4 q.sort.length c4, .int .i64 q.lim] 30)).heap[w.heap.size + 1]? = some (.cells #[.slice A0 q.fil.length c0, .slice A1 q.cols.length c1, .slice A2 q.grp.length c2, .slice A3 q.aggs.length c3, .slice A4 q.sort.length c4, .int .i64 q.lim] 30 (0, 0))) := ⟨by have := blk_new (w.alloc (.cells #[.slice A l.length c, .int .i64 key, .int .i64 cmp, .int .i64 del, .int .i64 so] 24)) (.cells #[.slice A0 q.fil.length c0, .slice A1 q.cols.length c1, .slice A2 q.grp.length c2, .slice A3 q.aggs.length c3, .slice A4 q.sort.length c4, .int .i64 q.lim] 30); simpa using this⟩
  go_enter Tryd.func13, Tryd.ntmps13
  go_wp2_with fail
  refine (refMay_any _ _ _ _ _ _ _ _ (Kd.C_below HS.out.1 (by repeat (first | exact HB.out | apply below_alloc | apply below_drew | apply pw_below_drewN))) HS.out.2.1 HS.out.2.2).mono ?_
  rintro e w1 ⟨rfl, hb⟩
  have HX2 := Aside0.mk (blk_below (g := w.heap.size) (by repeat (first | exact HK2.out | apply blk_alloc | apply blk_drew | apply blk_drewN)) hb); have HX3 := Aside0.mk (blk_below (g := w.heap.size + 1) (by repeat (first | exact HK3.out | apply blk_alloc | apply blk_drew | apply blk_drewN)) hb); clear HK2 HK3; have HK2 := HX2; have HK3 := HX3; clear HX2 HX3
  have HB1 := Aside0.mk (below_step (by repeat (first | exact HB.out | apply below_alloc | apply below_drew | apply pw_below_drewN)) hb); clear hb HB; have HB := HB1; clear HB1
  (try clear k0 k1 k2 k3 k4 j0 j1 j2 j3 j4 j5); obtain ⟨k0, k1, k2, k3, k4⟩ := cells5 HK2.out; obtain ⟨j0, j1, j2, j3, j4, j5⟩ := cells6 HK3.out
  cases hmay : mayB l key cmp del so
  · have H1 := Aside0.mk hmay; clear hmay
    have hE : checkE l key cmp del so q = 1 := by unfold checkE; rw [if_pos H1.out]
    have HE := Aside0.mk hE; clear hE
    go_wp2
    go_ret
    exact ⟨by rw [HE.out]; rfl, (by repeat (first | exact HB.out | apply below_alloc | apply below_drew | apply pw_below_drewN))⟩
  · have H1 := Aside0.mk hmay; clear hmay
    rcases long_case q with hlong | ⟨hlong, b0, b1, b2, b3, b4, b5, b6⟩
    · have hE : checkE l key cmp del so q = 2 := by unfold checkE; rw [if_neg (by rw [H1.out]; simp), if_pos hlong]
      have HE := Aside0.mk hE; clear hE
      unfold longB at hlong
      rcases (show 32 < q.fil.length ∨ (q.fil.length ≤ 32 ∧ 8 < q.cols.length) ∨ (q.fil.length ≤ 32 ∧ q.cols.length ≤ 8 ∧ 4 < q.grp.length) ∨ (q.fil.length ≤ 32 ∧ q.cols.length ≤ 8 ∧ q.grp.length ≤ 4 ∧ 4 < q.aggs.length) ∨ (q.fil.length ≤ 32 ∧ q.cols.length ≤ 8 ∧ q.grp.length ≤ 4 ∧ q.aggs.length ≤ 4 ∧ 4 < q.sort.length) ∨ (q.fil.length ≤ 32 ∧ q.cols.length ≤ 8 ∧ q.grp.length ≤ 4 ∧ q.aggs.length ≤ 4 ∧ q.sort.length ≤ 4 ∧ q.lim < 0) ∨ (q.fil.length ≤ 32 ∧ q.cols.length ≤ 8 ∧ q.grp.length ≤ 4 ∧ q.aggs.length ≤ 4 ∧ q.sort.length ≤ 4 ∧ 0 ≤ q.lim ∧ 4096 < q.lim) from by
        simp only [Bool.or_eq_true, decide_eq_true_eq] at hlong
        omega) with h0 | ⟨h0, h1⟩ | ⟨h0, h1, h2⟩ | ⟨h0, h1, h2, h3⟩ | ⟨h0, h1, h2, h3, h4⟩ | ⟨h0, h1, h2, h3, h4, h5⟩ | ⟨h0, h1, h2, h3, h4, h5, h6⟩
      all_goals
        clear hlong
        go_wp2
        go_ret
        exact ⟨by rw [HE.out]; rfl, (by repeat (first | exact HB.out | apply below_alloc | apply below_drew | apply pw_below_drewN))⟩
    · have H2 := Aside0.mk hlong; clear hlong
      have K52 := HK2
      have K53 := HK3
      go_wp2
      go_loopg [6] q.fil.length (fun kq v w' => ∃ i : Nat, v = .int .i64 i ∧ Aside0 (i + kq = q.fil.length) ∧ Aside0 (∀ j, j < i → nodeE l (rdNode q.fil j) j = 0) ∧ Aside0 (w'.heap[w.heap.size]? = w1.heap[w.heap.size]?) ∧ Aside0 (w'.heap[w.heap.size + 1]? = w1.heap[w.heap.size + 1]?) ∧ Aside0 (Below w.heap.size w w'))
      case atStart => exact ⟨0, rfl, ⟨by omega⟩, ⟨fun j hj => absurd hj (by omega)⟩, ⟨rfl⟩, ⟨rfl⟩, HB⟩
      case round =>
        obtain ⟨i, rfl, HI, HN, HT2, HT3, HB'⟩ := hrel
        clear HK2 HK3 HB
        have HK2 := Aside0.mk (HT2.out.trans K52.out)
        have HK3 := Aside0.mk (HT3.out.trans K53.out)
        have HB := HB'
        clear HB' HT2 HT3
        (try clear k0 k1 k2 k3 k4 j0 j1 j2 j3 j4 j5); obtain ⟨k0, k1, k2, k3, k4⟩ := cells5 HK2.out; obtain ⟨j0, j1, j2, j3, j4, j5⟩ := cells6 HK3.out
        have hi := HI.out
        have hz2 := blk_lt HK2.out
        have hz3 := blk_lt HK3.out
        by_cases hlt : i < q.fil.length
        · obtain ⟨ad, hA, d0, d1, d2, d3, d4, d5, d6, d7⟩ := atNode (HQ.out.below HB.out).1.1 i hlt
          dsimp only at hA
          subst hA
          have hbl := World.block_lt_of_cell? wr _ d1
          have HNE : Aside0 (∀ r, nodeE l (rdNode q.fil i) i = r → nodeE l (rdNode q.fil i) i = r) := ⟨fun _ h => h⟩
          have hfin : Aside0 (nodeE l (rdNode q.fil i) i ≠ 0 → checkE l key cmp del so q = nodeE l (rdNode q.fil i) i) := ⟨fun h => by
            have hFE : filterE l q.fil = nodeE l (rdNode q.fil i) i := firstNZ_at (fun i => nodeE l (rdNode q.fil i) i) _ i hlt h HN.out
            unfold checkE; rw [if_neg (by rw [H1.out]; simp), if_neg (by rw [H2.out]; simp), if_pos (by rw [hFE]; exact h), hFE]⟩
          have HCn : Aside0 (∀ W, Below w.heap.size w W → Calls Tryd.prog 33 #[.agg #[.slice A l.length c, .int .i64 key, .int .i64 cmp, .int .i64 del, .int .i64 so], (rdNode q.fil i).v, .int .i64 i] W fun e w' => e = .returned (.int .i64 (nodeE l (rdNode q.fil i) i)) ∧ Below W.heap.size W w') := ⟨fun W h => refNode_any A c l key cmp del so (rdNode q.fil i) i W (Kd.C_below HS.out.1 h) HS.out.2.1⟩
          generalize hne : nodeE l (rdNode q.fil i) i = ne at HCn hfin
          have HN1 := Aside0.mk hne
          clear hne HNE
          by_cases hz : ne = 0
          · subst hz
            go_wp2
            go_region_held3 (fun w' => Below wr.heap.size wr w' ∧ (∀ a : Addr, a.block < wr.heap.size → w'.cell? a = wr.cell? a)) (first | exact keepT0 _ | (refine keepT ?_ (by assumption); first | assumption | (refine And.left (b := ?_) ?_; rotate_left; assumption))) ((go_at_call 33; refine (HCn.out _ (below_then HB.out HB.out.size (by refine And.left (b := ?_) ?_; rotate_left; assumption))).mono ?_; rintro e wC ⟨rfl, hb⟩))
            have hS : Below wr.heap.size wr wC ∧ (∀ a : Addr, a.block < wr.heap.size → wC.cell? a = wr.cell? a) := by assumption
            have HT2 := Aside0.mk ((blk_below HK2.out hS.1).trans K52.out.symm)
            have HT3 := Aside0.mk ((blk_below HK3.out hS.1).trans K53.out.symm)
            have HB1 := Aside0.mk (below_then HB.out HB.out.size hS.1)
            go_wp2
            go_roundg (gk - 1)
            case measure => omega
            case rel => exact ⟨i + 1, by go_num, ⟨by omega⟩, ⟨forall_snoc HN.out HN1.out⟩, HT2, HT3, HB1⟩
          · have hz' : (ne != 0) = true := by simpa using hz
            go_wp2
            go_region_held3 (fun w' => Below wr.heap.size wr w' ∧ (∀ a : Addr, a.block < wr.heap.size → w'.cell? a = wr.cell? a)) (first | exact keepT0 _ | (refine keepT ?_ (by assumption); first | assumption | (refine And.left (b := ?_) ?_; rotate_left; assumption))) ((go_at_call 33; refine (HCn.out _ (below_then HB.out HB.out.size (by refine And.left (b := ?_) ?_; rotate_left; assumption))).mono ?_; rintro e wC ⟨rfl, hb⟩))
            have hS : Below wr.heap.size wr wC ∧ (∀ a : Addr, a.block < wr.heap.size → wC.cell? a = wr.cell? a) := by assumption
            have HT2 := Aside0.mk ((blk_below HK2.out hS.1).trans K52.out.symm)
            have HT3 := Aside0.mk ((blk_below HK3.out hS.1).trans K53.out.symm)
            have HB1 := Aside0.mk (below_then HB.out HB.out.size hS.1)
            go_wp2
            go_ret
            exact ⟨by rw [hfin.out hz]; rfl, HB1.out⟩
        · have HF : Aside0 (filterE l q.fil = 0) := ⟨firstNZ_all (fun i => nodeE l (rdNode q.fil i) i) _ (fun j hj => HN.out j (by omega))⟩
          have HR1 := Aside0.mk (HQ.out.below HB.out).2.1.1
          have HR2 := Aside0.mk (HQ.out.below HB.out).2.2.1.1
          go_wp2
          go_region_held3 (fun w' => Below wr.heap.size wr w' ∧ (∀ a : Addr, a.block < wr.heap.size → w'.cell? a = wr.cell? a)) (first | exact keepT0 _ | exact keepT1 HBk.out | exact keepT1 (below_drew HBk.out)) (first | (refine appRowI_step (w0 := wr) (base := wr.heap.size) (by rfl) (.const (.slice none 0 0)) (.tmp 75) rfl _ [] q.cols A1 c1 rfl rfl (Kd.R_nil _ _ _ _ _) (Kd.C_below HR1.out (by refine And.left (b := ?_) ?_; rotate_left; assumption)) (by refine And.left (b := ?_) ?_; rotate_left; assumption) (below_size (by refine And.left (b := ?_) ?_; rotate_left; assumption)) (by simp; omega) ?_; intro v1 w2 ho hb; have HOk := Aside0.mk ho; have HBk := Aside0.mk hb; clear ho hb) | (refine appRowI_step (w0 := wr) (base := wr.heap.size) (by rfl) (.tmp 76) (.tmp 78) rfl _ _ q.grp A2 c2 rfl rfl (by first | exact HOk.out | exact Kd.R_drew HOk.out) (Kd.C_below HR2.out (by refine And.left (b := ?_) ?_; rotate_left; assumption)) (by refine And.left (b := ?_) ?_; rotate_left; assumption) (below_size (by refine And.left (b := ?_) ?_; rotate_left; assumption)) (by simp; omega) ?_; intro v2 w2 ho hb; have HOk := Aside0.mk ho; have HBk := Aside0.mk hb; clear ho hb))
          have hE1 : Below wr.heap.size wr w2 := HBk.out
          have HT2 := Aside0.mk ((blk_below HK2.out HBk.out).trans K52.out.symm)
          have HT3 := Aside0.mk ((blk_below HK3.out HBk.out).trans K53.out.symm)
          have HB1 := Aside0.mk (below_then HB.out HB.out.size HBk.out)
          obtain ⟨Ar, cr, rfl, hlr, hcr⟩ := Kd.R_reads HOk.out
          rw [List.nil_append] at hcr hlr ⊢
          have hkl : (q.cols ++ q.grp).length ≤ 12 := by rw [List.length_append]; omega
          clear HOk HBk HR1 HR2 HB
          have HB := HB1
          generalize hks : q.cols ++ q.grp = ks at hlr hcr hkl ⊢
          have HKS := Aside0.mk hks
          clear hks hE1 HB1
          have HR := Aside0.mk hcr
          clear hcr
          go_wp2
          go_loopg [9] ks.length (fun kq v w' => ∃ i : Nat, v = .int .i64 i ∧ Aside0 (i + kq = ks.length) ∧ Aside0 (∀ j, j < i → hasB l (rdI ks j) = true) ∧ Aside0 (Below w2.heap.size w2 w') ∧ Aside0 (w'.heap[w.heap.size]? = w1.heap[w.heap.size]?) ∧ Aside0 (w'.heap[w.heap.size + 1]? = w1.heap[w.heap.size + 1]?) ∧ Aside0 (Below w.heap.size w w'))
          case atStart => exact ⟨0, rfl, ⟨by omega⟩, ⟨fun j hj => absurd hj (by omega)⟩, ⟨Below.refl _ _⟩, HT2, HT3, HB⟩
          case round =>
            obtain ⟨i, rfl, HI', HN', HW, HU2, HU3, HB'⟩ := hrel
            clear HK2 HK3 HB HT2 HT3 hi HI hlt hz2 hz3
            have HK2 := Aside0.mk (HU2.out.trans K52.out)
            have HK3 := Aside0.mk (HU3.out.trans K53.out)
            have HB := HB'
            clear HB' HU2 HU3
            (try clear k0 k1 k2 k3 k4 j0 j1 j2 j3 j4 j5); obtain ⟨k0, k1, k2, k3, k4⟩ := cells5 HK2.out; obtain ⟨j0, j1, j2, j3, j4, j5⟩ := cells6 HK3.out
            have hz2 := blk_lt HK2.out
            have hz3 := blk_lt HK3.out
            have hi := HI'.out
            by_cases hlt : i < ks.length
            · obtain ⟨ad, hA, d0⟩ := atI (Kd.C_below HR.out HW.out) i hlt
              subst hA
              have hbl := World.block_lt_of_cell? wr _ d0
              cases hh : hasB l (rdI ks i)
              · have HE : Aside0 (checkE l key cmp del so q = 3) := ⟨by
                  have hany : ((q.cols ++ q.grp).any fun k => !hasB l k) = true := by
                    rw [HKS.out, List.any_eq_true]
                    exact ⟨rdI ks i, by rw [rdI, getD_at _ _ _ hlt]; exact List.getElem_mem _, by rw [hh]; rfl⟩
                  unfold checkE; rw [if_neg (by rw [H1.out]; simp), if_neg (by rw [H2.out]; simp), if_neg (by rw [HF.out]; simp), if_pos hany]⟩
                have HH := Aside0.mk hh
                clear hh
                go_wp2
                go_region_held3 (fun w' => Below wr.heap.size wr w' ∧ (∀ a : Addr, a.block < wr.heap.size → w'.cell? a = wr.cell? a)) (first | exact keepT0 _ | (refine keepT ?_ (by assumption); first | assumption | (refine And.left (b := ?_) ?_; rotate_left; assumption))) ((go_at_call 34; refine (refHas_any _ _ _ _ _ _ _ _ _).mono ?_; rintro e wC ⟨rfl, hb⟩))
                have hS : Below wr.heap.size wr wC ∧ (∀ a : Addr, a.block < wr.heap.size → wC.cell? a = wr.cell? a) := by assumption
                have HT2 := Aside0.mk ((blk_below HK2.out hS.1).trans K52.out.symm)
                have HT3 := Aside0.mk ((blk_below HK3.out hS.1).trans K53.out.symm)
                have HB1 := Aside0.mk (below_then HB.out HB.out.size hS.1)
                rw [HH.out]
                go_wp2
                go_ret
                exact ⟨by rw [HE.out]; rfl, HB1.out⟩
              · have HH := Aside0.mk hh
                clear hh
                go_wp2
                go_region_held3 (fun w' => Below wr.heap.size wr w' ∧ (∀ a : Addr, a.block < wr.heap.size → w'.cell? a = wr.cell? a)) (first | exact keepT0 _ | (refine keepT ?_ (by assumption); first | assumption | (refine And.left (b := ?_) ?_; rotate_left; assumption))) ((go_at_call 34; refine (refHas_any _ _ _ _ _ _ _ _ _).mono ?_; rintro e wC ⟨rfl, hb⟩))
                have hS : Below wr.heap.size wr wC ∧ (∀ a : Addr, a.block < wr.heap.size → wC.cell? a = wr.cell? a) := by assumption
                have HT2 := Aside0.mk ((blk_below HK2.out hS.1).trans K52.out.symm)
                have HT3 := Aside0.mk ((blk_below HK3.out hS.1).trans K53.out.symm)
                have HB1 := Aside0.mk (below_then HB.out HB.out.size hS.1)
                have HW1 := Aside0.mk (below_then HW.out HW.out.size hS.1)
                rw [HH.out]
                go_wp2
                go_roundg (gk - 1)
                case measure => omega
                case rel => exact ⟨i + 1, by go_num, ⟨by omega⟩, ⟨forall_snoc HN'.out HH.out⟩, HW1, HT2, HT3, HB1⟩
            · have HAN : Aside0 (((q.cols ++ q.grp).any fun k => !hasB l k) = false) := ⟨by
                rw [HKS.out, List.any_eq_false]
                intro x hx
                obtain ⟨j, hj, rfl⟩ := List.getElem_of_mem hx
                have := HN'.out j (by omega)
                rw [rdI, getD_at _ _ _ hj] at this
                simp [this]⟩
              have HTA := Aside0.mk (HK2.out.trans K52.out.symm)
              have HTB := Aside0.mk (HK3.out.trans K53.out.symm)
              go_wp2
              go_loopg [10] q.aggs.length (fun kq v w' => ∃ i : Nat, v = .int .i64 i ∧ Aside0 (i + kq = q.aggs.length) ∧ Aside0 (∀ j, j < i → aggE l (rdAgg q.aggs j) = 0) ∧ Aside0 (w'.heap[w.heap.size]? = w1.heap[w.heap.size]?) ∧ Aside0 (w'.heap[w.heap.size + 1]? = w1.heap[w.heap.size + 1]?) ∧ Aside0 (Below w.heap.size w w'))
              case atStart => exact ⟨0, rfl, ⟨by omega⟩, ⟨fun j hj => absurd hj (by omega)⟩, HTA, HTB, HB⟩
              case round =>
                clear HI' HN' HW HTA HTB
                obtain ⟨i, rfl, HI', HN', HU2, HU3, HB'⟩ := hrel
                clear HK2 HK3 HB hi hlt hz2 hz3
                have HK2 := Aside0.mk (HU2.out.trans K52.out)
                have HK3 := Aside0.mk (HU3.out.trans K53.out)
                have HB := HB'
                clear HB' HU2 HU3
                (try clear k0 k1 k2 k3 k4 j0 j1 j2 j3 j4 j5); obtain ⟨k0, k1, k2, k3, k4⟩ := cells5 HK2.out; obtain ⟨j0, j1, j2, j3, j4, j5⟩ := cells6 HK3.out
                have hz2 := blk_lt HK2.out
                have hz3 := blk_lt HK3.out
                have hi := HI'.out
                by_cases hlt : i < q.aggs.length
                · obtain ⟨ad, hA, d0, d1⟩ := atAgg (HQ.out.below HB.out).2.2.2.1.1 i hlt
                  dsimp only at hA
                  subst hA
                  have hbl := World.block_lt_of_cell? wr _ d1
                  have HCn : Aside0 (∀ W, Below w.heap.size w W → Calls Tryd.prog 35 #[.agg #[.slice A l.length c, .int .i64 key, .int .i64 cmp, .int .i64 del, .int .i64 so], (rdAgg q.aggs i).v] W fun e w' => e = .returned (.int .i64 (aggE l (rdAgg q.aggs i))) ∧ Below W.heap.size W w') := ⟨fun W h => refAgg_any A c l key cmp del so (rdAgg q.aggs i) W (Kd.C_below HS.out.1 h) HS.out.2.1⟩
                  have hfin : Aside0 (aggE l (rdAgg q.aggs i) ≠ 0 → checkE l key cmp del so q = aggE l (rdAgg q.aggs i)) := ⟨fun h => by
                    have hAE : aggsE l q.aggs = aggE l (rdAgg q.aggs i) := firstNZ_at _ _ i hlt h HN'.out
                    unfold checkE; rw [if_neg (by rw [H1.out]; simp), if_neg (by rw [H2.out]; simp), if_neg (by rw [HF.out]; simp), if_neg (by rw [HAN.out]; simp), if_pos (by rw [hAE]; exact h), hAE]⟩
                  generalize hne : aggE l (rdAgg q.aggs i) = ne at HCn hfin
                  have HN1 := Aside0.mk hne
                  clear hne
                  by_cases hz : ne = 0
                  · subst hz
                    go_wp2
                    go_region_held3 (fun w' => Below wr.heap.size wr w' ∧ (∀ a : Addr, a.block < wr.heap.size → w'.cell? a = wr.cell? a)) (first | exact keepT0 _ | (refine keepT ?_ (by assumption); first | assumption | (refine And.left (b := ?_) ?_; rotate_left; assumption))) ((go_at_call 35; refine (HCn.out _ (below_then HB.out HB.out.size (by refine And.left (b := ?_) ?_; rotate_left; assumption))).mono ?_; rintro e wC ⟨rfl, hb⟩))
                    have hS : Below wr.heap.size wr wC ∧ (∀ a : Addr, a.block < wr.heap.size → wC.cell? a = wr.cell? a) := by assumption
                    have HT2 := Aside0.mk ((blk_below HK2.out hS.1).trans K52.out.symm)
                    have HT3 := Aside0.mk ((blk_below HK3.out hS.1).trans K53.out.symm)
                    have HB1 := Aside0.mk (below_then HB.out HB.out.size hS.1)
                    go_wp2
                    go_roundg (gk - 1)
                    case measure => omega
                    case rel => exact ⟨i + 1, by go_num, ⟨by omega⟩, ⟨forall_snoc HN'.out HN1.out⟩, HT2, HT3, HB1⟩
                  · have hz' : (ne != 0) = true := by simpa using hz
                    go_wp2
                    go_region_held3 (fun w' => Below wr.heap.size wr w' ∧ (∀ a : Addr, a.block < wr.heap.size → w'.cell? a = wr.cell? a)) (first | exact keepT0 _ | (refine keepT ?_ (by assumption); first | assumption | (refine And.left (b := ?_) ?_; rotate_left; assumption))) ((go_at_call 35; refine (HCn.out _ (below_then HB.out HB.out.size (by refine And.left (b := ?_) ?_; rotate_left; assumption))).mono ?_; rintro e wC ⟨rfl, hb⟩))
                    have hS : Below wr.heap.size wr wC ∧ (∀ a : Addr, a.block < wr.heap.size → wC.cell? a = wr.cell? a) := by assumption
                    have HT2 := Aside0.mk ((blk_below HK2.out hS.1).trans K52.out.symm)
                    have HT3 := Aside0.mk ((blk_below HK3.out hS.1).trans K53.out.symm)
                    have HB1 := Aside0.mk (below_then HB.out HB.out.size hS.1)
                    go_wp2
                    go_ret
                    exact ⟨by rw [hfin.out hz]; rfl, HB1.out⟩
                · have hAE : Aside0 (¬ aggsE l q.aggs ≠ 0) := ⟨by intro h; exact h (firstNZ_all _ _ (fun j hj => HN'.out j (by omega)))⟩
                  have HG : Aside0 (checkE l key cmp del so q = if decide (0 < q.grp.length + q.aggs.length) = decide (0 < q.cols.length) then 5 else if q.sort.any (outOf q) = true then 3 else 0) := ⟨by unfold checkE; rw [if_neg (by rw [H1.out]; simp), if_neg (by rw [H2.out]; simp), if_neg (by rw [HF.out]; simp), if_neg (by rw [HAN.out]; simp), if_neg hAE.out]⟩
                  have HTA := Aside0.mk (HK2.out.trans K52.out.symm)
                  have HTB := Aside0.mk (HK3.out.trans K53.out.symm)
                  rcases (show (q.cols.length = 0 ∧ q.grp.length + q.aggs.length = 0) ∨ (0 < q.cols.length ∧ 0 < q.grp.length + q.aggs.length) ∨ (q.cols.length = 0 ∧ 0 < q.grp.length + q.aggs.length) ∨ (0 < q.cols.length ∧ q.grp.length + q.aggs.length = 0) from by omega) with ⟨g1, g2⟩ | ⟨g1, g2⟩ | ⟨g1, g2⟩ | ⟨g1, g2⟩
                  · have g3 : decide (0 < (q.cols.length : Int)) = false := decide_eq_false (by omega)
                    have n1 : ¬ 0 < q.cols.length := by omega
                    have g4 : ((q.cols.length : Int) == 0) = true := beq_iff_eq.2 (by omega)
                    have g5 : ((q.grp.length : Int) + q.aggs.length == 0) = true := beq_iff_eq.2 (by omega)
                    have hE := Aside0.mk (HG.out.trans (if_pos (by rw [g1, g2])))
                    clear HG g1 g2
                    go_wp2
                    go_ret
                    exact ⟨by rw [hE.out]; rfl, HB.out⟩
                  · have g3 : decide (0 < (q.cols.length : Int)) = true := decide_eq_true (by omega)
                    have n1 : 0 < q.cols.length := by omega
                    have n2 : ¬ q.cols = [] := by intro h; rw [h] at n1; exact absurd n1 (by simp)
                    have g5 : decide (0 < (q.grp.length : Int) + q.aggs.length) = true := decide_eq_true (by omega)
                    have hE := Aside0.mk (HG.out.trans (if_pos (by rw [decide_eq_true g1, decide_eq_true g2])))
                    clear HG g1 g2
                    go_wp2
                    go_ret
                    exact ⟨by rw [hE.out]; rfl, HB.out⟩
                  · have g3 : decide (0 < (q.cols.length : Int)) = false := decide_eq_false (by omega)
                    have n1 : ¬ 0 < q.cols.length := by omega
                    have g4 : ((q.cols.length : Int) == 0) = true := beq_iff_eq.2 (by omega)
                    have g5 : ((q.grp.length : Int) + q.aggs.length == 0) = false := beq_eq_false_iff_ne.2 (by omega)
                    have hE := Aside0.mk (HG.out.trans (if_neg (by rw [g1, decide_eq_true g2]; decide)))
                    clear HG g1 g2
                    go_wp2
                    go_loopg [13] q.sort.length (fun kq v w' => ∃ i : Nat, v = .int .i64 i ∧ Aside0 (i + kq = q.sort.length) ∧ Aside0 (∀ j, j < i → outOf q (rdBy q.sort j) = false) ∧ Aside0 (w'.heap[w.heap.size]? = w1.heap[w.heap.size]?) ∧ Aside0 (w'.heap[w.heap.size + 1]? = w1.heap[w.heap.size + 1]?) ∧ Aside0 (Below w.heap.size w w'))
                    case atStart => exact ⟨0, rfl, ⟨by omega⟩, ⟨fun j hj => absurd hj (by omega)⟩, HTA, HTB, HB⟩
                    case round =>
                      clear HI' HN' HTA HTB
                      obtain ⟨i, rfl, HI', HN', HU2, HU3, HB'⟩ := hrel
                      clear HK2 HK3 HB hi hlt hz2 hz3
                      have HK2 := Aside0.mk (HU2.out.trans K52.out)
                      have HK3 := Aside0.mk (HU3.out.trans K53.out)
                      have HB := HB'
                      clear HB' HU2 HU3
                      (try clear k0 k1 k2 k3 k4 j0 j1 j2 j3 j4 j5); obtain ⟨k0, k1, k2, k3, k4⟩ := cells5 HK2.out; obtain ⟨j0, j1, j2, j3, j4, j5⟩ := cells6 HK3.out
                      have hz2 := blk_lt HK2.out
                      have hz3 := blk_lt HK3.out
                      have hi := HI'.out
                      by_cases hlt : i < q.sort.length
                      · obtain ⟨ad, hA, d0, d1⟩ := atBy (HQ.out.below HB.out).2.2.2.2.1 i hlt
                        dsimp only at hA
                        subst hA
                        have hO : outOf q (rdBy q.sort i) = (decide ((rdBy q.sort i).out < 0) || decide (outputsI q ≤ (rdBy q.sort i).out)) := rfl
                        have hI : outputsI q = q.cols.length + q.grp.length + q.aggs.length := rfl
                        by_cases h0 : (rdBy q.sort i).out < 0
                        · have h00 : decide ((rdBy q.sort i).out < 0) = true := decide_eq_true h0
                          have hso : q.sort.any (outOf q) = true := List.any_eq_true.2 ⟨rdBy q.sort i, by rw [rdBy, getD_at _ _ _ hlt]; exact List.getElem_mem _, by rw [hO, h00]; rfl⟩
                          have HE := Aside0.mk (hE.out.trans (if_pos hso))
                          clear hso hO hI
                          go_wp2
                          go_quiet (fail)
                          go_wp2
                          go_ret
                          exact ⟨by rw [HE.out]; rfl, (by repeat (first | exact HB.out | apply below_alloc | apply below_drew | apply pw_below_drewN))⟩
                        · have h00 : decide ((rdBy q.sort i).out < 0) = false := decide_eq_false h0
                          by_cases h1 : outputsI q ≤ (rdBy q.sort i).out
                          · have h11 : decide ((q.cols.length : Int) + (q.grp.length + q.aggs.length) ≤ (rdBy q.sort i).out) = true := decide_eq_true (by omega)
                            have hso : q.sort.any (outOf q) = true := List.any_eq_true.2 ⟨rdBy q.sort i, by rw [rdBy, getD_at _ _ _ hlt]; exact List.getElem_mem _, by rw [hO, decide_eq_true h1]; simp⟩
                            have HE := Aside0.mk (hE.out.trans (if_pos hso))
                            clear hso hO hI h1
                            go_wp2
                            go_quiet (fail)
                            go_wp2
                            go_ret
                            exact ⟨by rw [HE.out]; rfl, (by repeat (first | exact HB.out | apply below_alloc | apply below_drew | apply pw_below_drewN))⟩
                          · have h11 : decide ((q.cols.length : Int) + (q.grp.length + q.aggs.length) ≤ (rdBy q.sort i).out) = false := decide_eq_false (by omega)
                            have HO := Aside0.mk (show outOf q (rdBy q.sort i) = false by rw [hO, h00, decide_eq_false h1]; rfl)
                            clear hO hI h1
                            go_wp2
                            go_quiet (fail)
                            go_wp2
                            go_roundg (gk - 1)
                            case measure => omega
                            case rel => exact ⟨i + 1, by go_num, ⟨by omega⟩, ⟨forall_snoc HN'.out HO.out⟩, ⟨HK2.out.trans K52.out.symm⟩, ⟨HK3.out.trans K53.out.symm⟩, ⟨pw_below_drewN HB.out _⟩⟩
                      · have hso : q.sort.any (outOf q) = false := by
                          rw [List.any_eq_false]
                          intro x hx
                          obtain ⟨j, hj, rfl⟩ := List.getElem_of_mem hx
                          have := HN'.out j (by omega)
                          rw [rdBy, getD_at _ _ _ hj] at this
                          simp [this]
                        have HE := Aside0.mk (hE.out.trans (if_neg (by rw [hso]; simp)))
                        clear hso
                        go_wp2
                        go_ret
                        exact ⟨by rw [HE.out]; rfl, HB.out⟩
                  · have g3 : decide (0 < (q.cols.length : Int)) = true := decide_eq_true (by omega)
                    have n1 : 0 < q.cols.length := by omega
                    have n2 : ¬ q.cols = [] := by intro h; rw [h] at n1; exact absurd n1 (by simp)
                    have g5 : decide (0 < (q.grp.length : Int) + q.aggs.length) = false := decide_eq_false (by omega)
                    have g4 : ((q.cols.length : Int) == 0) = false := beq_eq_false_iff_ne.2 (by omega)
                    have hE := Aside0.mk (HG.out.trans (if_neg (by rw [g2, decide_eq_true g1]; decide)))
                    clear HG g1 g2
                    go_wp2
                    go_loopg [13] q.sort.length (fun kq v w' => ∃ i : Nat, v = .int .i64 i ∧ Aside0 (i + kq = q.sort.length) ∧ Aside0 (∀ j, j < i → outOf q (rdBy q.sort j) = false) ∧ Aside0 (w'.heap[w.heap.size]? = w1.heap[w.heap.size]?) ∧ Aside0 (w'.heap[w.heap.size + 1]? = w1.heap[w.heap.size + 1]?) ∧ Aside0 (Below w.heap.size w w'))
                    case atStart => exact ⟨0, rfl, ⟨by omega⟩, ⟨fun j hj => absurd hj (by omega)⟩, HTA, HTB, HB⟩
                    case round =>
                      clear HI' HN' HTA HTB
                      obtain ⟨i, rfl, HI', HN', HU2, HU3, HB'⟩ := hrel
                      clear HK2 HK3 HB hi hlt hz2 hz3
                      have HK2 := Aside0.mk (HU2.out.trans K52.out)
                      have HK3 := Aside0.mk (HU3.out.trans K53.out)
                      have HB := HB'
                      clear HB' HU2 HU3
                      (try clear k0 k1 k2 k3 k4 j0 j1 j2 j3 j4 j5); obtain ⟨k0, k1, k2, k3, k4⟩ := cells5 HK2.out; obtain ⟨j0, j1, j2, j3, j4, j5⟩ := cells6 HK3.out
                      have hz2 := blk_lt HK2.out
                      have hz3 := blk_lt HK3.out
                      have hi := HI'.out
                      by_cases hlt : i < q.sort.length
                      · obtain ⟨ad, hA, d0, d1⟩ := atBy (HQ.out.below HB.out).2.2.2.2.1 i hlt
                        dsimp only at hA
                        subst hA
                        have hO : outOf q (rdBy q.sort i) = (decide ((rdBy q.sort i).out < 0) || decide (outputsI q ≤ (rdBy q.sort i).out)) := rfl
                        have hI : outputsI q = q.cols.length + q.grp.length + q.aggs.length := rfl
                        by_cases h0 : (rdBy q.sort i).out < 0
                        · have h00 : decide ((rdBy q.sort i).out < 0) = true := decide_eq_true h0
                          have hso : q.sort.any (outOf q) = true := List.any_eq_true.2 ⟨rdBy q.sort i, by rw [rdBy, getD_at _ _ _ hlt]; exact List.getElem_mem _, by rw [hO, h00]; rfl⟩
                          have HE := Aside0.mk (hE.out.trans (if_pos hso))
                          clear hso hO hI
                          go_wp2
                          go_quiet (fail)
                          go_wp2
                          go_ret
                          exact ⟨by rw [HE.out]; rfl, (by repeat (first | exact HB.out | apply below_alloc | apply below_drew | apply pw_below_drewN))⟩
                        · have h00 : decide ((rdBy q.sort i).out < 0) = false := decide_eq_false h0
                          by_cases h1 : outputsI q ≤ (rdBy q.sort i).out
                          · have h11 : decide ((q.cols.length : Int) + (q.grp.length + q.aggs.length) ≤ (rdBy q.sort i).out) = true := decide_eq_true (by omega)
                            have hso : q.sort.any (outOf q) = true := List.any_eq_true.2 ⟨rdBy q.sort i, by rw [rdBy, getD_at _ _ _ hlt]; exact List.getElem_mem _, by rw [hO, decide_eq_true h1]; simp⟩
                            have HE := Aside0.mk (hE.out.trans (if_pos hso))
                            clear hso hO hI h1
                            go_wp2
                            go_quiet (fail)
                            go_wp2
                            go_ret
                            exact ⟨by rw [HE.out]; rfl, (by repeat (first | exact HB.out | apply below_alloc | apply below_drew | apply pw_below_drewN))⟩
                          · have h11 : decide ((q.cols.length : Int) + (q.grp.length + q.aggs.length) ≤ (rdBy q.sort i).out) = false := decide_eq_false (by omega)
                            have HO := Aside0.mk (show outOf q (rdBy q.sort i) = false by rw [hO, h00, decide_eq_false h1]; rfl)
                            clear hO hI h1
                            go_wp2
                            go_quiet (fail)
                            go_wp2
                            go_roundg (gk - 1)
                            case measure => omega
                            case rel => exact ⟨i + 1, by go_num, ⟨by omega⟩, ⟨forall_snoc HN'.out HO.out⟩, ⟨HK2.out.trans K52.out.symm⟩, ⟨HK3.out.trans K53.out.symm⟩, ⟨pw_below_drewN HB.out _⟩⟩
                      · have hso : q.sort.any (outOf q) = false := by
                          rw [List.any_eq_false]
                          intro x hx
                          obtain ⟨j, hj, rfl⟩ := List.getElem_of_mem hx
                          have := HN'.out j (by omega)
                          rw [rdBy, getD_at _ _ _ hj] at this
                          simp [this]
                        have HE := Aside0.mk (hE.out.trans (if_neg (by rw [hso]; simp)))
                        clear hso
                        go_wp2
                        go_ret
                        exact ⟨by rw [HE.out]; rfl, HB.out⟩
end Go.Proofs.YtfkbodhnemokjaaDoor.W
