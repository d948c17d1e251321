/- The document's answer of layer 16: Few. Equality of lists of numbers. -/
import Derived.Test.YtfkbodhnemokjaaDoorRefF
namespace Go.Proofs.YtfkbodhnemokjaaDoor.W
open Go.RowKit Go.Shelf Go.Proofs.YtfkbodhnemokjaaDoorW.PrintWords
set_option linter.unusedVariables false
set_option linter.unusedSimpArgs false
theorem eqInts {xs ys : List Int} (hl : xs.length = ys.length) (h : ∀ j, j < xs.length → rdI xs j = rdI ys j) : xs = ys := by
  apply List.ext_getElem hl
  intro j h1 h2
  have := h j h1
  rwa [rdI, rdI, getD_at _ _ _ h1, getD_at _ _ _ h2] at this
set_option maxHeartbeats 4000000 in
set_option maxRecDepth 100000 in
theorem ints_any (A B : Option Addr) (c d : Nat) (xs ys : List Int) (w : World) (hx : Kd.C kI w A xs.length xs) (hy : Kd.C kI w B ys.length ys) :
    Calls Tryd.prog 7 #[.slice A xs.length c, .slice B ys.length d] w fun e w' => e = .returned (.bool (decide (xs = ys))) ∧ Below w.heap.size w w' := by
  have HX := Aside0.mk hx
  have HY := Aside0.mk hy
  have hm := hx.2.1
  clear hx hy
  by_cases hl : xs.length = ys.length
  · rw [← hl]
    have HLE := Aside0.mk hl
    rw [← hl] at HY
    clear hl
    go_enter Tryd.func7, Tryd.ntmps7
    go_wp2
    go_loopg [5] xs.length (fun kq v w' => ∃ i : Nat, v = .int .i64 i ∧ Aside0 (i + kq = xs.length) ∧ Aside0 (∀ j, j < i → rdI xs j = rdI ys j) ∧ Aside0 (∃ n, w' = w.drewN n))
    case atStart => exact ⟨0, rfl, ⟨by omega⟩, ⟨fun j hj => absurd hj (by omega)⟩, ⟨0, rfl⟩⟩
    case round =>
      obtain ⟨i, rfl, HI, HN, HW⟩ := hrel
      have hi := HI.out
      have HB : Aside0 (Below w.heap.size w wr) := ⟨by obtain ⟨n, hn⟩ := HW.out; rw [hn]; exact pw_below_drewN (Below.refl _ _) n⟩
      by_cases hlt : i < xs.length
      · obtain ⟨ad, hA, d0⟩ := atI (Kd.C_below HX.out HB.out) i hlt
        obtain ⟨ad2, hA2, e0⟩ := atI (Kd.C_below HY.out HB.out) i hlt
        subst hA
        subst hA2
        cases he : (rdI xs i != rdI ys i)
        · have HE : Aside0 (rdI xs i = rdI ys i) := ⟨by simpa using he⟩
          go_wp2
          go_quiet (fail)
          go_wp2
          go_roundg (gk - 1)
          case measure => omega
          case rel => exact ⟨i + 1, by go_num, ⟨by omega⟩, ⟨forall_snoc HN.out HE.out⟩, ⟨by obtain ⟨n, hn⟩ := HW.out; rw [hn]; exact ⟨n + nq, World.drewN_drewN _ _ _⟩⟩⟩
        · have HE : Aside0 (decide (xs = ys) = false) := ⟨decide_eq_false (by rintro rfl; simp at he)⟩
          go_wp2
          go_quiet (fail)
          go_wp2
          go_ret
          exact ⟨by rw [HE.out]; rfl, (by repeat (first | exact HB.out | apply below_alloc | apply below_drew | apply pw_below_drewN))⟩
      · have HE : Aside0 (decide (xs = ys) = true) := ⟨decide_eq_true (eqInts HLE.out (fun j hj => HN.out j (by omega)))⟩
        go_wp2
        go_ret
        exact ⟨by rw [HE.out]; rfl, (by repeat (first | exact HB.out | apply below_alloc | apply below_drew | apply pw_below_drewN))⟩
  · have HE : Aside0 (decide (xs = ys) = false) := ⟨decide_eq_false (fun h => hl (by rw [h]))⟩
    have hne : ((xs.length : Int) != ys.length) = true := by rw [bne_iff_ne]; omega
    clear hl
    go_enter Tryd.func7, Tryd.ntmps7
    go_wp2
    go_ret
    exact ⟨by rw [HE.out]; rfl, Below.refl _ _⟩
/-- What Few tells. -/
def FewR (q : Qry) (w : World) (e : Ending) (w' : World) : Prop := ∃ b, e = .returned (.bool b) ∧ (b = true → (q.fil.length ≤ 60 ∧ q.cols.length ≤ 20 ∧ q.grp.length ≤ 20 ∧ q.aggs.length ≤ 20) ∧ ∀ k, k ∈ namedL q → k < 50) ∧ Below w.heap.size w w'
theorem FewR.no {q : Qry} {w w' : World} {e : Ending} (he : e = .returned (.bool false)) (hb : Below w.heap.size w w') : FewR q w e w' := ⟨false, he, (fun h => by cases h), hb⟩
theorem FewR.yes {q : Qry} {w w' : World} {e : Ending} (he : e = .returned (.bool true)) (h : (q.fil.length ≤ 60 ∧ q.cols.length ≤ 20 ∧ q.grp.length ≤ 20 ∧ q.aggs.length ≤ 20) ∧ ∀ k, k ∈ namedL q → k < 50) (hb : Below w.heap.size w w') : FewR q w e w' := ⟨true, he, (fun _ => h), hb⟩
set_option maxHeartbeats 8000000 in
set_option maxRecDepth 100000 in
theorem fewQ_any (p : QAt) (q : Qry) (w : World) (hq : QC w p q) :
    Calls Tryd.prog 6 #[q.v p] w fun e w' => FewR q w e w' := by
  have hu2 := Tryd.underlying30
  have hu3 := Tryd.underlying43
  have hu4 := Tryd.underlying49
  have hu6 := Tryd.underlying47
  have hl0 := hq.1.1.2.1
  have hl1 := hq.2.1.1.2.1
  have hl2 := hq.2.2.1.1.2.1
  have hl3 := hq.2.2.2.1.1.2.1
  have HIF := Aside0.mk (namedL_iff q)
  obtain ⟨A0, c0, A1, c1, A2, c2, A3, c3, A4, c4⟩ := p
  unfold Qry.v
  dsimp only
  have HB : Aside0 (Below w.heap.size w (w.alloc (.cells #[.slice A0 q.fil.length c0, .slice A1 q.cols.length c1, .slice A2 q.grp.length c2, .slice A3 q.aggs.length c3, .slice A4 q.sort.length c4, .int .i64 q.lim] 30))) := ⟨below_alloc (Below.refl _ _) _⟩
  have HQ := Aside0.mk (hq.below HB.out)
  clear hq
  have HK : Aside0 ((w.alloc (.cells #[.slice A0 q.fil.length c0, .slice A1 q.cols.length c1, .slice A2 q.grp.length c2, .slice A3 q.aggs.length c3, .slice A4 q.sort.length c4, .int .i64 q.lim] 30)).heap[w.heap.size]? = some (.cells #[.slice A0 q.fil.length c0, .slice A1 q.cols.length c1, .slice A2 q.grp.length c2, .slice A3 q.aggs.length c3, .slice A4 q.sort.length c4, .int .i64 q.lim] 30 (0, 0))) := ⟨blk_new w _⟩
  by_cases hlong : 60 < q.fil.length ∨ 20 < q.cols.length ∨ 20 < q.grp.length ∨ 20 < q.aggs.length ∨ 20 < q.sort.length
  · rcases (show 60 < q.fil.length ∨ (q.fil.length ≤ 60 ∧ 20 < q.cols.length) ∨ (q.fil.length ≤ 60 ∧ q.cols.length ≤ 20 ∧ 20 < q.grp.length) ∨ (q.fil.length ≤ 60 ∧ q.cols.length ≤ 20 ∧ q.grp.length ≤ 20 ∧ 20 < q.aggs.length) ∨ (q.fil.length ≤ 60 ∧ q.cols.length ≤ 20 ∧ q.grp.length ≤ 20 ∧ q.aggs.length ≤ 20 ∧ 20 < q.sort.length) from by omega) with h0 | ⟨h0, h1⟩ | ⟨h0, h1, h2⟩ | ⟨h0, h1, h2, h3⟩ | ⟨h0, h1, h2, h3, h4⟩
    all_goals
      clear hlong
      go_enter Tryd.func6, Tryd.ntmps6
      go_wp2
      go_ret
      exact FewR.no rfl HB.out
  · have b0 : q.fil.length ≤ 60 := by omega
    have b1 : q.cols.length ≤ 20 := by omega
    have b2 : q.grp.length ≤ 20 := by omega
    have b3 : q.aggs.length ≤ 20 := by omega
    have b4 : q.sort.length ≤ 20 := by omega
    clear hlong
    go_enter Tryd.func6, Tryd.ntmps6
    go_wp2
    generalize w.alloc (.cells #[.slice A0 q.fil.length c0, .slice A1 q.cols.length c1, .slice A2 q.grp.length c2, .slice A3 q.aggs.length c3, .slice A4 q.sort.length c4, .int .i64 q.lim] 30) = W1 at HB HQ HK ⊢
    go_loopg [3] q.fil.length (fun kq v w' => ∃ i : Nat, v = .int .i64 i ∧ Aside0 (i + kq = q.fil.length) ∧ Aside0 (∀ j, j < i → (rdNode q.fil j).col < 50) ∧ Aside0 (w' = W1))
    case atStart => exact ⟨0, rfl, ⟨by omega⟩, ⟨fun j hj => absurd hj (by omega)⟩, ⟨rfl⟩⟩
    case round =>
      obtain ⟨i, rfl, HI, HN, HW⟩ := hrel
      obtain rfl := HW.out
      have hi := HI.out
      obtain ⟨j0, j1, j2, j3, j4, j5⟩ := cells6 HK.out
      by_cases hlt : i < q.fil.length
      · obtain ⟨ad, hA, d0, d1, d2, d3, d4, d5, d6, d7⟩ := atNode HQ.out.1.1 i hlt
        dsimp only at hA
        subst hA
        by_cases hs : 300 < (rdNode q.fil i).val.s.size
        · have f : decide ((300 : Int) < (rdNode q.fil i).val.s.size) = true := decide_eq_true (by omega)
          go_wp2
          go_ret
          exact FewR.no rfl HB.out
        · have f0 : decide ((300 : Int) < (rdNode q.fil i).val.s.size) = false := decide_eq_false (by omega)
          by_cases hx : (rdNode q.fil i).col < 50
          · have HXX := Aside0.mk hx
            have f : decide ((50 : Int) ≤ (rdNode q.fil i).col) = false := decide_eq_false (by omega)
            go_wp2
            go_roundg (gk - 1)
            case measure => omega
            case rel => exact ⟨i + 1, by go_num, ⟨by omega⟩, ⟨forall_snoc HN.out HXX.out⟩, ⟨rfl⟩⟩
          · have f : decide ((50 : Int) ≤ (rdNode q.fil i).col) = true := decide_eq_true (by omega)
            go_wp2
            go_ret
            exact FewR.no rfl HB.out
      · have HM1 : Aside0 (∀ j, j < q.fil.length → (rdNode q.fil j).col < 50) := ⟨fun j hj => HN.out j (by omega)⟩
        go_wp2
        go_loopg [4] q.cols.length (fun kq v w' => ∃ i : Nat, v = .int .i64 i ∧ Aside0 (i + kq = q.cols.length) ∧ Aside0 (∀ j, j < i → rdI q.cols j < 50) ∧ Aside0 (w' = wr))
        case atStart => exact ⟨0, rfl, ⟨by omega⟩, ⟨fun j hj => absurd hj (by omega)⟩, ⟨rfl⟩⟩
        case round =>
          obtain ⟨i, rfl, HI, HN, HW⟩ := hrel
          obtain rfl := HW.out
          have hi := HI.out
          obtain ⟨j0, j1, j2, j3, j4, j5⟩ := cells6 HK.out
          by_cases hlt : i < q.cols.length
          · obtain ⟨ad, hA, d0⟩ := atI HQ.out.2.1.1 i hlt
            dsimp only at hA
            subst hA
            by_cases hx : rdI q.cols i < 50
            · have HXX := Aside0.mk hx
              have f : decide ((50 : Int) ≤ rdI q.cols i) = false := decide_eq_false (by omega)
              go_wp2
              go_roundg (gk - 1)
              case measure => omega
              case rel => exact ⟨i + 1, by go_num, ⟨by omega⟩, ⟨forall_snoc HN.out HXX.out⟩, ⟨rfl⟩⟩
            · have f : decide ((50 : Int) ≤ rdI q.cols i) = true := decide_eq_true (by omega)
              go_wp2
              go_ret
              exact FewR.no rfl HB.out
          · have HM2 : Aside0 (∀ j, j < q.cols.length → rdI q.cols j < 50) := ⟨fun j hj => HN.out j (by omega)⟩
            go_wp2
            go_loopg [5] q.grp.length (fun kq v w' => ∃ i : Nat, v = .int .i64 i ∧ Aside0 (i + kq = q.grp.length) ∧ Aside0 (∀ j, j < i → rdI q.grp j < 50) ∧ Aside0 (w' = wr))
            case atStart => exact ⟨0, rfl, ⟨by omega⟩, ⟨fun j hj => absurd hj (by omega)⟩, ⟨rfl⟩⟩
            case round =>
              obtain ⟨i, rfl, HI, HN, HW⟩ := hrel
              obtain rfl := HW.out
              have hi := HI.out
              obtain ⟨j0, j1, j2, j3, j4, j5⟩ := cells6 HK.out
              by_cases hlt : i < q.grp.length
              · obtain ⟨ad, hA, d0⟩ := atI HQ.out.2.2.1.1 i hlt
                dsimp only at hA
                subst hA
                by_cases hx : rdI q.grp i < 50
                · have HXX := Aside0.mk hx
                  have f : decide ((50 : Int) ≤ rdI q.grp i) = false := decide_eq_false (by omega)
                  go_wp2
                  go_roundg (gk - 1)
                  case measure => omega
                  case rel => exact ⟨i + 1, by go_num, ⟨by omega⟩, ⟨forall_snoc HN.out HXX.out⟩, ⟨rfl⟩⟩
                · have f : decide ((50 : Int) ≤ rdI q.grp i) = true := decide_eq_true (by omega)
                  go_wp2
                  go_ret
                  exact FewR.no rfl HB.out
              · have HM3 : Aside0 (∀ j, j < q.grp.length → rdI q.grp j < 50) := ⟨fun j hj => HN.out j (by omega)⟩
                go_wp2
                go_loopg [6] q.aggs.length (fun kq v w' => ∃ i : Nat, v = .int .i64 i ∧ Aside0 (i + kq = q.aggs.length) ∧ Aside0 (∀ j, j < i → (rdAgg q.aggs j).col < 50) ∧ Aside0 (w' = wr))
                case atStart => exact ⟨0, rfl, ⟨by omega⟩, ⟨fun j hj => absurd hj (by omega)⟩, ⟨rfl⟩⟩
                case round =>
                  obtain ⟨i, rfl, HI, HN, HW⟩ := hrel
                  obtain rfl := HW.out
                  have hi := HI.out
                  obtain ⟨j0, j1, j2, j3, j4, j5⟩ := cells6 HK.out
                  by_cases hlt : i < q.aggs.length
                  · obtain ⟨ad, hA, d0, d1⟩ := atAgg HQ.out.2.2.2.1.1 i hlt
                    dsimp only at hA
                    subst hA
                    by_cases hx : (rdAgg q.aggs i).col < 50
                    · have HXX := Aside0.mk hx
                      have f : decide ((50 : Int) ≤ (rdAgg q.aggs i).col) = false := decide_eq_false (by omega)
                      go_wp2
                      go_roundg (gk - 1)
                      case measure => omega
                      case rel => exact ⟨i + 1, by go_num, ⟨by omega⟩, ⟨forall_snoc HN.out HXX.out⟩, ⟨rfl⟩⟩
                    · have f : decide ((50 : Int) ≤ (rdAgg q.aggs i).col) = true := decide_eq_true (by omega)
                      go_wp2
                      go_ret
                      exact FewR.no rfl HB.out
                  · have HM4 : Aside0 (∀ j, j < q.aggs.length → (rdAgg q.aggs j).col < 50) := ⟨fun j hj => HN.out j (by omega)⟩
                    go_wp2
                    have HE : Aside0 (∀ k, k ∈ namedL q → k < 50) := ⟨by
                      intro k hk
                      rcases (HIF.out k).1 hk with h | h | ⟨i, hi, h⟩ | ⟨i, hi, h⟩
                      · obtain ⟨j, hj, rfl⟩ := List.getElem_of_mem h
                        have := HM2.out j hj
                        rwa [rdI, getD_at _ _ _ hj] at this
                      · obtain ⟨j, hj, rfl⟩ := List.getElem_of_mem h
                        have := HM3.out j hj
                        rwa [rdI, getD_at _ _ _ hj] at this
                      · simp only [Bool.and_eq_true, beq_iff_eq] at h
                        rw [← h.2]
                        exact HM1.out i hi
                      · rw [← beq_iff_eq.1 h]
                        exact HM4.out i hi⟩
                    go_ret
                    exact FewR.yes rfl ⟨⟨b0, b1, b2, b3⟩, HE.out⟩ HB.out
end Go.Proofs.YtfkbodhnemokjaaDoor.W
