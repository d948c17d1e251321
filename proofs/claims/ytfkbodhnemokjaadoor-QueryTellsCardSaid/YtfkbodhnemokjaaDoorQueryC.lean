/- Package query: Check comes to a plain function. -/
import Derived.Test.YtfkbodhnemokjaaDoorQueryB
import Derived.Test.YtfkbodhnemokjaaDoorInts
namespace Go.Proofs.YtfkbodhnemokjaaDoor.W
open Go.RowKit Go.Proofs.YtfkbodhnemokjaaDoorW.PrintWords
set_option linter.unusedVariables false
set_option linter.unusedSimpArgs false

/-! ### the two tests that Check hands on -/
set_option maxHeartbeats 400000 in
theorem chk1_any (A : Option Addr) (c : Nat) (l : List Col) (a1 a2 a3 a4 k : Int) (B : Nat) (w : World) (hB : w.heap[B]? = some (.cells #[.slice A l.length c, .int .i64 a1, .int .i64 a2, .int .i64 a3, .int .i64 a4] 24 (0, 0))) :
    Calls Tryd.prog 26 #[.int .i64 k, .pointer (some ⟨B, 0, none⟩)] w fun e w' => e = .returned (.bool (!hasB l k)) ∧ Below w.heap.size w w' := by
  have hu := Tryd.underlying24
  have k0 : w.cell? ⟨B, 0, none⟩ = some (.slice A l.length c) := (blk_cell hB 0).trans rfl
  have k1 : w.cell? ⟨B, 1, none⟩ = some (.int .i64 a1) := (blk_cell hB 1).trans rfl
  have k2 : w.cell? ⟨B, 2, none⟩ = some (.int .i64 a2) := (blk_cell hB 2).trans rfl
  have k3 : w.cell? ⟨B, 3, none⟩ = some (.int .i64 a3) := (blk_cell hB 3).trans rfl
  have k4 : w.cell? ⟨B, 4, none⟩ = some (.int .i64 a4) := (blk_cell hB 4).trans rfl
  clear hB
  go_enter Tryd.func26, Tryd.ntmps26
  go_wp2_with fail
  refine (has_any _ _ _ _ _ _ _ _ _).mono ?_
  rintro e w1 ⟨rfl, hb⟩
  go_wp2
  go_ret
  exact ⟨rfl, hb⟩
def outOf (q : Qry) (x : By) : Bool := decide (x.out < 0) || decide (outputsI q ≤ x.out)
set_option maxHeartbeats 1000000 in
theorem chk2_any (p : QAt) (q : Qry) (x : By) (B : Nat) (w : World) (h0 : q.cols.length ≤ 1073741824) (h1 : q.grp.length ≤ 1073741824) (h2 : q.aggs.length ≤ 1073741824)
    (hB : w.heap[B]? = some (.cells #[.slice p.A0 q.fil.length p.c0, .slice p.A1 q.cols.length p.c1, .slice p.A2 q.grp.length p.c2, .slice p.A3 q.aggs.length p.c3, .slice p.A4 q.sort.length p.c4, .int .i64 q.lim] 30 (0, 0))) :
    Calls Tryd.prog 30 #[x.v, .pointer (some ⟨B, 0, none⟩)] w fun e w' => e = .returned (.bool (outOf q x)) ∧ Below w.heap.size w w' := by
  have hu := Tryd.underlying30
  have hu2 := Tryd.underlying63
  have hlt := blk_lt hB
  have k0 : w.cell? ⟨B, 0, none⟩ = some (.slice p.A0 q.fil.length p.c0) := (blk_cell hB 0).trans rfl
  have k1 : w.cell? ⟨B, 1, none⟩ = some (.slice p.A1 q.cols.length p.c1) := (blk_cell hB 1).trans rfl
  have k2 : w.cell? ⟨B, 2, none⟩ = some (.slice p.A2 q.grp.length p.c2) := (blk_cell hB 2).trans rfl
  have k3 : w.cell? ⟨B, 3, none⟩ = some (.slice p.A3 q.aggs.length p.c3) := (blk_cell hB 3).trans rfl
  have k4 : w.cell? ⟨B, 4, none⟩ = some (.slice p.A4 q.sort.length p.c4) := (blk_cell hB 4).trans rfl
  have k5 : w.cell? ⟨B, 5, none⟩ = some (.int .i64 q.lim) := (blk_cell hB 5).trans rfl
  have hne : ¬ B = w.heap.size := by omega
  clear hB
  have HB := Aside0.mk (Below.refl w.heap.size w)
  obtain ⟨out, desc⟩ := x
  have E : Aside0 (outOf q ⟨out, desc⟩ = (decide (out < 0) || decide (outputsI q ≤ out))) := ⟨rfl⟩
  generalize outOf q ⟨out, desc⟩ = res at E ⊢
  show Calls Tryd.prog 30 #[.agg #[.int .i64 out, .bool desc], _] w _
  go_enter Tryd.func30, Tryd.ntmps30
  go_wp2
  have g0 : (w.alloc (.cells #[.int .i64 out, .bool desc] 63)).cell? ⟨w.heap.size, 0, none⟩ = some (.int .i64 out) := by go_simp
  have hw1 : w.heap.size < (w.alloc (.cells #[.int .i64 out, .bool desc] 63)).heap.size := by simp
  have HB1 := Aside0.mk (below_alloc HB.out (.cells #[.int .i64 out, .bool desc] 63)); clear HB; have HB := HB1; clear HB1
  replace k0 := pw_cell_below HB.out k0
  replace k1 := pw_cell_below HB.out k1
  replace k2 := pw_cell_below HB.out k2
  replace k3 := pw_cell_below HB.out k3
  replace k4 := pw_cell_below HB.out k4
  replace k5 := pw_cell_below HB.out k5
  generalize w.alloc (.cells #[.int .i64 out, .bool desc] 63) = W0 at g0 hw1 HB k0 k1 k2 k3 k4 k5 ⊢
  have hB0 : B < W0.heap.size := by omega
  by_cases h3 : out < 0
  · have h3' : decide (out < 0) = true := by simpa using h3
    go_quiet (fail)
    go_wp2
    go_ret
    exact ⟨by rw [E.out]; first | (simp [h3]; done) | (simp [h3]; rfl), (by repeat (first | exact HB.out | apply below_alloc | apply below_drew | apply pw_below_drewN))⟩
  · have h3' : decide (out < 0) = false := by simpa using h3
    by_cases h4 : outputsI q ≤ out
    all_goals
      go_region_held3 (fun w' => Below W0.heap.size W0 w' ∧ (∀ b o, b < W0.heap.size → w'.cell? ⟨b, o, none⟩ = W0.cell? ⟨b, o, none⟩)) (first | exact keepS0 _ | (refine keepS ?_ (by assumption); first | assumption | (refine And.left (b := ?_) ?_; rotate_left; assumption))) ((go_at_call 31; refine (outputs_any p q _ h0 h1 h2).mono ?_; rintro e wC ⟨rfl, hb⟩))
      have hS : Below W0.heap.size W0 wC ∧ (∀ b o, b < W0.heap.size → wC.cell? ⟨b, o, none⟩ = W0.cell? ⟨b, o, none⟩) := by assumption
      have HB1 := Aside0.mk (below_step HB.out hS.1); clear HB; have HB := HB1; clear HB1
      go_wp2
      go_ret
      exact ⟨by rw [E.out]; first | (simp [h3, h4]; done) | (simp [h3, h4]; rfl) | (simp [h3, h4]; omega), HB.out⟩

/-! ### slices.IndexFunc, ContainsFunc -/
set_option maxHeartbeats 1000000 in
theorem indexI_any (A : Option Addr) (c : Nat) (l : List Col) (a1 a2 a3 a4 : Int) (B : Nat) (A' : Option Addr) (c' : Nat) (xs : List Int) (w : World) (hB : w.heap[B]? = some (.cells #[.slice A l.length c, .int .i64 a1, .int .i64 a2, .int .i64 a3, .int .i64 a4] 24 (0, 0))) (hr : Kd.C kI w A' xs.length xs) :
    Calls Tryd.prog 37 #[.slice A' xs.length c', .func (.func 26) #[] #[.pointer (some ⟨B, 0, none⟩)]] w fun e w' => e = .returned (.int .i64 (idxF (fun k => !hasB l k) xs)) ∧ Below w.heap.size w w' := by
  have HR := Aside0.mk hr
  have HX := Aside0.mk hB
  have HB := Aside0.mk (Below.refl w.heap.size w)
  have hm := hr.2.1
  clear hr hB
  go_enter Tryd.func37, Tryd.ntmps37
  go_wp2
  go_loopg [8] xs.length (fun kq v w' => ∃ i : Nat, v = .int .i64 i ∧ Aside0 (i + kq = xs.length) ∧ Aside0 (∀ j, j < i → (!hasB l (rdI xs j)) = false) ∧ Aside0 (Below w.heap.size w w'))
  case atStart => exact ⟨0, rfl, ⟨by omega⟩, ⟨fun j hj => absurd hj (by omega)⟩, HB⟩
  case round =>
    obtain ⟨i, rfl, HI, HN, HB'⟩ := hrel
    have hi := HI.out
    by_cases hlt : i < xs.length
    · obtain ⟨ad, hA, c0⟩ := atI (Kd.C_below HR.out HB'.out) i hlt
      subst hA
      cases he : (!hasB l (rdI xs i))
      all_goals
        have HE := Aside0.mk he
        clear he
        go_wp2_with fail
        refine (chk1_any A c l a1 a2 a3 a4 _ B wr (blk_below HX.out HB'.out)).mono ?_
        rintro e w1 ⟨rfl, hb⟩
        have HB2 := Aside0.mk (below_step HB'.out hb)
        clear hb
        rw [HE.out]
        go_wp2
      · go_roundg (gk - 1)
        case measure => omega
        case rel => exact ⟨i + 1, by go_num, ⟨by omega⟩, ⟨forall_snoc HN.out HE.out⟩, HB2⟩
      · go_ret
        refine ⟨?_, HB2.out⟩
        rw [idxF_at _ 0 xs i hlt HE.out HN.out]
        rfl
    · go_wp2
      go_ret
      refine ⟨?_, HB'.out⟩
      rw [idxF_none _ 0 xs (fun j hj => HN.out j (by omega))]
      rfl
set_option maxHeartbeats 1000000 in
theorem indexBy_any (p : QAt) (q : Qry) (B : Nat) (A' : Option Addr) (c' : Nat) (xs : List By) (w : World) (h0 : q.cols.length ≤ 1073741824) (h1 : q.grp.length ≤ 1073741824) (h2 : q.aggs.length ≤ 1073741824)
    (hB : w.heap[B]? = some (.cells #[.slice p.A0 q.fil.length p.c0, .slice p.A1 q.cols.length p.c1, .slice p.A2 q.grp.length p.c2, .slice p.A3 q.aggs.length p.c3, .slice p.A4 q.sort.length p.c4, .int .i64 q.lim] 30 (0, 0))) (hr : Kd.C kdBy w A' xs.length xs) :
    Calls Tryd.prog 45 #[.slice A' xs.length c', .func (.func 30) #[] #[.pointer (some ⟨B, 0, none⟩)]] w fun e w' => e = .returned (.int .i64 (idxF (outOf q) xs)) ∧ Below w.heap.size w w' := by
  have hu := Tryd.underlying63
  have HR := Aside0.mk hr
  have HX := Aside0.mk hB
  have HB := Aside0.mk (Below.refl w.heap.size w)
  have hm := hr.2.1
  clear hr hB
  go_enter Tryd.func45, Tryd.ntmps45
  go_wp2
  go_loopg [8] xs.length (fun kq v w' => ∃ i : Nat, v = .int .i64 i ∧ Aside0 (i + kq = xs.length) ∧ Aside0 (∀ j, j < i → outOf q (rdBy xs j) = false) ∧ Aside0 (Below w.heap.size w w'))
  case atStart => exact ⟨0, rfl, ⟨by omega⟩, ⟨fun j hj => absurd hj (by omega)⟩, HB⟩
  case round =>
    obtain ⟨i, rfl, HI, HN, HB'⟩ := hrel
    have hi := HI.out
    by_cases hlt : i < xs.length
    · obtain ⟨ad, hA, c0, c1⟩ := atBy (Kd.C_below HR.out HB'.out) i hlt
      subst hA
      cases he : outOf q (rdBy xs i)
      all_goals
        have HE := Aside0.mk he
        clear he
        go_wp2_with fail
        refine (chk2_any p q (rdBy xs i) B wr h0 h1 h2 (blk_below HX.out HB'.out)).mono ?_
        rintro e w1 ⟨rfl, hb⟩
        have HB2 := Aside0.mk (below_step HB'.out hb)
        clear hb
        rw [HE.out]
        go_wp2
      · go_roundg (gk - 1)
        case measure => omega
        case rel => exact ⟨i + 1, by go_num, ⟨by omega⟩, ⟨forall_snoc HN.out HE.out⟩, HB2⟩
      · go_ret
        refine ⟨?_, HB2.out⟩
        rw [idxF_at _ zBy xs i hlt HE.out HN.out]
        rfl
    · go_wp2
      go_ret
      refine ⟨?_, HB'.out⟩
      rw [idxF_none _ zBy xs (fun j hj => HN.out j (by omega))]
      rfl
theorem idxF_ge {α : Type} (p : α → Bool) (l : List α) : decide (0 ≤ idxF p l) = l.any p := by
  rw [Bool.eq_iff_iff, ← idxF_nonneg]; simp
set_option maxHeartbeats 400000 in
theorem containsI_any (A : Option Addr) (c : Nat) (l : List Col) (a1 a2 a3 a4 : Int) (B : Nat) (A' : Option Addr) (c' : Nat) (xs : List Int) (w : World) (hB : w.heap[B]? = some (.cells #[.slice A l.length c, .int .i64 a1, .int .i64 a2, .int .i64 a3, .int .i64 a4] 24 (0, 0))) (hr : Kd.C kI w A' xs.length xs) :
    Calls Tryd.prog 25 #[.slice A' xs.length c', .func (.func 26) #[] #[.pointer (some ⟨B, 0, none⟩)]] w fun e w' => e = .returned (.bool (xs.any (fun k => !hasB l k))) ∧ Below w.heap.size w w' := by
  have HI := Aside0.mk (indexI_any A c l a1 a2 a3 a4 B A' c' xs w hB hr)
  rw [← idxF_ge]
  clear hr hB
  generalize idxF (fun k => !hasB l k) xs = r at HI ⊢
  go_enter Tryd.func25, Tryd.ntmps25
  go_wp2_with fail
  refine HI.out.mono ?_
  rintro e w1 ⟨rfl, hb⟩
  go_wp2
  go_ret
  exact ⟨rfl, hb⟩
set_option maxHeartbeats 400000 in
theorem containsBy_any (p : QAt) (q : Qry) (B : Nat) (A' : Option Addr) (c' : Nat) (xs : List By) (w : World) (h0 : q.cols.length ≤ 1073741824) (h1 : q.grp.length ≤ 1073741824) (h2 : q.aggs.length ≤ 1073741824)
    (hB : w.heap[B]? = some (.cells #[.slice p.A0 q.fil.length p.c0, .slice p.A1 q.cols.length p.c1, .slice p.A2 q.grp.length p.c2, .slice p.A3 q.aggs.length p.c3, .slice p.A4 q.sort.length p.c4, .int .i64 q.lim] 30 (0, 0))) (hr : Kd.C kdBy w A' xs.length xs) :
    Calls Tryd.prog 29 #[.slice A' xs.length c', .func (.func 30) #[] #[.pointer (some ⟨B, 0, none⟩)]] w fun e w' => e = .returned (.bool (xs.any (outOf q))) ∧ Below w.heap.size w w' := by
  have HI := Aside0.mk (indexBy_any p q B A' c' xs w h0 h1 h2 hB hr)
  rw [← idxF_ge]
  clear hr hB
  generalize idxF (outOf q) xs = r at HI ⊢
  go_enter Tryd.func29, Tryd.ntmps29
  go_wp2_with fail
  refine HI.out.mono ?_
  rintro e w1 ⟨rfl, hb⟩
  go_wp2
  go_ret
  exact ⟨rfl, hb⟩
end Go.Proofs.YtfkbodhnemokjaaDoor.W
