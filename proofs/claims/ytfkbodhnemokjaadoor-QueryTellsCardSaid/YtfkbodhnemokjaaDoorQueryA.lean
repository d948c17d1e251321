/- Package query: needs, has, long, outputs, agg, filter come to plain functions. -/
import Derived.Test.YtfkbodhnemokjaaDoorSchema
import Derived.Test.YtfkbodhnemokjaaDoorValue
namespace Go.Proofs.YtfkbodhnemokjaaDoor.W
open Go.RowKit Go.Proofs.YtfkbodhnemokjaaDoorW.PrintWords
set_option linter.unusedVariables false
set_option linter.unusedSimpArgs false

/-! ### plain -/
def needsI (ask : Int) : Int := if ask = 0 then 0 else if 1 ≤ ask ∧ ask ≤ 6 then 1 else if ask = 7 then 2 else if ask = 8 then 3 else if ask = 9 then 3 else if ask = 10 then 4 else 5
def hasB (l : List Col) (k : Int) : Bool := decide (0 ≤ k) && decide (k < l.length)
/-- The lists of a query, and its limit. -/
structure Qry where
  fil : List Node
  cols : List Int
  grp : List Int
  aggs : List Agg
  sort : List By
  lim : Int
structure QAt where
  A0 : Option Addr
  c0 : Nat
  A1 : Option Addr
  c1 : Nat
  A2 : Option Addr
  c2 : Nat
  A3 : Option Addr
  c3 : Nat
  A4 : Option Addr
  c4 : Nat
/-- How a query lies in memory. -/
def QC (w : World) (p : QAt) (q : Qry) : Prop :=
  (Kd.C kdNode w p.A0 q.fil.length q.fil ∧ q.fil.length ≤ p.c0) ∧ (Kd.C (Kd.int .i64) w p.A1 q.cols.length q.cols ∧ q.cols.length ≤ p.c1) ∧ (Kd.C (Kd.int .i64) w p.A2 q.grp.length q.grp ∧ q.grp.length ≤ p.c2) ∧
    (Kd.C kdAgg w p.A3 q.aggs.length q.aggs ∧ q.aggs.length ≤ p.c3) ∧ (Kd.C kdBy w p.A4 q.sort.length q.sort ∧ q.sort.length ≤ p.c4)
theorem QC.below {w w1 : World} {p : QAt} {q : Qry} (h : QC w p q) (hb : Below w.heap.size w w1) : QC w1 p q :=
  ⟨⟨Kd.C_below h.1.1 hb, h.1.2⟩, ⟨Kd.C_below h.2.1.1 hb, h.2.1.2⟩, ⟨Kd.C_below h.2.2.1.1 hb, h.2.2.1.2⟩, ⟨Kd.C_below h.2.2.2.1.1 hb, h.2.2.2.1.2⟩, ⟨Kd.C_below h.2.2.2.2.1 hb, h.2.2.2.2.2⟩⟩
theorem needsI_cases (ask : Int) : (ask = 0 ∧ needsI ask = 0) ∨ (1 ≤ ask ∧ ask ≤ 6 ∧ needsI ask = 1) ∨ (ask = 7 ∧ needsI ask = 2) ∨ (ask = 8 ∧ needsI ask = 3) ∨ (ask = 9 ∧ needsI ask = 3) ∨ (ask = 10 ∧ needsI ask = 4) ∨ ((ask < 0 ∨ 10 < ask) ∧ needsI ask = 5) := by
  unfold needsI
  split
  · simp_all
  split
  · omega
  split
  · omega
  split
  · omega
  split
  · omega
  split
  · omega
  · omega

/-! ### needs, has, long, outputs -/
set_option maxHeartbeats 1000000 in
theorem needs_any (ask : Int) (w : World) : Calls Tryd.prog 16 #[.int .i64 ask] w fun e w' => e = .returned (.int .i64 (needsI ask)) ∧ Below w.heap.size w w' := by
  rcases needsI_cases ask with ⟨h, e⟩ | ⟨h, h', e⟩ | ⟨h, e⟩ | ⟨h, e⟩ | ⟨h, e⟩ | ⟨h, e⟩ | ⟨h | h, e⟩
  all_goals
    rw [e]; clear e
    try subst h
    go_enter Tryd.func16, Tryd.ntmps16
    go_wp2
    go_ret
    exact ⟨rfl, Below.refl _ _⟩
set_option maxHeartbeats 1000000 in
theorem has_any (A : Option Addr) (c : Nat) (l : List Col) (a1 a2 a3 a4 k : Int) (w : World) :
    Calls Tryd.prog 27 #[.agg #[.slice A l.length c, .int .i64 a1, .int .i64 a2, .int .i64 a3, .int .i64 a4], .int .i64 k] w fun e w' => e = .returned (.bool (hasB l k)) ∧ Below w.heap.size w w' := by
  have hu := Tryd.underlying24
  by_cases h1 : 0 ≤ k
  · by_cases h2 : k < l.length
    all_goals
      have e : hasB l k = decide (k < l.length) := by unfold hasB; simp [h1]
      rw [e]; clear e
      go_enter Tryd.func27, Tryd.ntmps27
      go_wp2
      go_ret
      exact ⟨by first | rfl | (simp [h2]; done) | (simp [h2]; rfl), below_alloc (Below.refl _ _) _⟩
  · have e : hasB l k = false := by unfold hasB; simp [h1]
    rw [e]; clear e
    go_enter Tryd.func27, Tryd.ntmps27
    go_wp2
    go_ret
    exact ⟨rfl, below_alloc (Below.refl _ _) _⟩
def longB (q : Qry) : Bool := decide (32 < q.fil.length) || (decide (8 < q.cols.length) || (decide (4 < q.grp.length) || (decide (4 < q.aggs.length) || (decide (4 < q.sort.length) || (decide (q.lim < 0) || decide (4096 < q.lim))))))
def Qry.v (p : QAt) (q : Qry) : Value := .agg #[.slice p.A0 q.fil.length p.c0, .slice p.A1 q.cols.length p.c1, .slice p.A2 q.grp.length p.c2, .slice p.A3 q.aggs.length p.c3, .slice p.A4 q.sort.length p.c4, .int .i64 q.lim]
theorem long_case (q : Qry) : longB q = true ∨ (longB q = false ∧ q.fil.length ≤ 32 ∧ q.cols.length ≤ 8 ∧ q.grp.length ≤ 4 ∧ q.aggs.length ≤ 4 ∧ q.sort.length ≤ 4 ∧ 0 ≤ q.lim ∧ q.lim ≤ 4096) := by
  cases h : longB q
  · right
    unfold longB at h
    simp only [Bool.or_eq_false_iff, decide_eq_false_iff_not, Nat.not_lt, Int.not_lt] at h
    exact ⟨rfl, h⟩
  · left; rfl
set_option maxHeartbeats 4000000 in
set_option maxRecDepth 100000 in
theorem long_any (p : QAt) (q : Qry) (w : World) (hq : QC w p q) :
    Calls Tryd.prog 23 #[q.v p] w fun e w' => e = .returned (.bool (longB q)) ∧ Below w.heap.size w w' := by
  have hu := Tryd.underlying30
  unfold Qry.v
  have E : Aside0 (longB q = (decide (32 < q.fil.length) || (decide (8 < q.cols.length) || (decide (4 < q.grp.length) || (decide (4 < q.aggs.length) || (decide (4 < q.sort.length) || (decide (q.lim < 0) || decide (4096 < q.lim)))))))) := ⟨rfl⟩
  generalize q.fil.length = n0, q.cols.length = n1, q.grp.length = n2, q.aggs.length = n3, q.sort.length = n4, q.lim = lim at E ⊢
  clear hq
  have HB := Aside0.mk (Below.refl w.heap.size w)
  rcases (show 32 < n0 ∨ (n0 ≤ 32 ∧ 8 < n1) ∨ (n0 ≤ 32 ∧ n1 ≤ 8 ∧ 4 < n2) ∨ (n0 ≤ 32 ∧ n1 ≤ 8 ∧ n2 ≤ 4 ∧ 4 < n3) ∨ (n0 ≤ 32 ∧ n1 ≤ 8 ∧ n2 ≤ 4 ∧ n3 ≤ 4 ∧ 4 < n4) ∨ (n0 ≤ 32 ∧ n1 ≤ 8 ∧ n2 ≤ 4 ∧ n3 ≤ 4 ∧ n4 ≤ 4 ∧ lim < 0) ∨ (n0 ≤ 32 ∧ n1 ≤ 8 ∧ n2 ≤ 4 ∧ n3 ≤ 4 ∧ n4 ≤ 4 ∧ 0 ≤ lim ∧ 4096 < lim) ∨ (n0 ≤ 32 ∧ n1 ≤ 8 ∧ n2 ≤ 4 ∧ n3 ≤ 4 ∧ n4 ≤ 4 ∧ 0 ≤ lim ∧ lim ≤ 4096) from by omega) with h0 | ⟨h0, h1⟩ | ⟨h0, h1, h2⟩ | ⟨h0, h1, h2, h3⟩ | ⟨h0, h1, h2, h3, h4⟩ | ⟨h0, h1, h2, h3, h4, h5⟩ | ⟨h0, h1, h2, h3, h4, h5, h6⟩ | ⟨h0, h1, h2, h3, h4, h5, h6⟩
  all_goals
    go_enter Tryd.func23, Tryd.ntmps23
    go_wp2
    go_ret
    refine ⟨?_, (by repeat (first | exact HB.out | apply below_alloc | apply below_drew | apply pw_below_drewN))⟩
    rw [E.out]
    first | (simp [*]; done) | (simp [*]; rfl) | (rw [decide_eq_false (show ¬ 32 < n0 by omega), decide_eq_false (show ¬ 8 < n1 by omega), decide_eq_false (show ¬ 4 < n2 by omega), decide_eq_false (show ¬ 4 < n3 by omega), decide_eq_false (show ¬ 4 < n4 by omega), decide_eq_false (show ¬ lim < 0 by omega), decide_eq_false (show ¬ 4096 < lim by omega)]; first | rfl | (simp; omega))
def outputsI (q : Qry) : Int := q.cols.length + q.grp.length + q.aggs.length
set_option maxHeartbeats 1000000 in
theorem outputs_any (p : QAt) (q : Qry) (w : World) (h0 : q.cols.length ≤ 1073741824) (h1 : q.grp.length ≤ 1073741824) (h2 : q.aggs.length ≤ 1073741824) :
    Calls Tryd.prog 31 #[q.v p] w fun e w' => e = .returned (.int .i64 (outputsI q)) ∧ Below w.heap.size w w' := by
  have hu := Tryd.underlying30
  unfold Qry.v outputsI
  generalize q.fil.length = n0, q.cols.length = n1, q.grp.length = n2, q.aggs.length = n3, q.sort.length = n4, q.lim = lim at h0 h1 h2 ⊢
  have HB := Aside0.mk (Below.refl w.heap.size w)
  go_enter Tryd.func31, Tryd.ntmps31
  go_wp2
  go_ret
  exact ⟨rfl, (by repeat (first | exact HB.out | apply below_alloc | apply below_drew | apply pw_below_drewN))⟩

/-! ### agg -/
def aggE (l : List Col) (x : Agg) : Int :=
  if x.fn < 1 ∨ 6 ≤ x.fn then 1 else if x.fn = 1 ∧ x.col = -1 then 0 else if hasB l x.col = false then 3 else if x.fn = 2 ∧ (rdCol l x.col.toNat).kind ≠ 1 then 9 else 0
set_option maxHeartbeats 4000000 in
set_option maxRecDepth 100000 in
theorem agg_any (A : Option Addr) (c : Nat) (l : List Col) (a1 a2 a3 a4 : Int) (x : Agg) (w : World) (hr : Kd.C kdCol w A l.length l) (hl : l.length ≤ c) :
    Calls Tryd.prog 28 #[.agg #[.slice A l.length c, .int .i64 a1, .int .i64 a2, .int .i64 a3, .int .i64 a4], x.v] w fun e w' => e = .returned (.int .i64 (aggE l x)) ∧ Below w.heap.size w w' := by
  have hu := Tryd.underlying24
  have hu2 := Tryd.underlying45
  have hu3 := Tryd.underlying43
  have HR := Aside0.mk hr
  clear hr
  have HB := Aside0.mk (Below.refl w.heap.size w)
  obtain ⟨fn, col⟩ := x
  show Calls Tryd.prog 28 #[_, .agg #[.int .i64 fn, .int .i64 col]] w _
  have E : Aside0 (aggE l ⟨fn, col⟩ = if fn < 1 ∨ 6 ≤ fn then 1 else if fn = 1 ∧ col = -1 then 0 else if hasB l col = false then 3 else if fn = 2 ∧ (rdCol l col.toNat).kind ≠ 1 then 9 else 0) := ⟨rfl⟩
  generalize aggE l ⟨fn, col⟩ = res at E ⊢
  rcases (show fn < 1 ∨ 6 ≤ fn ∨ (1 ≤ fn ∧ fn < 6) from by omega) with h | h | ⟨h, h'⟩
  · obtain rfl : res = 1 := by rw [E.out, if_pos (by omega)]
    go_enter Tryd.func28, Tryd.ntmps28
    go_wp2
    go_ret
    exact ⟨rfl, (by repeat (first | exact HB.out | apply below_alloc | apply below_drew | apply pw_below_drewN))⟩
  · obtain rfl : res = 1 := by rw [E.out, if_pos (by omega)]
    go_enter Tryd.func28, Tryd.ntmps28
    go_wp2
    go_ret
    exact ⟨rfl, (by repeat (first | exact HB.out | apply below_alloc | apply below_drew | apply pw_below_drewN))⟩
  · have HE := Aside0.mk (E.out.trans (if_neg (by omega)))
    clear E
    by_cases h1 : fn = 1 ∧ col = -1
    · obtain rfl : res = 0 := by rw [HE.out, if_pos h1]
      obtain ⟨rfl, rfl⟩ := h1
      go_enter Tryd.func28, Tryd.ntmps28
      go_wp2
      go_ret
      exact ⟨rfl, (by repeat (first | exact HB.out | apply below_alloc | apply below_drew | apply pw_below_drewN))⟩
    · have HE2 := Aside0.mk (HE.out.trans (if_neg h1))
      clear HE
      have hor : (fn = 1 ∧ ¬ col = -1) ∨ 2 ≤ fn := by omega
      clear h1
      cases h3 : hasB l col
      · obtain rfl : res = 3 := by rw [HE2.out, if_pos h3]
        clear HE2
        rcases hor with ⟨rfl, h4⟩ | h4
        all_goals
          go_enter Tryd.func28, Tryd.ntmps28
          go_wp2_with (go_at_call 27; refine (has_any _ _ _ _ _ _ _ _ _).mono ?_; rintro e w1 ⟨rfl, hb⟩; obtain ⟨hc, hf⟩ := bcell hb; have hz : w.heap.size < w1.heap.size := (by have := hb.size; (try simp at this); omega); have hz3 : w.heap.size + 1 < w1.heap.size := (by have := hb.size; (try simp at this); omega); have HB1 := Aside0.mk (below_step (by repeat (first | exact HB.out | apply below_alloc | apply below_drew | apply pw_below_drewN)) hb); clear hb HB; have HB := HB1; clear HB1)
          go_ret
          exact ⟨rfl, (by repeat (first | exact HB.out | apply below_alloc | apply below_drew | apply pw_below_drewN))⟩
      · have HE3 := Aside0.mk (HE2.out.trans (if_neg (by rw [h3]; simp)))
        clear HE2
        have h5 : 0 ≤ col ∧ col < l.length := by unfold hasB at h3; simpa using h3
        obtain ⟨n, rfl⟩ := Int.eq_ofNat_of_zero_le h5.1
        have hn : n < l.length := by omega
        obtain ⟨ad, hA, c0, c1, c2⟩ := atCol HR.out n hn
        subst hA
        have hbl := World.block_lt_of_cell? w _ c1
        simp only [Int.toNat_natCast] at HE3
        have hkeep : ∀ W : World, Below w.heap.size w W → W.cell? ⟨(ad.add (n * 3)).block, (ad.add (n * 3)).off + 1, none⟩ = some (.int .i64 (rdCol l n).kind) := fun W h => pw_cell_below h c1
        have HKp := Aside0.mk hkeep
        clear hkeep c0 c1 c2 h5
        by_cases h6 : fn = 2
        · subst h6
          cases h7 : ((rdCol l n).kind == 1)
          · obtain rfl : res = 9 := by rw [HE3.out, if_pos ⟨rfl, by simpa using h7⟩]
            have h7' : ((rdCol l n).kind != 1) = true := by simpa using h7
            go_enter Tryd.func28, Tryd.ntmps28
            go_wp2_with (go_at_call 27; refine (has_any _ _ _ _ _ _ _ _ _).mono ?_; rintro e w1 ⟨rfl, hb⟩; obtain ⟨hc, hf⟩ := bcell hb; have hz : w.heap.size < w1.heap.size := (by have := hb.size; (try simp at this); omega); have hz3 : w.heap.size + 1 < w1.heap.size := (by have := hb.size; (try simp at this); omega); have HB1 := Aside0.mk (below_step (by repeat (first | exact HB.out | apply below_alloc | apply below_drew | apply pw_below_drewN)) hb); clear hb HB; have HB := HB1; clear HB1; have hk := HKp.out _ HB.out)
            go_ret
            exact ⟨rfl, (by repeat (first | exact HB.out | apply below_alloc | apply below_drew | apply pw_below_drewN))⟩
          · obtain rfl : res = 0 := by rw [HE3.out, if_neg (by rintro ⟨_, h⟩; exact h (by simpa using h7))]
            have h7' : ((rdCol l n).kind != 1) = false := by simpa using h7
            go_enter Tryd.func28, Tryd.ntmps28
            go_wp2_with (go_at_call 27; refine (has_any _ _ _ _ _ _ _ _ _).mono ?_; rintro e w1 ⟨rfl, hb⟩; obtain ⟨hc, hf⟩ := bcell hb; have hz : w.heap.size < w1.heap.size := (by have := hb.size; (try simp at this); omega); have hz3 : w.heap.size + 1 < w1.heap.size := (by have := hb.size; (try simp at this); omega); have HB1 := Aside0.mk (below_step (by repeat (first | exact HB.out | apply below_alloc | apply below_drew | apply pw_below_drewN)) hb); clear hb HB; have HB := HB1; clear HB1; have hk := HKp.out _ HB.out)
            go_ret
            exact ⟨rfl, (by repeat (first | exact HB.out | apply below_alloc | apply below_drew | apply pw_below_drewN))⟩
        · obtain rfl : res = 0 := by rw [HE3.out, if_neg (fun h => h6 h.1)]
          rcases hor with ⟨rfl, h4⟩ | h4
          all_goals
            go_enter Tryd.func28, Tryd.ntmps28
            go_wp2_with (go_at_call 27; refine (has_any _ _ _ _ _ _ _ _ _).mono ?_; rintro e w1 ⟨rfl, hb⟩; obtain ⟨hc, hf⟩ := bcell hb; have hz : w.heap.size < w1.heap.size := (by have := hb.size; (try simp at this); omega); have hz3 : w.heap.size + 1 < w1.heap.size := (by have := hb.size; (try simp at this); omega); have HB1 := Aside0.mk (below_step (by repeat (first | exact HB.out | apply below_alloc | apply below_drew | apply pw_below_drewN)) hb); clear hb HB; have HB := HB1; clear HB1; have hk := HKp.out _ HB.out)
            go_ret
            exact ⟨rfl, (by repeat (first | exact HB.out | apply below_alloc | apply below_drew | apply pw_below_drewN))⟩
end Go.Proofs.YtfkbodhnemokjaaDoor.W
