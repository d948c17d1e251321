/- The document's answer of layer 16: has, agg. -/
import Derived.Test.YtfkbodhnemokjaaDoorRefB
namespace Go.Proofs.YtfkbodhnemokjaaDoor.W
open Go.RowKit Go.Shelf Go.Proofs.YtfkbodhnemokjaaDoorW.PrintWords
set_option linter.unusedVariables false
set_option linter.unusedSimpArgs false
set_option maxHeartbeats 1000000 in
theorem refHas_any (A : Option Addr) (c : Nat) (l : List Col) (a1 a2 a3 a4 k : Int) (w : World) :
    Calls Tryd.prog 34 #[.agg #[.slice A l.length c, .int .i64 a1, .int .i64 a2, .int .i64 a3, .int .i64 a4], .int .i64 k] w fun e w' => e = .returned (.bool (hasB l k)) ∧ Below w.heap.size w w' := by
  have hu := Tryd.underlying24
  by_cases h1 : 0 ≤ k
  · by_cases h2 : k < l.length
    all_goals
      have e : hasB l k = decide (k < l.length) := by unfold hasB; simp [h1]
      rw [e]; clear e
      go_enter Tryd.func34, Tryd.ntmps34
      go_wp2
      go_ret
      exact ⟨by first | rfl | (simp [h2]; done) | (simp [h2]; rfl), below_alloc (Below.refl _ _) _⟩
  · have e : hasB l k = false := by unfold hasB; simp [h1]
    rw [e]; clear e
    go_enter Tryd.func34, Tryd.ntmps34
    go_wp2
    go_ret
    exact ⟨rfl, below_alloc (Below.refl _ _) _⟩
set_option maxHeartbeats 4000000 in
set_option maxRecDepth 100000 in
theorem refAgg_any (A : Option Addr) (c : Nat) (l : List Col) (a1 a2 a3 a4 : Int) (x : Agg) (w : World) (hr : Kd.C kdCol w A l.length l) (hl : l.length ≤ c) :
    Calls Tryd.prog 35 #[.agg #[.slice A l.length c, .int .i64 a1, .int .i64 a2, .int .i64 a3, .int .i64 a4], x.v] w fun e w' => e = .returned (.int .i64 (aggE l x)) ∧ Below w.heap.size w w' := by
  have hu := Tryd.underlying24
  have hu2 := Tryd.underlying45
  have hu3 := Tryd.underlying43
  have HR := Aside0.mk hr
  clear hr
  have HB := Aside0.mk (Below.refl w.heap.size w)
  obtain ⟨fn, col⟩ := x
  show Calls Tryd.prog 35 #[_, .agg #[.int .i64 fn, .int .i64 col]] w _
  have E : Aside0 (aggE l ⟨fn, col⟩ = if fn < 1 ∨ 6 ≤ fn then 1 else if fn = 1 ∧ col = -1 then 0 else if hasB l col = false then 3 else if fn = 2 ∧ (rdCol l col.toNat).kind ≠ 1 then 9 else 0) := ⟨rfl⟩
  generalize aggE l ⟨fn, col⟩ = res at E ⊢
  rcases (show fn < 1 ∨ 6 ≤ fn ∨ (1 ≤ fn ∧ fn < 6) from by omega) with h | h | ⟨h, h'⟩
  · obtain rfl : res = 1 := by rw [E.out, if_pos (by omega)]
    go_enter Tryd.func35, Tryd.ntmps35
    go_wp2
    go_ret
    exact ⟨rfl, (by repeat (first | exact HB.out | apply below_alloc | apply below_drew | apply pw_below_drewN))⟩
  · obtain rfl : res = 1 := by rw [E.out, if_pos (by omega)]
    go_enter Tryd.func35, Tryd.ntmps35
    go_wp2
    go_ret
    exact ⟨rfl, (by repeat (first | exact HB.out | apply below_alloc | apply below_drew | apply pw_below_drewN))⟩
  · have HE := Aside0.mk (E.out.trans (if_neg (by omega)))
    clear E
    by_cases h1 : fn = 1 ∧ col = -1
    · obtain rfl : res = 0 := by rw [HE.out, if_pos h1]
      obtain ⟨rfl, rfl⟩ := h1
      go_enter Tryd.func35, Tryd.ntmps35
      go_wp2
      go_ret
      exact ⟨rfl, (by repeat (first | exact HB.out | apply below_alloc | apply below_drew | apply pw_below_drewN))⟩
    · have HE2 := Aside0.mk (HE.out.trans (if_neg h1))
      clear HE
      have hor : (fn = 1 ∧ ¬ col = -1) ∨ 2 ≤ fn := by omega
      clear h1
      cases h3 : hasB l col
      · obtain rfl : res = 3 := by rw [HE2.out, if_pos h3]
        clear HE2
        rcases hor with ⟨rfl, h4⟩ | h4
        all_goals
          go_enter Tryd.func35, Tryd.ntmps35
          go_wp2_with (go_at_call 34; refine (refHas_any _ _ _ _ _ _ _ _ _).mono ?_; rintro e w1 ⟨rfl, hb⟩; obtain ⟨hc, hf⟩ := bcell hb; have hz : w.heap.size < w1.heap.size := (by have := hb.size; (try simp at this); omega); have hz3 : w.heap.size + 1 < w1.heap.size := (by have := hb.size; (try simp at this); omega); have HB1 := Aside0.mk (below_step (by repeat (first | exact HB.out | apply below_alloc | apply below_drew | apply pw_below_drewN)) hb); clear hb HB; have HB := HB1; clear HB1)
          go_ret
          exact ⟨rfl, (by repeat (first | exact HB.out | apply below_alloc | apply below_drew | apply pw_below_drewN))⟩
      · have HE3 := Aside0.mk (HE2.out.trans (if_neg (by rw [h3]; simp)))
        clear HE2
        have h5 : 0 ≤ col ∧ col < l.length := by unfold hasB at h3; simpa using h3
        obtain ⟨n, rfl⟩ := Int.eq_ofNat_of_zero_le h5.1
        have hn : n < l.length := by omega
        obtain ⟨ad, hA, c0, c1, c2⟩ := atCol HR.out n hn
        subst hA
        have hbl := World.block_lt_of_cell? w _ c1
        simp only [Int.toNat_natCast] at HE3
        have hkeep : ∀ W : World, Below w.heap.size w W → W.cell? ⟨(ad.add (n * 3)).block, (ad.add (n * 3)).off + 1, none⟩ = some (.int .i64 (rdCol l n).kind) := fun W h => pw_cell_below h c1
        have HKp := Aside0.mk hkeep
        clear hkeep c0 c1 c2 h5
        by_cases h6 : fn = 2
        · subst h6
          cases h7 : ((rdCol l n).kind == 1)
          · obtain rfl : res = 9 := by rw [HE3.out, if_pos ⟨rfl, by simpa using h7⟩]
            have h7' : ((rdCol l n).kind != 1) = true := by simpa using h7
            go_enter Tryd.func35, Tryd.ntmps35
            go_wp2_with (go_at_call 34; refine (refHas_any _ _ _ _ _ _ _ _ _).mono ?_; rintro e w1 ⟨rfl, hb⟩; obtain ⟨hc, hf⟩ := bcell hb; have hz : w.heap.size < w1.heap.size := (by have := hb.size; (try simp at this); omega); have hz3 : w.heap.size + 1 < w1.heap.size := (by have := hb.size; (try simp at this); omega); have HB1 := Aside0.mk (below_step (by repeat (first | exact HB.out | apply below_alloc | apply below_drew | apply pw_below_drewN)) hb); clear hb HB; have HB := HB1; clear HB1; have hk := HKp.out _ HB.out)
            go_ret
            exact ⟨rfl, (by repeat (first | exact HB.out | apply below_alloc | apply below_drew | apply pw_below_drewN))⟩
          · obtain rfl : res = 0 := by rw [HE3.out, if_neg (by rintro ⟨_, h⟩; exact h (by simpa using h7))]
            have h7' : ((rdCol l n).kind != 1) = false := by simpa using h7
            go_enter Tryd.func35, Tryd.ntmps35
            go_wp2_with (go_at_call 34; refine (refHas_any _ _ _ _ _ _ _ _ _).mono ?_; rintro e w1 ⟨rfl, hb⟩; obtain ⟨hc, hf⟩ := bcell hb; have hz : w.heap.size < w1.heap.size := (by have := hb.size; (try simp at this); omega); have hz3 : w.heap.size + 1 < w1.heap.size := (by have := hb.size; (try simp at this); omega); have HB1 := Aside0.mk (below_step (by repeat (first | exact HB.out | apply below_alloc | apply below_drew | apply pw_below_drewN)) hb); clear hb HB; have HB := HB1; clear HB1; have hk := HKp.out _ HB.out)
            go_ret
            exact ⟨rfl, (by repeat (first | exact HB.out | apply below_alloc | apply below_drew | apply pw_below_drewN))⟩
        · obtain rfl : res = 0 := by rw [HE3.out, if_neg (fun h => h6 h.1)]
          rcases hor with ⟨rfl, h4⟩ | h4
          all_goals
            go_enter Tryd.func35, Tryd.ntmps35
            go_wp2_with (go_at_call 34; refine (refHas_any _ _ _ _ _ _ _ _ _).mono ?_; rintro e w1 ⟨rfl, hb⟩; obtain ⟨hc, hf⟩ := bcell hb; have hz : w.heap.size < w1.heap.size := (by have := hb.size; (try simp at this); omega); have hz3 : w.heap.size + 1 < w1.heap.size := (by have := hb.size; (try simp at this); omega); have HB1 := Aside0.mk (below_step (by repeat (first | exact HB.out | apply below_alloc | apply below_drew | apply pw_below_drewN)) hb); clear hb HB; have HB := HB1; clear HB1; have hk := HKp.out _ HB.out)
            go_ret
            exact ⟨rfl, (by repeat (first | exact HB.out | apply below_alloc | apply below_drew | apply pw_below_drewN))⟩
end Go.Proofs.YtfkbodhnemokjaaDoor.W
