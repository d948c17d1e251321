/- The document's answer of layer 16: node. -/
import Derived.Test.YtfkbodhnemokjaaDoorRefC
namespace Go.Proofs.YtfkbodhnemokjaaDoor.W
open Go.RowKit Go.Shelf Go.Proofs.YtfkbodhnemokjaaDoorW.PrintWords
set_option linter.unusedVariables false
set_option linter.unusedSimpArgs false
theorem aheadB_no {i : Nat} {a : Int} (h : aheadB i a = false) : a < 0 ∨ (0 ≤ a ∧ (i : Int) ≤ a) := by
  unfold aheadB at h
  by_cases h1 : 0 ≤ a
  · right; refine ⟨h1, ?_⟩; simp [h1] at h; omega
  · left; omega
theorem aheadB_yes {i : Nat} {a : Int} (h : aheadB i a = true) : 0 ≤ a ∧ a < (i : Int) := by
  unfold aheadB at h
  simpa using h
set_option maxHeartbeats 8000000 in
set_option maxRecDepth 100000 in
theorem refNode_any (A : Option Addr) (c : Nat) (l : List Col) (a1 a2 a3 a4 : Int) (x : Node) (i : Nat) (w : World) (hr : Kd.C kdCol w A l.length l) (hl : l.length ≤ c) :
    Calls Tryd.prog 33 #[.agg #[.slice A l.length c, .int .i64 a1, .int .i64 a2, .int .i64 a3, .int .i64 a4], x.v, .int .i64 i] w fun e w' => e = .returned (.int .i64 (nodeE l x i)) ∧ Below w.heap.size w w' := by
  have hu := Tryd.underlying24
  have hu2 := Tryd.underlying45
  have hu3 := Tryd.underlying49
  have hu4 := Tryd.underlying47
  have HR := Aside0.mk hr
  clear hr
  have HB := Aside0.mk (Below.refl w.heap.size w)
  obtain ⟨ask, col, ⟨vk, vi, vs, vb⟩, xa, xb⟩ := x
  have E : Aside0 (nodeE l ⟨ask, col, ⟨vk, vi, vs, vb⟩, xa, xb⟩ i = if needsI ask = 5 then 1
    else if needsI ask = 1 ∨ needsI ask = 2 then
      (if hasB l col = false then 3 else if ask ≠ 7 ∧ (vk ≠ (rdCol l col.toNat).kind ∨ mayV ⟨vk, vi, vs, vb⟩ = false) then 9 else 0)
    else if needsI ask = 3 then (if aheadB i xa = false ∨ aheadB i xb = false then 5 else 0)
    else if needsI ask = 4 then (if aheadB i xa = false then 5 else 0)
    else 0) := ⟨rfl⟩
  generalize nodeE l ⟨ask, col, ⟨vk, vi, vs, vb⟩, xa, xb⟩ i = res at E ⊢
  show Calls Tryd.prog 33 #[_, .agg #[.int .i64 ask, .int .i64 col, .int .i64 vk, .int .i64 vi, .string vs, .bool vb, .int .i64 xa, .int .i64 xb], _] w _
  rcases needsI_cases ask with ⟨h, e⟩ | ⟨h, h', e⟩ | ⟨h, e⟩ | ⟨h, e⟩ | ⟨h, e⟩ | ⟨h, e⟩ | ⟨h, e⟩
  · subst h
    obtain rfl : res = 0 := by rw [E.out, e]; rfl
    go_enter Tryd.func33, Tryd.ntmps33
    go_wp2
    go_ret
    exact ⟨rfl, (by repeat (first | exact HB.out | apply below_alloc | apply below_drew | apply pw_below_drewN))⟩
  · have hask : ¬ ask = 7 := by omega
    cases h1 : hasB l col
    · obtain rfl : res = 3 := by rw [E.out, e, h1]; rfl
      clear E
      go_enter Tryd.func33, Tryd.ntmps33
      go_wp2_with (go_at_call 34; refine (refHas_any _ _ _ _ _ _ _ _ _).mono ?_; rintro e w1 ⟨rfl, hb⟩; obtain ⟨hc, hf⟩ := bcell hb; have hz : w.heap.size < w1.heap.size := (by have := hb.size; (try simp at this); omega); have hz3 : w.heap.size + 1 < w1.heap.size := (by have := hb.size; (try simp at this); omega); have HB1 := Aside0.mk (below_step (by repeat (first | exact HB.out | apply below_alloc | apply below_drew | apply pw_below_drewN)) hb); clear hb HB; have HB := HB1; clear HB1)
      go_ret
      exact ⟨rfl, (by repeat (first | exact HB.out | apply below_alloc | apply below_drew | apply pw_below_drewN))⟩
    · have h5 : 0 ≤ col ∧ col < l.length := by unfold hasB at h1; simpa using h1
      obtain ⟨n, rfl⟩ := Int.eq_ofNat_of_zero_le h5.1
      have hn : n < l.length := by omega
      obtain ⟨ad, hA, c0, c1, c2⟩ := atCol HR.out n hn
      subst hA
      have hbl := World.block_lt_of_cell? w _ c1
      have HKp : Aside0 (∀ W : World, Below w.heap.size w W → W.cell? ⟨(ad.add (n * 3)).block, (ad.add (n * 3)).off + 1, none⟩ = some (.int .i64 (rdCol l n).kind)) := ⟨fun W h => pw_cell_below h c1⟩
      clear c0 c1 c2 h5
      have HE2 : Aside0 (res = if vk ≠ (rdCol l n).kind ∨ mayV ⟨vk, vi, vs, vb⟩ = false then 9 else 0) := ⟨by rw [E.out, e, h1]; simp [hask]⟩
      clear E
      have HK2 : Aside0 (((w.alloc (.cells #[.slice (some ad) l.length c, .int .i64 a1, .int .i64 a2, .int .i64 a3, .int .i64 a4] 24)).alloc (.cells #[.int .i64 ask, .int .i64 ↑n, .int .i64 vk, .int .i64 vi, .string vs, .bool vb, .int .i64 xa, .int .i64 xb] 49)).heap[w.heap.size]? = some (.cells #[.slice (some ad) l.length c, .int .i64 a1, .int .i64 a2, .int .i64 a3, .int .i64 a4] 24 (0, 0))) := ⟨blk_alloc (blk_new w _) _⟩
      have HK3 : Aside0 (((w.alloc (.cells #[.slice (some ad) l.length c, .int .i64 a1, .int .i64 a2, .int .i64 a3, .int .i64 a4] 24)).alloc (.cells #[.int .i64 ask, .int .i64 ↑n, .int .i64 vk, .int .i64 vi, .string vs, .bool vb, .int .i64 xa, .int .i64 xb] 49)).heap[w.heap.size + 1]? = some (.cells #[.int .i64 ask, .int .i64 ↑n, .int .i64 vk, .int .i64 vi, .string vs, .bool vb, .int .i64 xa, .int .i64 xb] 49 (0, 0))) := ⟨by have := blk_new (w.alloc (.cells #[.slice (some ad) l.length c, .int .i64 a1, .int .i64 a2, .int .i64 a3, .int .i64 a4] 24)) (.cells #[.int .i64 ask, .int .i64 ↑n, .int .i64 vk, .int .i64 vi, .string vs, .bool vb, .int .i64 xa, .int .i64 xb] 49); simpa using this⟩
      cases h2 : mayV ⟨vk, vi, vs, vb⟩
      · obtain rfl : res = 9 := by rw [HE2.out, if_pos (.inr h2)]
        go_enter Tryd.func33, Tryd.ntmps33
        go_wp2_with (first | (go_at_call 34; refine (refHas_any _ _ _ _ _ _ _ _ _).mono ?_; rintro e w1 ⟨rfl, hb⟩; obtain ⟨hc, hf⟩ := bcell hb; have hz : w.heap.size < w1.heap.size := (by have := hb.size; (try simp at this); omega); have hz3 : w.heap.size + 1 < w1.heap.size := (by have := hb.size; (try simp at this); omega); have HX2 := Aside0.mk (blk_below (g := w.heap.size) (by repeat (first | exact HK2.out | apply blk_alloc | apply blk_drew | apply blk_drewN)) hb); have HX3 := Aside0.mk (blk_below (g := w.heap.size + 1) (by repeat (first | exact HK3.out | apply blk_alloc | apply blk_drew | apply blk_drewN)) hb); clear HK2 HK3; have HK2 := HX2; have HK3 := HX3; clear HX2 HX3; have HB1 := Aside0.mk (below_step (by repeat (first | exact HB.out | apply below_alloc | apply below_drew | apply pw_below_drewN)) hb); clear hb HB; have HB := HB1; clear HB1; have hk := HKp.out _ HB.out) | (go_at_call 48; refine (refMayV_any ⟨vk, vi, vs, vb⟩ _).mono ?_; rintro e wB ⟨rfl, hb⟩; obtain ⟨hcB, hfB⟩ := bcell hb; have hzB : w.heap.size + 1 < wB.heap.size := (by have := hb.size; (try simp at this); omega); have hyB : w.heap.size < wB.heap.size := (by omega); have HX2 := Aside0.mk (blk_below (g := w.heap.size) (by repeat (first | exact HK2.out | apply blk_alloc | apply blk_drew | apply blk_drewN)) hb); have HX3 := Aside0.mk (blk_below (g := w.heap.size + 1) (by repeat (first | exact HK3.out | apply blk_alloc | apply blk_drew | apply blk_drewN)) hb); clear HK2 HK3; have HK2 := HX2; have HK3 := HX3; clear HX2 HX3; have HB1 := Aside0.mk (below_step (by repeat (first | exact HB.out | apply below_alloc | apply below_drew | apply pw_below_drewN)) hb); clear hb HB; have HB := HB1; clear HB1; have hkB := HKp.out _ HB.out))
        obtain ⟨q0, q1, q2, q3, q4⟩ := cells5 HK2.out
        have r1 : wB.cell? ⟨w.heap.size + 1, 1, none⟩ = some (.int .i64 n) := (blk_cell HK3.out 1).trans rfl
        have r2 : wB.cell? ⟨w.heap.size + 1, 2, none⟩ = some (.int .i64 vk) := (blk_cell HK3.out 2).trans rfl
        go_quiet (fail)
        go_wp2
        go_ret
        exact ⟨rfl, (by repeat (first | exact HB.out | apply below_alloc | apply below_drew | apply pw_below_drewN))⟩
      · by_cases h3 : vk = (rdCol l n).kind
        · obtain rfl : res = 0 := by rw [HE2.out, if_neg (by rintro (h | h); exact h h3; rw [h2] at h; cases h)]
          have h4 : (vk != (rdCol l n).kind) = false := by simp [h3]
          have H3 := Aside0.mk h3
          clear h3
          go_enter Tryd.func33, Tryd.ntmps33
          go_wp2_with (first | (go_at_call 34; refine (refHas_any _ _ _ _ _ _ _ _ _).mono ?_; rintro e w1 ⟨rfl, hb⟩; obtain ⟨hc, hf⟩ := bcell hb; have hz : w.heap.size < w1.heap.size := (by have := hb.size; (try simp at this); omega); have hz3 : w.heap.size + 1 < w1.heap.size := (by have := hb.size; (try simp at this); omega); have HX2 := Aside0.mk (blk_below (g := w.heap.size) (by repeat (first | exact HK2.out | apply blk_alloc | apply blk_drew | apply blk_drewN)) hb); have HX3 := Aside0.mk (blk_below (g := w.heap.size + 1) (by repeat (first | exact HK3.out | apply blk_alloc | apply blk_drew | apply blk_drewN)) hb); clear HK2 HK3; have HK2 := HX2; have HK3 := HX3; clear HX2 HX3; have HB1 := Aside0.mk (below_step (by repeat (first | exact HB.out | apply below_alloc | apply below_drew | apply pw_below_drewN)) hb); clear hb HB; have HB := HB1; clear HB1; have hk := HKp.out _ HB.out) | (go_at_call 48; refine (refMayV_any ⟨vk, vi, vs, vb⟩ _).mono ?_; rintro e wB ⟨rfl, hb⟩; obtain ⟨hcB, hfB⟩ := bcell hb; have hzB : w.heap.size + 1 < wB.heap.size := (by have := hb.size; (try simp at this); omega); have hyB : w.heap.size < wB.heap.size := (by omega); have HX2 := Aside0.mk (blk_below (g := w.heap.size) (by repeat (first | exact HK2.out | apply blk_alloc | apply blk_drew | apply blk_drewN)) hb); have HX3 := Aside0.mk (blk_below (g := w.heap.size + 1) (by repeat (first | exact HK3.out | apply blk_alloc | apply blk_drew | apply blk_drewN)) hb); clear HK2 HK3; have HK2 := HX2; have HK3 := HX3; clear HX2 HX3; have HB1 := Aside0.mk (below_step (by repeat (first | exact HB.out | apply below_alloc | apply below_drew | apply pw_below_drewN)) hb); clear hb HB; have HB := HB1; clear HB1; have hkB := HKp.out _ HB.out))
          obtain ⟨q0, q1, q2, q3, q4⟩ := cells5 HK2.out
          have r1 : wB.cell? ⟨w.heap.size + 1, 1, none⟩ = some (.int .i64 n) := (blk_cell HK3.out 1).trans rfl
          have r2 : wB.cell? ⟨w.heap.size + 1, 2, none⟩ = some (.int .i64 vk) := (blk_cell HK3.out 2).trans rfl
          go_quiet (fail)
          go_wp2
          go_ret
          exact ⟨rfl, (by repeat (first | exact HB.out | apply below_alloc | apply below_drew | apply pw_below_drewN))⟩
        · obtain rfl : res = 9 := by rw [HE2.out, if_pos (.inl h3)]
          have h4 : (vk != (rdCol l n).kind) = true := by simpa using h3
          go_enter Tryd.func33, Tryd.ntmps33
          go_wp2_with (first | (go_at_call 34; refine (refHas_any _ _ _ _ _ _ _ _ _).mono ?_; rintro e w1 ⟨rfl, hb⟩; obtain ⟨hc, hf⟩ := bcell hb; have hz : w.heap.size < w1.heap.size := (by have := hb.size; (try simp at this); omega); have hz3 : w.heap.size + 1 < w1.heap.size := (by have := hb.size; (try simp at this); omega); have HX2 := Aside0.mk (blk_below (g := w.heap.size) (by repeat (first | exact HK2.out | apply blk_alloc | apply blk_drew | apply blk_drewN)) hb); have HX3 := Aside0.mk (blk_below (g := w.heap.size + 1) (by repeat (first | exact HK3.out | apply blk_alloc | apply blk_drew | apply blk_drewN)) hb); clear HK2 HK3; have HK2 := HX2; have HK3 := HX3; clear HX2 HX3; have HB1 := Aside0.mk (below_step (by repeat (first | exact HB.out | apply below_alloc | apply below_drew | apply pw_below_drewN)) hb); clear hb HB; have HB := HB1; clear HB1; have hk := HKp.out _ HB.out) | (go_at_call 48; refine (refMayV_any ⟨vk, vi, vs, vb⟩ _).mono ?_; rintro e wB ⟨rfl, hb⟩; obtain ⟨hcB, hfB⟩ := bcell hb; have hzB : w.heap.size + 1 < wB.heap.size := (by have := hb.size; (try simp at this); omega); have hyB : w.heap.size < wB.heap.size := (by omega); have HX2 := Aside0.mk (blk_below (g := w.heap.size) (by repeat (first | exact HK2.out | apply blk_alloc | apply blk_drew | apply blk_drewN)) hb); have HX3 := Aside0.mk (blk_below (g := w.heap.size + 1) (by repeat (first | exact HK3.out | apply blk_alloc | apply blk_drew | apply blk_drewN)) hb); clear HK2 HK3; have HK2 := HX2; have HK3 := HX3; clear HX2 HX3; have HB1 := Aside0.mk (below_step (by repeat (first | exact HB.out | apply below_alloc | apply below_drew | apply pw_below_drewN)) hb); clear hb HB; have HB := HB1; clear HB1; have hkB := HKp.out _ HB.out))
          obtain ⟨q0, q1, q2, q3, q4⟩ := cells5 HK2.out
          have r1 : wB.cell? ⟨w.heap.size + 1, 1, none⟩ = some (.int .i64 n) := (blk_cell HK3.out 1).trans rfl
          have r2 : wB.cell? ⟨w.heap.size + 1, 2, none⟩ = some (.int .i64 vk) := (blk_cell HK3.out 2).trans rfl
          go_quiet (fail)
          go_wp2
          go_ret
          exact ⟨rfl, (by repeat (first | exact HB.out | apply below_alloc | apply below_drew | apply pw_below_drewN))⟩
  · subst h
    cases h1 : hasB l col
    · obtain rfl : res = 3 := by rw [E.out, e, h1]; rfl
      clear E
      go_enter Tryd.func33, Tryd.ntmps33
      go_wp2_with (go_at_call 34; refine (refHas_any _ _ _ _ _ _ _ _ _).mono ?_; rintro e w1 ⟨rfl, hb⟩; obtain ⟨hc, hf⟩ := bcell hb; have hz : w.heap.size < w1.heap.size := (by have := hb.size; (try simp at this); omega); have hz3 : w.heap.size + 1 < w1.heap.size := (by have := hb.size; (try simp at this); omega); have HB1 := Aside0.mk (below_step (by repeat (first | exact HB.out | apply below_alloc | apply below_drew | apply pw_below_drewN)) hb); clear hb HB; have HB := HB1; clear HB1)
      go_ret
      exact ⟨rfl, (by repeat (first | exact HB.out | apply below_alloc | apply below_drew | apply pw_below_drewN))⟩
    · obtain rfl : res = 0 := by rw [E.out, e, h1]; simp
      clear E
      go_enter Tryd.func33, Tryd.ntmps33
      go_wp2_with (go_at_call 34; refine (refHas_any _ _ _ _ _ _ _ _ _).mono ?_; rintro e w1 ⟨rfl, hb⟩; obtain ⟨hc, hf⟩ := bcell hb; have hz : w.heap.size < w1.heap.size := (by have := hb.size; (try simp at this); omega); have hz3 : w.heap.size + 1 < w1.heap.size := (by have := hb.size; (try simp at this); omega); have HB1 := Aside0.mk (below_step (by repeat (first | exact HB.out | apply below_alloc | apply below_drew | apply pw_below_drewN)) hb); clear hb HB; have HB := HB1; clear HB1)
      go_ret
      exact ⟨rfl, (by repeat (first | exact HB.out | apply below_alloc | apply below_drew | apply pw_below_drewN))⟩
  · subst h
    cases h1 : aheadB i xa
    · obtain rfl : res = 5 := by rw [E.out, e, h1]; rfl
      rcases aheadB_no h1 with h1 | ⟨h1, h2⟩
      all_goals
        go_enter Tryd.func33, Tryd.ntmps33
        go_wp2
        go_ret
        exact ⟨rfl, (by repeat (first | exact HB.out | apply below_alloc | apply below_drew | apply pw_below_drewN))⟩
    · cases h2 : aheadB i xb
      · obtain rfl : res = 5 := by rw [E.out, e, h1, h2]; rfl
        obtain ⟨h3, h4⟩ := aheadB_yes h1
        rcases aheadB_no h2 with h5 | ⟨h5, h6⟩
        all_goals
          go_enter Tryd.func33, Tryd.ntmps33
          go_wp2
          go_ret
          exact ⟨rfl, (by repeat (first | exact HB.out | apply below_alloc | apply below_drew | apply pw_below_drewN))⟩
      · obtain rfl : res = 0 := by rw [E.out, e, h1, h2]; rfl
        obtain ⟨h3, h4⟩ := aheadB_yes h1
        obtain ⟨h5, h6⟩ := aheadB_yes h2
        go_enter Tryd.func33, Tryd.ntmps33
        go_wp2
        go_ret
        exact ⟨rfl, (by repeat (first | exact HB.out | apply below_alloc | apply below_drew | apply pw_below_drewN))⟩
  · subst h
    cases h1 : aheadB i xa
    · obtain rfl : res = 5 := by rw [E.out, e, h1]; rfl
      rcases aheadB_no h1 with h1 | ⟨h1, h2⟩
      all_goals
        go_enter Tryd.func33, Tryd.ntmps33
        go_wp2
        go_ret
        exact ⟨rfl, (by repeat (first | exact HB.out | apply below_alloc | apply below_drew | apply pw_below_drewN))⟩
    · cases h2 : aheadB i xb
      · obtain rfl : res = 5 := by rw [E.out, e, h1, h2]; rfl
        obtain ⟨h3, h4⟩ := aheadB_yes h1
        rcases aheadB_no h2 with h5 | ⟨h5, h6⟩
        all_goals
          go_enter Tryd.func33, Tryd.ntmps33
          go_wp2
          go_ret
          exact ⟨rfl, (by repeat (first | exact HB.out | apply below_alloc | apply below_drew | apply pw_below_drewN))⟩
      · obtain rfl : res = 0 := by rw [E.out, e, h1, h2]; rfl
        obtain ⟨h3, h4⟩ := aheadB_yes h1
        obtain ⟨h5, h6⟩ := aheadB_yes h2
        go_enter Tryd.func33, Tryd.ntmps33
        go_wp2
        go_ret
        exact ⟨rfl, (by repeat (first | exact HB.out | apply below_alloc | apply below_drew | apply pw_below_drewN))⟩
  · subst h
    cases h1 : aheadB i xa
    · obtain rfl : res = 5 := by rw [E.out, e, h1]; rfl
      rcases aheadB_no h1 with h1 | ⟨h1, h2⟩
      all_goals
        go_enter Tryd.func33, Tryd.ntmps33
        go_wp2
        go_ret
        exact ⟨rfl, (by repeat (first | exact HB.out | apply below_alloc | apply below_drew | apply pw_below_drewN))⟩
    · obtain rfl : res = 0 := by rw [E.out, e, h1]; rfl
      obtain ⟨h3, h4⟩ := aheadB_yes h1
      go_enter Tryd.func33, Tryd.ntmps33
      go_wp2
      go_ret
      exact ⟨rfl, (by repeat (first | exact HB.out | apply below_alloc | apply below_drew | apply pw_below_drewN))⟩
  · obtain rfl : res = 1 := by rw [E.out, e]; rfl
    rcases h with h | h
    all_goals
      go_enter Tryd.func33, Tryd.ntmps33
      go_wp2
      go_ret
      exact ⟨rfl, (by repeat (first | exact HB.out | apply below_alloc | apply below_drew | apply pw_below_drewN))⟩
end Go.Proofs.YtfkbodhnemokjaaDoor.W
