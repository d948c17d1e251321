/- Package query: filter comes to a plain function. -/
import Derived.Test.YtfkbodhnemokjaaDoorQueryA
namespace Go.Proofs.YtfkbodhnemokjaaDoor.W
open Go.RowKit Go.Proofs.YtfkbodhnemokjaaDoorW.PrintWords
set_option linter.unusedVariables false
set_option linter.unusedSimpArgs false

/-! ### filter -/
def aheadB (i : Nat) (n : Int) : Bool := decide (0 ≤ n) && decide (n < i)
set_option maxHeartbeats 400000 in
theorem ahead_any (n : Int) (i : Nat) (B : Nat) (w : World) (hB : w.cell? ⟨B, 0, none⟩ = some (.int .i64 i)) :
    Calls Tryd.prog 43 #[.int .i64 n, .pointer (some ⟨B, 0, none⟩)] w fun e w' => e = .returned (.bool (aheadB i n)) ∧ Below w.heap.size w w' := by
  have E : Aside0 (aheadB i n = (decide (0 ≤ n) && decide (n < (i : Int)))) := ⟨rfl⟩
  generalize aheadB i n = res at E ⊢
  rcases (show n < 0 ∨ (0 ≤ n ∧ n < (i : Int)) ∨ (0 ≤ n ∧ (i : Int) ≤ n) from by omega) with h | ⟨h, h'⟩ | ⟨h, h'⟩
  all_goals
    go_enter Tryd.func43, Tryd.ntmps43
    go_wp2
    go_ret
    exact ⟨by rw [E.out]; first | (simp [*]; done) | (simp [*]; rfl) | (rw [decide_eq_false (show ¬ (n < (i : Int)) by omega)]; simp; rfl) | (rw [decide_eq_false (show ¬ (0 ≤ n) by omega)]; rfl), Below.refl _ _⟩
def nodeE (l : List Col) (x : Node) (i : Nat) : Int :=
  if needsI x.ask = 5 then 1
  else if needsI x.ask = 1 ∨ needsI x.ask = 2 then
    (if hasB l x.col = false then 3 else if x.ask ≠ 7 ∧ (x.val.kind ≠ (rdCol l x.col.toNat).kind ∨ mayV x.val = false) then 9 else 0)
  else if needsI x.ask = 3 then (if aheadB i x.a = false ∨ aheadB i x.b = false then 5 else 0)
  else if needsI x.ask = 4 then (if aheadB i x.a = false then 5 else 0)
  else 0
/-- The first that is not 0 of f 0, .., f (n - 1); 0 if there is none. -/
def firstNZ (f : Nat → Int) : Nat → Int
  | 0 => 0
  | n + 1 => if firstNZ f n ≠ 0 then firstNZ f n else f n
theorem firstNZ_all (f : Nat → Int) (n : Nat) (h : ∀ j, j < n → f j = 0) : firstNZ f n = 0 := by
  induction n with
  | zero => rfl
  | succ n ih =>
    unfold firstNZ
    rw [ih (fun j hj => h j (by omega)), if_neg (by simp)]
    exact h n (by omega)
theorem firstNZ_at (f : Nat → Int) (n i : Nat) (hi : i < n) (hf : f i ≠ 0) (h : ∀ j, j < i → f j = 0) : firstNZ f n = f i := by
  induction n with
  | zero => omega
  | succ n ih =>
    unfold firstNZ
    rcases Nat.lt_or_ge i n with h1 | h1
    · rw [ih h1, if_pos hf]
    · obtain rfl : i = n := by omega
      rw [firstNZ_all f i h, if_neg (by simp)]
def filterE (l : List Col) (xs : List Node) : Int := firstNZ (fun i => nodeE l (rdNode xs i) i) xs.length
set_option maxHeartbeats 8000000 in
set_option maxRecDepth 100000 in
theorem filter_any (A : Option Addr) (c : Nat) (l : List Col) (a1 a2 a3 a4 : Int) (A' : Option Addr) (c' : Nat) (xs : List Node) (w : World) (hr : Kd.C kdCol w A l.length l) (hl : l.length ≤ c) (hr' : Kd.C kdNode w A' xs.length xs) (hl' : xs.length ≤ c') :
    Calls Tryd.prog 24 #[.agg #[.slice A l.length c, .int .i64 a1, .int .i64 a2, .int .i64 a3, .int .i64 a4], .slice A' xs.length c'] w fun e w' => e = .returned (.int .i64 (filterE l xs)) ∧ Below w.heap.size w w' := by
  have hu := Tryd.underlying24
  have hu2 := Tryd.underlying45
  have hu3 := Tryd.underlying49
  have hu4 := Tryd.underlying47
  have HR := Aside0.mk hr
  have HR' := Aside0.mk hr'
  have hm := hr'.2.1
  clear hr hr'
  go_enter Tryd.func24, Tryd.ntmps24
  go_wp2
  go_step3
  go_wp2
  go_step3
  go_wp2
  go_loopg [5, 11] xs.length (fun kq v5 v11 w' => ∃ i : Nat, v5 = .int .i64 0 ∧ v11 = .int .i64 i ∧ Aside0 (i + kq = xs.length) ∧ Aside0 (∀ j, j < i → nodeE l (rdNode xs j) j = 0) ∧ Aside0 (w'.heap[w.heap.size]? = some (.cells #[.slice A l.length c, .int .i64 a1, .int .i64 a2, .int .i64 a3, .int .i64 a4] 24 (0, 0))) ∧ Aside0 (Below w.heap.size w w'))
  case atStart => exact ⟨0, rfl, rfl, ⟨by omega⟩, ⟨fun j hj => absurd hj (by omega)⟩, ⟨blk_new _ _⟩, ⟨below_alloc (Below.refl _ _) _⟩⟩
  case round =>
    obtain ⟨i, rfl, rfl, HI, HN, HK, HB⟩ := hrel
    have hi := HI.out
    by_cases hlt : i < xs.length
    · obtain ⟨ad, hA, c0, c1, c2, c3, c4, c5, c6, c7⟩ := atNode (Kd.C_below HR'.out HB.out) i hlt
      subst hA
      have hz := blk_lt HK.out
      have k0 : wr.cell? ⟨w.heap.size, 0, none⟩ = some (.slice A l.length c) := (blk_cell HK.out 0).trans rfl
      have k1 : wr.cell? ⟨w.heap.size, 1, none⟩ = some (.int .i64 a1) := (blk_cell HK.out 1).trans rfl
      have k2 : wr.cell? ⟨w.heap.size, 2, none⟩ = some (.int .i64 a2) := (blk_cell HK.out 2).trans rfl
      have k3 : wr.cell? ⟨w.heap.size, 3, none⟩ = some (.int .i64 a3) := (blk_cell HK.out 3).trans rfl
      have k4 : wr.cell? ⟨w.heap.size, 4, none⟩ = some (.int .i64 a4) := (blk_cell HK.out 4).trans rfl
      have hne : ¬ (w.heap.size = wr.heap.size) := by omega
      have hne2 : ¬ (w.heap.size = wr.heap.size + 1) := by omega
      have hzz : w.heap.size < wr.heap.size + 1 + 1 := by omega
      obtain ⟨x, hx⟩ : ∃ x, x = rdNode xs i := ⟨_, rfl⟩
      rw [← hx] at c0 c1 c2 c3 c4 c5 c6 c7
      have HX := Aside0.mk hx; clear hx
      have hfin : Aside0 (nodeE l x i ≠ 0 → filterE l xs = nodeE l x i) := ⟨fun h => by rw [HX.out] at h ⊢; exact firstNZ_at _ _ i hlt h HN.out⟩
      obtain ⟨ask, col, ⟨vk, vi, vs, vb⟩, xa, xb⟩ := x
      simp only at c0 c1 c2 c3 c4 c5 c6 c7
      rcases needsI_cases ask with ⟨h, e⟩ | ⟨h, h', e⟩ | ⟨h, e⟩ | ⟨h, e⟩ | ⟨h, e⟩ | ⟨h, e⟩ | ⟨h | h, e⟩
      · have hE : Aside0 (nodeE l ⟨ask, col, ⟨vk, vi, vs, vb⟩, xa, xb⟩ i = 0) := ⟨by unfold nodeE; simp [e]⟩
        go_wp2_with (go_at_call 16; refine (needs_any _ _).mono ?_; rintro e wA ⟨rfl, hb⟩; obtain ⟨hcA, hfA⟩ := bcell hb; have hzA : wr.heap.size + 1 < wA.heap.size := (by have := hb.size; (try simp at this); omega); have hyA : w.heap.size < wA.heap.size := (by omega); have hxA : wr.heap.size < wA.heap.size := (by omega); have HK1 := Aside0.mk (blk_below (g := w.heap.size) (by repeat (first | exact HK.out | apply blk_alloc | apply blk_drew | apply blk_drewN)) hb); clear HK; have HK := HK1; clear HK1; have HB1 := Aside0.mk (below_step (by repeat (first | exact HB.out | apply below_alloc | apply below_drew | apply pw_below_drewN)) hb); clear hb HB; have HB := HB1; clear HB1)
        go_roundg (gk - 1)
        case measure => omega
        case rel => exact ⟨i + 1, rfl, by go_num, ⟨by omega⟩, ⟨forall_snoc HN.out (by rw [← HX.out]; exact hE.out)⟩, HK, HB⟩
      · cases h1 : hasB l col
        · have hE : Aside0 (nodeE l ⟨ask, col, ⟨vk, vi, vs, vb⟩, xa, xb⟩ i = 3) := ⟨by unfold nodeE; simp [e, h1]⟩
          go_wp2_with (first | (go_at_call 16; refine (needs_any _ _).mono ?_; rintro e wA ⟨rfl, hb⟩; obtain ⟨hcA, hfA⟩ := bcell hb; have hzA : wr.heap.size + 1 < wA.heap.size := (by have := hb.size; (try simp at this); omega); have hyA : w.heap.size < wA.heap.size := (by omega); have hxA : wr.heap.size < wA.heap.size := (by omega); have HK1 := Aside0.mk (blk_below (g := w.heap.size) (by repeat (first | exact HK.out | apply blk_alloc | apply blk_drew | apply blk_drewN)) hb); clear HK; have HK := HK1; clear HK1; have HB1 := Aside0.mk (below_step (by repeat (first | exact HB.out | apply below_alloc | apply below_drew | apply pw_below_drewN)) hb); clear hb HB; have HB := HB1; clear HB1) | (go_at_call 27; refine (has_any _ _ _ _ _ _ _ _ _).mono ?_; rintro e wB ⟨rfl, hb⟩; obtain ⟨hcB, hfB⟩ := bcell hb; have hzB : wr.heap.size + 1 < wB.heap.size := (by have := hb.size; (try simp at this); omega); have HK1 := Aside0.mk (blk_below (g := w.heap.size) (by repeat (first | exact HK.out | apply blk_alloc | apply blk_drew | apply blk_drewN)) hb); clear HK; have HK := HK1; clear HK1; have HB1 := Aside0.mk (below_step (by repeat (first | exact HB.out | apply below_alloc | apply below_drew | apply pw_below_drewN)) hb); clear hb HB; have HB := HB1; clear HB1))
          try rw [Exit.noGoto_ret]
          go_ret
          refine ⟨?_, (by repeat (first | exact HB.out | apply below_alloc | apply below_drew | apply pw_below_drewN))⟩
          rw [hfin.out (by rw [hE.out]; decide), hE.out]
          rfl
        · have h5 : 0 ≤ col ∧ col < l.length := by unfold hasB at h1; simpa using h1
          obtain ⟨n, rfl⟩ := Int.eq_ofNat_of_zero_le h5.1
          have hn : n < l.length := by omega
          go_wp2_with (first | (go_at_call 16; refine (needs_any _ _).mono ?_; rintro e wA ⟨rfl, hb⟩; obtain ⟨hcA, hfA⟩ := bcell hb; have hzA : wr.heap.size + 1 < wA.heap.size := (by have := hb.size; (try simp at this); omega); have hyA : w.heap.size < wA.heap.size := (by omega); have hxA : wr.heap.size < wA.heap.size := (by omega); have HK1 := Aside0.mk (blk_below (g := w.heap.size) (by repeat (first | exact HK.out | apply blk_alloc | apply blk_drew | apply blk_drewN)) hb); clear HK; have HK := HK1; clear HK1; have HB1 := Aside0.mk (below_step (by repeat (first | exact HB.out | apply below_alloc | apply below_drew | apply pw_below_drewN)) hb); clear hb HB; have HB := HB1; clear HB1) | (go_at_call 27; refine (has_any _ _ _ _ _ _ _ _ _).mono ?_; rintro e wB ⟨rfl, hb⟩; obtain ⟨hcB, hfB⟩ := bcell hb; have hzB : wr.heap.size + 1 < wB.heap.size := (by have := hb.size; (try simp at this); omega); have HK1 := Aside0.mk (blk_below (g := w.heap.size) (by repeat (first | exact HK.out | apply blk_alloc | apply blk_drew | apply blk_drewN)) hb); clear HK; have HK := HK1; clear HK1; have HB1 := Aside0.mk (below_step (by repeat (first | exact HB.out | apply below_alloc | apply below_drew | apply pw_below_drewN)) hb); clear hb HB; have HB := HB1; clear HB1))
          obtain ⟨adc, hA2, _, d1, _⟩ := atCol (Kd.C_below HR.out HB.out) n hn
          subst hA2
          have g0 : wB.cell? ⟨wr.heap.size + 1, 0, none⟩ = some (.int .i64 ask) := by go_simp
          have g1 : wB.cell? ⟨wr.heap.size + 1, 1, none⟩ = some (.int .i64 n) := by go_simp
          have g2 : wB.cell? ⟨wr.heap.size + 1, 2, none⟩ = some (.int .i64 vk) := by go_simp
          have g3 : wB.cell? ⟨wr.heap.size + 1, 3, none⟩ = some (.int .i64 vi) := by go_simp
          have g4 : wB.cell? ⟨wr.heap.size + 1, 4, none⟩ = some (.string vs) := by go_simp
          have g5 : wB.cell? ⟨wr.heap.size + 1, 5, none⟩ = some (.bool vb) := by go_simp
          have gs : wB.cell? ⟨w.heap.size, 0, none⟩ = some (.slice (some adc) l.length c) := (blk_cell HK.out 0).trans rfl
          clear hcA hfA hcB hfB c0 c1 c2 c3 c4 c5 c6 c7 k0 k1 k2 k3 k4
          have ha : (ask != 7) = true := by simp; omega
          cases hv : (vk == (rdCol l n).kind)
          · have hv' : (vk != (rdCol l n).kind) = true := by simpa using hv
            have hE : Aside0 (nodeE l ⟨ask, n, ⟨vk, vi, vs, vb⟩, xa, xb⟩ i = 9) := ⟨by
              unfold nodeE
              have q1 : ask ≠ 7 := by omega
              have q2 : vk ≠ (rdCol l n).kind := by simpa using hv
              simp [e, h1, q1, q2]⟩
            go_quiet (fail)
            go_wp2
            try rw [Exit.noGoto_ret]
            go_ret
            refine ⟨?_, (by repeat (first | exact HB.out | apply below_alloc | apply below_drew | apply pw_below_drewN))⟩
            rw [hfin.out (by rw [hE.out]; decide), hE.out]
            rfl
          · have hv' : (vk != (rdCol l n).kind) = false := by simpa using hv
            have q1 : ask ≠ 7 := by omega
            have q2 : vk = (rdCol l n).kind := by simpa using hv
            have HQ := Aside0.mk q2; clear q2
            have hbc := World.block_lt_of_cell? wB _ d1
            simp only at hbc
            have hyB : w.heap.size < wB.heap.size := by omega
            cases hm : mayV ⟨vk, vi, vs, vb⟩
            · have hE : Aside0 (nodeE l ⟨ask, n, ⟨vk, vi, vs, vb⟩, xa, xb⟩ i = 9) := ⟨by unfold nodeE; rw [if_neg (by rw [e]; decide), if_pos (Or.inl e), if_neg (by rw [h1]; simp), if_pos ⟨q1, Or.inr hm⟩]⟩
              go_region_held3 (fun w' => Below wB.heap.size wB w' ∧ (∀ b o, b < wB.heap.size → w'.cell? ⟨b, o, none⟩ = wB.cell? ⟨b, o, none⟩)) (first | exact keepS0 _ | (refine keepS ?_ (by assumption); first | assumption | (refine And.left (b := ?_) ?_; rotate_left; assumption))) ((go_at_call 44; refine (mayV_any ⟨vk, vi, vs, vb⟩ _).mono ?_; rintro e wC ⟨rfl, hb⟩))
              have hS : Below wB.heap.size wB wC ∧ (∀ b o, b < wB.heap.size → wC.cell? ⟨b, o, none⟩ = wB.cell? ⟨b, o, none⟩) := by assumption
              have HB2 := Aside0.mk (below_step HB.out hS.1); clear HB; have HB := HB2; clear HB2
              go_wp2
              try rw [Exit.noGoto_ret]
              go_ret
              refine ⟨?_, (by repeat (first | exact HB.out | apply below_alloc | apply below_drew | apply pw_below_drewN))⟩
              rw [hfin.out (by rw [hE.out]; decide), hE.out]
              rfl
            · have hE : Aside0 (nodeE l ⟨ask, n, ⟨vk, vi, vs, vb⟩, xa, xb⟩ i = 0) := ⟨by unfold nodeE; rw [if_neg (by rw [e]; decide), if_pos (Or.inl e), if_neg (by rw [h1]; simp), if_neg (by rintro ⟨_, h9 | h9⟩; exact h9 HQ.out; rw [hm] at h9; cases h9)]⟩
              go_region_held3 (fun w' => Below wB.heap.size wB w' ∧ (∀ b o, b < wB.heap.size → w'.cell? ⟨b, o, none⟩ = wB.cell? ⟨b, o, none⟩)) (first | exact keepS0 _ | (refine keepS ?_ (by assumption); first | assumption | (refine And.left (b := ?_) ?_; rotate_left; assumption))) ((go_at_call 44; refine (mayV_any ⟨vk, vi, vs, vb⟩ _).mono ?_; rintro e wC ⟨rfl, hb⟩))
              have hS : Below wB.heap.size wB wC ∧ (∀ b o, b < wB.heap.size → wC.cell? ⟨b, o, none⟩ = wB.cell? ⟨b, o, none⟩) := by assumption
              have HK2 := Aside0.mk (blk_below HK.out hS.1); clear HK; have HK := HK2; clear HK2
              have HB2 := Aside0.mk (below_step HB.out hS.1); clear HB; have HB := HB2; clear HB2
              go_wp2
              go_roundg (gk - 1)
              case measure => omega
              case rel => exact ⟨i + 1, rfl, by go_num, ⟨by omega⟩, ⟨forall_snoc HN.out (by rw [← HX.out]; exact hE.out)⟩, HK, HB⟩
      · subst h
        cases h1 : hasB l col
        · have hE : Aside0 (nodeE l ⟨7, col, ⟨vk, vi, vs, vb⟩, xa, xb⟩ i = 3) := ⟨by unfold nodeE; simp [e, h1]⟩
          go_wp2_with (first | (go_at_call 16; refine (needs_any _ _).mono ?_; rintro e wA ⟨rfl, hb⟩; obtain ⟨hcA, hfA⟩ := bcell hb; have hzA : wr.heap.size + 1 < wA.heap.size := (by have := hb.size; (try simp at this); omega); have hyA : w.heap.size < wA.heap.size := (by omega); have hxA : wr.heap.size < wA.heap.size := (by omega); have HK1 := Aside0.mk (blk_below (g := w.heap.size) (by repeat (first | exact HK.out | apply blk_alloc | apply blk_drew | apply blk_drewN)) hb); clear HK; have HK := HK1; clear HK1; have HB1 := Aside0.mk (below_step (by repeat (first | exact HB.out | apply below_alloc | apply below_drew | apply pw_below_drewN)) hb); clear hb HB; have HB := HB1; clear HB1) | (go_at_call 27; refine (has_any _ _ _ _ _ _ _ _ _).mono ?_; rintro e wB ⟨rfl, hb⟩; obtain ⟨hcB, hfB⟩ := bcell hb; have hzB : wr.heap.size + 1 < wB.heap.size := (by have := hb.size; (try simp at this); omega); have HK1 := Aside0.mk (blk_below (g := w.heap.size) (by repeat (first | exact HK.out | apply blk_alloc | apply blk_drew | apply blk_drewN)) hb); clear HK; have HK := HK1; clear HK1; have HB1 := Aside0.mk (below_step (by repeat (first | exact HB.out | apply below_alloc | apply below_drew | apply pw_below_drewN)) hb); clear hb HB; have HB := HB1; clear HB1))
          try rw [Exit.noGoto_ret]
          go_ret
          refine ⟨?_, (by repeat (first | exact HB.out | apply below_alloc | apply below_drew | apply pw_below_drewN))⟩
          rw [hfin.out (by rw [hE.out]; decide), hE.out]
          rfl
        · have hE : Aside0 (nodeE l ⟨7, col, ⟨vk, vi, vs, vb⟩, xa, xb⟩ i = 0) := ⟨by unfold nodeE; simp [e, h1]⟩
          go_wp2_with (first | (go_at_call 16; refine (needs_any _ _).mono ?_; rintro e wA ⟨rfl, hb⟩; obtain ⟨hcA, hfA⟩ := bcell hb; have hzA : wr.heap.size + 1 < wA.heap.size := (by have := hb.size; (try simp at this); omega); have hyA : w.heap.size < wA.heap.size := (by omega); have hxA : wr.heap.size < wA.heap.size := (by omega); have HK1 := Aside0.mk (blk_below (g := w.heap.size) (by repeat (first | exact HK.out | apply blk_alloc | apply blk_drew | apply blk_drewN)) hb); clear HK; have HK := HK1; clear HK1; have HB1 := Aside0.mk (below_step (by repeat (first | exact HB.out | apply below_alloc | apply below_drew | apply pw_below_drewN)) hb); clear hb HB; have HB := HB1; clear HB1) | (go_at_call 27; refine (has_any _ _ _ _ _ _ _ _ _).mono ?_; rintro e wB ⟨rfl, hb⟩; obtain ⟨hcB, hfB⟩ := bcell hb; have hzB : wr.heap.size + 1 < wB.heap.size := (by have := hb.size; (try simp at this); omega); have HK1 := Aside0.mk (blk_below (g := w.heap.size) (by repeat (first | exact HK.out | apply blk_alloc | apply blk_drew | apply blk_drewN)) hb); clear HK; have HK := HK1; clear HK1; have HB1 := Aside0.mk (below_step (by repeat (first | exact HB.out | apply below_alloc | apply below_drew | apply pw_below_drewN)) hb); clear hb HB; have HB := HB1; clear HB1))
          have g0 : wB.cell? ⟨wr.heap.size + 1, 0, none⟩ = some (.int .i64 7) := by go_simp
          go_quiet (fail)
          have HK2 := Aside0.mk (blk_drewN HK.out nq); clear HK; have HK := HK2; clear HK2
          have HB2 := Aside0.mk (pw_below_drewN HB.out nq); clear HB; have HB := HB2; clear HB2
          go_wp2
          go_roundg (gk - 1)
          case measure => omega
          case rel => exact ⟨i + 1, rfl, by go_num, ⟨by omega⟩, ⟨forall_snoc HN.out (by rw [← HX.out]; exact hE.out)⟩, HK, HB⟩
      · subst h
        cases h1 : aheadB i xa
        · have hE : Aside0 (nodeE l ⟨8, col, ⟨vk, vi, vs, vb⟩, xa, xb⟩ i = 5) := ⟨by unfold nodeE; simp [e, h1]⟩
          go_wp2_with (first | (go_at_call 16; refine (needs_any _ _).mono ?_; rintro e wA ⟨rfl, hb⟩; obtain ⟨hcA, hfA⟩ := bcell hb; have hzA : wr.heap.size + 1 < wA.heap.size := (by have := hb.size; (try simp at this); omega); have hyA : w.heap.size < wA.heap.size := (by omega); have hxA : wr.heap.size < wA.heap.size := (by omega); have HK1 := Aside0.mk (blk_below (g := w.heap.size) (by repeat (first | exact HK.out | apply blk_alloc | apply blk_drew | apply blk_drewN)) hb); clear HK; have HK := HK1; clear HK1; have HB1 := Aside0.mk (below_step (by repeat (first | exact HB.out | apply below_alloc | apply below_drew | apply pw_below_drewN)) hb); clear hb HB; have HB := HB1; clear HB1) | (go_at_call 43; refine (ahead_any _ i _ _ (by go_simp)).mono ?_; rintro e wB ⟨rfl, hb⟩; obtain ⟨hcB, hfB⟩ := bcell hb; have hzB : wr.heap.size + 1 < wB.heap.size := (by have := hb.size; (try simp at this); omega); have hxB : wr.heap.size < wB.heap.size := (by omega); have HK1 := Aside0.mk (blk_below (g := w.heap.size) (by repeat (first | exact HK.out | apply blk_alloc | apply blk_drew | apply blk_drewN)) hb); clear HK; have HK := HK1; clear HK1; have HB1 := Aside0.mk (below_step (by repeat (first | exact HB.out | apply below_alloc | apply below_drew | apply pw_below_drewN)) hb); clear hb HB; have HB := HB1; clear HB1))
          try rw [Exit.noGoto_ret]
          go_ret
          refine ⟨?_, (by repeat (first | exact HB.out | apply below_alloc | apply below_drew | apply pw_below_drewN))⟩
          rw [hfin.out (by rw [hE.out]; decide), hE.out]
          rfl
        · cases h2 : aheadB i xb
          · have hE : Aside0 (nodeE l ⟨8, col, ⟨vk, vi, vs, vb⟩, xa, xb⟩ i = 5) := ⟨by unfold nodeE; simp [e, h1, h2]⟩
            go_wp2_with (first | (go_at_call 16; refine (needs_any _ _).mono ?_; rintro e wA ⟨rfl, hb⟩; obtain ⟨hcA, hfA⟩ := bcell hb; have hzA : wr.heap.size + 1 < wA.heap.size := (by have := hb.size; (try simp at this); omega); have hyA : w.heap.size < wA.heap.size := (by omega); have hxA : wr.heap.size < wA.heap.size := (by omega); have HK1 := Aside0.mk (blk_below (g := w.heap.size) (by repeat (first | exact HK.out | apply blk_alloc | apply blk_drew | apply blk_drewN)) hb); clear HK; have HK := HK1; clear HK1; have HB1 := Aside0.mk (below_step (by repeat (first | exact HB.out | apply below_alloc | apply below_drew | apply pw_below_drewN)) hb); clear hb HB; have HB := HB1; clear HB1) | (go_at_call 43; refine (ahead_any _ i _ _ (by go_simp)).mono ?_; rintro e wB ⟨rfl, hb⟩; obtain ⟨hcB, hfB⟩ := bcell hb; have hzB : wr.heap.size + 1 < wB.heap.size := (by have := hb.size; (try simp at this); omega); have hxB : wr.heap.size < wB.heap.size := (by omega); have HK1 := Aside0.mk (blk_below (g := w.heap.size) (by repeat (first | exact HK.out | apply blk_alloc | apply blk_drew | apply blk_drewN)) hb); clear HK; have HK := HK1; clear HK1; have HB1 := Aside0.mk (below_step (by repeat (first | exact HB.out | apply below_alloc | apply below_drew | apply pw_below_drewN)) hb); clear hb HB; have HB := HB1; clear HB1))
            try rw [Exit.noGoto_ret]
            go_ret
            refine ⟨?_, (by repeat (first | exact HB.out | apply below_alloc | apply below_drew | apply pw_below_drewN))⟩
            rw [hfin.out (by rw [hE.out]; decide), hE.out]
            rfl
          · have hE : Aside0 (nodeE l ⟨8, col, ⟨vk, vi, vs, vb⟩, xa, xb⟩ i = 0) := ⟨by unfold nodeE; simp [e, h1, h2]⟩
            go_wp2_with (first | (go_at_call 16; refine (needs_any _ _).mono ?_; rintro e wA ⟨rfl, hb⟩; obtain ⟨hcA, hfA⟩ := bcell hb; have hzA : wr.heap.size + 1 < wA.heap.size := (by have := hb.size; (try simp at this); omega); have hyA : w.heap.size < wA.heap.size := (by omega); have hxA : wr.heap.size < wA.heap.size := (by omega); have HK1 := Aside0.mk (blk_below (g := w.heap.size) (by repeat (first | exact HK.out | apply blk_alloc | apply blk_drew | apply blk_drewN)) hb); clear HK; have HK := HK1; clear HK1; have HB1 := Aside0.mk (below_step (by repeat (first | exact HB.out | apply below_alloc | apply below_drew | apply pw_below_drewN)) hb); clear hb HB; have HB := HB1; clear HB1) | (go_at_call 43; refine (ahead_any _ i _ _ (by go_simp)).mono ?_; rintro e wB ⟨rfl, hb⟩; obtain ⟨hcB, hfB⟩ := bcell hb; have hzB : wr.heap.size + 1 < wB.heap.size := (by have := hb.size; (try simp at this); omega); have hxB : wr.heap.size < wB.heap.size := (by omega); have HK1 := Aside0.mk (blk_below (g := w.heap.size) (by repeat (first | exact HK.out | apply blk_alloc | apply blk_drew | apply blk_drewN)) hb); clear HK; have HK := HK1; clear HK1; have HB1 := Aside0.mk (below_step (by repeat (first | exact HB.out | apply below_alloc | apply below_drew | apply pw_below_drewN)) hb); clear hb HB; have HB := HB1; clear HB1))
            go_roundg (gk - 1)
            case measure => omega
            case rel => exact ⟨i + 1, rfl, by go_num, ⟨by omega⟩, ⟨forall_snoc HN.out (by rw [← HX.out]; exact hE.out)⟩, HK, HB⟩
      · subst h
        cases h1 : aheadB i xa
        · have hE : Aside0 (nodeE l ⟨9, col, ⟨vk, vi, vs, vb⟩, xa, xb⟩ i = 5) := ⟨by unfold nodeE; simp [e, h1]⟩
          go_wp2_with (first | (go_at_call 16; refine (needs_any _ _).mono ?_; rintro e wA ⟨rfl, hb⟩; obtain ⟨hcA, hfA⟩ := bcell hb; have hzA : wr.heap.size + 1 < wA.heap.size := (by have := hb.size; (try simp at this); omega); have hyA : w.heap.size < wA.heap.size := (by omega); have hxA : wr.heap.size < wA.heap.size := (by omega); have HK1 := Aside0.mk (blk_below (g := w.heap.size) (by repeat (first | exact HK.out | apply blk_alloc | apply blk_drew | apply blk_drewN)) hb); clear HK; have HK := HK1; clear HK1; have HB1 := Aside0.mk (below_step (by repeat (first | exact HB.out | apply below_alloc | apply below_drew | apply pw_below_drewN)) hb); clear hb HB; have HB := HB1; clear HB1) | (go_at_call 43; refine (ahead_any _ i _ _ (by go_simp)).mono ?_; rintro e wB ⟨rfl, hb⟩; obtain ⟨hcB, hfB⟩ := bcell hb; have hzB : wr.heap.size + 1 < wB.heap.size := (by have := hb.size; (try simp at this); omega); have hxB : wr.heap.size < wB.heap.size := (by omega); have HK1 := Aside0.mk (blk_below (g := w.heap.size) (by repeat (first | exact HK.out | apply blk_alloc | apply blk_drew | apply blk_drewN)) hb); clear HK; have HK := HK1; clear HK1; have HB1 := Aside0.mk (below_step (by repeat (first | exact HB.out | apply below_alloc | apply below_drew | apply pw_below_drewN)) hb); clear hb HB; have HB := HB1; clear HB1))
          try rw [Exit.noGoto_ret]
          go_ret
          refine ⟨?_, (by repeat (first | exact HB.out | apply below_alloc | apply below_drew | apply pw_below_drewN))⟩
          rw [hfin.out (by rw [hE.out]; decide), hE.out]
          rfl
        · cases h2 : aheadB i xb
          · have hE : Aside0 (nodeE l ⟨9, col, ⟨vk, vi, vs, vb⟩, xa, xb⟩ i = 5) := ⟨by unfold nodeE; simp [e, h1, h2]⟩
            go_wp2_with (first | (go_at_call 16; refine (needs_any _ _).mono ?_; rintro e wA ⟨rfl, hb⟩; obtain ⟨hcA, hfA⟩ := bcell hb; have hzA : wr.heap.size + 1 < wA.heap.size := (by have := hb.size; (try simp at this); omega); have hyA : w.heap.size < wA.heap.size := (by omega); have hxA : wr.heap.size < wA.heap.size := (by omega); have HK1 := Aside0.mk (blk_below (g := w.heap.size) (by repeat (first | exact HK.out | apply blk_alloc | apply blk_drew | apply blk_drewN)) hb); clear HK; have HK := HK1; clear HK1; have HB1 := Aside0.mk (below_step (by repeat (first | exact HB.out | apply below_alloc | apply below_drew | apply pw_below_drewN)) hb); clear hb HB; have HB := HB1; clear HB1) | (go_at_call 43; refine (ahead_any _ i _ _ (by go_simp)).mono ?_; rintro e wB ⟨rfl, hb⟩; obtain ⟨hcB, hfB⟩ := bcell hb; have hzB : wr.heap.size + 1 < wB.heap.size := (by have := hb.size; (try simp at this); omega); have hxB : wr.heap.size < wB.heap.size := (by omega); have HK1 := Aside0.mk (blk_below (g := w.heap.size) (by repeat (first | exact HK.out | apply blk_alloc | apply blk_drew | apply blk_drewN)) hb); clear HK; have HK := HK1; clear HK1; have HB1 := Aside0.mk (below_step (by repeat (first | exact HB.out | apply below_alloc | apply below_drew | apply pw_below_drewN)) hb); clear hb HB; have HB := HB1; clear HB1))
            try rw [Exit.noGoto_ret]
            go_ret
            refine ⟨?_, (by repeat (first | exact HB.out | apply below_alloc | apply below_drew | apply pw_below_drewN))⟩
            rw [hfin.out (by rw [hE.out]; decide), hE.out]
            rfl
          · have hE : Aside0 (nodeE l ⟨9, col, ⟨vk, vi, vs, vb⟩, xa, xb⟩ i = 0) := ⟨by unfold nodeE; simp [e, h1, h2]⟩
            go_wp2_with (first | (go_at_call 16; refine (needs_any _ _).mono ?_; rintro e wA ⟨rfl, hb⟩; obtain ⟨hcA, hfA⟩ := bcell hb; have hzA : wr.heap.size + 1 < wA.heap.size := (by have := hb.size; (try simp at this); omega); have hyA : w.heap.size < wA.heap.size := (by omega); have hxA : wr.heap.size < wA.heap.size := (by omega); have HK1 := Aside0.mk (blk_below (g := w.heap.size) (by repeat (first | exact HK.out | apply blk_alloc | apply blk_drew | apply blk_drewN)) hb); clear HK; have HK := HK1; clear HK1; have HB1 := Aside0.mk (below_step (by repeat (first | exact HB.out | apply below_alloc | apply below_drew | apply pw_below_drewN)) hb); clear hb HB; have HB := HB1; clear HB1) | (go_at_call 43; refine (ahead_any _ i _ _ (by go_simp)).mono ?_; rintro e wB ⟨rfl, hb⟩; obtain ⟨hcB, hfB⟩ := bcell hb; have hzB : wr.heap.size + 1 < wB.heap.size := (by have := hb.size; (try simp at this); omega); have hxB : wr.heap.size < wB.heap.size := (by omega); have HK1 := Aside0.mk (blk_below (g := w.heap.size) (by repeat (first | exact HK.out | apply blk_alloc | apply blk_drew | apply blk_drewN)) hb); clear HK; have HK := HK1; clear HK1; have HB1 := Aside0.mk (below_step (by repeat (first | exact HB.out | apply below_alloc | apply below_drew | apply pw_below_drewN)) hb); clear hb HB; have HB := HB1; clear HB1))
            go_roundg (gk - 1)
            case measure => omega
            case rel => exact ⟨i + 1, rfl, by go_num, ⟨by omega⟩, ⟨forall_snoc HN.out (by rw [← HX.out]; exact hE.out)⟩, HK, HB⟩
      · subst h
        cases h1 : aheadB i xa
        · have hE : Aside0 (nodeE l ⟨10, col, ⟨vk, vi, vs, vb⟩, xa, xb⟩ i = 5) := ⟨by unfold nodeE; simp [e, h1]⟩
          go_wp2_with (first | (go_at_call 16; refine (needs_any _ _).mono ?_; rintro e wA ⟨rfl, hb⟩; obtain ⟨hcA, hfA⟩ := bcell hb; have hzA : wr.heap.size + 1 < wA.heap.size := (by have := hb.size; (try simp at this); omega); have hyA : w.heap.size < wA.heap.size := (by omega); have hxA : wr.heap.size < wA.heap.size := (by omega); have HK1 := Aside0.mk (blk_below (g := w.heap.size) (by repeat (first | exact HK.out | apply blk_alloc | apply blk_drew | apply blk_drewN)) hb); clear HK; have HK := HK1; clear HK1; have HB1 := Aside0.mk (below_step (by repeat (first | exact HB.out | apply below_alloc | apply below_drew | apply pw_below_drewN)) hb); clear hb HB; have HB := HB1; clear HB1) | (go_at_call 43; refine (ahead_any _ i _ _ (by go_simp)).mono ?_; rintro e wB ⟨rfl, hb⟩; obtain ⟨hcB, hfB⟩ := bcell hb; have hzB : wr.heap.size + 1 < wB.heap.size := (by have := hb.size; (try simp at this); omega); have hxB : wr.heap.size < wB.heap.size := (by omega); have HK1 := Aside0.mk (blk_below (g := w.heap.size) (by repeat (first | exact HK.out | apply blk_alloc | apply blk_drew | apply blk_drewN)) hb); clear HK; have HK := HK1; clear HK1; have HB1 := Aside0.mk (below_step (by repeat (first | exact HB.out | apply below_alloc | apply below_drew | apply pw_below_drewN)) hb); clear hb HB; have HB := HB1; clear HB1))
          try rw [Exit.noGoto_ret]
          go_ret
          refine ⟨?_, (by repeat (first | exact HB.out | apply below_alloc | apply below_drew | apply pw_below_drewN))⟩
          rw [hfin.out (by rw [hE.out]; decide), hE.out]
          rfl
        · have hE : Aside0 (nodeE l ⟨10, col, ⟨vk, vi, vs, vb⟩, xa, xb⟩ i = 0) := ⟨by unfold nodeE; simp [e, h1]⟩
          go_wp2_with (first | (go_at_call 16; refine (needs_any _ _).mono ?_; rintro e wA ⟨rfl, hb⟩; obtain ⟨hcA, hfA⟩ := bcell hb; have hzA : wr.heap.size + 1 < wA.heap.size := (by have := hb.size; (try simp at this); omega); have hyA : w.heap.size < wA.heap.size := (by omega); have hxA : wr.heap.size < wA.heap.size := (by omega); have HK1 := Aside0.mk (blk_below (g := w.heap.size) (by repeat (first | exact HK.out | apply blk_alloc | apply blk_drew | apply blk_drewN)) hb); clear HK; have HK := HK1; clear HK1; have HB1 := Aside0.mk (below_step (by repeat (first | exact HB.out | apply below_alloc | apply below_drew | apply pw_below_drewN)) hb); clear hb HB; have HB := HB1; clear HB1) | (go_at_call 43; refine (ahead_any _ i _ _ (by go_simp)).mono ?_; rintro e wB ⟨rfl, hb⟩; obtain ⟨hcB, hfB⟩ := bcell hb; have hzB : wr.heap.size + 1 < wB.heap.size := (by have := hb.size; (try simp at this); omega); have hxB : wr.heap.size < wB.heap.size := (by omega); have HK1 := Aside0.mk (blk_below (g := w.heap.size) (by repeat (first | exact HK.out | apply blk_alloc | apply blk_drew | apply blk_drewN)) hb); clear HK; have HK := HK1; clear HK1; have HB1 := Aside0.mk (below_step (by repeat (first | exact HB.out | apply below_alloc | apply below_drew | apply pw_below_drewN)) hb); clear hb HB; have HB := HB1; clear HB1))
          go_roundg (gk - 1)
          case measure => omega
          case rel => exact ⟨i + 1, rfl, by go_num, ⟨by omega⟩, ⟨forall_snoc HN.out (by rw [← HX.out]; exact hE.out)⟩, HK, HB⟩
      · have hE : Aside0 (nodeE l ⟨ask, col, ⟨vk, vi, vs, vb⟩, xa, xb⟩ i = 1) := ⟨by unfold nodeE; simp [e]⟩
        go_wp2_with (go_at_call 16; refine (needs_any _ _).mono ?_; rintro e wA ⟨rfl, hb⟩; obtain ⟨hcA, hfA⟩ := bcell hb; have hzA : wr.heap.size + 1 < wA.heap.size := (by have := hb.size; (try simp at this); omega); have hyA : w.heap.size < wA.heap.size := (by omega); have hxA : wr.heap.size < wA.heap.size := (by omega); have HK1 := Aside0.mk (blk_below (g := w.heap.size) (by repeat (first | exact HK.out | apply blk_alloc | apply blk_drew | apply blk_drewN)) hb); clear HK; have HK := HK1; clear HK1; have HB1 := Aside0.mk (below_step (by repeat (first | exact HB.out | apply below_alloc | apply below_drew | apply pw_below_drewN)) hb); clear hb HB; have HB := HB1; clear HB1)
        try rw [Exit.noGoto_ret]
        go_ret
        refine ⟨?_, (by repeat (first | exact HB.out | apply below_alloc | apply below_drew | apply pw_below_drewN))⟩
        rw [hfin.out (by rw [hE.out]; decide), hE.out]
        rfl
      · have hE : Aside0 (nodeE l ⟨ask, col, ⟨vk, vi, vs, vb⟩, xa, xb⟩ i = 1) := ⟨by unfold nodeE; simp [e]⟩
        go_wp2_with (go_at_call 16; refine (needs_any _ _).mono ?_; rintro e wA ⟨rfl, hb⟩; obtain ⟨hcA, hfA⟩ := bcell hb; have hzA : wr.heap.size + 1 < wA.heap.size := (by have := hb.size; (try simp at this); omega); have hyA : w.heap.size < wA.heap.size := (by omega); have hxA : wr.heap.size < wA.heap.size := (by omega); have HK1 := Aside0.mk (blk_below (g := w.heap.size) (by repeat (first | exact HK.out | apply blk_alloc | apply blk_drew | apply blk_drewN)) hb); clear HK; have HK := HK1; clear HK1; have HB1 := Aside0.mk (below_step (by repeat (first | exact HB.out | apply below_alloc | apply below_drew | apply pw_below_drewN)) hb); clear hb HB; have HB := HB1; clear HB1)
        try rw [Exit.noGoto_ret]
        go_ret
        refine ⟨?_, (by repeat (first | exact HB.out | apply below_alloc | apply below_drew | apply pw_below_drewN))⟩
        rw [hfin.out (by rw [hE.out]; decide), hE.out]
        rfl
    · have hE : Aside0 (filterE l xs = 0) := ⟨firstNZ_all _ _ (fun j hj => HN.out j (by omega))⟩
      go_wp2
      try rw [Exit.noGoto_ret]
      go_ret
      refine ⟨?_, (by repeat (first | exact HB.out | apply below_alloc | apply below_drew | apply pw_below_drewN))⟩
      rw [hE.out]
      rfl
end Go.Proofs.YtfkbodhnemokjaaDoor.W
