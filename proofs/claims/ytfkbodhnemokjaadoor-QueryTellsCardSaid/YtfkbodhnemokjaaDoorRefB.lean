/- The document's answer of layer 7: May, Few. -/
import Derived.Test.YtfkbodhnemokjaaDoorRefA
namespace Go.Proofs.YtfkbodhnemokjaaDoor.W
open Go.RowKit Go.Shelf Go.Proofs.YtfkbodhnemokjaaDoorW.PrintWords
set_option linter.unusedVariables false
set_option linter.unusedSimpArgs false
theorem ofB_split (l : List Col) (i k : Int) (hk : (k == 0) = false) : ofB l i k = (ofB l i 0 && ((rdCol l i.toNat).kind == k)) := by
  unfold ofB
  rw [hk]
  simp [Bool.and_assoc]
theorem ofB_at {l : List Col} {i : Int} (h : ofB l i 0 = true) : ∃ n : Nat, i = n ∧ n < l.length := by
  unfold ofB at h
  simp only [Bool.and_eq_true, decide_eq_true_eq] at h
  obtain ⟨n, rfl⟩ := Int.eq_ofNat_of_zero_le h.1
  exact ⟨n, rfl, by omega⟩
set_option maxHeartbeats 8000000 in
set_option maxRecDepth 100000 in
theorem refMay_any (A : Option Addr) (c : Nat) (l : List Col) (key cmp del so : Int) (w : World) (hr : Kd.C kdCol w A l.length l) (hl : l.length ≤ c) (hs : ∀ x, x ∈ l → x.name.size ≤ 9223372036854775807) :
    Calls Tryd.prog 32 #[.agg #[.slice A l.length c, .int .i64 key, .int .i64 cmp, .int .i64 del, .int .i64 so]] w fun e w' => e = .returned (.bool (mayB l key cmp del so)) ∧ Below w.heap.size w w' := by
  have hu := Tryd.underlying24
  have hu2 := Tryd.underlying45
  have HS := Aside0.mk hs
  have HR := Aside0.mk hr
  have hm := hr.2.1
  clear hr hs
  by_cases hbad : l.length < 1 ∨ 8 < l.length ∨ so < -1 ∨ (l.length : Int) ≤ so
  · have HE : Aside0 (mayB l key cmp del so = false) := ⟨by
      unfold mayB
      by_cases g1 : 1 ≤ l.length <;> by_cases g2 : l.length ≤ 8 <;> by_cases g3 : -1 ≤ so <;> by_cases g4 : so < l.length <;> first | (exfalso; omega) | simp [g1, g2, g3, g4]⟩
    have HB := Aside0.mk (Below.refl w.heap.size w)
    rcases (show l.length < 1 ∨ (1 ≤ l.length ∧ 8 < l.length) ∨ (1 ≤ l.length ∧ l.length ≤ 8 ∧ so < -1) ∨ (1 ≤ l.length ∧ l.length ≤ 8 ∧ -1 ≤ so ∧ (l.length : Int) ≤ so) from by omega) with h | ⟨h1, h⟩ | ⟨h1, h2, h⟩ | ⟨h1, h2, h3, h⟩
    all_goals
      clear hbad
      go_enter Tryd.func32, Tryd.ntmps32
      go_wp2
      go_ret
      exact ⟨by rw [HE.out]; rfl, (by repeat (first | exact HB.out | apply below_alloc | apply below_drew | apply pw_below_drewN))⟩
  · have g1 : 1 ≤ l.length := by omega
    have g2 : l.length ≤ 8 := by omega
    have g3 : -1 ≤ so := by omega
    have g4 : so < l.length := by omega
    clear hbad
    go_enter Tryd.func32, Tryd.ntmps32
    go_wp2
    go_loopg [3] l.length (fun kq v w' => ∃ i : Nat, v = .int .i64 i ∧ Aside0 (i + kq = l.length) ∧ Aside0 (∀ j, j < i → colOk l j) ∧ Aside0 (w'.heap[w.heap.size]? = some (.cells #[.slice A l.length c, .int .i64 key, .int .i64 cmp, .int .i64 del, .int .i64 so] 24 (0, 0))) ∧ Aside0 (Below w.heap.size w w'))
    case atStart => exact ⟨0, rfl, ⟨by omega⟩, ⟨fun j hj => absurd hj (by omega)⟩, ⟨blk_new _ _⟩, ⟨below_alloc (Below.refl _ _) _⟩⟩
    case round =>
      obtain ⟨i, rfl, HI, HN, HK, HB⟩ := hrel
      have hi := HI.out
      have hz := blk_lt HK.out
      by_cases hlt : i < l.length
      · obtain ⟨ad, hA, c0, c1, c2⟩ := atCol (Kd.C_below HR.out HB.out) i hlt
        subst hA
        obtain ⟨k0, k1, k2, k3, k4⟩ := cells5 HK.out
        have HSi := Aside0.mk (HS.out (rdCol l i) (by unfold rdCol; rw [getD_at _ _ _ hlt]; exact List.getElem_mem hlt))
        cases h1 : nameB (rdCol l i).name
        · go_wp2_with (go_at_call 46; refine (refName_any _ _ HSi.out).mono ?_; rintro e w1 ⟨rfl, hb⟩; obtain ⟨hc, hf⟩ := bcell hb; have hz : w.heap.size < w1.heap.size := (by have := hb.size; (try simp at this); omega); have hz2 : wr.heap.size < w1.heap.size := (by have := hb.size; (try simp at this); omega); have HB1 := Aside0.mk (below_step (by repeat (first | exact HB.out | apply below_alloc | apply below_drew | apply pw_below_drewN)) hb); clear hb HB; have HB := HB1; clear HB1)
          go_ret
          exact ⟨by rw [colOk_false l i hlt (fun h => by have h9 := h.1; rw [h1] at h9; cases h9)]; rfl, (by repeat (first | exact HB.out | apply below_alloc | apply below_drew | apply pw_below_drewN))⟩
        · by_cases h2 : (rdCol l i).kind < 1
          · go_wp2_with (go_at_call 46; refine (refName_any _ _ HSi.out).mono ?_; rintro e w1 ⟨rfl, hb⟩; obtain ⟨hc, hf⟩ := bcell hb; have hz : w.heap.size < w1.heap.size := (by have := hb.size; (try simp at this); omega); have hz2 : wr.heap.size < w1.heap.size := (by have := hb.size; (try simp at this); omega); have HB1 := Aside0.mk (below_step (by repeat (first | exact HB.out | apply below_alloc | apply below_drew | apply pw_below_drewN)) hb); clear hb HB; have HB := HB1; clear HB1)
            go_ret
            exact ⟨by rw [colOk_false l i hlt (fun h => by have := h.2.1; omega)]; rfl, (by repeat (first | exact HB.out | apply below_alloc | apply below_drew | apply pw_below_drewN))⟩
          · by_cases h3 : 3 < (rdCol l i).kind
            · go_wp2_with (go_at_call 46; refine (refName_any _ _ HSi.out).mono ?_; rintro e w1 ⟨rfl, hb⟩; obtain ⟨hc, hf⟩ := bcell hb; have hz : w.heap.size < w1.heap.size := (by have := hb.size; (try simp at this); omega); have hz2 : wr.heap.size < w1.heap.size := (by have := hb.size; (try simp at this); omega); have HB1 := Aside0.mk (below_step (by repeat (first | exact HB.out | apply below_alloc | apply below_drew | apply pw_below_drewN)) hb); clear hb HB; have HB := HB1; clear HB1)
              go_ret
              exact ⟨by rw [colOk_false l i hlt (fun h => by have := h.2.2.1; omega)]; rfl, (by repeat (first | exact HB.out | apply below_alloc | apply below_drew | apply pw_below_drewN))⟩
            · go_wp2_with (go_at_call 46; refine (refName_any _ _ HSi.out).mono ?_; rintro e w1 ⟨rfl, hb⟩; obtain ⟨hc, hf⟩ := bcell hb; have hz : w.heap.size < w1.heap.size := (by have := hb.size; (try simp at this); omega); have hz2 : wr.heap.size < w1.heap.size := (by have := hb.size; (try simp at this); omega); have HK1 := Aside0.mk (blk_below (g := w.heap.size) (by repeat (first | exact HK.out | apply blk_alloc | apply blk_drew | apply blk_drewN)) hb); clear HK; have HK := HK1; clear HK1; have HN5 : Aside0 (w1.cell? ⟨wr.heap.size, 0, none⟩ = some (.string (rdCol l i).name)) := ⟨(hc _ _ (by simp)).trans (by go_simp)⟩; have HB1 := Aside0.mk (below_step (by repeat (first | exact HB.out | apply below_alloc | apply below_drew | apply pw_below_drewN)) hb); clear hb HB; have HB := HB1; clear HB1)
              clear k0 k1 k2 k3 k4 c0 c1 c2 hc hf hz2
              go_loopg [5] i (fun kq v w' => ∃ j : Nat, v = .int .i64 j ∧ Aside0 (j + kq = i) ∧ Aside0 (∀ m, m < j → (rdCol l m).name.toList ≠ (rdCol l i).name.toList) ∧ Aside0 (∃ n, w' = w1.drewN n))
              case atStart => exact ⟨0, rfl, ⟨by omega⟩, ⟨fun j hj => absurd hj (by omega)⟩, ⟨0, rfl⟩⟩
              case round =>
                obtain ⟨j, rfl, HJ, HM, HW⟩ := hrel
                have HB0 := HB
                have HK0 := HK
                have HN0 := HN5
                have hw1 : ∃ W, W = w1.drewN 0 := ⟨_, rfl⟩
                have HB := Aside0.mk (show Below w.heap.size w wr by obtain ⟨n, hn⟩ := HW.out; rw [hn]; exact pw_below_drewN HB0.out n)
                have HK := Aside0.mk (show wr.heap[w.heap.size]? = _ by obtain ⟨n, hn⟩ := HW.out; rw [hn]; exact HK0.out)
                have HN5 : Aside0 (wr.cell? ⟨_, 0, none⟩ = some (.string (rdCol l i).name)) := ⟨by obtain ⟨n, hn⟩ := HW.out; rw [hn]; exact HN0.out⟩
                have hj := HJ.out
                obtain ⟨k0, k1, k2, k3, k4⟩ := cells5 HK.out
                have n5 := HN5.out
                by_cases hjl : j < i
                · obtain ⟨ad', hA', c0, c1, c2⟩ := atCol (Kd.C_below HR.out HB.out) j (by omega)
                  cases hA'
                  have hjl2 : j < l.length := by omega
                  cases heq : ((rdCol l j).name.toList == (rdCol l i).name.toList)
                  · go_wp2
                    go_quiet (fail)
                    go_wp2
                    go_roundg (gk - 1)
                    case measure => omega
                    case rel => exact ⟨j + 1, by go_num, ⟨by omega⟩, ⟨forall_snoc HM.out (by simpa using heq)⟩, ⟨by obtain ⟨n, hn⟩ := HW.out; rw [hn]; exact ⟨n + nq, World.drewN_drewN _ _ _⟩⟩⟩
                  · go_wp2
                    go_quiet (fail)
                    go_wp2
                    go_ret
                    exact ⟨by rw [colOk_false l i hlt (fun h => h.2.2.2 j hjl (by simpa using heq))]; rfl, (by repeat (first | exact HB.out | apply below_alloc | apply below_drew | apply pw_below_drewN))⟩
                · obtain rfl : j = i := by omega
                  go_wp2
                  go_roundg (l.length - j - 1)
                  case measure => omega
                  case rel => exact ⟨j + 1, by go_num, ⟨by omega⟩, ⟨forall_snoc HN.out ⟨h1, by omega, by omega, HM.out⟩⟩, HK, HB⟩
      · have hco : colsOk l := fun j hj => HN.out j (by omega)
        obtain ⟨k0, k1, k2, k3, k4⟩ := cells5 HK.out
        have HE : Aside0 (mayB l key cmp del so = keyedB l key cmp del) := ⟨by unfold mayB; simp [hco, g1, g2, g3, g4]⟩
        clear hco
        by_cases hkey : key = -1
        · have HE2 : Aside0 (mayB l key cmp del so = (cmp == -1 && del == -1)) := ⟨by rw [HE.out]; unfold keyedB; simp [hkey]⟩
          subst hkey
          cases h1 : (cmp == -1) <;> cases h2 : (del == -1)
          all_goals
            rw [h1, h2] at HE2
            go_wp2
            go_ret
            exact ⟨by rw [HE2.out]; rfl, (by repeat (first | exact HB.out | apply below_alloc | apply below_drew | apply pw_below_drewN))⟩
        · have hk1 : (key == -1) = false := by simpa using hkey
          have HE2 : Aside0 (mayB l key cmp del so = (ofB l key 0 && (ofB l cmp 1 && (del == -1 || ofB l del 3)))) := ⟨by rw [HE.out]; unfold keyedB; simp [hkey]⟩
          clear HE hkey
          cases h1 : ofB l key 0
          · rw [h1] at HE2
            go_wp2_with (go_at_call 47; refine (whole_any _ _ _ _ _ _ _ _ _ (Kd.C_below HR.out (by repeat (first | exact HB.out | apply below_alloc | apply below_drew | apply pw_below_drewN))) hl).mono ?_; rintro e w1 ⟨rfl, hb⟩; obtain ⟨hc, hf⟩ := bcell hb; have hz : w.heap.size < w1.heap.size := (by have := hb.size; (try simp at this); omega); have HB1 := Aside0.mk (below_step (by repeat (first | exact HB.out | apply below_alloc | apply below_drew | apply pw_below_drewN)) hb); clear hb HB; have HB := HB1; clear HB1)
            go_ret
            exact ⟨by rw [HE2.out]; rfl, (by repeat (first | exact HB.out | apply below_alloc | apply below_drew | apply pw_below_drewN))⟩
          · cases h2 : ofB l cmp 0
            · have h22 : ofB l cmp 1 = false := by rw [ofB_split _ _ _ (by decide), h2]; rfl
              rw [h1, h22] at HE2
              go_wp2_with (go_at_call 47; refine (whole_any _ _ _ _ _ _ _ _ _ (Kd.C_below HR.out (by repeat (first | exact HB.out | apply below_alloc | apply below_drew | apply pw_below_drewN))) hl).mono ?_; rintro e w1 ⟨rfl, hb⟩; obtain ⟨hc, hf⟩ := bcell hb; have hz : w.heap.size < w1.heap.size := (by have := hb.size; (try simp at this); omega); have HB1 := Aside0.mk (below_step (by repeat (first | exact HB.out | apply below_alloc | apply below_drew | apply pw_below_drewN)) hb); clear hb HB; have HB := HB1; clear HB1)
              go_ret
              exact ⟨by rw [HE2.out]; rfl, (by repeat (first | exact HB.out | apply below_alloc | apply below_drew | apply pw_below_drewN))⟩
            · obtain ⟨n, rfl, hn⟩ := ofB_at h2
              obtain ⟨ad, hA, c0, c1, c2⟩ := atCol (Kd.C_below HR.out HB.out) n hn
              subst hA
              have hbl := World.block_lt_of_cell? wr _ c1
              have HKp : Aside0 (∀ W : World, Below w.heap.size w W → W.cell? ⟨(ad.add (n * 3)).block, (ad.add (n * 3)).off + 1, none⟩ = some (.int .i64 (rdCol l n).kind)) := ⟨fun W h => by
                obtain ⟨ad', hA', _, g1, _⟩ := atCol (Kd.C_below HR.out h) n hn
                cases hA'
                exact g1⟩
              clear c0 c1 c2
              have hsp := ofB_split l (n : Int) 1 (by decide)
              rw [h2] at hsp
              cases h3 : ((rdCol l n).kind == 1)
              · have h3' : ((rdCol l n).kind != 1) = true := by simpa using h3
                rw [show ((n : Int)).toNat = n from rfl, h3] at hsp
                rw [h1, hsp] at HE2
                clear hsp
                go_wp2_with (go_at_call 47; refine (whole_any _ _ _ _ _ _ _ _ _ (Kd.C_below HR.out (by repeat (first | exact HB.out | apply below_alloc | apply below_drew | apply pw_below_drewN))) hl).mono ?_; rintro e w1 ⟨rfl, hb⟩; obtain ⟨hc, hf⟩ := bcell hb; have hz : w.heap.size < w1.heap.size := (by have := hb.size; (try simp at this); omega); have HB1 := Aside0.mk (below_step (by repeat (first | exact HB.out | apply below_alloc | apply below_drew | apply pw_below_drewN)) hb); clear hb HB; have HB := HB1; clear HB1; have hkk := HKp.out _ HB.out)
                go_ret
                exact ⟨by rw [HE2.out]; rfl, (by repeat (first | exact HB.out | apply below_alloc | apply below_drew | apply pw_below_drewN))⟩
              · have h3' : ((rdCol l n).kind != 1) = false := by simpa using h3
                rw [show ((n : Int)).toNat = n from rfl, h3] at hsp
                rw [h1, hsp] at HE2
                clear hsp
                cases hd : (del == -1)
                rotate_left
                · rw [hd] at HE2
                  go_wp2_with (go_at_call 47; refine (whole_any _ _ _ _ _ _ _ _ _ (Kd.C_below HR.out (by repeat (first | exact HB.out | apply below_alloc | apply below_drew | apply pw_below_drewN))) hl).mono ?_; rintro e w1 ⟨rfl, hb⟩; obtain ⟨hc, hf⟩ := bcell hb; have hz : w.heap.size < w1.heap.size := (by have := hb.size; (try simp at this); omega); have HK1 := Aside0.mk (blk_below (g := w.heap.size) (by repeat (first | exact HK.out | apply blk_alloc | apply blk_drew | apply blk_drewN)) hb); clear HK; have HK := HK1; clear HK1; have HB1 := Aside0.mk (below_step (by repeat (first | exact HB.out | apply below_alloc | apply below_drew | apply pw_below_drewN)) hb); clear hb HB; have HB := HB1; clear HB1; have hkk := HKp.out _ HB.out)
                  go_ret
                  exact ⟨by rw [HE2.out]; rfl, (by repeat (first | exact HB.out | apply below_alloc | apply below_drew | apply pw_below_drewN))⟩
                · rw [hd] at HE2
                  cases h5 : ofB l del 0
                  · have h52 : ofB l del 3 = false := by rw [ofB_split _ _ _ (by decide), h5]; rfl
                    rw [h52] at HE2
                    go_wp2_with (go_at_call 47; refine (whole_any _ _ _ _ _ _ _ _ _ (Kd.C_below HR.out (by repeat (first | exact HB.out | apply below_alloc | apply below_drew | apply pw_below_drewN))) hl).mono ?_; rintro e w1 ⟨rfl, hb⟩; obtain ⟨hc, hf⟩ := bcell hb; have hz : w.heap.size < w1.heap.size := (by have := hb.size; (try simp at this); omega); have HK1 := Aside0.mk (blk_below (g := w.heap.size) (by repeat (first | exact HK.out | apply blk_alloc | apply blk_drew | apply blk_drewN)) hb); clear HK; have HK := HK1; clear HK1; have HB1 := Aside0.mk (below_step (by repeat (first | exact HB.out | apply below_alloc | apply below_drew | apply pw_below_drewN)) hb); clear hb HB; have HB := HB1; clear HB1; have hkk := HKp.out _ HB.out)
                    go_ret
                    exact ⟨by rw [HE2.out]; rfl, (by repeat (first | exact HB.out | apply below_alloc | apply below_drew | apply pw_below_drewN))⟩
                  · obtain ⟨m, rfl, hm⟩ := ofB_at h5
                    have HKm : Aside0 (∀ W : World, Below w.heap.size w W → W.cell? ⟨(ad.add (m * 3)).block, (ad.add (m * 3)).off + 1, none⟩ = some (.int .i64 (rdCol l m).kind)) := ⟨fun W h => by
                      obtain ⟨ad', hA', _, g1, _⟩ := atCol (Kd.C_below HR.out h) m hm
                      cases hA'
                      exact g1⟩
                    have hsp := ofB_split l (m : Int) 3 (by decide)
                    rw [h5, show ((m : Int)).toNat = m from rfl] at hsp
                    rw [hsp] at HE2
                    clear hsp
                    cases h6 : ((rdCol l m).kind == 3)
                    all_goals
                      rw [h6] at HE2
                      go_wp2_with (go_at_call 47; refine (whole_any _ _ _ _ _ _ _ _ _ (Kd.C_below HR.out (by repeat (first | exact HB.out | apply below_alloc | apply below_drew | apply pw_below_drewN))) hl).mono ?_; rintro e w1 ⟨rfl, hb⟩; obtain ⟨hc, hf⟩ := bcell hb; have hz : w.heap.size < w1.heap.size := (by have := hb.size; (try simp at this); omega); have HK1 := Aside0.mk (blk_below (g := w.heap.size) (by repeat (first | exact HK.out | apply blk_alloc | apply blk_drew | apply blk_drewN)) hb); clear HK; have HK := HK1; clear HK1; have HB1 := Aside0.mk (below_step (by repeat (first | exact HB.out | apply below_alloc | apply below_drew | apply pw_below_drewN)) hb); clear hb HB; have HB := HB1; clear HB1; have hkk := HKp.out _ HB.out; have hkm := HKm.out _ HB.out)
                      go_ret
                      exact ⟨by rw [HE2.out]; rfl, (by repeat (first | exact HB.out | apply below_alloc | apply below_drew | apply pw_below_drewN))⟩
def fewB (l : List Col) : Bool := decide (l.length ≤ 12) && l.all fun x => decide (x.name.size ≤ 100)
set_option maxHeartbeats 2000000 in
set_option maxRecDepth 100000 in
theorem fewS_any (A : Option Addr) (c : Nat) (l : List Col) (key cmp del so : Int) (w : World) (hr : Kd.C kdCol w A l.length l) (hl : l.length ≤ c) :
    Calls Tryd.prog 5 #[.agg #[.slice A l.length c, .int .i64 key, .int .i64 cmp, .int .i64 del, .int .i64 so]] w fun e w' => e = .returned (.bool (fewB l)) ∧ Below w.heap.size w w' := by
  have hu := Tryd.underlying24
  have hu2 := Tryd.underlying45
  have HR := Aside0.mk hr
  have hm := hr.2.1
  clear hr
  by_cases hlong : 12 < l.length
  · have e : fewB l = false := by unfold fewB; simp [show ¬ l.length ≤ 12 by omega]
    rw [e]; clear e
    go_enter Tryd.func5, Tryd.ntmps5
    go_wp2
    go_ret
    exact ⟨rfl, below_alloc (Below.refl _ _) _⟩
  · have HE : Aside0 (fewB l = l.all fun x => decide (x.name.size ≤ 100)) := ⟨by unfold fewB; simp [show l.length ≤ 12 by omega]⟩
    go_enter Tryd.func5, Tryd.ntmps5
    go_wp2
    go_loopg [3] l.length (fun kq v w' => ∃ i : Nat, v = .int .i64 i ∧ Aside0 (i + kq = l.length) ∧ Aside0 (∀ j, j < i → decide ((rdCol l j).name.size ≤ 100) = true) ∧ Aside0 (w'.heap[w.heap.size]? = some (.cells #[.slice A l.length c, .int .i64 key, .int .i64 cmp, .int .i64 del, .int .i64 so] 24 (0, 0))) ∧ Aside0 (Below w.heap.size w w'))
    case atStart => exact ⟨0, rfl, ⟨by omega⟩, ⟨fun j hj => absurd hj (by omega)⟩, ⟨blk_new _ _⟩, ⟨below_alloc (Below.refl _ _) _⟩⟩
    case round =>
      obtain ⟨i, rfl, HI, HN, HK, HB⟩ := hrel
      have hi := HI.out
      have hz := blk_lt HK.out
      obtain ⟨k0, k1, k2, k3, k4⟩ := cells5 HK.out
      by_cases hlt : i < l.length
      · obtain ⟨ad, hA, c0, c1, c2⟩ := atCol (Kd.C_below HR.out HB.out) i hlt
        subst hA
        by_cases hn : 100 < (rdCol l i).name.size
        · have HF : Aside0 (fewB l = false) := ⟨by
            rw [HE.out, List.all_eq_false]
            refine ⟨l[i], List.getElem_mem _, ?_⟩
            rw [← getD_at l zCol i hlt]
            simpa [rdCol] using hn⟩
          go_wp2
          go_ret
          exact ⟨by rw [HF.out]; rfl, (by repeat (first | exact HB.out | apply below_alloc | apply below_drew | apply pw_below_drewN))⟩
        · go_wp2
          go_roundg (gk - 1)
          case measure => omega
          case rel => exact ⟨i + 1, by go_num, ⟨by omega⟩, ⟨forall_snoc HN.out (decide_eq_true (by omega))⟩, HK, HB⟩
      · have HF : Aside0 (fewB l = true) := ⟨by
          rw [HE.out, List.all_eq_true]
          intro x hx
          obtain ⟨j, hj, rfl⟩ := List.getElem_of_mem hx
          rw [← getD_at l zCol j hj]
          exact HN.out j (by omega)⟩
        go_wp2
        go_ret
        exact ⟨by rw [HF.out]; rfl, (by repeat (first | exact HB.out | apply below_alloc | apply below_drew | apply pw_below_drewN))⟩
end Go.Proofs.YtfkbodhnemokjaaDoor.W
