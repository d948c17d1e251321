/- The document's answers of layers 6 and 7: name, whole, May, Few. -/
import Derived.Test.YtfkbodhnemokjaaDoorQueryF
namespace Go.Proofs.YtfkbodhnemokjaaDoor.W
open Go.RowKit Go.Shelf Go.Proofs.YtfkbodhnemokjaaDoorW.PrintWords
set_option linter.unusedVariables false
set_option linter.unusedSimpArgs false
set_option maxRecDepth 100000 in
theorem letters_iff (c : UInt8) : letters.contains c = true ↔ (97 ≤ c.toNat ∧ c.toNat ≤ 122) ∨ (48 ≤ c.toNat ∧ c.toNat ≤ 57) ∨ c.toNat = 95 := by
  rw [List.contains_iff_mem]
  have h : ∀ n : Fin 256, (UInt8.ofNat n.val) ∈ letters ↔ (97 ≤ n.val ∧ n.val ≤ 122) ∨ (48 ≤ n.val ∧ n.val ≤ 57) ∨ n.val = 95 := by decide
  have := h ⟨c.toNat, c.toNat_lt⟩
  simpa using this
set_option maxHeartbeats 2000000 in
theorem refName_any (s : ByteArray) (w : World) (hs : s.size ≤ 9223372036854775807) :
    Calls Tryd.prog 46 #[.string s] w fun e w' => e = .returned (.bool (nameB s)) ∧ Below w.heap.size w w' := by
  by_cases h1 : 1 ≤ s.size
  · by_cases h2 : s.size ≤ 16
    · have E : Aside0 (nameB s = s.data.toList.all (letters.contains ·)) := ⟨by unfold nameB; simp [h1, h2]⟩
      generalize nameB s = res at E ⊢
      go_enter Tryd.func46, Tryd.ntmps46
      go_wp2
      go_loopg [3] s.size (fun kq v w' => ∃ i : Nat, v = .int .i64 i ∧ Aside0 (i + kq = s.size) ∧ Aside0 (∀ j, j < i → letters.contains (s.data.toList.getD j 0) = true) ∧ Aside0 (Below w.heap.size w w'))
      case atStart => exact ⟨0, rfl, ⟨by omega⟩, ⟨fun j hj => absurd hj (by omega)⟩, ⟨Below.refl _ _⟩⟩
      case round =>
        obtain ⟨i, rfl, HI, HN, HB⟩ := hrel
        have hi := HI.out
        by_cases hlt : i < s.size
        · have hL := letters_iff s[i]
          have hg : s.data.toList.getD i 0 = s[i] := by rw [getD_at _ _ _ (by simpa using hlt)]; rfl
          have h255 : s[i].toNat < 256 := s[i].toNat_lt
          have HG := Aside0.mk hg
          clear hg
          rcases (show (s[i].toNat < 48 ∨ (58 ≤ s[i].toNat ∧ s[i].toNat ≤ 94) ∨ s[i].toNat = 96 ∨ 123 ≤ s[i].toNat) ∨ (48 ≤ s[i].toNat ∧ s[i].toNat ≤ 57) ∨ s[i].toNat = 95 ∨ (97 ≤ s[i].toNat ∧ s[i].toNat ≤ 122) from by omega) with h | h | h | h
          · have HF : Aside0 (res = false) := ⟨by
              rw [E.out, List.all_eq_false]
              refine ⟨s[i], ?_, fun hc => by have := hL.1 hc; omega⟩
              rw [← HG.out, getD_at _ _ _ (by simpa using hlt)]
              exact List.getElem_mem _⟩
            clear hL
            have f5 : ((s[i].toNat : Int) == 95) = false := by simp; omega
            rcases h with h | ⟨h, h'⟩ | h | h
            · have f6 : decide ((s[i].toNat : Int) ≤ 57) = true := decide_eq_true (by omega)
              go_wp2
              go_ret
              exact ⟨by (rw [HF.out]; rfl), HB.out⟩
            · have f6 : decide ((s[i].toNat : Int) ≤ 57) = false := decide_eq_false (by omega)
              go_wp2
              go_ret
              exact ⟨by (rw [HF.out]; rfl), HB.out⟩
            all_goals
              have f6 : decide ((s[i].toNat : Int) ≤ 57) = false := decide_eq_false (by omega)
              try have f7 : decide ((s[i].toNat : Int) ≤ 122) = false := decide_eq_false (by omega)
              go_wp2
              go_ret
              exact ⟨by (rw [HF.out]; rfl), HB.out⟩
          all_goals
            have HL : Aside0 (letters.contains (s.data.toList.getD i 0) = true) := ⟨by rw [HG.out]; exact hL.2 (by omega)⟩
            clear hL
          · obtain ⟨h, h'⟩ := h
            have f5 : ((s[i].toNat : Int) == 95) = false := by simp; omega
            go_wp2
            go_roundg (gk - 1)
            case measure => omega
            case rel => exact ⟨i + 1, by go_num, ⟨by omega⟩, ⟨forall_snoc HN.out HL.out⟩, HB⟩
          · have f5 : ((s[i].toNat : Int) == 95) = true := by simp; omega
            go_wp2
            go_roundg (gk - 1)
            case measure => omega
            case rel => exact ⟨i + 1, by go_num, ⟨by omega⟩, ⟨forall_snoc HN.out HL.out⟩, HB⟩
          · obtain ⟨h, h'⟩ := h
            have f5 : ((s[i].toNat : Int) == 95) = false := by simp; omega
            go_wp2
            go_roundg (gk - 1)
            case measure => omega
            case rel => exact ⟨i + 1, by go_num, ⟨by omega⟩, ⟨forall_snoc HN.out HL.out⟩, HB⟩
        · have HF : Aside0 (res = true) := ⟨by
            rw [E.out, List.all_eq_true]
            intro x hx
            obtain ⟨j, hj, rfl⟩ := List.getElem_of_mem hx
            rw [← getD_at _ 0 j hj]
            exact HN.out j (by have : s.data.toList.length = s.size := rfl; omega)⟩
          go_wp2
          go_ret
          exact ⟨by (rw [HF.out]; rfl), HB.out⟩
    · have hn : nameB s = false := by unfold nameB; simp [h2]
      rw [hn]; clear hn
      go_enter Tryd.func46, Tryd.ntmps46
      go_wp2
      go_ret
      exact ⟨rfl, Below.refl _ _⟩
  · have hn : nameB s = false := by unfold nameB; simp [h1]
    rw [hn]; clear hn
    go_enter Tryd.func46, Tryd.ntmps46
    go_wp2
    go_ret
    exact ⟨rfl, Below.refl _ _⟩
/-! ### whole -/
set_option maxHeartbeats 1000000 in
theorem whole_any (A : Option Addr) (c : Nat) (l : List Col) (a1 a2 a3 a4 i : Int) (w : World) (hr : Kd.C kdCol w A l.length l) (hc : l.length ≤ c) :
    Calls Tryd.prog 47 #[.agg #[.slice A l.length c, .int .i64 a1, .int .i64 a2, .int .i64 a3, .int .i64 a4], .int .i64 i] w fun e w' => e = .returned (.bool (ofB l i 0)) ∧ Below w.heap.size w w' := by
  have hu := Tryd.underlying24
  have hu2 := Tryd.underlying45
  by_cases h0 : 0 ≤ i
  · by_cases h1 : i < l.length
    · obtain ⟨n, rfl⟩ := Int.eq_ofNat_of_zero_le h0
      obtain ⟨ad, hA, c0, c1, c2⟩ := atCol (Kd.C_below hr (below_alloc (Below.refl w.heap.size w) (.cells #[.slice A l.length c, .int .i64 a1, .int .i64 a2, .int .i64 a3, .int .i64 a4] 24))) n (by omega)
      subst hA
      have hn : n < l.length := by omega
      have e : ofB l n 0 = (!(rdCol l n).null) := by unfold ofB; simp [hn]
      rw [e]; clear e hr h0 h1
      cases h2 : (rdCol l n).null
      all_goals
        go_enter Tryd.func47, Tryd.ntmps47
        go_wp2
        go_ret
        exact ⟨rfl, below_alloc (Below.refl _ _) _⟩
    · have e : ofB l i 0 = false := by unfold ofB; simp [h1]
      rw [e]; clear e
      go_enter Tryd.func47, Tryd.ntmps47
      go_wp2
      go_ret
      exact ⟨rfl, below_alloc (Below.refl _ _) _⟩
  · have e : ofB l i 0 = false := by unfold ofB; simp [h0]
    rw [e]; clear e
    go_enter Tryd.func47, Tryd.ntmps47
    go_wp2
    go_ret
    exact ⟨rfl, below_alloc (Below.refl _ _) _⟩
/-! ### winnowerref06.May -/
set_option maxHeartbeats 2000000 in
set_option maxRecDepth 100000 in
theorem refMayV_any (v : Val) (w : World) :
    Calls Tryd.prog 48 #[v.v] w fun e w' => e = .returned (.bool (mayV v)) ∧ Below w.heap.size w w' := by
  have hu := Tryd.underlying47
  have HB := Aside0.mk (Below.refl w.heap.size w)
  obtain ⟨kd, i, s, b⟩ := v
  show Calls Tryd.prog 48 #[.agg #[.int .i64 kd, .int .i64 i, .string s, .bool b]] w _
  have E : Aside0 (mayV ⟨kd, i, s, b⟩ = if kd = 1 then s.toList == [] && !b else if kd = 2 then decide (s.size ≤ 64) && (i == 0 && !b) else if kd = 3 then i == 0 && s.toList == [] else if kd = 0 then i == 0 && (s.toList == [] && !b) else false) := ⟨rfl⟩
  generalize mayV ⟨kd, i, s, b⟩ = res at E ⊢
  cases h1 : (i == 0) <;> cases h2 : (s.toList == []) <;> cases b
  all_goals
    have H1 := Aside0.mk h1
    have H2 := Aside0.mk h2
    rcases (show kd = 0 ∨ kd = 1 ∨ (kd = 2 ∧ s.size ≤ 64) ∨ (kd = 2 ∧ ¬ s.size ≤ 64) ∨ kd = 3 ∨ (kd < 0 ∨ 3 < kd) from by omega) with rfl | rfl | ⟨rfl, h⟩ | ⟨rfl, h⟩ | rfl | h
  all_goals
    try have H0 : Aside0 (kd ≠ 0 ∧ kd ≠ 1 ∧ kd ≠ 2 ∧ kd ≠ 3) := ⟨by omega⟩
    try rw [h1] at E
    rw [h2] at E
    try rw [if_neg H0.out.1, if_neg H0.out.2.1, if_neg H0.out.2.2.1, if_neg H0.out.2.2.2] at E
    try (rw [show decide (s.size ≤ 64) = true from decide_eq_true h] at E; have f : decide ((s.size : Int) ≤ 64) = true := decide_eq_true (by omega))
    try (rw [show decide (s.size ≤ 64) = false from decide_eq_false h] at E; have f : decide ((s.size : Int) ≤ 64) = false := decide_eq_false (by omega))
    go_enter Tryd.func48, Tryd.ntmps48
    go_wp2
    go_ret
    exact ⟨by rw [E.out]; rfl, (by repeat (first | exact HB.out | apply below_alloc | apply below_drew | apply pw_below_drewN))⟩
end Go.Proofs.YtfkbodhnemokjaaDoor.W
