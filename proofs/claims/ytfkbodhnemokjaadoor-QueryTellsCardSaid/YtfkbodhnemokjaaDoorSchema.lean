/- Package schema: name, Find, of, keyed and May come to plain functions. -/
import Derived.Test.YtfkbodhnemokjaaDoorKinds
import Derived.Test.YtfkbodhnemokjaaDoorShelf
namespace Go.Proofs.YtfkbodhnemokjaaDoor.W
open Go.RowKit Go.Shelf Go.Lib Go.Proofs.YtfkbodhnemokjaaDoorW.PrintWords
set_option linter.unusedVariables false
set_option linter.unusedSimpArgs false

/-! ### plain -/
def letters : List UInt8 := [97, 98, 99, 100, 101, 102, 103, 104, 105, 106, 107, 108, 109, 110, 111, 112, 113, 114, 115, 116, 117, 118, 119, 120, 121, 122, 48, 49, 50, 51, 52, 53, 54, 55, 56, 57, 95]
def nameB (s : ByteArray) : Bool := decide (1 ≤ s.size) && (decide (s.size ≤ 16) && s.data.toList.all (letters.contains ·))
theorem dropW_nil {α : Type} (p : α → Bool) (r : List α) (h : ∀ x, x ∈ r.dropWhile p → p x = true) : r.dropWhile p = [] := by
  induction r with
  | nil => rfl
  | cons a t ih =>
    by_cases hp : p a = true
    · rw [List.dropWhile_cons_of_pos hp] at h ⊢; exact ih h
    · rw [List.dropWhile_cons_of_neg hp] at h; exact absurd (h a (List.mem_cons_self)) hp
theorem dropW_all {α : Type} (p : α → Bool) (r : List α) : r.dropWhile p = [] ↔ ∀ x, x ∈ r → p x = true := by
  induction r with
  | nil => simp
  | cons a t ih =>
    by_cases hp : p a = true
    · rw [List.dropWhile_cons_of_pos hp, ih]; simp [hp]
    · rw [List.dropWhile_cons_of_neg hp]; simp [hp]
theorem trimS_nil (l cs : List UInt8) : (Lib.trimS l cs == []) = l.all (cs.contains ·) := by
  rw [Bool.eq_iff_iff]
  simp only [beq_iff_eq, List.all_eq_true]
  unfold Lib.trimS Lib.trimLeftS Lib.trimRightS
  rw [dropW_all]
  constructor
  · intro h x hx
    have h2 := dropW_nil (cs.contains ·) l.reverse (fun y hy => h y (List.mem_reverse.2 hy))
    exact (dropW_all _ _).1 h2 x (List.mem_reverse.2 hx)
  · intro h
    rw [(dropW_all (cs.contains ·) l.reverse).2 (fun y hy => h y (List.mem_reverse.1 hy))]
    simp
def colOk (l : List Col) (i : Nat) : Prop := nameB (rdCol l i).name = true ∧ 1 ≤ (rdCol l i).kind ∧ (rdCol l i).kind ≤ 3 ∧ ∀ j, j < i → (rdCol l j).name.toList ≠ (rdCol l i).name.toList

/-! ### schema.name -/
set_option maxHeartbeats 1000000 in
theorem name_any (s : ByteArray) (w : World) (hs : s.size ≤ 9223372036854775807) :
    Calls Tryd.prog 40 #[.string s] w fun e w' => e = .returned (.bool (nameB s)) ∧ Below w.heap.size w w' := by
  by_cases h1 : 1 ≤ s.size
  · by_cases h2 : s.size ≤ 16
    · have hcon := Any.strings_Trim_laid Tryd.lays160 (by kernel_rfl) s ⟨#[97, 98, 99, 100, 101, 102, 103, 104, 105, 106, 107, 108, 109, 110, 111, 112, 113, 114, 115, 116, 117, 118, 119, 120, 121, 122, 48, 49, 50, 51, 52, 53, 54, 55, 56, 57, 95]⟩ w hs (by decide) (ascii_of_all (by decide))
      change Calls Tryd.prog 60 _ _ (fun e w' => e = .returned (.string ⟨(Lib.trimS s.data.toList letters).toArray⟩) ∧ Below w.heap.size w w') at hcon
      have hn : nameB s = (Lib.trimS s.data.toList letters == []) := by rw [trimS_nil]; unfold nameB; simp [h1, h2]
      rw [hn]; clear hn
      generalize Lib.trimS s.data.toList letters = r at hcon ⊢
      have HC := Aside0.mk hcon; clear hcon
      go_enter Tryd.func40, Tryd.ntmps40
      go_wp2_with fail
      refine HC.out.mono ?_
      rintro e w1 ⟨rfl, hb⟩
      have HB := Aside0.mk hb; clear hb
      go_wp2
      go_ret
      exact ⟨by cases r <;> rfl, HB.out⟩
    · have hn : nameB s = false := by unfold nameB; simp [h2]
      rw [hn]; clear hn
      go_enter Tryd.func40, Tryd.ntmps40
      go_wp2
      go_ret
      exact ⟨rfl, Below.refl _ _⟩
  · have hn : nameB s = false := by unfold nameB; simp [h1]
    rw [hn]; clear hn
    go_enter Tryd.func40, Tryd.ntmps40
    go_wp2
    go_ret
    exact ⟨rfl, Below.refl _ _⟩

/-! ### schema.Find -/
set_option maxHeartbeats 400000 in
theorem find1_any (a nm : ByteArray) (k : Int) (nl : Bool) (B : Nat) (w : World) (hB : w.cell? ⟨B, 0, none⟩ = some (.string nm)) :
    Calls Tryd.prog 62 #[.agg #[.string a, .int .i64 k, .bool nl], .pointer (some ⟨B, 0, none⟩)] w fun e w' => e = .returned (.bool (a.toList == nm.toList)) ∧ Below w.heap.size w w' := by
  have hu := Tryd.underlying45
  have hB' : ∀ o, (w.alloc o).cell? ⟨B, 0, none⟩ = some (.string nm) := fun o => pw_cell_below (below_alloc (Below.refl _ _) o) hB
  clear hB
  go_enter Tryd.func62, Tryd.ntmps62
  go_wp2
  go_ret
  exact ⟨rfl, below_alloc (Below.refl _ _) _⟩
set_option maxHeartbeats 1000000 in
theorem indexCol_any (A : Option Addr) (c : Nat) (l : List Col) (nm : ByteArray) (B : Nat) (w : World) (hr : Kd.C kdCol w A l.length l) (hc : l.length ≤ c) (hB : w.cell? ⟨B, 0, none⟩ = some (.string nm)) :
    Calls Tryd.prog 61 #[.slice A l.length c, .func (.func 62) #[] #[.pointer (some ⟨B, 0, none⟩)]] w fun e w' => e = .returned (.int .i64 (idxF (fun x => x.name.toList == nm.toList) l)) ∧ Below w.heap.size w w' := by
  have hu := Tryd.underlying45
  have HR := Aside0.mk hr
  have HX := Aside0.mk hB
  have HB := Aside0.mk (Below.refl w.heap.size w)
  have hm := hr.2.1
  clear hr hc hB
  go_enter Tryd.func61, Tryd.ntmps61
  go_wp2
  go_loopg [8] l.length (fun kq v w' => ∃ i : Nat, v = .int .i64 i ∧ Aside0 (i + kq = l.length) ∧ Aside0 (∀ j, j < i → ((rdCol l j).name.toList == nm.toList) = false) ∧ Aside0 (Below w.heap.size w w'))
  case atStart => exact ⟨0, rfl, ⟨by omega⟩, ⟨fun j hj => absurd hj (by omega)⟩, HB⟩
  case round =>
    obtain ⟨i, rfl, HI, HN, HB'⟩ := hrel
    have hi := HI.out
    by_cases hlt : i < l.length
    · obtain ⟨ad, hA, c0, c1, c2⟩ := atCol (Kd.C_below HR.out HB'.out) i hlt
      subst hA
      cases he : ((rdCol l i).name.toList == nm.toList)
      all_goals
        have HE := Aside0.mk he
        clear he
        go_wp2_with fail
        refine (find1_any _ nm _ _ B wr (pw_cell_below HB'.out HX.out)).mono ?_
        rintro e w1 ⟨rfl, hb⟩
        have HB2 := Aside0.mk (below_step HB'.out hb)
        clear hb
        rw [HE.out]
        go_wp2
      · go_roundg (gk - 1)
        case measure => omega
        case rel => exact ⟨i + 1, by go_num, ⟨by omega⟩, ⟨forall_snoc HN.out HE.out⟩, HB2⟩
      · go_ret
        refine ⟨?_, HB2.out⟩
        rw [idxF_at _ zCol l i hlt HE.out HN.out]
        rfl
    · go_wp2
      go_ret
      refine ⟨?_, HB'.out⟩
      rw [idxF_none _ zCol l (fun j hj => HN.out j (by omega))]
      rfl
def findB (l : List Col) (nm : ByteArray) : Int := idxF (fun x => x.name.toList == nm.toList) l
set_option maxHeartbeats 400000 in
theorem find_any (A : Option Addr) (c : Nat) (l : List Col) (a1 a2 a3 a4 : Int) (nm : ByteArray) (w : World) (hr : Kd.C kdCol w A l.length l) (hc : l.length ≤ c) :
    Calls Tryd.prog 41 #[.agg #[.slice A l.length c, .int .i64 a1, .int .i64 a2, .int .i64 a3, .int .i64 a4], .string nm] w fun e w' => e = .returned (.int .i64 (findB l nm)) ∧ Below w.heap.size w w' := by
  have hu := Tryd.underlying24
  have HR := Aside0.mk hr
  clear hr
  go_enter Tryd.func41, Tryd.ntmps41
  go_wp2_with fail
  refine (indexCol_any _ _ _ nm _ _ (Kd.C_below HR.out (below_alloc (below_alloc (Below.refl _ _) _) _)) hc (by go_simp)).mono ?_
  rintro e w1 ⟨rfl, hb⟩
  go_wp2
  go_ret
  exact ⟨rfl, below_step (below_alloc (below_alloc (Below.refl _ _) _) _) hb⟩

/-! ### schema.of, schema.keyed -/
def ofB (l : List Col) (i kind : Int) : Bool := decide (0 ≤ i) && (decide (i < l.length) && (!(rdCol l i.toNat).null && (kind == 0 || (rdCol l i.toNat).kind == kind)))
set_option maxHeartbeats 1000000 in
theorem of_any (A : Option Addr) (c : Nat) (l : List Col) (a1 a2 a3 a4 i kind : Int) (w : World) (hr : Kd.C kdCol w A l.length l) (hc : l.length ≤ c) :
    Calls Tryd.prog 63 #[.agg #[.slice A l.length c, .int .i64 a1, .int .i64 a2, .int .i64 a3, .int .i64 a4], .int .i64 i, .int .i64 kind] w fun e w' => e = .returned (.bool (ofB l i kind)) ∧ Below w.heap.size w w' := by
  have hu := Tryd.underlying24
  have hu2 := Tryd.underlying45
  by_cases h0 : 0 ≤ i
  · by_cases h1 : i < l.length
    · obtain ⟨n, rfl⟩ := Int.eq_ofNat_of_zero_le h0
      obtain ⟨ad, hA, c0, c1, c2⟩ := atCol (Kd.C_below hr (below_alloc (Below.refl w.heap.size w) (.cells #[.slice A l.length c, .int .i64 a1, .int .i64 a2, .int .i64 a3, .int .i64 a4] 24))) n (by omega)
      subst hA
      have hn : n < l.length := by omega
      have e : ofB l n kind = (!(rdCol l n).null && (kind == 0 || (rdCol l n).kind == kind)) := by unfold ofB; simp [hn]
      rw [e]; clear e hr h0 h1
      cases h2 : (rdCol l n).null <;> cases h3 : (kind == 0) <;> cases h4 : ((rdCol l n).kind == kind)
      all_goals
        go_enter Tryd.func63, Tryd.ntmps63
        go_wp2
        go_ret
        exact ⟨rfl, below_alloc (Below.refl _ _) _⟩
    · have e : ofB l i kind = false := by unfold ofB; simp [h1]
      rw [e]; clear e
      go_enter Tryd.func63, Tryd.ntmps63
      go_wp2
      go_ret
      exact ⟨rfl, below_alloc (Below.refl _ _) _⟩
  · have e : ofB l i kind = false := by unfold ofB; simp [h0]
    rw [e]; clear e
    go_enter Tryd.func63, Tryd.ntmps63
    go_wp2
    go_ret
    exact ⟨rfl, below_alloc (Below.refl _ _) _⟩
def keyedB (l : List Col) (key cmp del : Int) : Bool := if key = -1 then cmp == -1 && del == -1 else ofB l key 0 && (ofB l cmp 1 && (del == -1 || ofB l del 3))
set_option maxHeartbeats 2000000 in
set_option maxRecDepth 100000 in
theorem keyed_any (A : Option Addr) (c : Nat) (l : List Col) (key cmp del so : Int) (w : World) (hr : Kd.C kdCol w A l.length l) (hl : l.length ≤ c) :
    Calls Tryd.prog 42 #[.agg #[.slice A l.length c, .int .i64 key, .int .i64 cmp, .int .i64 del, .int .i64 so]] w fun e w' => e = .returned (.bool (keyedB l key cmp del)) ∧ Below w.heap.size w w' := by
  have hu := Tryd.underlying24
  have HR := Aside0.mk hr
  clear hr
  have HB := Aside0.mk (Below.refl w.heap.size w)
  by_cases h0 : key = -1
  · have e : keyedB l key cmp del = (cmp == -1 && del == -1) := by unfold keyedB; simp [h0]
    rw [e]; clear e
    cases h1 : (cmp == -1) <;> cases h2 : (del == -1)
    all_goals
      go_enter Tryd.func42, Tryd.ntmps42
      go_wp2
      go_ret
      exact ⟨rfl, (by repeat (first | exact HB.out | apply below_alloc | apply below_drew | apply pw_below_drewN))⟩
  · have e : keyedB l key cmp del = (ofB l key 0 && (ofB l cmp 1 && (del == -1 || ofB l del 3))) := by unfold keyedB; simp [h0]
    rw [e]; clear e
    cases h1 : ofB l key 0 <;> cases h2 : ofB l cmp 1 <;> cases h3 : (del == -1) <;> cases h4 : ofB l del 3
    all_goals
      go_enter Tryd.func42, Tryd.ntmps42
      go_wp2_with (go_at_call 63; refine (of_any _ _ _ _ _ _ _ _ _ _ (Kd.C_below HR.out (by repeat (first | exact HB.out | apply below_alloc | apply below_drew | apply pw_below_drewN))) hl).mono ?_; rintro e w1 ⟨rfl, hb⟩; obtain ⟨hc, hf⟩ := bcell hb; have hz : w.heap.size < w1.heap.size := (by have := hb.size; (try simp at this); omega); have HB1 := Aside0.mk (below_step (by repeat (first | exact HB.out | apply below_alloc | apply below_drew | apply pw_below_drewN)) hb); clear hb HB; have HB := HB1; clear HB1)
      go_ret
      exact ⟨rfl, (by repeat (first | exact HB.out | apply below_alloc | apply below_drew | apply pw_below_drewN))⟩

/-! ### schema.May -/
theorem findB_eq (l : List Col) (i : Nat) (hi : i < l.length) : findB l (rdCol l i).name = i ↔ ∀ j, j < i → (rdCol l j).name.toList ≠ (rdCol l i).name.toList := by
  constructor
  · intro h j hj he
    unfold findB idxF at h
    cases hf : l.findIdx? (fun x => x.name.toList == (rdCol l i).name.toList) with
    | none => rw [hf] at h; simp only at h; omega
    | some k =>
      rw [hf] at h
      simp only [Int.natCast_inj] at h
      subst h
      obtain ⟨hk, _, hn⟩ := List.findIdx?_eq_some_iff_getElem.1 hf
      have := hn j hj
      rw [← getD_at l zCol j (by omega)] at this
      exact this (by simpa [rdCol] using he)
  · intro h
    exact idxF_at _ zCol l i hi (by simp [rdCol]) (fun j hj => by simpa [rdCol] using h j hj)
def colsOk (l : List Col) : Prop := ∀ i, i < l.length → colOk l i
open Classical in
noncomputable def mayB (l : List Col) (key cmp del so : Int) : Bool := decide (colsOk l) && (decide (1 ≤ l.length) && (decide (l.length ≤ 8) && (keyedB l key cmp del && (decide (-1 ≤ so) && decide (so < l.length)))))
theorem colOk_false (l : List Col) (i : Nat) (hi : i < l.length) (h : ¬ colOk l i) (key cmp del so : Int) : mayB l key cmp del so = false := by
  have : ¬ colsOk l := fun h2 => h (h2 i hi)
  unfold mayB
  simp [this]
set_option maxHeartbeats 4000000 in
set_option maxRecDepth 100000 in
theorem may_any (A : Option Addr) (c : Nat) (l : List Col) (key cmp del so : Int) (w : World) (hr : Kd.C kdCol w A l.length l) (hl : l.length ≤ c) (hs : ∀ x, x ∈ l → x.name.size ≤ 9223372036854775807) :
    Calls Tryd.prog 22 #[.agg #[.slice A l.length c, .int .i64 key, .int .i64 cmp, .int .i64 del, .int .i64 so]] w fun e w' => e = .returned (.bool (mayB l key cmp del so)) ∧ Below w.heap.size w w' := by
  have hu := Tryd.underlying24
  have hu2 := Tryd.underlying45
  have HS := Aside0.mk hs
  have HR := Aside0.mk hr
  have hm := hr.2.1
  clear hr hs
  go_enter Tryd.func22, Tryd.ntmps22
  go_wp2
  go_loopg [8] l.length (fun kq v w' => ∃ i : Nat, v = .int .i64 i ∧ Aside0 (i + kq = l.length) ∧ Aside0 (∀ j, j < i → colOk l j) ∧ Aside0 (w'.heap[w.heap.size]? = some (.cells #[.slice A l.length c, .int .i64 key, .int .i64 cmp, .int .i64 del, .int .i64 so] 24 (0, 0))) ∧ Aside0 (Below w.heap.size w w'))
  case atStart => exact ⟨0, rfl, ⟨by omega⟩, ⟨fun j hj => absurd hj (by omega)⟩, ⟨blk_new _ _⟩, ⟨below_alloc (Below.refl _ _) _⟩⟩
  case round =>
    obtain ⟨i, rfl, HI, HN, HK, HB⟩ := hrel
    have hi := HI.out
    by_cases hlt : i < l.length
    · obtain ⟨ad, hA, c0, c1, c2⟩ := atCol (Kd.C_below HR.out HB.out) i hlt
      subst hA
      have hz := blk_lt HK.out
      have k0 : wr.cell? ⟨w.heap.size, 0, none⟩ = some (.slice (some ad) l.length c) := (blk_cell HK.out 0).trans rfl
      have k1 : wr.cell? ⟨w.heap.size, 1, none⟩ = some (.int .i64 key) := (blk_cell HK.out 1).trans rfl
      have k2 : wr.cell? ⟨w.heap.size, 2, none⟩ = some (.int .i64 cmp) := (blk_cell HK.out 2).trans rfl
      have k3 : wr.cell? ⟨w.heap.size, 3, none⟩ = some (.int .i64 del) := (blk_cell HK.out 3).trans rfl
      have k4 : wr.cell? ⟨w.heap.size, 4, none⟩ = some (.int .i64 so) := (blk_cell HK.out 4).trans rfl
      have hne : ¬ (w.heap.size = wr.heap.size) := by omega
      have HSi := Aside0.mk (HS.out (rdCol l i) (by unfold rdCol; rw [getD_at _ _ _ hlt]; exact List.getElem_mem hlt))
      cases h1 : nameB (rdCol l i).name
      · go_wp2_with (go_at_call 40; refine (name_any _ _ HSi.out).mono ?_; rintro e w1 ⟨rfl, hb⟩; obtain ⟨hc, hf⟩ := bcell hb; have hz : w.heap.size < w1.heap.size := (by have := hb.size; (try simp at this); omega); have hz2 : wr.heap.size < w1.heap.size := (by have := hb.size; (try simp at this); omega); have HB1 := Aside0.mk (below_step (by repeat (first | exact HB.out | apply below_alloc | apply below_drew | apply pw_below_drewN)) hb); clear hb HB; have HB := HB1; clear HB1)
        go_ret
        refine ⟨?_, (by repeat (first | exact HB.out | apply below_alloc | apply below_drew | apply pw_below_drewN))⟩
        rw [colOk_false l i hlt (fun h => by have h9 := h.1; rw [h1] at h9; cases h9)]
        rfl
      · by_cases h2 : (rdCol l i).kind < 1
        · go_wp2_with (go_at_call 40; refine (name_any _ _ HSi.out).mono ?_; rintro e w1 ⟨rfl, hb⟩; obtain ⟨hc, hf⟩ := bcell hb; have hz : w.heap.size < w1.heap.size := (by have := hb.size; (try simp at this); omega); have hz2 : wr.heap.size < w1.heap.size := (by have := hb.size; (try simp at this); omega); have HB1 := Aside0.mk (below_step (by repeat (first | exact HB.out | apply below_alloc | apply below_drew | apply pw_below_drewN)) hb); clear hb HB; have HB := HB1; clear HB1)
          go_ret
          refine ⟨?_, (by repeat (first | exact HB.out | apply below_alloc | apply below_drew | apply pw_below_drewN))⟩
          rw [colOk_false l i hlt (fun h => by have := h.2.1; omega)]
          rfl
        · by_cases h3 : 3 < (rdCol l i).kind
          · go_wp2_with (go_at_call 40; refine (name_any _ _ HSi.out).mono ?_; rintro e w1 ⟨rfl, hb⟩; obtain ⟨hc, hf⟩ := bcell hb; have hz : w.heap.size < w1.heap.size := (by have := hb.size; (try simp at this); omega); have hz2 : wr.heap.size < w1.heap.size := (by have := hb.size; (try simp at this); omega); have HB1 := Aside0.mk (below_step (by repeat (first | exact HB.out | apply below_alloc | apply below_drew | apply pw_below_drewN)) hb); clear hb HB; have HB := HB1; clear HB1)
            go_ret
            refine ⟨?_, (by repeat (first | exact HB.out | apply below_alloc | apply below_drew | apply pw_below_drewN))⟩
            rw [colOk_false l i hlt (fun h => by have := h.2.2.1; omega)]
            rfl
          · by_cases h4 : findB l (rdCol l i).name = i
            · have h5 : (findB l (rdCol l i).name != (i : Int)) = false := by simp [h4]
              have H4 := Aside0.mk h4; clear h4
              go_wp2_with (first | (go_at_call 40; refine (name_any _ _ HSi.out).mono ?_; rintro e w1 ⟨rfl, hb⟩; obtain ⟨hc, hf⟩ := bcell hb; have hz : w.heap.size < w1.heap.size := (by have := hb.size; (try simp at this); omega); have hz2 : wr.heap.size < w1.heap.size := (by have := hb.size; (try simp at this); omega); have HK1 := Aside0.mk (blk_below (g := w.heap.size) (by repeat (first | exact HK.out | apply blk_alloc | apply blk_drew | apply blk_drewN)) hb); clear HK; have HK := HK1; clear HK1; have HB1 := Aside0.mk (below_step (by repeat (first | exact HB.out | apply below_alloc | apply below_drew | apply pw_below_drewN)) hb); clear hb HB; have HB := HB1; clear HB1) | (go_at_call 41; refine (find_any _ _ _ _ _ _ _ _ _ (Kd.C_below HR.out (by repeat (first | exact HB.out | apply below_alloc | apply below_drew | apply pw_below_drewN))) hl).mono ?_; rintro e w1 ⟨rfl, hb⟩; obtain ⟨hc, hf⟩ := bcell hb; have hz : w.heap.size < w1.heap.size := (by have := hb.size; (try simp at this); omega); have hz2 : wr.heap.size < w1.heap.size := (by have := hb.size; (try simp at this); omega); have HK1 := Aside0.mk (blk_below (g := w.heap.size) (by repeat (first | exact HK.out | apply blk_alloc | apply blk_drew | apply blk_drewN)) hb); clear HK; have HK := HK1; clear HK1; have HB1 := Aside0.mk (below_step (by repeat (first | exact HB.out | apply below_alloc | apply below_drew | apply pw_below_drewN)) hb); clear hb HB; have HB := HB1; clear HB1))
              go_roundg (gk - 1)
              case measure => omega
              case rel => exact ⟨i + 1, by go_num, ⟨by omega⟩, ⟨forall_snoc HN.out ⟨h1, by omega, by omega, (findB_eq l i hlt).1 H4.out⟩⟩, HK, HB⟩
            · have h5 : (findB l (rdCol l i).name != (i : Int)) = true := by simp [h4]
              have H4 := Aside0.mk h4; clear h4
              go_wp2_with (first | (go_at_call 40; refine (name_any _ _ HSi.out).mono ?_; rintro e w1 ⟨rfl, hb⟩; obtain ⟨hc, hf⟩ := bcell hb; have hz : w.heap.size < w1.heap.size := (by have := hb.size; (try simp at this); omega); have hz2 : wr.heap.size < w1.heap.size := (by have := hb.size; (try simp at this); omega); have HB1 := Aside0.mk (below_step (by repeat (first | exact HB.out | apply below_alloc | apply below_drew | apply pw_below_drewN)) hb); clear hb HB; have HB := HB1; clear HB1) | (go_at_call 41; refine (find_any _ _ _ _ _ _ _ _ _ (Kd.C_below HR.out (by repeat (first | exact HB.out | apply below_alloc | apply below_drew | apply pw_below_drewN))) hl).mono ?_; rintro e w1 ⟨rfl, hb⟩; obtain ⟨hc, hf⟩ := bcell hb; have hz : w.heap.size < w1.heap.size := (by have := hb.size; (try simp at this); omega); have hz2 : wr.heap.size < w1.heap.size := (by have := hb.size; (try simp at this); omega); have HB1 := Aside0.mk (below_step (by repeat (first | exact HB.out | apply below_alloc | apply below_drew | apply pw_below_drewN)) hb); clear hb HB; have HB := HB1; clear HB1))
              go_ret
              refine ⟨?_, (by repeat (first | exact HB.out | apply below_alloc | apply below_drew | apply pw_below_drewN))⟩
              rw [colOk_false l i hlt (fun h => H4.out ((findB_eq l i hlt).2 h.2.2.2))]
              rfl
    · have hco : colsOk l := fun j hj => HN.out j (by omega)
      have k0 : wr.cell? ⟨w.heap.size, 0, none⟩ = some (.slice A l.length c) := (blk_cell HK.out 0).trans rfl
      have k1 : wr.cell? ⟨w.heap.size, 1, none⟩ = some (.int .i64 key) := (blk_cell HK.out 1).trans rfl
      have k2 : wr.cell? ⟨w.heap.size, 2, none⟩ = some (.int .i64 cmp) := (blk_cell HK.out 2).trans rfl
      have k3 : wr.cell? ⟨w.heap.size, 3, none⟩ = some (.int .i64 del) := (blk_cell HK.out 3).trans rfl
      have k4 : wr.cell? ⟨w.heap.size, 4, none⟩ = some (.int .i64 so) := (blk_cell HK.out 4).trans rfl
      have hz := blk_lt HK.out
      have E : mayB l key cmp del so = (decide (1 ≤ l.length) && (decide (l.length ≤ 8) && (keyedB l key cmp del && (decide (-1 ≤ so) && decide (so < l.length))))) := by unfold mayB; simp [hco]
      have HE := Aside0.mk E; clear E hco
      by_cases h1 : 1 ≤ l.length
      · by_cases h2 : l.length ≤ 8
        · cases h3 : keyedB l key cmp del
          · go_wp2_with (go_at_call 42; refine (keyed_any _ _ _ _ _ _ _ _ (Kd.C_below HR.out (by repeat (first | exact HB.out | apply below_alloc | apply below_drew | apply pw_below_drewN))) hl).mono ?_; rintro e w1 ⟨rfl, hb⟩; obtain ⟨hc, hf⟩ := bcell hb; have hz : w.heap.size < w1.heap.size := (by have := hb.size; (try simp at this); omega); have HB1 := Aside0.mk (below_step (by repeat (first | exact HB.out | apply below_alloc | apply below_drew | apply pw_below_drewN)) hb); clear hb HB; have HB := HB1; clear HB1)
            go_ret
            exact ⟨(by rw [HE.out, h3]; first | (simp; done) | (simp; rfl) | (simp; omega)), (by repeat (first | exact HB.out | apply below_alloc | apply below_drew | apply pw_below_drewN))⟩
          · by_cases h4 : -1 ≤ so
            · by_cases h5 : so < l.length
              all_goals
                go_wp2_with (go_at_call 42; refine (keyed_any _ _ _ _ _ _ _ _ (Kd.C_below HR.out (by repeat (first | exact HB.out | apply below_alloc | apply below_drew | apply pw_below_drewN))) hl).mono ?_; rintro e w1 ⟨rfl, hb⟩; obtain ⟨hc, hf⟩ := bcell hb; have hz : w.heap.size < w1.heap.size := (by have := hb.size; (try simp at this); omega); have HB1 := Aside0.mk (below_step (by repeat (first | exact HB.out | apply below_alloc | apply below_drew | apply pw_below_drewN)) hb); clear hb HB; have HB := HB1; clear HB1)
                go_ret
                exact ⟨(by rw [HE.out, h3]; first | (simp [h1, h2, h4, h5]; done) | (simp [h1, h2, h4, h5]; rfl) | (simp [h1, h2, h4, h5]; omega)), (by repeat (first | exact HB.out | apply below_alloc | apply below_drew | apply pw_below_drewN))⟩
            · go_wp2_with (go_at_call 42; refine (keyed_any _ _ _ _ _ _ _ _ (Kd.C_below HR.out (by repeat (first | exact HB.out | apply below_alloc | apply below_drew | apply pw_below_drewN))) hl).mono ?_; rintro e w1 ⟨rfl, hb⟩; obtain ⟨hc, hf⟩ := bcell hb; have hz : w.heap.size < w1.heap.size := (by have := hb.size; (try simp at this); omega); have HB1 := Aside0.mk (below_step (by repeat (first | exact HB.out | apply below_alloc | apply below_drew | apply pw_below_drewN)) hb); clear hb HB; have HB := HB1; clear HB1)
              go_ret
              exact ⟨(by rw [HE.out, h3]; first | (simp [h4]; done) | (simp [h4]; rfl) | (simp [h4]; omega)), (by repeat (first | exact HB.out | apply below_alloc | apply below_drew | apply pw_below_drewN))⟩
        · go_wp2
          go_ret
          exact ⟨(by rw [HE.out]; first | (simp [h2]; done) | (simp [h2]; rfl) | (simp [h2]; omega)), (by repeat (first | exact HB.out | apply below_alloc | apply below_drew | apply pw_below_drewN))⟩
      · go_wp2
        go_ret
        exact ⟨(by rw [HE.out]; first | (simp [h1]; done) | (simp [h1]; rfl) | (simp [h1]; omega)), (by repeat (first | exact HB.out | apply below_alloc | apply below_drew | apply pw_below_drewN))⟩
end Go.Proofs.YtfkbodhnemokjaaDoor.W
