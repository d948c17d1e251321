/- Lists of whole numbers: slices.Concat of two, and the append of one number, of a list, to a row of the call's own. -/
import Derived.Test.YtfkbodhnemokjaaDoorKinds
import Derived.Test.YtfkbodhnemokjaaDoorShelf
namespace Go.Proofs.YtfkbodhnemokjaaDoor.W
open Go.RowKit Go.Shelf Go.Proofs.YtfkbodhnemokjaaDoorW.PrintWords
set_option linter.unusedVariables false
set_option linter.unusedSimpArgs false
abbrev kI : Kd Int := Kd.int .i64
theorem infoInt : (Tryd.prog.info? 3).map (fun i => (i.zero, i.size, i.bytes)) = some (some (.int .i64 0), 1, 8) := by kernel_rfl
def rdI (xs : List Int) (i : Nat) : Int := xs.getD i 0
theorem atI {w : World} {A : Option Addr} {n : Nat} {xs : List Int} (h : Kd.C kI w A n xs) (i : Nat) (h1 : i < n) : ∃ ad, A = some ad ∧ w.cell? (ad.add i) = some (.int .i64 (rdI xs i)) := by
  obtain ⟨ad, c, e, hl, hK, hc⟩ := Kd.C_get h 0 (i : Int) (by omega) (by omega)
  simp only [Int.toNat_natCast] at hK hc
  obtain rfl := hK
  refine ⟨ad, e, ?_⟩
  have := hc 0 _ rfl
  simpa [rdI, kI, Kd.int, Kd.scalar] using this
abbrev rowI (w : World) (base : Nat) (v : Value) (xs : List Int) : Prop := Kd.R kI 3 w base (fun _ => True) v xs
section
variable {ops : Array Oper} {rest : List Oper} {o : Oper} {a : Act} {Q : Exit → Act → World → Prop}
/-- append(v, p), v a row of numbers of the call's own; behind 'at_builtin'. -/
theorem appI {w0 W : World} {base : Nat} (hgd : o.guard = none) (s x : Operand) (ho : o.op = .call { callee := .builtin .append, args := #[s, x], argTypes := #[26, 26] })
    (v : Value) (xs : List Int) (p : Int) (hs : a.eval s = v) (hx : a.eval x = .slice (some ⟨W.heap.size, 0, none⟩) 1 1)
    (HO : rowI W base v xs) (HB : Below base w0 W) (hbase : base ≤ W.heap.size) (hl : xs.length < 17592186044416)
    (h : ∀ v1 w1, rowI w1 base v1 (xs ++ [p]) → Below base w0 w1 → W.grownBy w1 v.ownBlock → wpList Tryd.prog ops Q rest (a.put o.dst v1) w1) :
    wpList Tryd.prog ops Q (o :: rest) a (W.alloc (.cells #[.int .i64 p] 3)) :=
  Kd.R_append kI (w0 := w0) base hgd s x 26 3 (.int .i64 0) 8 ho Tryd.underlying26 infoInt rfl (by decide) (by omega) v xs p [.int .i64 p] (fun _ => True) (fun _ => False) hs hx rfl (fun _ hk => hk.elim) (fun _ _ => trivial) HO HB hbase (by omega)
    (fun v1 w1 h1 h2 h3 _ => h v1 w1 h1 h2 h3)
/-- append(v, ys...) -/
theorem appRowI {w0 W : World} {base : Nat} (hgd : o.guard = none) (s x : Operand) (ho : o.op = .call { callee := .builtin .append, args := #[s, x], argTypes := #[26, 26] })
    (v : Value) (xs ys : List Int) (A : Option Addr) (c : Nat) (hs : a.eval s = v) (hx : a.eval x = .slice A ys.length c)
    (HO : rowI W base v xs) (HR : Kd.C kI W A ys.length ys) (HB : Below base w0 W) (hbase : base ≤ W.heap.size) (hl : xs.length + ys.length < 17592186044416)
    (h : ∀ v1 w1, rowI w1 base v1 (xs ++ ys) → Below base w0 w1 → W.grownBy w1 v.ownBlock → wpList Tryd.prog ops Q rest (a.put o.dst v1) w1) :
    wpList Tryd.prog ops Q (o :: rest) a W :=
  Kd.R_append_row (h1 := fun _ => rfl) (Value.int .i64) 0 (w0 := w0) base hgd s x 26 3 (.int .i64 0) 8 ho Tryd.underlying26 infoInt rfl (by omega) v xs ys A ys.length c (fun _ => True) hs hx (fun _ _ => trivial) HO HR HB hbase (by omega)
    (fun v1 w1 h1 h2 h3 _ => h v1 w1 h1 h2 h3)
end

/-! ### slices.Grow(nil, n), slices.Concat(a, b) -/
theorem grow_any (n : Nat) (hn : n ≤ 1073741824) (w : World) :
    Calls Tryd.prog 36 #[.slice none 0 0, .int .i64 n] w fun e w' => ∃ v, e = .returned v ∧ rowI w' w.heap.size v [] ∧ Below w.heap.size w w' := by
  by_cases h0 : n = 0
  · subst h0
    refine (Any8.slices_Grow_room Tryd.lays8n4 none 0 0 0 w (by omega) (by omega) (by omega) (by omega)).mono ?_
    rintro e w' ⟨rfl, rfl⟩
    exact ⟨_, rfl, Kd.R_nil _ _ _ _ _, Below.refl _ _⟩
  · obtain ⟨i0, hi, hz0, hz1, hz2⟩ := info_parts infoInt
    refine (Any8.slices_Grow_grow Tryd.lays8n4 i0 (.int .i64 0) hi hz0 (by omega) none 0 0 n [] w (by omega) (by omega) (by rw [hz2]; omega) (by omega) (by simp) (fun _ => rfl) (fun a h => by cases h)).mono ?_
    rintro e w' ⟨rfl, rfl⟩
    have hge := grownCap_ge w (0 + n) 0 3
    refine ⟨_, rfl, ?_, (below_drew (Below.refl _ _)).alloc (Nat.le_refl _) _⟩
    refine Kd.R_of_own (h1 := fun _ => rfl) (enc := Value.int .i64) ?_ (fun _ _ => trivial)
    refine World.ownsRow_made (base := w.heap.size) (e := 3) (size := 1) w.drew _ _ (Nat.le_refl _) (grownCap_le_maxLen w (0 + n) 0 3 (by unfold maxLen; omega)) ?_
    have hge' : n ≤ grownCap w n 0 (Tryd.lays8n4_ren.t 25) := grownCap_ge w n 0 _
    simp [Builtin.zeroCells, Value.cells]
    omega
theorem one_alloc (w : World) (o : Obj) : Value.slice (some ⟨w.heap.size + 1, 0, none⟩) 1 1 = Value.slice (some ⟨(w.alloc o).heap.size, 0, none⟩) 1 1 := by simp
def partI (xs ys : List Int) (i : Nat) : List Int := if i = 0 then [] else if i = 1 then xs else xs ++ ys
set_option maxHeartbeats 2000000 in
theorem concat_any (g : Nat) (A1 A2 : Option Addr) (c1 c2 : Nat) (xs ys : List Int) (w : World) (hg : w.heap[g]? = some (.cells #[.slice A1 xs.length c1, .slice A2 ys.length c2] 26 (0, 0)))
    (h1 : Kd.C kI w A1 xs.length xs) (h2 : Kd.C kI w A2 ys.length ys) (hx : xs.length ≤ 268435456) (hy : ys.length ≤ 268435456) :
    Calls Tryd.prog 15 #[.slice (some ⟨g, 0, none⟩) 2 2] w fun e w' => ∃ v, e = .returned v ∧ rowI w' w.heap.size v (xs ++ ys) ∧ Below w.heap.size w w' := by
  have HG := Aside0.mk hg
  have H1 := Aside0.mk h1
  have H2 := Aside0.mk h2
  have HB := Aside0.mk (Below.refl w.heap.size w)
  have k0 : w.cell? ⟨g, 0, none⟩ = some (.slice A1 xs.length c1) := (blk_cell hg 0).trans rfl
  have k1 : w.cell? ⟨g, 1, none⟩ = some (.slice A2 ys.length c2) := (blk_cell hg 1).trans rfl
  clear hg h1 h2
  go_enter Tryd.func15, Tryd.ntmps15
  go_wp2
  go_loopg [3, 11] 2 (fun kq v3 v11 w' => ∃ i : Nat, v11 = .int .i64 i ∧ v3 = .int .i64 ((partI xs ys i).length : Nat) ∧ Aside0 (i + kq = 2) ∧ Aside0 (w' = w))
  case atStart => exact ⟨0, rfl, rfl, ⟨by omega⟩, ⟨rfl⟩⟩
  case round =>
    obtain ⟨i, rfl, rfl, HI, HW⟩ := hrel
    obtain rfl := HW.out
    have hi := HI.out
    rcases (show i = 0 ∨ i = 1 ∨ i = 2 from by omega) with rfl | rfl | rfl
    · rw [show (partI xs ys 0).length = 0 from rfl]
      go_wp2
      go_roundg 1
      case measure => omega
      case rel => exact ⟨1, rfl, by simp [partI], ⟨by omega⟩, ⟨rfl⟩⟩
    · have e1 : (partI xs ys 1).length = xs.length := rfl
      rw [e1]
      go_wp2
      go_roundg 0
      case measure => omega
      case rel => exact ⟨2, rfl, by simp [partI], ⟨by omega⟩, ⟨rfl⟩⟩
    · have e1 : ((partI xs ys 2).length : Nat) = xs.length + ys.length := by simp [partI]
      rw [e1]
      go_wp2_with (go_at_call 36; refine (grow_any (xs.length + ys.length) (by omega) _).mono ?_; rintro e w1 ⟨v1, rfl, hv, hb⟩; have HO := Aside0.mk hv; have HB1 := Aside0.mk hb; clear hv hb HB; have HB := HB1; clear HB1)
      go_loopg [6, 27] 2 (fun kq v6 v27 w' => ∃ i : Nat, v27 = .int .i64 i ∧ Aside0 (i + kq = 2) ∧ Aside0 (rowI w' wr.heap.size v6 (partI xs ys i)) ∧ Aside0 (Below wr.heap.size wr w'))
      case atStart => exact ⟨0, rfl, ⟨by omega⟩, HO, HB⟩
      case round =>
        clear HB HO HI hi
        obtain ⟨i, rfl, HI, HO, HB⟩ := hrel
        have hi := HI.out
        rename_i wq
        have q0 := pw_cell_below HB.out k0
        have q1 := pw_cell_below HB.out k1
        rcases (show i = 0 ∨ i = 1 ∨ i = 2 from by omega) with rfl | rfl | rfl
        · go_wp2_with (at_builtin; refine appRowI rfl (.tmp 31) (.tmp 32) rfl _ (partI xs ys 0) xs _ _ rfl rfl (by repeat (first | exact HO.out | apply Kd.R_alloc | apply Kd.R_drew | apply Kd.R_drewN)) (Kd.C_below H1.out HB.out) HB.out HB.out.size (by simp [partI]; omega) ?_; intro v2 w2 ho hb hg; have HO2 := Aside0.mk ho; have HB2 := Aside0.mk hb; clear ho hb hg)
          go_roundg 1
          case measure => omega
          case rel => exact ⟨1, rfl, ⟨by omega⟩, HO2, HB2⟩
        · go_wp2_with (at_builtin; refine appRowI rfl (.tmp 31) (.tmp 32) rfl _ (partI xs ys 1) ys _ _ rfl rfl (by repeat (first | exact HO.out | apply Kd.R_alloc | apply Kd.R_drew | apply Kd.R_drewN)) (Kd.C_below H2.out HB.out) HB.out HB.out.size (by simp [partI]; omega) ?_; intro v2 w2 ho hb hg; have HO2 := Aside0.mk ho; have HB2 := Aside0.mk hb; clear ho hb hg)
          go_roundg 0
          case measure => omega
          case rel => exact ⟨2, rfl, ⟨by omega⟩, HO2, HB2⟩
        · go_wp2
          go_ret
          exact ⟨_, rfl, HO.out, HB.out⟩
end Go.Proofs.YtfkbodhnemokjaaDoor.W
