/- slices.DeleteFunc, Sort, Compact at a row of whole numbers of the call's own. -/
import Derived.Test.YtfkbodhnemokjaaDoorInts
import Derived.Lib.OwnBridge
import Derived.Sort.OwnSortedInts
namespace Go.Proofs.YtfkbodhnemokjaaDoor.W
open Go.RowKit Go.Shelf Go.Sort Go.Lib Go.Proofs.YtfkbodhnemokjaaDoorW.PrintWords
set_option linter.unusedVariables false
set_option linter.unusedSimpArgs false
theorem rowI_own {w : World} {base : Nat} {v : Value} {xs : List Int} (h : rowI w base v xs) : w.ownsRow base 3 1 v xs.length (xs.map (Value.int .i64)) := Kd.own_of_R h
theorem rowI_of {w : World} {base : Nat} {v : Value} {xs : List Int} (h : w.ownsRow base 3 1 v xs.length (xs.map (Value.int .i64))) : rowI w base v xs := Kd.R_of_own h (fun _ _ => trivial)
/-- A row is nil, or lies in a block. -/
theorem rowI_form {w : World} {base : Nat} {v : Value} {xs : List Int} (h : rowI w base v xs) : (v = .slice none 0 0 ∧ xs = []) ∨ ∃ g cap, v = .slice (some ⟨g, 0, none⟩) xs.length cap ∧ base ≤ g ∧ g < w.heap.size ∧ xs.length ≤ cap ∧ Holds (Value.int .i64) w g 0 xs.toArray := by
  have ho := rowI_own h
  by_cases hv : v = .slice none 0 0
  · left
    refine ⟨hv, ?_⟩
    rcases ho.2 with ⟨_, h0⟩ | ⟨g, cap, cur, e, _⟩
    · simpa using h0
    · rw [hv] at e; cases e
  · right
    obtain ⟨g, cap, e, h1, h2, h3, _, _, h4⟩ := holds_of_ownsRow ho hv
    exact ⟨g, cap, e, h1, h2, h3, h4⟩
theorem rowI_put {w : World} {base : Nat} {g cap q k : Nat} {zs ys : List Int} (h : rowI w base (.slice (some ⟨g, 0, none⟩) zs.length cap) zs) (hy : ys.length = zs.length) (hk : k ≤ zs.length) :
    rowI (putRow (Value.int .i64) (Sort.ahead w q) g 0 ys.toArray) base (.slice (some ⟨g, 0, none⟩) (ys.take k).length cap) (ys.take k) := by
  have hl : (ys.take k).length = k := by rw [List.length_take]; omega
  refine rowI_of ?_
  have := ownsRow_putRow (q := q) (rowI_own h) hy hk
  rw [hl]
  exact this

set_option maxHeartbeats 1000000 in
theorem indexNil_any (fv : Value) (w : World) :
    Calls Tryd.prog 37 #[.slice none 0 0, fv] w fun e w' => e = .returned (.int .i64 (-1)) ∧ w' = w := by
  go_enter Tryd.func37, Tryd.ntmps37
  go_wp2
  go_loopg [8] 0 (fun kq v w' => v = .int .i64 0 ∧ Aside0 (w' = w))
  case atStart => exact ⟨rfl, ⟨rfl⟩⟩
  case round =>
    obtain ⟨rfl, HW⟩ := hrel
    obtain rfl := HW.out
    go_wp2
    go_ret
    exact ⟨rfl, rfl⟩
set_option maxHeartbeats 1000000 in
theorem deleteNil_any (fv : Value) (w : World) :
    Calls Tryd.prog 17 #[.slice none 0 0, fv] w fun e w' => e = .returned (.slice none 0 0) ∧ w' = w := by
  go_enter Tryd.func17, Tryd.ntmps17
  go_wp2_with fail
  refine (indexNil_any _ _).mono ?_
  rintro e w1 ⟨rfl, rfl⟩
  go_wp2
  go_ret
  exact ⟨rfl, rfl⟩
theorem delete_R {w : World} {base : Nat} {v : Value} {xs : List Int} (h : rowI w base v xs) (hbase : base ≤ w.heap.size) (hl : xs.length ≤ 1073741824) (g : Nat) (lb : Array Value) (p : Int → Bool) (eg : ∀ args w, (callFunc g args).run Tryd.prog w = .ok (.enter g args) w)
    (hp : ∀ (W : World) (x : Int), FnGives Tryd.prog g lb #[.int .i64 x] (.bool (p x)) W) :
    Calls Tryd.prog 17 #[v, .func (.func g) #[] lb] w fun e w' => ∃ v', e = .returned v' ∧ rowI w' base v' (xs.filter fun x => !p x) ∧ Below base w w' := by
  rcases rowI_form h with ⟨rfl, rfl⟩ | ⟨b, cap, rfl, h1, h2, h3, h4⟩
  · refine (deleteNil_any _ w).mono ?_
    rintro e w' ⟨rfl, rfl⟩
    exact ⟨_, rfl, h, Below.refl _ _⟩
  · have hz : ∀ w, (zeroValue (Tryd.laysH10_ren.t 23)).run Tryd.prog w = .ok (Value.int .i64 0) w := Tryd.zeroValue3
    refine (AnyE.slices_DeleteFunc Tryd.laysH10 (Value.int .i64) (fun _ => rfl) p g lb eg 0 hz b 0 cap xs.toArray w (fun W x _ => hp W x) (fun n os dk x _ => hp _ x) h4 (by simp; omega) (by simpa using h3)).mono ?_
    rintro e w' ⟨rfl, q, rfl⟩
    have hfl : (xs.filter fun x => !p x).length ≤ xs.length := List.length_filter_le _ _
    refine ⟨_, rfl, ?_, below_putRow (Below.refl _ _) h1⟩
    have := rowI_put (q := q) (ys := (xs.filter fun x => !p x) ++ List.replicate (xs.length - (xs.filter fun x => !p x).length) 0) (k := (xs.filter fun x => !p x).length) h (by simp; omega) hfl
    rw [List.take_left] at this
    simpa using this
def sortI (xs : List Int) : List Int := xs.mergeSort fun x y => decide (x ≤ y)
theorem sort_R {w : World} {base : Nat} {v : Value} {xs : List Int} (h : rowI w base v xs) (hl : xs.length ≤ 1073741824) :
    Calls Tryd.prog 19 #[v] w fun e w' => e = .returned (.tuple #[]) ∧ rowI w' base v (sortI xs) ∧ Below base w w' := by
  rcases rowI_form h with ⟨rfl, rfl⟩ | ⟨b, cap, rfl, h1, h2, h3, h4⟩
  · refine (Any.slices_Sort_int_none Tryd.lays189 none 0 w).mono ?_
    rintro e w' ⟨rfl, rfl⟩
    exact ⟨rfl, by simpa [sortI] using h, Below.refl _ _⟩
  · refine (Any.slices_Sort_int Tryd.lays189 b 0 cap xs w h4 h2 (by omega)).mono ?_
    rintro e w' ⟨rfl, n, os, rfl⟩
    have hs : (sortI xs).length = xs.length := List.length_mergeSort _
    rcases (rowI_own h).2 with ⟨e0, _⟩ | ⟨g', cap', cur, e0, hb, hg, hn, hm, hsz, ht⟩
    · cases e0
    injection e0 with e1 e2 e3
    injection e1 with e1
    injection e1 with e1
    subst e1; subst e3
    have ho := ownsRow_sortedI (n := n) (os := os) (base := base) (e := 3) (ss := xs) (ts := sortI xs) hs h1 hg h3 hm hsz
    refine ⟨rfl, rowI_of ?_, (Below.refl _ _).grown (grownBy_sortedI (n := n) (os := os) (g := b) (sortI xs).toArray) (by omega) (fun k hk => by cases hk; exact h1)⟩
    rw [hs]
    exact ho
theorem compact_R {w : World} {base : Nat} {v : Value} {xs : List Int} (h : rowI w base v xs) (hl : xs.length ≤ 1073741824) :
    Calls Tryd.prog 20 #[v] w fun e w' => ∃ v', e = .returned v' ∧ rowI w' base v' (Lib.compact xs) ∧ Below base w w' := by
  rcases rowI_form h with ⟨rfl, rfl⟩ | ⟨b, cap, rfl, h1, h2, h3, h4⟩
  · refine (Any.slices_Compact_int_empty Tryd.lays2n20 none 0 w).mono ?_
    rintro e w' ⟨rfl, rfl⟩
    exact ⟨_, rfl, h, Below.refl _ _⟩
  · refine (Any.slices_Compact_int Tryd.lays2n20 b 0 cap xs w h4 (by omega) h3).mono ?_
    rintro e w' ⟨rfl, q, rfl⟩
    have hfl : (Lib.compact xs).length ≤ xs.length := compact_length_le _
    refine ⟨_, rfl, ?_, below_putRow (Below.refl _ _) h1⟩
    have := rowI_put (q := q) (ys := Lib.compact xs ++ List.replicate (xs.length - (Lib.compact xs).length) 0) (k := (Lib.compact xs).length) h (by simp; omega) hfl
    rw [List.take_left] at this
    simpa using this
end Go.Proofs.YtfkbodhnemokjaaDoor.W
