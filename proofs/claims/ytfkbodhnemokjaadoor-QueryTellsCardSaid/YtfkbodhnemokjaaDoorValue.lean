/- Package value: '==' of values, and May, come to plain functions. -/
import Derived.Test.YtfkbodhnemokjaaDoorKinds
import Derived.Test.YtfkbodhnemokjaaDoorWEqStruct
namespace Go.Proofs.YtfkbodhnemokjaaDoor.W
open Go.RowKit Go.Proofs.YtfkbodhnemokjaaDoorW.PrintWords
set_option linter.unusedVariables false
set_option linter.unusedSimpArgs false

theorem eqVal (d : Nat) (w : World) (x0 y0 : Int) (x1 y1 : Int) (x2 y2 : ByteArray) (x3 y3 : Bool) :
    (Op.equalIn (d + 2) 47 (.agg #[.int .i64 x0, .int .i64 x1, .string x2, .bool x3]) (.agg #[.int .i64 y0, .int .i64 y1, .string y2, .bool y3])).run Tryd.prog w = .ok (x0 == y0 && (x1 == y1 && (x2.toList == y2.toList && (x3 == y3)))) w := by
  refine eqA_of Tryd.underlying47 (by kernel_rfl) ?_
  refine eqf_cons (by rfl) (by go_simp; rfl) (by go_simp; rfl) (by go_simp) ?_
  refine eqf_cons (by rfl) (by go_simp; rfl) (by go_simp; rfl) (by go_simp) ?_
  refine eqf_cons (by rfl) (by go_simp; rfl) (by go_simp; rfl) (by go_simp) ?_
  exact eqf_last (by rfl) (by go_simp; rfl) (by go_simp; rfl) (by go_simp)
def veq (x y : Val) : Bool := x.kind == y.kind && (x.i == y.i && (x.s.toList == y.s.toList && (x.b == y.b)))
theorem toList_inj {a b : ByteArray} (h : a.toList = b.toList) : a = b := by
  rw [ByteArray.toList_eq, ByteArray.toList_eq] at h
  have := Array.toList_inj.1 h
  cases a; cases b; simp_all
theorem veq_iff (x y : Val) : veq x y = true ↔ x = y := by
  unfold veq
  constructor
  · intro h
    simp only [Bool.and_eq_true, beq_iff_eq] at h
    obtain ⟨h1, h2, h3, h4⟩ := h
    cases x; cases y
    simp only at h1 h2 h3 h4
    have := toList_inj h3
    simp_all
  · rintro rfl
    simp
/-- value.May -/
def mayV (v : Val) : Bool :=
  if v.kind = 1 then v.s.toList == [] && !v.b
  else if v.kind = 2 then decide (v.s.size ≤ 64) && (v.i == 0 && !v.b)
  else if v.kind = 3 then v.i == 0 && v.s.toList == []
  else if v.kind = 0 then v.i == 0 && (v.s.toList == [] && !v.b)
  else false
attribute [local go_sem high] eqVal
set_option maxHeartbeats 2000000 in
set_option maxRecDepth 100000 in
theorem mayV_any (v : Val) (w : World) :
    Calls Tryd.prog 44 #[v.v] w fun e w' => e = .returned (.bool (mayV v)) ∧ Below w.heap.size w w' := by
  have hu := Tryd.underlying47
  have HB := Aside0.mk (Below.refl w.heap.size w)
  obtain ⟨kd, i, s, b⟩ := v
  show Calls Tryd.prog 44 #[.agg #[.int .i64 kd, .int .i64 i, .string s, .bool b]] w _
  by_cases h1 : kd = 1
  · subst h1
    have e : mayV ⟨1, i, s, b⟩ = (s.toList == [] && !b) := by unfold mayV; simp
    rw [e]; clear e
    go_enter Tryd.func44, Tryd.ntmps44
    go_wp2
    go_ret
    exact ⟨by cases b <;> simp <;> rfl, (by repeat (first | exact HB.out | apply below_alloc | apply below_drew | apply pw_below_drewN))⟩
  · by_cases h2 : kd = 2
    · subst h2
      by_cases h3 : s.size ≤ 64
      · have e : mayV ⟨2, i, s, b⟩ = (i == 0 && !b) := by unfold mayV; simp [h3]
        rw [e]; clear e
        go_enter Tryd.func44, Tryd.ntmps44
        go_wp2
        go_ret
        exact ⟨by cases b <;> simp <;> rfl, (by repeat (first | exact HB.out | apply below_alloc | apply below_drew | apply pw_below_drewN))⟩
      · have e : mayV ⟨2, i, s, b⟩ = false := by unfold mayV; simp [h3]
        rw [e]; clear e
        go_enter Tryd.func44, Tryd.ntmps44
        go_wp2
        go_ret
        exact ⟨rfl, (by repeat (first | exact HB.out | apply below_alloc | apply below_drew | apply pw_below_drewN))⟩
    · by_cases h3 : kd = 3
      · subst h3
        have e : mayV ⟨3, i, s, b⟩ = (i == 0 && s.toList == []) := by unfold mayV; simp
        rw [e]; clear e
        go_enter Tryd.func44, Tryd.ntmps44
        go_wp2
        go_ret
        exact ⟨by simp <;> rfl, (by repeat (first | exact HB.out | apply below_alloc | apply below_drew | apply pw_below_drewN))⟩
      · by_cases h4 : kd = 0
        · subst h4
          have e : mayV ⟨0, i, s, b⟩ = (i == 0 && (s.toList == [] && !b)) := by unfold mayV; simp
          rw [e]; clear e
          go_enter Tryd.func44, Tryd.ntmps44
          go_wp2
          go_ret
          exact ⟨by cases b <;> simp <;> rfl, (by repeat (first | exact HB.out | apply below_alloc | apply below_drew | apply pw_below_drewN))⟩
        · have e : mayV ⟨kd, i, s, b⟩ = false := by unfold mayV; simp [h1, h2, h3, h4]
          rw [e]; clear e
          go_enter Tryd.func44, Tryd.ntmps44
          go_wp2
          go_ret
          exact ⟨rfl, (by repeat (first | exact HB.out | apply below_alloc | apply below_drew | apply pw_below_drewN))⟩
end Go.Proofs.YtfkbodhnemokjaaDoor.W
