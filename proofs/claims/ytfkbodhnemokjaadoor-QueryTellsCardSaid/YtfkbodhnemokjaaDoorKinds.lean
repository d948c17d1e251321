/- The struct kinds of package api: how their cells are read and made. -/
import Derived.Test.YtfkbodhnemokjaaDoorBase
namespace Go.Proofs.YtfkbodhnemokjaaDoor.W
open Go.RowKit Go.Proofs.YtfkbodhnemokjaaDoorW.PrintWords
set_option linter.unusedVariables false
set_option linter.unusedSimpArgs false

structure Val where
  kind : Int
  i : Int
  s : ByteArray
  b : Bool
def zVal : Val := ⟨0, 0, (⟨#[]⟩ : ByteArray), false⟩
def kdVal : Kd Val := Kd.iso (Kd.pair (Kd.int .i64) (Kd.pair (Kd.int .i64) (Kd.pair Kd.string Kd.bool))) (fun x : Val => (x.kind, x.i, x.s, x.b))
def Val.v (x : Val) : Value := .agg #[.int .i64 x.kind, .int .i64 x.i, .string x.s, .bool x.b]
theorem kdVal_open {w : World} {x : Val} {cs : List Value} (h : kdVal.K w x cs) : cs = [.int .i64 x.kind, .int .i64 x.i, .string x.s, .bool x.b] := by
  obtain ⟨_, _, rfl, h0, ⟨_, _, rfl, h1, ⟨_, _, rfl, h2, h3⟩⟩⟩ := h
  obtain rfl := h0
  obtain rfl := h1
  obtain rfl := h2
  obtain rfl := h3
  rfl
theorem kdVal_openM {w : World} {base : Nat} {ok : Nat → Prop} {x : Val} {cs : List Value} (h : kdVal.M w base ok x cs) : cs = [.int .i64 x.kind, .int .i64 x.i, .string x.s, .bool x.b] := by
  obtain ⟨_, _, rfl, h0, ⟨_, _, rfl, h1, ⟨_, _, rfl, h2, h3⟩⟩⟩ := h
  obtain rfl := h0
  obtain rfl := h1
  obtain rfl := h2
  obtain rfl := h3
  rfl
theorem kdVal_mk (w : World) (x : Val) : kdVal.K w x [.int .i64 x.kind, .int .i64 x.i, .string x.s, .bool x.b] := ⟨[.int .i64 x.kind], [.int .i64 x.i, .string x.s, .bool x.b], rfl, rfl, ⟨[.int .i64 x.i], [.string x.s, .bool x.b], rfl, rfl, ⟨[.string x.s], [.bool x.b], rfl, rfl, rfl⟩⟩⟩
theorem kdVal_mkM (w : World) (base : Nat) (ok : Nat → Prop) (x : Val) : kdVal.M w base ok x [.int .i64 x.kind, .int .i64 x.i, .string x.s, .bool x.b] := ⟨[.int .i64 x.kind], [.int .i64 x.i, .string x.s, .bool x.b], rfl, rfl, ⟨[.int .i64 x.i], [.string x.s, .bool x.b], rfl, rfl, ⟨[.string x.s], [.bool x.b], rfl, rfl, rfl⟩⟩⟩
def rdVal (xs : List Val) (i : Nat) : Val := xs.getD i zVal
theorem atVal {w : World} {A : Option Addr} {n : Nat} {xs : List Val} (h : Kd.C kdVal w A n xs) (i : Nat) (h1 : i < n) : ∃ ad, A = some ad ∧ w.cell? (ad.add (i * 4)) = some (.int .i64 (rdVal xs i).kind) ∧ w.cell? ⟨(ad.add (i * 4)).block, (ad.add (i * 4)).off + 1, none⟩ = some (.int .i64 (rdVal xs i).i) ∧ w.cell? ⟨(ad.add (i * 4)).block, (ad.add (i * 4)).off + 2, none⟩ = some (.string (rdVal xs i).s) ∧ w.cell? ⟨(ad.add (i * 4)).block, (ad.add (i * 4)).off + 3, none⟩ = some (.bool (rdVal xs i).b) := by
  obtain ⟨ad, c, e, _, hK, hc0⟩ := Kd.C_get h zVal (i : Int) (by omega) (by omega)
  simp only [Int.toNat_natCast] at hK hc0
  have hc : ∀ j u, c[j]? = some u → w.cell? (ad.add (i * 4 + j)) = some u := hc0
  obtain rfl := kdVal_open hK
  exact ⟨ad, e, hc 0 _ rfl, by rw [← add_field _ _ 1 (by omega)]; exact hc 1 _ rfl, by rw [← add_field _ _ 2 (by omega)]; exact hc 2 _ rfl, by rw [← add_field _ _ 3 (by omega)]; exact hc 3 _ rfl⟩

structure Col where
  name : ByteArray
  kind : Int
  null : Bool
def zCol : Col := ⟨(⟨#[]⟩ : ByteArray), 0, false⟩
def kdCol : Kd Col := Kd.iso (Kd.pair Kd.string (Kd.pair (Kd.int .i64) Kd.bool)) (fun x : Col => (x.name, x.kind, x.null))
def Col.v (x : Col) : Value := .agg #[.string x.name, .int .i64 x.kind, .bool x.null]
theorem kdCol_open {w : World} {x : Col} {cs : List Value} (h : kdCol.K w x cs) : cs = [.string x.name, .int .i64 x.kind, .bool x.null] := by
  obtain ⟨_, _, rfl, h0, ⟨_, _, rfl, h1, h2⟩⟩ := h
  obtain rfl := h0
  obtain rfl := h1
  obtain rfl := h2
  rfl
theorem kdCol_openM {w : World} {base : Nat} {ok : Nat → Prop} {x : Col} {cs : List Value} (h : kdCol.M w base ok x cs) : cs = [.string x.name, .int .i64 x.kind, .bool x.null] := by
  obtain ⟨_, _, rfl, h0, ⟨_, _, rfl, h1, h2⟩⟩ := h
  obtain rfl := h0
  obtain rfl := h1
  obtain rfl := h2
  rfl
theorem kdCol_mk (w : World) (x : Col) : kdCol.K w x [.string x.name, .int .i64 x.kind, .bool x.null] := ⟨[.string x.name], [.int .i64 x.kind, .bool x.null], rfl, rfl, ⟨[.int .i64 x.kind], [.bool x.null], rfl, rfl, rfl⟩⟩
theorem kdCol_mkM (w : World) (base : Nat) (ok : Nat → Prop) (x : Col) : kdCol.M w base ok x [.string x.name, .int .i64 x.kind, .bool x.null] := ⟨[.string x.name], [.int .i64 x.kind, .bool x.null], rfl, rfl, ⟨[.int .i64 x.kind], [.bool x.null], rfl, rfl, rfl⟩⟩
def rdCol (xs : List Col) (i : Nat) : Col := xs.getD i zCol
theorem atCol {w : World} {A : Option Addr} {n : Nat} {xs : List Col} (h : Kd.C kdCol w A n xs) (i : Nat) (h1 : i < n) : ∃ ad, A = some ad ∧ w.cell? (ad.add (i * 3)) = some (.string (rdCol xs i).name) ∧ w.cell? ⟨(ad.add (i * 3)).block, (ad.add (i * 3)).off + 1, none⟩ = some (.int .i64 (rdCol xs i).kind) ∧ w.cell? ⟨(ad.add (i * 3)).block, (ad.add (i * 3)).off + 2, none⟩ = some (.bool (rdCol xs i).null) := by
  obtain ⟨ad, c, e, _, hK, hc0⟩ := Kd.C_get h zCol (i : Int) (by omega) (by omega)
  simp only [Int.toNat_natCast] at hK hc0
  have hc : ∀ j u, c[j]? = some u → w.cell? (ad.add (i * 3 + j)) = some u := hc0
  obtain rfl := kdCol_open hK
  exact ⟨ad, e, hc 0 _ rfl, by rw [← add_field _ _ 1 (by omega)]; exact hc 1 _ rfl, by rw [← add_field _ _ 2 (by omega)]; exact hc 2 _ rfl⟩

structure Node where
  ask : Int
  col : Int
  val : Val
  a : Int
  b : Int
def zNode : Node := ⟨0, 0, zVal, 0, 0⟩
def kdNode : Kd Node := Kd.iso (Kd.pair (Kd.int .i64) (Kd.pair (Kd.int .i64) (Kd.pair kdVal (Kd.pair (Kd.int .i64) (Kd.int .i64))))) (fun x : Node => (x.ask, x.col, x.val, x.a, x.b))
def Node.v (x : Node) : Value := .agg #[.int .i64 x.ask, .int .i64 x.col, .int .i64 x.val.kind, .int .i64 x.val.i, .string x.val.s, .bool x.val.b, .int .i64 x.a, .int .i64 x.b]
theorem kdNode_open {w : World} {x : Node} {cs : List Value} (h : kdNode.K w x cs) : cs = [.int .i64 x.ask, .int .i64 x.col, .int .i64 x.val.kind, .int .i64 x.val.i, .string x.val.s, .bool x.val.b, .int .i64 x.a, .int .i64 x.b] := by
  obtain ⟨_, _, rfl, h0, ⟨_, _, rfl, h1, ⟨_, _, rfl, h2, ⟨_, _, rfl, h3, h4⟩⟩⟩⟩ := h
  obtain rfl := h0
  obtain rfl := h1
  obtain rfl := kdVal_open h2
  obtain rfl := h3
  obtain rfl := h4
  rfl
theorem kdNode_openM {w : World} {base : Nat} {ok : Nat → Prop} {x : Node} {cs : List Value} (h : kdNode.M w base ok x cs) : cs = [.int .i64 x.ask, .int .i64 x.col, .int .i64 x.val.kind, .int .i64 x.val.i, .string x.val.s, .bool x.val.b, .int .i64 x.a, .int .i64 x.b] := by
  obtain ⟨_, _, rfl, h0, ⟨_, _, rfl, h1, ⟨_, _, rfl, h2, ⟨_, _, rfl, h3, h4⟩⟩⟩⟩ := h
  obtain rfl := h0
  obtain rfl := h1
  obtain rfl := kdVal_openM h2
  obtain rfl := h3
  obtain rfl := h4
  rfl
theorem kdNode_mk (w : World) (x : Node) : kdNode.K w x [.int .i64 x.ask, .int .i64 x.col, .int .i64 x.val.kind, .int .i64 x.val.i, .string x.val.s, .bool x.val.b, .int .i64 x.a, .int .i64 x.b] := ⟨[.int .i64 x.ask], [.int .i64 x.col, .int .i64 x.val.kind, .int .i64 x.val.i, .string x.val.s, .bool x.val.b, .int .i64 x.a, .int .i64 x.b], rfl, rfl, ⟨[.int .i64 x.col], [.int .i64 x.val.kind, .int .i64 x.val.i, .string x.val.s, .bool x.val.b, .int .i64 x.a, .int .i64 x.b], rfl, rfl, ⟨[.int .i64 x.val.kind, .int .i64 x.val.i, .string x.val.s, .bool x.val.b], [.int .i64 x.a, .int .i64 x.b], rfl, kdVal_mk w x.val, ⟨[.int .i64 x.a], [.int .i64 x.b], rfl, rfl, rfl⟩⟩⟩⟩
theorem kdNode_mkM (w : World) (base : Nat) (ok : Nat → Prop) (x : Node) : kdNode.M w base ok x [.int .i64 x.ask, .int .i64 x.col, .int .i64 x.val.kind, .int .i64 x.val.i, .string x.val.s, .bool x.val.b, .int .i64 x.a, .int .i64 x.b] := ⟨[.int .i64 x.ask], [.int .i64 x.col, .int .i64 x.val.kind, .int .i64 x.val.i, .string x.val.s, .bool x.val.b, .int .i64 x.a, .int .i64 x.b], rfl, rfl, ⟨[.int .i64 x.col], [.int .i64 x.val.kind, .int .i64 x.val.i, .string x.val.s, .bool x.val.b, .int .i64 x.a, .int .i64 x.b], rfl, rfl, ⟨[.int .i64 x.val.kind, .int .i64 x.val.i, .string x.val.s, .bool x.val.b], [.int .i64 x.a, .int .i64 x.b], rfl, kdVal_mkM w base ok x.val, ⟨[.int .i64 x.a], [.int .i64 x.b], rfl, rfl, rfl⟩⟩⟩⟩
def rdNode (xs : List Node) (i : Nat) : Node := xs.getD i zNode
theorem atNode {w : World} {A : Option Addr} {n : Nat} {xs : List Node} (h : Kd.C kdNode w A n xs) (i : Nat) (h1 : i < n) : ∃ ad, A = some ad ∧ w.cell? (ad.add (i * 8)) = some (.int .i64 (rdNode xs i).ask) ∧ w.cell? ⟨(ad.add (i * 8)).block, (ad.add (i * 8)).off + 1, none⟩ = some (.int .i64 (rdNode xs i).col) ∧ w.cell? ⟨(ad.add (i * 8)).block, (ad.add (i * 8)).off + 2, none⟩ = some (.int .i64 (rdNode xs i).val.kind) ∧ w.cell? ⟨(ad.add (i * 8)).block, (ad.add (i * 8)).off + 3, none⟩ = some (.int .i64 (rdNode xs i).val.i) ∧ w.cell? ⟨(ad.add (i * 8)).block, (ad.add (i * 8)).off + 4, none⟩ = some (.string (rdNode xs i).val.s) ∧ w.cell? ⟨(ad.add (i * 8)).block, (ad.add (i * 8)).off + 5, none⟩ = some (.bool (rdNode xs i).val.b) ∧ w.cell? ⟨(ad.add (i * 8)).block, (ad.add (i * 8)).off + 6, none⟩ = some (.int .i64 (rdNode xs i).a) ∧ w.cell? ⟨(ad.add (i * 8)).block, (ad.add (i * 8)).off + 7, none⟩ = some (.int .i64 (rdNode xs i).b) := by
  obtain ⟨ad, c, e, _, hK, hc0⟩ := Kd.C_get h zNode (i : Int) (by omega) (by omega)
  simp only [Int.toNat_natCast] at hK hc0
  have hc : ∀ j u, c[j]? = some u → w.cell? (ad.add (i * 8 + j)) = some u := hc0
  obtain rfl := kdNode_open hK
  exact ⟨ad, e, hc 0 _ rfl, by rw [← add_field _ _ 1 (by omega)]; exact hc 1 _ rfl, by rw [← add_field _ _ 2 (by omega)]; exact hc 2 _ rfl, by rw [← add_field _ _ 3 (by omega)]; exact hc 3 _ rfl, by rw [← add_field _ _ 4 (by omega)]; exact hc 4 _ rfl, by rw [← add_field _ _ 5 (by omega)]; exact hc 5 _ rfl, by rw [← add_field _ _ 6 (by omega)]; exact hc 6 _ rfl, by rw [← add_field _ _ 7 (by omega)]; exact hc 7 _ rfl⟩

structure Agg where
  fn : Int
  col : Int
def zAgg : Agg := ⟨0, 0⟩
def kdAgg : Kd Agg := Kd.iso (Kd.pair (Kd.int .i64) (Kd.int .i64)) (fun x : Agg => (x.fn, x.col))
def Agg.v (x : Agg) : Value := .agg #[.int .i64 x.fn, .int .i64 x.col]
theorem kdAgg_open {w : World} {x : Agg} {cs : List Value} (h : kdAgg.K w x cs) : cs = [.int .i64 x.fn, .int .i64 x.col] := by
  obtain ⟨_, _, rfl, h0, h1⟩ := h
  obtain rfl := h0
  obtain rfl := h1
  rfl
theorem kdAgg_openM {w : World} {base : Nat} {ok : Nat → Prop} {x : Agg} {cs : List Value} (h : kdAgg.M w base ok x cs) : cs = [.int .i64 x.fn, .int .i64 x.col] := by
  obtain ⟨_, _, rfl, h0, h1⟩ := h
  obtain rfl := h0
  obtain rfl := h1
  rfl
theorem kdAgg_mk (w : World) (x : Agg) : kdAgg.K w x [.int .i64 x.fn, .int .i64 x.col] := ⟨[.int .i64 x.fn], [.int .i64 x.col], rfl, rfl, rfl⟩
theorem kdAgg_mkM (w : World) (base : Nat) (ok : Nat → Prop) (x : Agg) : kdAgg.M w base ok x [.int .i64 x.fn, .int .i64 x.col] := ⟨[.int .i64 x.fn], [.int .i64 x.col], rfl, rfl, rfl⟩
def rdAgg (xs : List Agg) (i : Nat) : Agg := xs.getD i zAgg
theorem atAgg {w : World} {A : Option Addr} {n : Nat} {xs : List Agg} (h : Kd.C kdAgg w A n xs) (i : Nat) (h1 : i < n) : ∃ ad, A = some ad ∧ w.cell? (ad.add (i * 2)) = some (.int .i64 (rdAgg xs i).fn) ∧ w.cell? ⟨(ad.add (i * 2)).block, (ad.add (i * 2)).off + 1, none⟩ = some (.int .i64 (rdAgg xs i).col) := by
  obtain ⟨ad, c, e, _, hK, hc0⟩ := Kd.C_get h zAgg (i : Int) (by omega) (by omega)
  simp only [Int.toNat_natCast] at hK hc0
  have hc : ∀ j u, c[j]? = some u → w.cell? (ad.add (i * 2 + j)) = some u := hc0
  obtain rfl := kdAgg_open hK
  exact ⟨ad, e, hc 0 _ rfl, by rw [← add_field _ _ 1 (by omega)]; exact hc 1 _ rfl⟩

structure By where
  out : Int
  desc : Bool
def zBy : By := ⟨0, false⟩
def kdBy : Kd By := Kd.iso (Kd.pair (Kd.int .i64) Kd.bool) (fun x : By => (x.out, x.desc))
def By.v (x : By) : Value := .agg #[.int .i64 x.out, .bool x.desc]
theorem kdBy_open {w : World} {x : By} {cs : List Value} (h : kdBy.K w x cs) : cs = [.int .i64 x.out, .bool x.desc] := by
  obtain ⟨_, _, rfl, h0, h1⟩ := h
  obtain rfl := h0
  obtain rfl := h1
  rfl
theorem kdBy_openM {w : World} {base : Nat} {ok : Nat → Prop} {x : By} {cs : List Value} (h : kdBy.M w base ok x cs) : cs = [.int .i64 x.out, .bool x.desc] := by
  obtain ⟨_, _, rfl, h0, h1⟩ := h
  obtain rfl := h0
  obtain rfl := h1
  rfl
theorem kdBy_mk (w : World) (x : By) : kdBy.K w x [.int .i64 x.out, .bool x.desc] := ⟨[.int .i64 x.out], [.bool x.desc], rfl, rfl, rfl⟩
theorem kdBy_mkM (w : World) (base : Nat) (ok : Nat → Prop) (x : By) : kdBy.M w base ok x [.int .i64 x.out, .bool x.desc] := ⟨[.int .i64 x.out], [.bool x.desc], rfl, rfl, rfl⟩
def rdBy (xs : List By) (i : Nat) : By := xs.getD i zBy
theorem atBy {w : World} {A : Option Addr} {n : Nat} {xs : List By} (h : Kd.C kdBy w A n xs) (i : Nat) (h1 : i < n) : ∃ ad, A = some ad ∧ w.cell? (ad.add (i * 2)) = some (.int .i64 (rdBy xs i).out) ∧ w.cell? ⟨(ad.add (i * 2)).block, (ad.add (i * 2)).off + 1, none⟩ = some (.bool (rdBy xs i).desc) := by
  obtain ⟨ad, c, e, _, hK, hc0⟩ := Kd.C_get h zBy (i : Int) (by omega) (by omega)
  simp only [Int.toNat_natCast] at hK hc0
  have hc : ∀ j u, c[j]? = some u → w.cell? (ad.add (i * 2 + j)) = some u := hc0
  obtain rfl := kdBy_open hK
  exact ⟨ad, e, hc 0 _ rfl, by rw [← add_field _ _ 1 (by omega)]; exact hc 1 _ rfl⟩


end Go.Proofs.YtfkbodhnemokjaaDoor.W
