/- Values as trees, and how they stand in memory. -/
import Derived.Test.YtmbegappkkbfpaaAbsU
namespace Go.Abs
open Go

inductive VT where
  | mk (kind num : Int) (kids : List VT)

mutual
def VT.cs : VT → List AV
  | .mk k n ks => [.int .i64 k, .int .i64 n, .sl (VT.css ks) .none]
def VT.css : List VT → List (List AV)
  | [] => []
  | v :: vs => VT.cs v :: VT.css vs
end
mutual
def VT.nodes : VT → Nat
  | .mk _ _ ks => VT.nodesL ks + 1
def VT.nodesL : List VT → Nat
  | [] => 0
  | v :: vs => VT.nodes v + VT.nodesL vs
end
theorem VT.css_map : ∀ ks : List VT, VT.css ks = ks.map VT.cs
  | [] => rfl
  | v :: vs => by simp [VT.css, VT.css_map vs]
theorem VT.nodes_pos : ∀ v : VT, 0 < v.nodes
  | .mk _ _ _ => by simp [VT.nodes]
theorem VT.nodesL_app : ∀ (a b : List VT), VT.nodesL (a ++ b) = VT.nodesL a + VT.nodesL b
  | [], b => by simp [VT.nodesL]
  | v :: a, b => by simp [VT.nodesL, VT.nodesL_app a b]; omega
@[simp] theorem VT.cs_len (v : VT) : v.cs.length = 3 := by cases v; simp [VT.cs]
@[simp] theorem VT.css_len (ks : List VT) : (VT.css ks).length = ks.length := by simp [VT.css_map]
@[simp] theorem VT.cs_take (v : VT) : v.cs.take 3 = v.cs := by cases v; simp [VT.cs]
@[simp] theorem VT.cs_known (v : VT) : v.cs.all AV.known = true := by cases v; simp [VT.cs, AV.known]
@[simp] theorem VT.cs_scA (v : VT) (n : Nat) : v.cs.all (AV.scA n) = true := by cases v; simp [VT.cs, AV.scA, AV.scB]
@[simp] theorem VT.css_at {ks : List VT} {i : Nat} (h : i < ks.length) : (VT.css ks)[i]?.getD [] = (ks[i]).cs := by simp [VT.css_map, h]
@[simp] theorem VT.css_get {ks : List VT} {i : Nat} (h : i < (VT.css ks).length) : (VT.css ks)[i] = (ks[i]'(by simpa using h)).cs := by simp [VT.css_map]
theorem VT.css_getD {ks : List VT} {i : Nat} (h : i < ks.length) : (VT.css ks).getD i [] = (ks[i]).cs := by simp [VT.css_map, List.getD_eq_getElem?_getD, h]
/-- A kid is smaller. -/
theorem VT.kid_lt {k n : Int} {ks : List VT} {i : Nat} (h : i < ks.length) : (ks[i]).nodes < (VT.mk k n ks).nodes := by
  have h1 : VT.nodesL ks = VT.nodesL (ks.take i) + ((ks[i]).nodes + VT.nodesL (ks.drop (i + 1))) := by
    conv => lhs; rw [← List.take_append_drop i ks, VT.nodesL_app, List.drop_eq_getElem_cons h]
    rw [VT.nodesL]
  simp only [VT.nodes]
  omega
theorem VT.len_le : ∀ ks : List VT, ks.length ≤ VT.nodesL ks
  | [] => by simp
  | v :: vs => by have := VT.len_le vs; have := v.nodes_pos; simp [VT.nodesL]; omega
theorem VT.nodesL_take {ks : List VT} {i : Nat} (h : i < ks.length) : VT.nodesL (ks.take (i + 1)) = VT.nodesL (ks.take i) + (ks[i]).nodes := by
  rw [List.take_succ_eq_append_getElem h, VT.nodesL_app]; simp [VT.nodesL]
theorem VT.nodesL_take_le (ks : List VT) (i : Nat) : VT.nodesL (ks.take i) ≤ VT.nodesL ks := by
  conv => rhs; rw [← List.take_append_drop i ks, VT.nodesL_app]
  omega
/-- The size: arrays, references and functions count 1. -/
def VT.leaf (k : Int) : Bool := k == 6 || k == 7 || k == 8
mutual
def VT.size : VT → Nat
  | .mk k _ ks => if VT.leaf k = true then 1 else VT.sizeL ks + 1
def VT.sizeL : List VT → Nat
  | [] => 0
  | v :: vs => VT.size v + VT.sizeL vs
end
theorem VT.sizeL_app : ∀ (a b : List VT), VT.sizeL (a ++ b) = VT.sizeL a + VT.sizeL b
  | [], b => by simp [VT.sizeL]
  | v :: a, b => by simp [VT.sizeL, VT.sizeL_app a b]; omega
theorem VT.sizeL_take {ks : List VT} {i : Nat} (h : i < ks.length) : VT.sizeL (ks.take (i + 1)) = VT.sizeL (ks.take i) + (ks[i]).size := by
  rw [List.take_succ_eq_append_getElem h, VT.sizeL_app]; simp [VT.sizeL]
theorem VT.sizeL_take_le (ks : List VT) (i : Nat) : VT.sizeL (ks.take i) ≤ VT.sizeL ks := by
  conv => rhs; rw [← List.take_append_drop i ks, VT.sizeL_app]
  omega
mutual
theorem VT.size_le : ∀ v : VT, v.size ≤ v.nodes
  | .mk k n ks => by
    have := VT.sizeL_le ks
    simp only [VT.size, VT.nodes]
    split <;> omega
theorem VT.sizeL_le : ∀ ks : List VT, VT.sizeL ks ≤ VT.nodesL ks
  | [] => by simp [VT.sizeL, VT.nodesL]
  | v :: vs => by have := VT.size_le v; have := VT.sizeL_le vs; simp only [VT.sizeL, VT.nodesL]; omega
end
/- The guard on a value's nodes: what is left of a number behind it, and whether it was enough. -/
mutual
def VT.val : VT → Int → Bool × Int
  | .mk _ _ ks, n => if n - 1 < 0 then (false, n - 1) else VT.valL ks (n - 1)
def VT.valL : List VT → Int → Bool × Int
  | [], n => (true, n)
  | v :: vs, n => match VT.val v n with
    | (true, m) => VT.valL vs m
    | (false, m) => (false, m)
end
mutual
theorem VT.val_spec : ∀ (v : VT) (n : Int), 0 ≤ n → ((VT.val v n).1 = true → (VT.val v n).2 = n - v.nodes ∧ 0 ≤ (VT.val v n).2) ∧ -1 ≤ (VT.val v n).2 ∧ (VT.val v n).2 ≤ n
  | .mk k m ks, n, h => by
    simp only [VT.val, VT.nodes]
    split
    · simp; omega
    · have := VT.valL_spec ks (n - 1) (by omega)
      refine ⟨fun ht => ?_, by omega, by omega⟩
      have := this.1 ht
      omega
theorem VT.valL_spec : ∀ (ks : List VT) (n : Int), 0 ≤ n → ((VT.valL ks n).1 = true → (VT.valL ks n).2 = n - VT.nodesL ks ∧ 0 ≤ (VT.valL ks n).2) ∧ -1 ≤ (VT.valL ks n).2 ∧ (VT.valL ks n).2 ≤ n
  | [], n, h => by simp [VT.valL, VT.nodesL]; omega
  | v :: vs, n, h => by
    have h1 := VT.val_spec v n h
    simp only [VT.valL, VT.nodesL]
    split
    · rename_i m hm
      rw [hm] at h1
      have h2 := h1.1 rfl
      simp only at h2
      have h3 := VT.valL_spec vs m h2.2
      refine ⟨fun ht => ?_, by omega, by omega⟩
      have := h3.1 ht
      omega
    · rename_i m hm
      rw [hm] at h1
      simp only at h1
      exact ⟨by simp, by omega, by omega⟩
end
theorem VT.valL_drop {ks : List VT} {i : Nat} (h : i < ks.length) (n : Int) : VT.valL (ks.drop i) n = match VT.val ks[i] n with
    | (true, m) => VT.valL (ks.drop (i + 1)) m
    | (false, m) => (false, m) := by rw [List.drop_eq_getElem_cons h, VT.valL]
end Go.Abs
