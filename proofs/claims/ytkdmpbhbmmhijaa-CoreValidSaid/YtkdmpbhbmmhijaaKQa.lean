/- The core program of the sanity checks, with slices that are changed. -/
import Derived.Test.YtkdmpbhbmmhijaaA3
import Derived.Test.YtkdmpbhbmmhijaaKGV
import Derived.Test.YtkdmpbhbmmhijaaKPa
namespace Go.Proofs.Ytkdmpbhbmmhijaa
open Go Go.Abs
set_option linter.unusedSimpArgs false
set_option linter.unusedVariables false
set_option maxRecDepth 100000
def oneV (H : Heap) (K : Kt) : Prop :=
  aNew [.snil, .snil, .snil, .snil] H fun t0 H =>
  aBuild [(.int .i64 0), (.int .i64 0), .snil] [(0, 1), (1, 1), (2, 1)] [(0, (.int .i64 1))] fun t2 =>
  aNew [(.int .i64 0), (.int .i64 0), .snil] H fun t1 H =>
  aStore 3 t1 t2 H fun H =>
  aLoad true 3 t1 H fun t3 =>
  aBuild [(.str []), .snil, .snil, (.int .i64 0), (.int .i64 0), .snil, (.int .i64 0)] [(0, 1), (1, 1), (2, 1), (3, 3), (6, 1)] [(0, (.str [102])), (3, t3)] fun t4 =>
  aBuildM 7 [(.str []), .snil, .snil, (.int .i64 0), (.int .i64 0), .snil, (.int .i64 0)] 1 [(0, t4)] H fun t5 H =>
  aLoad true 3 t1 H fun t6 =>
  aBuild [(.int .i64 0), (.int .i64 0), .snil, .snil, .snil, (.int .i64 0), (.int .i64 0), .snil] [(0, 1), (1, 1), (2, 1), (3, 1), (4, 1), (5, 3)] [(0, (.int .i64 3)), (1, (.int .i64 1)), (5, t6)] fun t7 =>
  aBuildM 8 [(.int .i64 0), (.int .i64 0), .snil, .snil, .snil, (.int .i64 0), (.int .i64 0), .snil] 1 [(0, t7)] H fun t8 H =>
  aBuild [.snil, .snil, .snil, .snil] [(0, 1), (1, 1), (2, 1), (3, 1)] [(1, t5), (3, t8)] fun t9 =>
  aStore 4 t0 t9 H fun H =>
  aLoad true 4 t0 H fun r0 =>
  K r0 H
theorem oneV_eq (H : Heap) (K : Kt) : awpV Try.prog zq18_c (retQ Try.prog zq18_r K) (List.replicate 10 .unk) H = oneV H K := by kernel_rfl
theorem oneV_ok {H : Heap} {K : Kt} (h : HSc H → oneV H K) : ACalls Try.prog n_zq18 [] H K :=
  acalls_bodyV Try.func20 (c := zq18_c) (by kernel_rfl) (fun hs => (oneV_eq H K).mpr (h hs))
def codeL : List AV := [.str [102], .sl [] .none, .sl [] .none, .int .i64 1, .int .i64 0, .sl [] .none, .int .i64 0]
def exprL (n : Int) : List AV := [.int .i64 3, .int .i64 n, .sl [] .none, .sl [] .none, .sl [] .none, .int .i64 1, .int .i64 0, .sl [] .none]
theorem bm7 (H : Heap) (K : Kt) : aBuildM 7 [(.str []), .snil, .snil, (.int .i64 0), (.int .i64 0), .snil, (.int .i64 0)] 1 [(0, .agg [.str [102], .snil, .snil, .int .i64 1, .int .i64 0, .snil, .int .i64 0])] H K = K (.ms H.length 0 1 1) (H ++ [.cells codeL]) := propext Iff.rfl
theorem bm8 (H : Heap) (K : Kt) : aBuildM 8 [(.int .i64 0), (.int .i64 0), .snil, .snil, .snil, (.int .i64 0), (.int .i64 0), .snil] 1 [(0, .agg [.int .i64 3, .int .i64 1, .snil, .snil, .snil, .int .i64 1, .int .i64 0, .snil])] H K = K (.ms H.length 0 1 1) (H ++ [.cells (exprL 1)]) := propext Iff.rfl
theorem oneV_spec {H : Heap} {K : Kt} (hK : ∀ X Y, K (.agg [.snil, .ms (H.length + 2) 0 1 1, .snil, .ms (H.length + 3) 0 1 1]) (H ++ [X, Y, .cells codeL, .cells (exprL 1)])) : ACalls Try.prog n_zq18 [] H K := by
  refine oneV_ok fun hs => ?_
  simp [oneV, aBuild, fillA]
  rw [bm7]
  simp
  rw [bm8]
  simp
  exact hK _ _
end Go.Proofs.Ytkdmpbhbmmhijaa

namespace Go.Proofs.Ytkdmpbhbmmhijaa
open Go Go.Abs
set_option linter.unusedSimpArgs false
set_option linter.unusedVariables false
set_option maxRecDepth 8000
def c1 (n : Int) : Cor := ⟨[], [⟨[102], [], [], sm 1, 0⟩], [], [⟨3, n, [], [], [], sm 1⟩]⟩
theorem c1_cs (n : Int) : (c1 n).cs = [.sl [] .none, .sl [codeL] .none, .sl [] .none, .sl [exprL n] .none] := rfl
theorem c1_k (n : Int) : KCore (c1 n) := by
  refine ⟨⟨by simp [c1], by simp [c1]⟩, by simp [c1], by simp [c1], ⟨by simp [c1], by simp [c1]⟩, ?_, ?_⟩
  · intro f hf
    simp [c1] at hf
    subst hf
    exact ⟨by simp, by simp, by simp, by simp [sm, VT.nodes, VT.nodesL]⟩
  · intro e he
    simp [c1] at he
    subst he
    exact ⟨by simp, by simp, by simp, by simp [sm, VT.nodes, VT.nodesL], by simp⟩
theorem one_read {H : Heap} {a b : Nat} {n : Int} (ha : H[a]? = some (.cells codeL)) (hb : H[b]? = some (.cells (exprL n))) (B : Nat) (w : World) (G : Gh) (hH : HRel B w G H) (vs : Array Value)
    (hv : All2 (TRel w G) vs.toList [.agg [.snil, .ms a 0 1 1, .snil, .ms b 0 1 1]]) : All2 (TRel w (G0 w)) vs.toList [.agg (c1 n).cs] := by
  generalize vs.toList = l at *
  match l, hv with
  | [v], hv =>
    obtain ⟨⟨us, rfl, h2⟩, _⟩ := hv
    refine ⟨⟨us, rfl, ?_⟩, trivial⟩
    rw [c1_cs]
    generalize us.toList = m at *
    match m, h2 with
    | [x, y, z, u], h2 =>
      obtain ⟨hx, hy, hz, hu, _⟩ := h2
      have hx : x = .slice none 0 0 := hx
      have hz : z = .slice none 0 0 := hz
      subst hx hz
      refine ⟨.slE _ _, ?_, .slE _ _, ?_, trivial⟩
      · exact ms_drel hH ha rfl hy
      · exact ms_drel hH hb rfl hu
theorem c1_codes (n : Int) : CodesP (c1 n) := by
  intro i hi
  have h0 : i = 0 := by simp [c1] at hi; omega
  subst h0
  refine ⟨hi, fun _ => ⟨fun j hj => by omega, fun j hj => by omega, rfl⟩, by simp [c1], by simp [c1, tyValid, sm, VT.nodes, VT.nodesL, tyOk, tyOkL, shapeOk], 0, rfl, by simp [c1], by simp [c1, same_iff]⟩
theorem c1_good : ProgV (c1 1) := by
  refine ⟨rfl, rfl, c1_codes 1, ⟨?_, ?_, ?_, rfl⟩, ⟨?_, ?_, rfl⟩, ?_, ?_, ?_⟩
  · intro i h
    have h0 : i = 0 := by simp [c1] at h; omega
    subst h0; rfl
  · intro i h k hk
    have h0 : i = 0 := by simp [c1] at h; omega
    subst h0
    simp [c1] at hk
  · simp [c1, allE]
  · intro x hx; simp [c1, allV] at hx
  · simp [c1, allV]
  · simp [c1, scopesF, visitF, visitK]
  · intro i h
    have h0 : i = 0 := by simp [c1] at h; omega
    subst h0
    simp [c1, progRule, isNum, shapeB, same_iff]
  · intro i h hn
    have h0 : i = 0 := by simp [c1] at h; omega
    subst h0
    simp [c1] at hn
theorem c1_bad : ¬ ProgV (c1 1073741824) := by
  intro h
  have := h.exprs.rule 0 (by simp [c1])
  simp [c1, progRule, isNum, shapeB, same_iff] at this
theorem awake_spec (H : Heap) (K : Kt) (hK : K (.bool true) H) : ACalls Try.prog n_zq13 [] H K := by
  refine ACalls.out (zq13_ok fun hs => ?_)
  simp [zq13]
  refine oneV_spec fun X Y => ?_
  have hset : (exprL 1).set 1 (.int .i64 1073741824) = exprL 1073741824 := rfl
  simp [exprL]
  refine oneV_spec fun X' Y' => ?_
  simp
  refine ACalls.pure0 (b := true) (zq11_spec (c1 1) (c1_k 1) [] _ fun b hb => ?_) (one_read (a := H.length + 5 + 2) (b := H.length + 5 + 3) ?_ ?_) ?_
  · cases b with
    | true => rfl
    | false => exact absurd (hb.2 c1_good) (by simp)
  · rw [Nat.add_assoc]; simp
  · rw [Nat.add_assoc]; simp
  simp
  refine ACalls.pure0 (b := false) (zq11_spec (c1 1073741824) (c1_k _) [] _ fun b hb => ?_) (one_read (a := H.length + 2) (b := H.length + 3) ?_ ?_) ?_
  · cases b with
    | true => exact absurd (hb.1 rfl) c1_bad
    | false => rfl
  · simp
  · simp [exprL]
  simp
  exact Out.bool rfl (Nat.le_refl _) hs hK
theorem bool_eq {a b : Bool} (h : a = true ↔ b = true) : a = b := by cases a <;> cases b <;> simp_all
theorem CoreValid_spec (c : Cor) (h1 : c.data.length ≤ 9223372036854775807) (h2 : c.vars.length ≤ 9223372036854775807) : ACalls Try.prog n_zq1 [.agg c.cs] [] fun r _ => r = .bool true := by
  refine zq1_ok fun hs => ?_
  have hat : c.cs = [.sl (c.data.map Dat.cs) .none, .sl (c.codes.map Cod.cs) .none, .sl (VT.css c.vars) .none, .sl (c.exprs.map CEx.cs) .none] := rfl
  simp [zq1, hat]
  rw [← hat]
  refine zq10_spec c h1 h2 _ _ fun b hb => ?_
  cases b with
  | false => simp
  | true =>
  have hc := hb rfl
  obtain ⟨b, hb⟩ : ∃ b : Bool, (b = true ↔ ProgV c) := by
    classical
    exact ⟨decide (ProgV c), by simp⟩
  simp [hat]
  rw [← hat]
  refine aPureX_call (.bool b) (fun J => zq11_spec c hc _ _ fun b' hb' => ⟨congrArg AV.bool (bool_eq (hb'.trans hb.symm)), rfl⟩) ?_
  refine aPureX_call (.bool b) (fun J => zq12_spec c hc _ _ fun b' hb' => ⟨congrArg AV.bool (bool_eq (hb'.trans ((valid_iff c hc).symm.trans hb.symm))), rfl⟩) ?_
  simp
  exact aPureX_call (.bool true) (fun J => awake_spec _ _ ⟨rfl, rfl⟩) rfl
end Go.Proofs.Ytkdmpbhbmmhijaa

