/- The core program of the sanity checks. -/
import Derived.Test.YtkdmpbhbmmhijaaKPa
import Derived.Test.YtkdmpbhbmmhijaaKGV1
namespace Go.Proofs.Ytkdmpbhbmmhijaa
open Go Go.Abs
set_option linter.unusedSimpArgs false
set_option linter.unusedVariables false
set_option maxRecDepth 8000
def codeL : List AV := [.str [102], .sl [] .none, .sl [] .none, .int .i64 1, .int .i64 0, .sl [] .none, .int .i64 0]
def exprL (n : Int) : List AV := [.int .i64 3, .int .i64 n, .sl [] .none, .sl [] .none, .sl [] .none, .int .i64 1, .int .i64 0, .sl [] .none]
def c1 (n : Int) : Cor := ⟨[], [⟨[102], [], [], sm 1, 0⟩], [], [⟨3, n, [], [], [], sm 1⟩]⟩
theorem c1_cs (n : Int) : (c1 n).cs = [.sl [] .none, .sl [codeL] .none, .sl [] .none, .sl [exprL n] .none] := rfl
theorem c1_k (n : Int) : KCore (c1 n) := by
  refine ⟨⟨by simp [c1], by simp [c1]⟩, by simp [c1], by simp [c1], ⟨by simp [c1], by simp [c1]⟩, ?_, ?_⟩
  · intro f hf
    simp [c1] at hf
    subst hf
    exact ⟨by simp, by simp, by simp, by simp [sm, VT.nodes, VT.nodesL]⟩
  · intro e he
    simp [c1] at he
    subst he
    exact ⟨by simp, by simp, by simp, by simp [sm, VT.nodes, VT.nodesL], by simp⟩
theorem c1_codes (n : Int) : CodesP (c1 n) := by
  intro i hi
  have h0 : i = 0 := by simp [c1] at hi; omega
  subst h0
  refine ⟨hi, fun _ => ⟨fun j hj => by omega, fun j hj => by omega, rfl⟩, by simp [c1], by simp [c1, tyValid, sm, VT.nodes, VT.nodesL, tyOk, tyOkL, shapeOk], 0, rfl, by simp [c1], by simp [c1, same_iff]⟩
theorem c1_good : ProgV (c1 1) := by
  refine ⟨rfl, rfl, c1_codes 1, ⟨?_, ?_, ?_, rfl⟩, ⟨?_, ?_, rfl⟩, ?_, ?_, ?_⟩
  · intro i h
    have h0 : i = 0 := by simp [c1] at h; omega
    subst h0; rfl
  · intro i h k hk
    have h0 : i = 0 := by simp [c1] at h; omega
    subst h0
    simp [c1] at hk
  · simp [c1, allE]
  · intro x hx; simp [c1, allV] at hx
  · simp [c1, allV]
  · simp [c1, scopesF, visitF, visitK]
  · intro i h
    have h0 : i = 0 := by simp [c1] at h; omega
    subst h0
    simp [c1, progRule, isNum, shapeB, same_iff]
  · intro i h hn
    have h0 : i = 0 := by simp [c1] at h; omega
    subst h0
    simp [c1] at hn
theorem bool_eq {a b : Bool} (h : a = true ↔ b = true) : a = b := by cases a <;> cases b <;> simp_all
open Classical in
noncomputable def vOk (c : Cor) : Bool := decide (ProgV c)
theorem vOk_iff (c : Cor) : vOk c = true ↔ ProgV c := by simp [vOk]
theorem zq11_b (c : Cor) (hc : KCore c) (H : Heap) (K : Kt) (hK : K (.bool (vOk c)) H) : ACalls tP n_zq11 [.agg c.cs] H K :=
  zq11_spec c hc H K fun b hb => by rw [bool_eq (hb.trans (vOk_iff c).symm)]; exact hK
theorem zq12_b (c : Cor) (hc : KCore c) (H : Heap) (K : Kt) (hK : K (.bool (vOk c)) H) : ACalls tP n_zq12 [.agg c.cs] H K :=
  zq12_spec c hc H K fun b hb => by rw [bool_eq (hb.trans ((valid_iff c hc).symm.trans (vOk_iff c).symm))]; exact hK
theorem one_spec (H : Heap) (K : Kt) (hK : K (.agg (c1 1).cs) H) : ACalls tP n_zq18 [] H K := by
  refine ACalls.out (zq18_ok fun hs => ?_)
  simp [zq18, aBuild, fillA]
  rw [show ∀ k : AV → Prop, aBuildS 7 [(.str []), .snil, .snil, (.int .i64 0), (.int .i64 0), .snil, (.int .i64 0)] 1 [(0, .agg [.str [102], .snil, .snil, .int .i64 1, .int .i64 0, .snil, .int .i64 0])] k = k (.sl [codeL] .full) from fun k => propext Iff.rfl]
  simp
  rw [show ∀ k : AV → Prop, aBuildS 8 [(.int .i64 0), (.int .i64 0), .snil, .snil, .snil, (.int .i64 0), (.int .i64 0), .snil] 1 [(0, .agg [.int .i64 3, .int .i64 1, .snil, .snil, .snil, .int .i64 1, .int .i64 0, .snil])] k = k (.sl [exprL 1] .full) from fun k => propext Iff.rfl]
  simp
  rw [c1_cs] at hK
  exact Out.at rfl (Nat.le_refl _) hs (WkV.agg (ds := [.sl [] .none, .sl [codeL] .none, .sl [] .none, .sl [exprL 1] .none]) ⟨.snil, .sl _ _, .snil, .sl _ _, trivial⟩) rfl (by simp [AV.scV, AV.scA, AV.scB]) hK
end Go.Proofs.Ytkdmpbhbmmhijaa

