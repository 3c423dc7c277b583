/- Which fields of a constructor are recursive: the reference's function. -/
import Derived.Test.YtfpmdpldabopjaaKVa
import Derived.Test.YtfpmdpldabopjaaKYb
import Derived.Test.YtfpmdpldabopjaaKGQ
namespace Go.Proofs.Ytfpmdpldabopjaa
open Go Go.Abs
set_option linter.unusedSimpArgs false
set_option linter.unusedVariables false
set_option maxRecDepth 8000
def bcells (l : List Bool) : List (List AV) := l.map fun b => [.bool b]
theorem ref5_Recursive_spec (data : List Dat) (d : Nat) (c : Nat) (hd : d < data.length) (hc : c < (data[d]).cons.length) (hl : data.length ≤ 1000000) (hcl : (data[d]).cons.length ≤ 1000000) (hal : ((data[d]).cons[c]).args.length ≤ 1000000)
    (hb : ∀ x ∈ ((data[d]).cons[c]).args, x.nodes ≤ 1000000) (H : Heap) (K : Kt)
    (hK : K (.sl (bcells (recsC d data[d] (data[d]).cons[c])) .none) H) :
    ACalls Try.prog n_ref5_Recursive [.sl (data.map Dat.cs) .none, .int .i64 d, .int .i64 c] H K := by
  refine ACalls.out (ref5_Recursive_ok fun hs => ?_)
  have e1 : (data.map Dat.cs)[d]? = some (data[d]).cs := by simp [hd]
  have e2 : ((data[d]).cons.map Con.cs)[c]? = some ((data[d]).cons[c]).cs := by simp [hc]
  generalize hD : data[d] = D at *
  generalize hA : D.cons[c] = C at *
  have h1 : ¬ (d : Int) < 0 := by omega
  have h2 : ¬ (data.length : Int) ≤ d := by omega
  have h3 : ¬ (c : Int) < 0 := by omega
  have h4 : ¬ (D.cons.length : Int) ≤ c := by omega
  simp [ref5_Recursive, h1, h2, h3, h4, e1, e2, Dat.cs, Con.cs, hd, hD, hc, hA]
  unfold ref5_Recursive_l5
  refine ALoop.own 7 e_bool 1 rfl ?_
  show ref5_Recursive_l5 (.sl (data.map Dat.cs) .none) (.int .i64 d) (.sl [] (.own H.length)) (.sl (VT.css C.args) .none) (.int .i64 C.args.length) (.int .i64 0) (H ++ [.perm e_bool 1 0]) (Out H.length K)
  have hperm : ∀ n, HSc (H ++ [.perm e_bool 1 n]) := fun n => hs.append rfl
  refine ref5_Recursive_loop5 (Inv := fun q t7 t42 H' => ∃ i : Nat, i ≤ C.args.length ∧ q = C.args.length - i ∧ t42 = .int .i64 i ∧ t7 = .sl (bcells ((recsC d D C).take i)) (.own H.length) ∧ H' = H ++ [.perm e_bool 1 i]) C.args.length ?_ ?_
  · intro _; exact ⟨0, by omega, by omega, rfl, rfl, rfl⟩
  · rintro q t7 t42 H' ⟨i, hi, rfl, rfl, rfl, rfl⟩ hsc hlen hsF Kb hKb
    have hrl : (recsC d D C).length = C.args.length := by simp [recsC]
    by_cases hlt : i < C.args.length
    · obtain ⟨x, y, z, hvx, hx, hy, hz⟩ := vt3' C.args[i]
      have hnb := hb _ (List.getElem_mem hlt)
      simp [ref5_Recursive_b5, hlt, hvx, Nat.add_assoc, e1, hd, hD, Dat.cs]
      rw [← hvx]
      refine ⟨⟨hx, hy, hz⟩, ?_⟩
      refine aPureX_call (.bool (isSelf d D.vars C.args[i])) (fun J => IsSelf_spec _ _ _ hnb _ _ ⟨rfl, rfl⟩) ?_
      simp [aBuildS, fillS, plain, AV.pd, aAppend, aSrc, aAppTo, bcells]
      have hmin : min i (recsC d D C).length = i := by omega
      rw [hmin]
      refine ⟨rfl, ⟨by omega, by omega⟩, ?_⟩
      rw [wrap_in (by omega) (by omega)]
      have hst : List.take i (List.map (fun b => [AV.bool b]) (recsC d D C)) ++ [[AV.bool (isSelf (↑d) D.vars C.args[i])]] = bcells ((recsC d D C).take (i + 1)) := by
        rw [List.take_succ_eq_append_getElem (by omega)]
        simp [bcells, recsC]
      rw [hst]
      refine hKb _ _ ⟨C.args.length - (i + 1), by omega, Back.at (J := [.cells C.args[i].cs]) (H2 := H ++ [.perm e_bool 1 (i + 1)]) (by simp) (by simp) (hperm _) ?_ ⟨_, _, rfl, i + 1, by omega, rfl, by simp, rfl, rfl⟩⟩
      simp [ref5_Recursive_fr5, AV.sc, AV.scV, AV.scA, AV.scB]
    · obtain rfl : i = C.args.length := by omega
      rw [List.take_of_length_le (by omega)]
      simp [ref5_Recursive_b5]
      exact Out.at rfl (Nat.le_refl _) hs (.atom (.sl _ _)) rfl (by simp [bcells, AV.scV, AV.scA, AV.scB]) hK
end Go.Proofs.Ytfpmdpldabopjaa
