import Derived.Test.YtjkkonpjecoieaaGreatKY8
import Derived.Test.YtjkkonpjecoieaaGreatAbsW
import Derived.Test.YtjkkonpjecoieaaGreatKNum
import Derived.Test.YtjkkonpjecoieaaGreatProg
import Derived.KernelRfl
set_option linter.unusedSimpArgs false
set_option linter.unusedVariables false
namespace Go.Proofs.YtjkkonpjecoieaaGreat
open Go Go.Abs
set_option maxRecDepth 8000
theorem zA8 (x : List VT) (hl : x.length ≤ 1000000000) (fv : AV) (H : zaa) (K : AV → zaa → Prop) (hfv : fv.sc H.length = true) (Inv : Nat → zaa → Prop) (h0 : Inv 0 H)
  (step : ∀ (i : Nat) (h : i < x.length) (H' : zaa), H.length ≤ H'.length → Inv i H' → aCallV tP fv [.agg (x[i]).cs] H' fun r H'' => (r = .bool false ∧ Inv (i + 1) H'') ∨ (r = .bool true ∧ K (.int .i64 i) H''))
  (fin : ∀ H', Inv x.length H' → K (.int .i64 (-1)) H') : ACalls tP zno [.sl (VT.css x) .none, fv] H K := by
 refine zJO fun hs => ?_
 simp [zxX]
 refine zJM (Inv := fun q t8 H' => ∃ i : Nat, i ≤ x.length ∧ q = x.length - i ∧ t8 = .int .i64 i ∧ H.length ≤ H'.length ∧ Inv i H') x.length ?_ ?_
 ·intro _; exact ⟨0, by omega, by omega, rfl, Nat.le_refl _, h0⟩
 ·rintro q t8 H' ⟨i, hi, rfl, rfl, hle, hI⟩ hsc hlen hsF Kb hKb
  by_cases hlt : i < x.length
  ·simp [zqe, hlt]
   refine (step i hlt H' hle hI).mono' fun r H'' hsc' hle' hr => ?_
   rcases hr with ⟨rfl, hI'⟩ | ⟨rfl, hk⟩
   ·simp
    rw [zar (by omega) (by omega)]
    refine hKb _ _ ⟨x.length - (i + 1), by omega, Back.here (by omega) hsc' ?_ ⟨_, rfl, i + 1, by omega, rfl, by simp, by omega, hI'⟩⟩
    simp [zkG, AV.sc, AV.scV, AV.scA, AV.scB]
    exact zci (by omega) hfv
   ·simpa using hk
  ·obtain rfl : i = x.length := by omega
   simp [zqe]
   exact fin H' hI
theorem zmp (x : List VT) (hl : x.length ≤ 1000000000) (fv : AV) (H : zaa) (K : AV → zaa → Prop) (hfv : fv.sc H.length = true) (Inv : Nat → zaa → Prop) (h0 : Inv 0 H)
  (step : ∀ (i : Nat) (h : i < x.length) (H' : zaa), H.length ≤ H'.length → Inv i H' → aCallV tP fv [.agg (x[i]).cs] H' fun r H'' => (r = .bool false ∧ Inv (i + 1) H'') ∨ (r = .bool true ∧ K (.bool true) H''))
  (fin : ∀ H', Inv x.length H' → K (.bool false) H') : ACalls tP zeH [.sl (VT.css x) .none, fv] H K := by
 refine zJf fun hs => ?_
 unfold zxL
 refine zA8 x hl fv H _ hfv Inv h0 (fun i h H' hle hI => (step i h H' hle hI).mono' fun r H'' _ _ hr => ?_) (fun H' hI => ?_)
 ·rcases hr with hr | ⟨h1, h2⟩
  ·exact .inl hr
  ·refine .inr ⟨h1, ?_⟩
   have : decide ((0 : Int) ≤ i) = true := by simp
   simpa using h2
 ·simpa using fin H' hI
theorem zAt : zc1 tP zia = true := by kernel_rfl
section
variable (data : List Dat) (vars : Int)
theorem zDs : ∀ (l : List VT) (i : Nat) (h : i < l.length), za7 data vars l = true → zaS data vars l[i] = true := by
 intro l
 induction l with
 | nil => intro i h; simp at h
 | cons a l ih =>
  intro i h hl
  simp [za7] at hl
  cases i with
  | zero => exact hl.1
  | succ i => exact ih i (by simpa using h) hl.2
def zbA (left : Int) : AB := .cells [.sl (data.map Dat.cs) .none, .int .i64 vars, .int .i64 left]
theorem zDD : ∀ (m : Nat) (v : VT), v.nodes ≤ m → v.nodes ≤ 1000000000 → ∀ (left : Int), left ≤ 1000000 → -1 ≤ left → ∀ (H : zaa) (id : Nat), H[id]? = some (zbA data vars left) → ∀ (K : AV → zaa → Prop),
  (zaS data vars v = true → (v.nodes : Int) ≤ left → K (.bool true) (H.set id (zbA data vars (left - v.nodes)))) → (¬ (zaS data vars v = true ∧ (v.nodes : Int) ≤ left) → ∀ l', K (.bool false) (H.set id (zbA data vars l'))) →
  ACalls tP zh4 [.ptr id 0, .agg v.cs] H K := by
 intro m
 induction m with
 | zero => intro v h; have := v.nodes_pos; omega
 | succ m ih =>
  intro v hv hb left hl1 hl0 H id hid K hK hF
  obtain ⟨k, n, ks⟩ := v
  have hlt := zbY hid
  have hnn : (VT.mk k n ks).nodes = VT.nodesL ks + 1 := by simp [VT.nodes]
  have hll := VT.len_le ks
  refine ACalls.out (zHD fun hs => ?_)
  -- the heap within: the receiver's copy and the type's
  generalize hJ : ([.cells [.ptr id 0], .cells [.int .i64 k, .int .i64 n, .sl (VT.css ks) .none]] : zaa) = J
  have hJ0 : J[0]? = some (.cells [.ptr id 0]) := by subst hJ; rfl
  have hJ1 : J[1]? = some (.cells [.int .i64 k, .int .i64 n, .sl (VT.css ks) .none]) := by subst hJ; rfl
  have hget : ∀ l', (H.set id (zbA data vars l') ++ J)[id]? = some (zbA data vars l') := fun l' => zbs (zbQ _ hid)
  have bad : (¬ (zaS data vars (.mk k n ks) = true ∧ ((VT.mk k n ks).nodes : Int) ≤ left)) → ∀ l', Out H.length K (.bool false) (H.set id (zbA data vars l') ++ J) := fun h l' =>
   Out.bool rfl (by simp) (hs.set rfl) (hF h l')
  have badS : za6 data vars k n ks.length = false → ∀ l', Out H.length K (.bool false) (H.set id (zbA data vars l') ++ J) := fun h l' => bad (fun ⟨h1, _⟩ => by simp [zaS, h] at h1) l'
  -- the arguments
  have args : za6 data vars k n ks.length = true → 1 ≤ left → ∀ KK : AV → zaa → Prop, (∀ H', Out H.length K (.bool true) H' → KK (.bool false) H') → (∀ H', Out H.length K (.bool false) H' → KK (.bool true) H') →
    ACalls tP zeH [.sl (VT.css ks) .none, .fn zia [.ptr H.length 0]] (H.set id (zbA data vars (left - 1)) ++ J) KK := by
   intro hsh h1 KK hKf hKt
   subst hJ
   refine zmp ks (by omega) _ _ _ (by simp [AV.sc, AV.scV, AV.scA, AV.scB]) (fun i H' => (VT.nodesL (ks.take i) : Int) + 1 ≤ left ∧ za7 data vars (ks.take i) = true ∧ H' = H.set id (zbA data vars (left - 1 - VT.nodesL (ks.take i))) ++ [.cells [.ptr id 0], .cells [.int .i64 k, .int .i64 n, .sl (VT.css ks) .none]]) ⟨by simp [VT.nodesL]; omega, by simp [za7], by simp [VT.nodesL]⟩ ?_ ?_
   ·rintro i hi H' hle ⟨hb1, hb2, rfl⟩
    have hki := VT.kid_lt (k := k) (n := n) hi
    have h1 := VT.nodesL_take hi
    have h2 := VT.nodesL_take_le ks (i + 1)
    have hokL : za7 data vars (ks.take (i + 1)) = (za7 data vars (ks.take i) && zaS data vars ks[i]) := by
     rw [List.take_succ_eq_append_getElem hi]
     have : ∀ (l : List VT) (x : VT), za7 data vars (l ++ [x]) = (za7 data vars l && zaS data vars x) := by
      intro l x
      induction l with
      | nil => simp [za7]
      | cons a l ih => simp [za7, ih, Bool.and_assoc]
     exact this _ _
    simp only [aCallV, zAt, List.singleton_append]
    refine ACalls.out (zJi fun hs1 => ?_)
    have hH1 : ∀ l', HSc (H.set id (zbA data vars l') ++ [.cells [.ptr id 0], .cells [.int .i64 k, .int .i64 n, .sl (VT.css ks) .none]]) := fun l' => (hs.set rfl).append (by simp [AB.sc, AV.scA, AV.scB]; omega)
    obtain ⟨x1, x2, x3, hvx, hx1, hx2, hx3⟩ := zaK ks[i]
    have hll2 : (H.set id (zbA data vars (left - 1 - VT.nodesL (ks.take i)))).length = H.length := by simp
    have hg1 : (H.set id (zbA data vars (left - 1 - VT.nodesL (ks.take i))) ++ [AB.cells [.ptr id 0], .cells [.int .i64 k, .int .i64 n, .sl (VT.css ks) .none], .cells [x1, x2, x3]])[H.length]? = some (.cells [.ptr id 0]) := by
     rw [List.getElem?_append_right (by simp)]; simp
    have hg2 : (H.set id (zbA data vars (left - 1 - VT.nodesL (ks.take i))) ++ [AB.cells [.ptr id 0], .cells [.int .i64 k, .int .i64 n, .sl (VT.css ks) .none], .cells [x1, x2, x3]])[H.length + 2]? = some (.cells [x1, x2, x3]) := by
     rw [List.getElem?_append_right (by simp)]; simp
    simp [zxM, hvx, hg1, hg2, hll2]
    rw [← hvx]
    refine ih ks[i] (by omega) (by omega) (left - 1 - VT.nodesL (ks.take i)) (by omega) (by omega) _ id (zbs (zbQ _ hid)) _ ?_ ?_
    ·intro ho hle2
     rw [zce _ (zbQ _ hid), List.set_set, show left - 1 - (VT.nodesL (ks.take i) : Int) - (ks[i]).nodes = left - 1 - VT.nodesL (ks.take (i + 1)) by omega]
     simp
     refine Out.bool (J := [_]) (H2 := H.set id (zbA data vars (left - 1 - VT.nodesL (ks.take (i + 1)))) ++ [.cells [.ptr id 0], .cells [.int .i64 k, .int .i64 n, .sl (VT.css ks) .none]]) (by simp; rfl) (by simp) (hH1 _) (.inl ⟨rfl, by omega, by rw [hokL, hb2, ho]; rfl, rfl⟩)
    ·intro ho l'
     rw [zce _ (zbQ _ hid), List.set_set]
     simp
     have hno : ¬ (zaS data vars (.mk k n ks) = true ∧ ((VT.mk k n ks).nodes : Int) ≤ left) := by
      rintro ⟨g1, g2⟩
      have hall : za7 data vars ks = true := by simp [zaS] at g1; exact g1.2
      exact ho ⟨zDs data vars ks i hi hall, by omega⟩
     have hb3 := bad hno l'
     exact Out.bool (J := [_]) (H2 := H.set id (zbA data vars l') ++ [.cells [.ptr id 0], .cells [.int .i64 k, .int .i64 n, .sl (VT.css ks) .none]]) (by simp; rfl) (by simp) (hH1 _) (.inr ⟨rfl, hKt _ hb3⟩)
   ·rintro H' ⟨hb1, hb2, rfl⟩
    rw [List.take_length] at *
    refine hKf _ ?_
    refine Out.bool rfl (by simp) (hs.set rfl) ?_
    have := hK (by simp [zaS, hsh, hb2]) (by omega)
    rw [hnn] at this
    rw [show left - 1 - (VT.nodesL ks : Int) = left - ((VT.nodesL ks + 1 : Nat) : Int) by omega]
    exact this
  -- behind the shape
  have fin : ∀ lo hi : Int, (k ≠ 4 → k ≠ 5 → n ≠ 0 → za6 data vars k n ks.length = false) → ((ks.length : Int) < lo ∨ hi < (ks.length : Int) → za6 data vars k n ks.length = false) → 1 ≤ left →
    ((k = 4 ∨ k = 5 ∨ n = 0) → lo ≤ (ks.length : Int) → (ks.length : Int) ≤ hi → za6 data vars k n ks.length = true) →
    zfM (.ptr H.length 0) (.ptr (H.length + 1) 0) (.int .i64 lo) (.int .i64 hi) (H.set id (zbA data vars (left - 1)) ++ J) (Out H.length K) := by
   intro lo hi hz hr h1 hok
   have hg3 : (H.set id (zbA data vars (left - 1)) ++ J)[H.length + 1]? = some (.cells [.int .i64 k, .int .i64 n, .sl (VT.css ks) .none]) := by
    rw [List.getElem?_append_right (by simp)]; subst hJ; simp
   by_cases hcase : k = 4 ∨ k = 5 ∨ n = 0
   ·have h3 : (k != 4) = false ∨ ((k != 4) = true ∧ (k != 5) = false) ∨ ((k != 4) = true ∧ (k != 5) = true ∧ (n != 0) = false) := by
     by_cases g4 : k = 4
     ·left; simp [g4]
     ·by_cases g5 : k = 5
      ·right; left; simp [g5]
      ·right; right; simp [g4, g5]; omega
    rcases h3 with g | ⟨g, g'⟩ | ⟨g, g', g''⟩
    case' inl => simp [zfM, hg3, hJ1, g]
    case' inr.inl => simp [zfM, hg3, hJ1, g, g']
    case' inr.inr => simp [zfM, hg3, hJ1, g, g', g'']
    all_goals
     by_cases hlo : (ks.length : Int) < lo
     ·simp [hlo]
      exact badS (hr (.inl hlo)) _
     ·by_cases hhi : hi < (ks.length : Int)
      ·simp [hlo, hhi, hJ1]
       exact badS (hr (.inr hhi)) _
      ·simp [hlo, hhi, AV.isB, hJ1]
       refine args (hok hcase (by omega) (by omega)) h1 _ (fun H' ho => ?_) (fun H' ho => ?_) <;> simpa using ho
   ·have g : (k != 4) = true := by simp; omega
    have g' : (k != 5) = true := by simp; omega
    have g'' : (n != 0) = true := by simp; omega
    simp [zfM, hg3, hJ1, g, g', g'']
    exact badS (hz (by omega) (by omega) (by omega)) _
  have start : (H ++ J)[id]? = some (zbA data vars left) := zbs hid
  have hmain : zpz (.ptr H.length 0) (.ptr (H.length + 1) 0) (H.set id (zbA data vars (left - 1)) ++ J) (Out H.length K) := by
   refine zHv fun hs1 => ?_
   have hgv := hget (left - 1)
   unfold zbA at hgv
   by_cases h0 : left - 1 < 0
   ·simp [zpA, hJ0, zbA, hgv, h0]
    exact bad (fun h => by have := h.2; rw [hnn] at this; omega) _
   have h1 : 1 ≤ left := by omega
   simp [zpA, hJ0, hJ1, zbA, hgv, h0]
   refine zHy fun _ => ?_
   have hfin := fun lo hi a b c => fin lo hi a b h1 c
   unfold zbA at hfin badS
   -- the three without arguments
   by_cases h123 : k = 1 ∨ k = 2 ∨ k = 3
   ·have hsh : za6 data vars k n ks.length = (n == 0 && ks.length == 0) := by rcases h123 with rfl | rfl | rfl <;> rfl
    have := hfin 0 0 (fun _ _ hn => by rw [hsh]; simp [hn]) (fun h => by rw [hsh]; simp; intro _; rintro rfl; simp at h) (fun h h2 h3 => by
     have hn : n = 0 := by omega
     have hl : ks.length = 0 := by omega
     rw [hsh, hn, hl]; rfl)
    rcases h123 with rfl | rfl | rfl <;> simp [zpB] <;> refine zxg fun _ => ?_ <;> simp [zdm, zdb] <;> exact this
   have b1 : (k == 1) = false := by simp; omega
   have b2 : (k == 2) = false := by simp; omega
   have b3 : (k == 3) = false := by simp; omega
   simp [zpB, b1, b2, b3]
   refine zxg fun _ => ?_
   by_cases h4 : k = 4
   ·subst h4
    have hsh : za6 data vars 4 n ks.length = (decide (0 ≤ n) && decide (n < vars) && ks.length == 0) := rfl
    by_cases g1 : n < 0
    ·simp [zdm, hJ0, hJ1, hgv, g1]
     exact badS (by rw [hsh]; simp; omega) _
    by_cases g2 : vars ≤ n
    ·simp [zdm, hJ0, hJ1, hgv, g1, g2]
     exact badS (by rw [hsh]; simp; omega) _
    have := hfin 0 0 (fun h => (h rfl).elim) (fun h => by rw [hsh]; simp; intro _ _; rintro rfl; simp at h) (fun h h2 h3 => by
     have hl : ks.length = 0 := by omega
     rw [hsh, hl]; simp; omega)
    simp [zdm, hJ0, hJ1, hgv, g1, g2, zdb]
    exact this
   have b4 : (k == 4) = false := by simp; omega
   by_cases h5 : k = 5
   ·subst h5
    have hsh : za6 data vars 5 n ks.length = (decide (0 ≤ n) && (match data[n.toNat]? with | some d => (ks.length : Int) == d.vars | none => false)) := rfl
    by_cases g1 : n < 0
    ·simp [zdm, hJ0, hJ1, hgv, g1]
     exact badS (by rw [hsh]; simp; omega) _
    by_cases g2 : (data.length : Int) ≤ n
    ·simp [zdm, hJ0, hJ1, hgv, g1, g2]
     exact badS (by rw [hsh, List.getElem?_eq_none (by omega)]; simp) _
    have hnl : n.toNat < data.length := by omega
    have g2' : n < data.length := by omega
    have g1' : 0 ≤ n := by omega
    rw [List.getElem?_eq_getElem hnl] at hsh
    simp only [g1', decide_true, Bool.true_and] at hsh
    have := hfin (data[n.toNat]).vars (data[n.toNat]).vars (fun _ h => (h rfl).elim) (fun h => by rw [hsh]; simp; omega) (fun h h2 h3 => by rw [hsh]; simp; omega)
    simp [zdm, hJ0, hJ1, hgv, g1, g2, g1', g2', hnl, Dat.cs, zdb]
    exact this
   have b5 : (k == 5) = false := by simp; omega
   by_cases h6 : k = 6
   ·subst h6
    have hsh : za6 data vars 6 n ks.length = (n == 0 && decide (2 ≤ ks.length) && decide (ks.length ≤ 6)) := rfl
    have := hfin 2 6 (fun _ _ hn => by rw [hsh]; simp [hn]) (fun h => by rw [hsh]; simp; intros; omega) (fun h h2 h3 => by rw [hsh]; simp; omega)
    simp [zdm, zdb]
    exact this
   have b6 : (k == 6) = false := by simp; omega
   by_cases h78 : k = 7 ∨ k = 8
   ·have hsh : za6 data vars k n ks.length = (n == 0 && ks.length == 1) := by rcases h78 with rfl | rfl <;> rfl
    have := hfin 1 1 (fun _ _ hn => by rw [hsh]; simp [hn]) (fun h => by rw [hsh]; simp; intros; omega) (fun h h2 h3 => by rw [hsh]; simp; omega)
    rcases h78 with rfl | rfl <;> simp [zdm] <;> refine zxh fun _ => ?_ <;> simp [zj5, zdb] <;> exact this
   have b7 : (k == 7) = false := by simp; omega
   have b8 : (k == 8) = false := by simp; omega
   simp [zdm, b4, b5, b6, b7, b8]
   refine zxh fun _ => ?_
   by_cases h9 : k = 9
   ·subst h9
    have hsh : za6 data vars 9 n ks.length = (n == 0 && decide (1 ≤ ks.length) && decide (ks.length ≤ 7)) := rfl
    have := hfin 1 7 (fun _ _ hn => by rw [hsh]; simp [hn]) (fun h => by rw [hsh]; simp; intros; omega) (fun h h2 h3 => by rw [hsh]; simp; omega)
    simp [zj5, zdb]
    exact this
   ·have b9 : (k == 9) = false := by simp; omega
    simp [zj5, b9]
    exact badS (by unfold za6; simp [b1, b2, b3, b4, b5, b6, b7, b8, b9]) _
  subst hJ
  unfold zbA at start
  simp [zxe, VT.cs, start]
  rw [zar (by omega) (by omega), zce _ hid]
  exact hmain
theorem zoF (v : VT) (hb : v.nodes ≤ 1000000000) (H : zaa) (K : AV → zaa → Prop) (hK : K (.bool (zaQ data vars v)) H) : ACalls tP zfn [.sl (data.map Dat.cs) .none, .agg v.cs, .int .i64 vars] H K := by
 refine ACalls.out (zEq fun hs => ?_)
 have hO : ∀ J, Out H.length K (.bool (zaQ data vars v)) (H ++ J) := fun J => Out.bool rfl (Nat.le_refl _) hs hK
 obtain ⟨x1, x2, x3, hvx, hx1, hx2, hx3⟩ := zaK v
 simp [zvW, hvx, zax, zaP]
 rw [← hvx]
 refine zDD data vars _ v (Nat.le_refl _) hb 200 (by omega) (by omega) _ (H.length + 1) (by simp [zbA]) _ ?_ ?_
 ·intro ho hn
  have : zaQ data vars v = true := by simp [zaQ, ho]; omega
  rw [this] at hO
  simp
  exact hO _
 ·intro hno l'
  have : zaQ data vars v = false := by
   cases h : zaQ data vars v with
   | false => rfl
   | true => simp [zaQ] at h; exact (hno ⟨h.2, by omega⟩).elim
  rw [this] at hO
  simp
  exact hO _
end
mutual
theorem zu2 : ∀ v : VT, subst [] v = v
 | .mk k n ks => by
  rw [subst, if_neg (by rintro ⟨_, h1, h2⟩; simp at h2; omega), zu0 ks]
theorem zu0 : ∀ l : List VT, zaJ [] l = l
 | [] => rfl
 | t :: ts => by rw [zaJ, zu2 t, zu0 ts]
end
theorem zOT : ∀ (m : Nat) (args : List VT), (∀ x ∈ args, x.nodes ≤ 1000000) → args.length ≤ 1000000 → ∀ (v : VT), (if args = [] then v.nodes else v.nodes + 1000001) ≤ m → v.nodes ≤ 1000000 → ∀ (H : zaa) (K : AV → zaa → Prop), K (.agg (subst args v).cs) H → ACalls tP zgQ [.agg v.cs, .sl (VT.css args) .none] H K := by
 intro m
 induction m with
 | zero => intro args _ _ v h; have := v.nodes_pos; split at h <;> omega
 | succ m ih =>
  intro args ha hal v hv hb H K hK
  obtain ⟨k, n, ks⟩ := v
  have hnl : VT.nodesL ks + 1 ≤ 1000000 := by simpa [VT.nodes] using hb
  have hll := VT.len_le ks
  refine ACalls.out (zOR fun hs => ?_)
  by_cases hvar : k = 4 ∧ 0 ≤ n ∧ n < args.length
  ·obtain ⟨rfl, h0, h1⟩ := hvar
   have hn : n.toNat < args.length := by omega
   have hne : args ≠ [] := by rintro rfl; simp at hn
   have hK' : K (.agg (args[n.toNat]).cs) H := by
    rw [subst, if_pos ⟨rfl, h0, h1⟩, List.getElem?_eq_getElem hn] at hK
    exact hK
   have hle := ha _ (List.getElem_mem hn)
   simp [VT.cs, zrK, h0, h1, hn]
   rw [if_neg hne] at hv
   refine ACalls.wk (args' := [.agg (args[n.toNat]).cs, .sl (VT.css []) .none]) ?_ ⟨.rfl', .atom .snil, trivial⟩
   refine ih [] (by simp) (by simp) _ (by simp; omega) hle _ _ ?_
   rw [zu2]
   generalize args[n.toNat] = x at *
   obtain ⟨k', n', ks'⟩ := x
   simp [VT.cs]
   exact Out.at rfl (Nat.le_refl _) hs .rfl' rfl rfl hK'
  ·have hK' : K (.agg (VT.mk k n (zaJ args ks)).cs) H := by
    rw [subst, if_neg hvar] at hK
    exact hK
   have go : ∀ H1, H1 = H ++ [.cells [.int .i64 k, .int .i64 n, .sl (VT.css ks) .none], .cells [.int .i64 0, .int .i64 0, .snil], .cells [.int .i64 k, .int .i64 n, .snil]] → zht (.sl (VT.css args) .none) (.ptr (H.length + 1) 0) (.ptr (H.length + 2) 0) (.sl (VT.css ks) .none) (.int .i64 ks.length) (.int .i64 0) H1 (Out H.length K) := by
    rintro _ rfl
    unfold zht
    refine ALoop.ownC (cs := [.int .i64 k, .int .i64 n, .snil]) (H.length + 2) 2 zaV 3 (by simp) rfl ?_
    have e0 : (H ++ [AB.cells [.int .i64 k, .int .i64 n, .sl (VT.css ks) .none], .cells [.int .i64 0, .int .i64 0, .snil], .cells [.int .i64 k, .int .i64 n, .snil]]).length = H.length + 3 := by simp
    rw [e0, zuK, List.append_assoc]
    have hJ : ∀ i X, HSc (H ++ [.cells [.int .i64 k, .int .i64 n, .sl (VT.css ks) .none], .cells [.int .i64 0, .int .i64 0, .snil], .cells [.int .i64 k, .int .i64 n, .sl X (.own (H.length + 3))], .perm zaV 3 i]) := fun i X => hs.append (by simp [AB.sc, AV.scA, AV.scB])
    show zht (.sl (VT.css args) .none) (.ptr (H.length + 1) 0) (.ptr (H.length + 2) 0) (.sl (VT.css ks) .none) (.int .i64 ks.length) (.int .i64 0) (H ++ [.cells [.int .i64 k, .int .i64 n, .sl (VT.css ks) .none], .cells [.int .i64 0, .int .i64 0, .snil], .cells [.int .i64 k, .int .i64 n, .sl [] (.own (H.length + 3))], .perm zaV 3 0]) (Out H.length K)
    refine zOP (Inv := fun q t37 H' => ∃ i : Nat, i ≤ ks.length ∧ q = ks.length - i ∧ t37 = .int .i64 i ∧ H' = H ++ [.cells [.int .i64 k, .int .i64 n, .sl (VT.css ks) .none], .cells [.int .i64 0, .int .i64 0, .snil], .cells [.int .i64 k, .int .i64 n, .sl (VT.css ((zaJ args ks).take i)) (.own (H.length + 3))], .perm zaV 3 i]) ks.length ?_ ?_
    ·intro _; exact ⟨0, by omega, by omega, rfl, by simp [VT.css]⟩
    ·rintro q t37 H' ⟨i, hi, rfl, rfl, rfl⟩ hsc hlen hsF Kb hKb
     by_cases hlt : i < ks.length
     ·have hki := VT.kid_lt (k := k) (n := n) hlt
      have hsl : (zaJ args ks).length = ks.length := by rw [zdO]; simp
      have hlt' : i < (zaJ args ks).length := by omega
      have hsi : (zaJ args ks)[i] = subst args ks[i] := by simp [zdO]
      obtain ⟨x1, x2, x3, hvx, hx1, hx2, hx3⟩ := zaK ks[i]
      simp [zrL, hlt, hvx, hx1, hx2, hx3]
      rw [← hvx]
      refine zaF (.agg (subst args ks[i]).cs) (fun J => ih args ha hal ks[i] (by by_cases he : args = [] <;> simp only [he, if_true, if_false] at hv ⊢ <;> omega) (by omega) _ _ ⟨rfl, rfl⟩) ?_
      rw [zev, ← hsi]
      simp [zaw, zaX, zaO, hsl]
      refine ⟨by omega, ⟨by omega, by omega⟩, ?_⟩
      rw [zar (by omega) (by omega), show min i ks.length = i by omega]
      refine hKb _ _ ⟨ks.length - (i + 1), by omega, Back.at (J := [_]) (H2 := H ++ [.cells [.int .i64 k, .int .i64 n, .sl (VT.css ks) .none], .cells [.int .i64 0, .int .i64 0, .snil], .cells [.int .i64 k, .int .i64 n, .sl (VT.css ((zaJ args ks).take (i + 1))) (.own (H.length + 3))], .perm zaV 3 (i + 1)]) (by rw [zge hlt']; simp; rfl) (by simp) (hJ _ _) ?_ ⟨_, rfl, i + 1, by omega, rfl, by simp, rfl⟩⟩
      simp [zlZ, AV.sc, AV.scV, AV.scA, AV.scB]
     ·obtain rfl : i = ks.length := by omega
      have e : (zaJ args ks).take ks.length = zaJ args ks := List.take_of_length_le (by rw [zdO]; simp)
      rw [e]
      simp [zrL]
      exact Out.at rfl (Nat.le_refl _) hs (WkV.agg (ds := [.int .i64 k, .int .i64 n, .sl (VT.css (zaJ args ks)) .none]) ⟨.refl _, .refl _, .sl _ _, trivial⟩) rfl (by simp [AV.scV, AV.scA, AV.scB]) (by simpa [VT.cs] using hK')
   simp only [VT.cs, zrK]
   by_cases h4 : k = 4
   ·subst h4
    by_cases h0 : 0 ≤ n
    ·have h1 : ¬ n < args.length := fun h => hvar ⟨rfl, h0, h⟩
     simp [h0, h1, zax, zaP, Nat.add_assoc]
     exact go _ rfl
    ·simp [h0, zax, zaP, Nat.add_assoc]
     exact go _ rfl
   ·have h4' : (k == 4) = false := by simpa using h4
    simp [h4', zax, zaP, Nat.add_assoc]
    exact go _ rfl
def ziT (args : List VT) : AB := .cells (args.map fun x => .int .i64 x.nodes)
theorem zOM (args : List VT) (ha : ∀ x ∈ args, x.nodes ≤ 1000000) (hal : args.length ≤ 1000000) : ∀ (m : Nat) (v : VT), v.nodes ≤ m → v.nodes ≤ 1000000 → ∀ (H : zaa) (id : Nat), H[id]? = some (ziT args) → ∀ (K : AV → zaa → Prop),
  (∀ r : Nat, (r ≤ 200 ↔ (subst args v).nodes ≤ 200) → (r ≤ 200 → r = (subst args v).nodes) → r ≤ 1000000 + 200 * v.nodes → K (.int .i64 r) H) → ACalls tP ziB [.agg v.cs, .ms id 0 args.length args.length] H K := by
 intro m
 induction m with
 | zero => intro v h; have := v.nodes_pos; omega
 | succ m ih =>
  intro v hv hb H id hid K hK
  obtain ⟨k, n, ks⟩ := v
  have hnl : VT.nodesL ks + 1 ≤ 1000000 := by simpa [VT.nodes] using hb
  have hll := VT.len_le ks
  have hidl := zbY hid
  refine ACalls.out (zOK fun hs => ?_)
  by_cases hvar : k = 4 ∧ 0 ≤ n ∧ n < args.length
  ·obtain ⟨rfl, h0, h1⟩ := hvar
   have hn : n.toNat < args.length := by omega
   have hsub : subst args (.mk 4 n ks) = args[n.toNat] := by rw [subst, if_pos ⟨rfl, h0, h1⟩, List.getElem?_eq_getElem hn]; rfl
   rw [hsub] at hK
   have hg : (H ++ [AB.cells [.int .i64 4, .int .i64 n, .sl (VT.css ks) .none]])[id]? = some (ziT args) := zbs hid
   have hle := ha _ (List.getElem_mem hn)
   unfold ziT at hg
   simp [VT.cs, zrF, h0, h1, hn, hg, zbc]
   exact Out.int rfl (Nat.le_refl _) hs (hK _ Iff.rfl (fun _ => rfl) (by omega))
  ·have hsub : subst args (.mk k n ks) = .mk k n (zaJ args ks) := by rw [subst, if_neg hvar]
   have hnodes : (subst args (.mk k n ks)).nodes = VT.nodesL (zaJ args ks) + 1 := by rw [hsub]; rfl
   rw [hnodes] at hK
   have hO : ∀ r : Nat, (r ≤ 200 ↔ VT.nodesL (zaJ args ks) + 1 ≤ 200) → (r ≤ 200 → r = VT.nodesL (zaJ args ks) + 1) → r ≤ 1000000 + 200 * (VT.mk k n ks).nodes → ∀ J, Out H.length K (.int .i64 r) (H ++ J) := fun r h1 h2 h3 J => Out.int rfl (Nat.le_refl _) hs (hK r h1 h2 h3)
   have hsl : (zaJ args ks).length = ks.length := by rw [zdO]; simp
   have go : zrJ (.ms id 0 args.length args.length) (.int .i64 1) (.sl (VT.css ks) .none) (.int .i64 ks.length) (.int .i64 0) (H ++ [.cells [.int .i64 k, .int .i64 n, .sl (VT.css ks) .none]]) (Out H.length K) := by
    refine zOI (Inv := fun q t5 t31 H' => ∃ i : Nat, i ≤ ks.length ∧ q = ks.length - i ∧ t31 = .int .i64 i ∧ t5 = .int .i64 (1 + VT.nodesL ((zaJ args ks).take i) : Nat) ∧ 1 + VT.nodesL ((zaJ args ks).take i) ≤ 200 ∧ H' = H ++ [.cells [.int .i64 k, .int .i64 n, .sl (VT.css ks) .none]]) ks.length ?_ ?_
    ·intro _; exact ⟨0, by omega, by omega, rfl, by simp [VT.nodesL], by simp [VT.nodesL], rfl⟩
    ·rintro q t5 t31 H' ⟨i, hi, rfl, rfl, rfl, hb2, rfl⟩ hsc hlen hsF Kb hKb
     by_cases hlt : i < ks.length
     ·have hki := VT.kid_lt (k := k) (n := n) hlt
      have hlt' : i < (zaJ args ks).length := by omega
      have hsi : (zaJ args ks)[i] = subst args ks[i] := by simp [zdO]
      have h1 := VT.nodesL_take hlt'
      have h2 := VT.nodesL_take_le (zaJ args ks) (i + 1)
      rw [hsi] at h1
      obtain ⟨x1, x2, x3, hvx, hx1, hx2, hx3⟩ := zaK ks[i]
      simp [zrG, hlt, hvx, hx1, hx2, hx3]
      rw [← hvx]
      refine ih ks[i] (by omega) (by omega) _ id (zbs hid) _ fun r hr1 hr2 hr3 => ?_
      simp
      rw [zar (by omega) (by omega)]
      by_cases hbig : (200 : Int) < 1 + VT.nodesL ((zaJ args ks).take i) + r
      ·simp [hbig, zlX, zrI]
       have := hO (1 + VT.nodesL ((zaJ args ks).take i) + r) (by constructor <;> intro h <;> omega) (by omega) (by omega)
       have e : ((1 + VT.nodesL ((zaJ args ks).take i) + r : Nat) : Int) = 1 + (VT.nodesL ((zaJ args ks).take i) : Int) + r := by omega
       rw [e] at this
       exact this _
      ·have hr : r = (subst args ks[i]).nodes := hr2 (by omega)
       simp [hbig]
       rw [zar (by omega) (by omega), zvg]
       refine hKb _ _ ⟨ks.length - (i + 1), by omega, Back.same (by simp) hsc ?_ ⟨_, _, rfl, i + 1, by omega, rfl, by simp, ?_, by omega, rfl⟩⟩
       ·simp [zlW, AV.sc, AV.scV, AV.scA, AV.scB]; omega
       ·congr 1; omega
     ·obtain rfl : i = ks.length := by omega
      rw [List.take_of_length_le (by omega)] at *
      simp [zrG, zlX, zrI]
      have := hO (1 + VT.nodesL (zaJ args ks)) (by omega) (by omega) (by omega)
      have e : ((1 + VT.nodesL (zaJ args ks) : Nat) : Int) = 1 + (VT.nodesL (zaJ args ks) : Int) := by omega
      rw [e] at this
      exact this _
   simp only [VT.cs, zrF]
   by_cases h4 : k = 4
   ·subst h4
    by_cases h0 : 0 ≤ n
    ·have h1 : ¬ n < args.length := fun h => hvar ⟨rfl, h0, h⟩
     simp [h0, h1]
     exact go
    ·simp [h0]
     exact go
   ·have h4' : (k == 4) = false := by simpa using h4
    simp [h4']
    exact go
def zcG (args : List VT) (i : Nat) : List AV := (args.take i).map (fun x => .int .i64 x.nodes) ++ List.replicate (args.length - i) (.int .i64 0)
theorem zCy (args : List VT) {i : Nat} (h : i ≤ args.length) : (zcG args i).length = args.length := by simp [zcG]; omega
theorem zCz (args : List VT) {i : Nat} (h : i < args.length) : (zcG args i).take i ++ [.int .i64 (args[i]).nodes] ++ (zcG args i).drop (i + 1) = zcG args (i + 1) := by
 have e1 : ((args.take i).map fun x => AV.int .i64 x.nodes).length = i := by simp; omega
 unfold zcG
 rw [List.take_append_of_le_length (by omega), List.take_of_length_le (by omega), List.drop_append, List.drop_of_length_le (by omega), List.nil_append, e1, List.take_succ_eq_append_getElem h, List.map_append]
 congr 1
 rw [show i + 1 - i = 1 by omega, List.drop_replicate]
 congr 1
theorem zfT (data : List Dat) (hdl : data.length ≤ 1000000) (hda : ∀ d ∈ data, ∀ c ∈ d.cons, c.args.length ≤ 1000 ∧ ∀ x ∈ c.args, x.nodes ≤ 1000) (hdc : ∀ d ∈ data, d.cons.length ≤ 1000000) (t : VT) (ht : t.nodes ≤ 1000) (c : Int) (H : zaa) (K : AV → zaa → Prop) (hK : K (zbN (zaR data t c)) H) :
  ACalls tP zeb [.sl (data.map Dat.cs) .none, .agg t.cs, .int .i64 c] H K := by
 refine ACalls.out (zL9 fun hs => ?_)
 obtain ⟨k, n, ks⟩ := t
 have hkn : VT.nodesL ks + 1 ≤ 1000 := by simpa [VT.nodes] using ht
 have hkl := VT.len_le ks
 have hF : zaR data (.mk k n ks) c = none → ∀ J, Out H.length K (.tup [.snil, .bool false]) (H ++ J) := fun h J => by
  rw [h] at hK
  exact Out.tup hs hK ⟨zeg, za1 rfl rfl, trivial⟩
 simp only [VT.cs, zyN]
 by_cases h5 : k = 5
 case neg =>
  have : (k != 5) = true := by simpa using h5
  simp [this, AV.isV]
  exact hF (by rw [zcO, if_neg (fun h => h5 h.1)]) _
 subst h5
 by_cases h0 : n < 0
 ·simp [h0, AV.isV]
  exact hF (by rw [zcO, if_neg (fun h => by have := h.2.1; omega)]) _
 by_cases h1 : (data.length : Int) ≤ n
 ·simp [h0, h1, AV.isV]
  exact hF (by
   rw [zcO]
   split
   ·rw [List.getElem?_eq_none (by omega)]
   ·rfl) _
 have hn : n.toNat < data.length := by omega
 have h1' : n < data.length := by omega
 have h0' : 0 ≤ n := by omega
 generalize hdd : data[n.toNat] = d at *
 have hd : d ∈ data := by rw [← hdd]; exact List.getElem_mem hn
 have hget : data[n.toNat]? = some d := by rw [List.getElem?_eq_getElem hn, hdd]
 cases hv : ((ks.length : Int) == d.vars) with
 | false =>
  have hv' : ((ks.length : Int) != d.vars) = true := by simp [bne, hv]
  simp [h0, h1, h0', h1', hn, hdd, Dat.cs, hv', AV.isV, hget]
  exact hF (by
   rw [zcO]
   split
   ·rw [hget]
    simp only
    rw [if_neg (by simpa using hv)]
   ·rfl) _
 | true =>
 have hv' : ((ks.length : Int) != d.vars) = false := by simp [bne, hv]
 have hve : (ks.length : Int) = d.vars := by simpa using hv
 by_cases hc0 : c < 0
 ·simp [h0, h1, h0', h1', hn, hdd, Dat.cs, hv', AV.isV, hget, hc0]
  exact hF (by rw [zcO, if_neg (fun h => by have := h.2.2; omega)]) _
 have hfe : ∀ o, (match d.cons[c.toNat]? with | some k => if (k.args.map (subst ks)).all (fun x => decide (x.nodes ≤ 200)) = true then some (k.args.map (subst ks)) else none | none => none) = o → zaR data (.mk 5 n ks) c = o := fun o h => by
  rw [zcO, if_pos ⟨rfl, h0', by omega⟩, hget]
  simp only
  rw [if_pos hve]
  exact h
 by_cases hc1 : (d.cons.length : Int) ≤ c
 ·simp [h0, h1, h0', h1', hn, hdd, Dat.cs, hv', AV.isV, hget, hc0, hc1]
  exact hF (hfe none (by rw [List.getElem?_eq_none (by omega)])) _
 have hcn : c.toNat < d.cons.length := by omega
 have hc1' : c < d.cons.length := by omega
 have hc0' : 0 ≤ c := by omega
 generalize hcc : d.cons[c.toNat] = co at *
 have hco : co ∈ d.cons := by rw [← hcc]; exact List.getElem_mem hcn
 have hgc : d.cons[c.toNat]? = some co := by rw [List.getElem?_eq_getElem hcn, hcc]
 obtain ⟨hal, han⟩ := hda d hd co hco
 have hfe' := fun o => hfe o
 rw [hgc] at hfe'
 simp only at hfe'
 have hkle : ∀ x ∈ ks, x.nodes ≤ 1000 := fun y hy => Nat.le_trans (zfm (k := 5) (n := n) y hy) ht
 simp [h0, h1, h0', h1', hn, hdd, Dat.cs, hv', AV.isV, hget, hc0, hc1, hc0', hc1', hcn, hcc, zbp]
 refine ⟨by omega, ?_⟩
 have ez : List.replicate ks.length (AV.int .i64 0) = zcG ks 0 := by simp [zcG]
 rw [ez]
 have hsc3 : ∀ (l : List AV), (l.all fun a => a.scA (H.length + 3)) = true → HSc (H ++ [.cells [.int .i64 5, .int .i64 n, .sl (VT.css ks) .none], .cells [.str d.name, .int .i64 d.vars, .sl (d.cons.map Con.cs) .none], .cells l]) := fun l hl => hs.append (by simp [AB.sc]; simpa using hl)
 have hszsc : ∀ i, ((zcG ks i).all fun a => a.scA (H.length + 3)) = true := fun i => by
  rw [List.all_eq_true]
  intro x hx
  unfold zcG at hx
  rcases List.mem_append.1 hx with h | h
  ·obtain ⟨y, _, rfl⟩ := List.mem_map.1 h; rfl
  ·rw [List.eq_of_mem_replicate h]; rfl
 refine zL5 (Inv := fun q t61 H' => ∃ i : Nat, i ≤ ks.length ∧ q = ks.length - i ∧ t61 = .int .i64 i ∧ H' = H ++ [.cells [.int .i64 5, .int .i64 n, .sl (VT.css ks) .none], .cells [.str d.name, .int .i64 d.vars, .sl (d.cons.map Con.cs) .none], .cells (zcG ks i)]) ks.length ?_ ?_
 ·intro _; exact ⟨0, by omega, by omega, rfl, rfl⟩
 ·rintro q t61 H' ⟨i, hi, rfl, rfl, rfl⟩ hsc8 hlen8 hsF8 Kb8 hKb8
  by_cases hlt : i < ks.length
  ·have hle := hkle _ (List.getElem_mem hlt)
   obtain ⟨x1, x2, x3, hvx, hx1, hx2, hx3⟩ := zaK ks[i]
   simp [zqR, hlt, hvx, hx1, hx2, hx3]
   rw [← hvx]
   refine zOF _ _ (Nat.le_refl _) (by omega) _ _ ?_
   have hll := zCy ks hi
   simp [hlt, hll]
   refine ⟨by omega, ?_⟩
   rw [zar (by omega) (by omega)]
   have e := zCz ks hlt
   rw [List.append_assoc, List.singleton_append] at e
   rw [e]
   refine hKb8 _ _ ⟨ks.length - (i + 1), by omega, Back.at (J := [_]) (H2 := H ++ [.cells [.int .i64 5, .int .i64 n, .sl (VT.css ks) .none], .cells [.str d.name, .int .i64 d.vars, .sl (d.cons.map Con.cs) .none], .cells (zcG ks (i + 1))]) (by simp; rfl) (by simp) (hsc3 _ (hszsc _)) ?_ ⟨_, rfl, i + 1, by omega, rfl, by simp, rfl⟩⟩
   simp [zla, AV.sc, AV.scV, AV.scA, AV.scB]
  ·obtain rfl : i = ks.length := by omega
   have efull : zcG ks ks.length = ks.map fun x => .int .i64 x.nodes := by simp [zcG]
   have hsc8' := hsc8
   rw [efull] at hsc8' ⊢
   simp [zqR, hc0', hc1', hcn, hcc, Con.cs, hgc]
   refine zL3 (Inv := fun q t79 H' => ∃ i : Nat, i ≤ co.args.length ∧ q = co.args.length - i ∧ t79 = .int .i64 i ∧ (∀ x ∈ co.args.take i, (subst ks x).nodes ≤ 200) ∧ H' = H ++ [.cells [.int .i64 5, .int .i64 n, .sl (VT.css ks) .none], .cells [.str d.name, .int .i64 d.vars, .sl (d.cons.map Con.cs) .none], .cells (ks.map fun x => .int .i64 x.nodes)]) co.args.length ?_ ?_
   ·intro _; exact ⟨0, by omega, by omega, rfl, by simp, rfl⟩
   ·rintro q t79 H' ⟨i, hi, rfl, rfl, hall, rfl⟩ hsc13 hlen13 hsF13 Kb13 hKb13
    by_cases hlt : i < co.args.length
    ·have hmem := List.getElem_mem hlt
     obtain ⟨x1, x2, x3, hvx, hx1, hx2, hx3⟩ := zaK co.args[i]
     simp [zqP, hlt, hvx, hx1, hx2, hx3]
     rw [← hvx]
     refine zOM ks (fun y hy => by have := hkle y hy; omega) (by omega) _ co.args[i] (Nat.le_refl _) (by have := han _ hmem; omega) _ (H.length + 2) (by simp [ziT]) _ fun r hr1 hr2 hr3 => ?_
     by_cases hbig : r ≤ 200
     ·have hbig' : ¬ (200 : Int) < r := by omega
      simp [hbig']
      rw [zar (by omega) (by omega)]
      refine hKb13 _ _ ⟨co.args.length - (i + 1), by omega, Back.at (J := [_]) (H2 := H ++ [.cells [.int .i64 5, .int .i64 n, .sl (VT.css ks) .none], .cells [.str d.name, .int .i64 d.vars, .sl (d.cons.map Con.cs) .none], .cells (ks.map fun x => .int .i64 x.nodes)]) (by simp; rfl) (by simp) hsc8' ?_ ⟨_, rfl, i + 1, by omega, rfl, by simp, ztz hlt hall (hr1.1 hbig), rfl⟩⟩
      simp [zk8, AV.sc, AV.scV, AV.scA, AV.scB]
     ·have hbig' : (200 : Int) < r := by omega
      simp [hbig', AV.isV]
      refine hF (hfe' none ?_) _
      rw [if_neg]
      intro hal2
      have := List.all_eq_true.1 hal2 (subst ks co.args[i]) (List.mem_map.2 ⟨_, hmem, rfl⟩)
      exact hbig (hr1.2 (of_decide_eq_true this))
    ·obtain rfl : i = co.args.length := by omega
     rw [List.take_length] at hall
     have hfs := hfe' (some (co.args.map (subst ks))) (if_pos (List.all_eq_true.2 fun y hy => by
      obtain ⟨x, hx, rfl⟩ := List.mem_map.1 hy
      exact decide_eq_true (hall x hx)))
     rw [hfs] at hK
     simp [zqP, hc0', hc1', hcn, hcc, Con.cs, hgc]
     unfold zlb
     refine ALoop.own 14 zaV 3 rfl ?_
     have hlen1 : (H ++ [AB.cells [.int .i64 5, .int .i64 n, .sl (VT.css ks) .none], .cells [.str d.name, .int .i64 d.vars, .sl (d.cons.map Con.cs) .none], .cells (ks.map fun x => .int .i64 x.nodes)]).length = H.length + 3 := by simp
     rw [hlen1]
     have hperm : ∀ m, HSc (H ++ [.cells [.int .i64 5, .int .i64 n, .sl (VT.css ks) .none], .cells [.str d.name, .int .i64 d.vars, .sl (d.cons.map Con.cs) .none], .cells (ks.map fun x => .int .i64 x.nodes), .perm zaV 3 m]) := fun m => by have := hsc8'.append (J := [.perm zaV 3 m]) rfl; simpa using this
     rw [List.append_assoc]
     show zlb (.ptr H.length 0) (.sl [] (.own (H.length + 3))) (.sl (VT.css co.args) .none) (.int .i64 co.args.length) (.int .i64 0) (H ++ [.cells [.int .i64 5, .int .i64 n, .sl (VT.css ks) .none], .cells [.str d.name, .int .i64 d.vars, .sl (d.cons.map Con.cs) .none], .cells (ks.map fun x => .int .i64 x.nodes), .perm zaV 3 0]) (Out H.length K)
     refine zL4 (Inv := fun q t14 t95 H' => ∃ i : Nat, i ≤ co.args.length ∧ q = co.args.length - i ∧ t95 = .int .i64 i ∧ t14 = .sl (VT.css ((co.args.map (subst ks)).take i)) (.own (H.length + 3)) ∧ H' = H ++ [.cells [.int .i64 5, .int .i64 n, .sl (VT.css ks) .none], .cells [.str d.name, .int .i64 d.vars, .sl (d.cons.map Con.cs) .none], .cells (ks.map fun x => .int .i64 x.nodes), .perm zaV 3 i]) co.args.length ?_ ?_
     ·intro _; exact ⟨0, by omega, by omega, rfl, by simp [VT.css], rfl⟩
     ·rintro q t14 t95 H' ⟨i, hi, rfl, rfl, rfl, rfl⟩ hsc20 hlen20 hsF20 Kb20 hKb20
      by_cases hlt : i < co.args.length
      ·have hmem := List.getElem_mem hlt
       obtain ⟨x1, x2, x3, hvx, hx1, hx2, hx3⟩ := zaK co.args[i]
       simp [zqQ, hlt, hvx, hx1, hx2, hx3]
       rw [← hvx]
       refine zOT _ ks (fun y hy => by have := hkle y hy; omega) (by omega) co.args[i] (Nat.le_refl _) (by have := han _ hmem; omega) _ _ ?_
       rw [zev]
       simp [zaw, zaX, zaO]
       refine ⟨by omega, ⟨by omega, by omega⟩, ?_⟩
       rw [zar (by omega) (by omega), show min i co.args.length = i by omega]
       refine hKb20 _ _ ⟨co.args.length - (i + 1), by omega, Back.at (H2 := H ++ [.cells [.int .i64 5, .int .i64 n, .sl (VT.css ks) .none], .cells [.str d.name, .int .i64 d.vars, .sl (d.cons.map Con.cs) .none], .cells (ks.map fun x => .int .i64 x.nodes), .perm zaV 3 (i + 1)]) (J := [_]) (by simp; rfl) (by simp) (hperm _) ?_ ⟨_, _, rfl, i + 1, by omega, rfl, by simp, ?_, rfl⟩⟩
       ·simp [zk9, AV.sc, AV.scV, AV.scA, AV.scB]
       ·rw [zge (by simpa using hlt)]; simp
      ·obtain rfl : i = co.args.length := by omega
       rw [List.take_of_length_le (by simp)]
       simp [zqQ, AV.isV]
       exact Out.tup hs hK ⟨slV, za1 rfl rfl, trivial⟩
def zgr (i : Nat) : VT → Bool
 | .mk k n ks => k == 4 && n == i && ks.length == 0
def zcs : List VT → Nat → Bool
 | [], _ => true
 | x :: l, i => zgr i x && zcs l (i + 1)
def zbD (d vars : Int) : VT → Bool
 | .mk k n ks => k == 5 && n == d && (ks.length : Int) == vars && zcs ks 0
mutual
def zcg (d : Int) : VT → Bool
 | .mk k n ks => (k == 5 && n == d) || zea d ks
def zea (d : Int) : List VT → Bool
 | [] => false
 | t :: ts => zcg d t || zea d ts
end
theorem zrQ (v : VT) (d vars : Int) (hb : v.nodes ≤ 1000000) (H : zaa) (K : AV → zaa → Prop) (hK : K (.bool (zbD d vars v)) H) : ACalls tP ziw [.agg v.cs, .int .i64 d, .int .i64 vars] H K := by
 refine ACalls.out (zN0 fun hs => ?_)
 obtain ⟨k, n, ks⟩ := v
 have hnl : VT.nodesL ks + 1 ≤ 1000000 := by simpa [VT.nodes] using hb
 have hll := VT.len_le ks
 have hO : ∀ J, Out H.length K (.bool (k == 5 && n == d && (ks.length : Int) == vars && zcs ks 0)) (H ++ J) := fun J => Out.bool rfl (Nat.le_refl _) hs (by simpa [zbD] using hK)
 simp only [VT.cs, zzr]
 cases h5 : (k == 5) with
 | false =>
  have : (k != 5) = true := by simp [bne, h5]
  rw [h5] at hO
  simp [this]
  exact hO _
 | true =>
 have h5' : (k != 5) = false := by simp [bne, h5]
 cases hn : (n == d) with
 | false =>
  have : (n != d) = true := by simp [bne, hn]
  rw [h5, hn] at hO
  simp [h5', this]
  exact hO _
 | true =>
 have hn' : (n != d) = false := by simp [bne, hn]
 cases hv : ((ks.length : Int) == vars) with
 | false =>
  have : ((ks.length : Int) != vars) = true := by simp [bne, hv]
  rw [h5, hn, hv] at hO
  simp [h5', hn', this]
  exact hO _
 | true =>
 have hv' : ((ks.length : Int) != vars) = false := by simp [bne, hv]
 rw [h5, hn, hv] at hO
 simp only [Bool.true_and] at hO
 simp [h5', hn', hv']
 refine zNY (Inv := fun q t7 H' => ∃ i : Nat, i ≤ ks.length ∧ q = ks.length - i ∧ t7 = .int .i64 i ∧ zcs (ks.drop i) i = zcs ks 0 ∧ H' = H ++ [.cells [.int .i64 k, .int .i64 n, .sl (VT.css ks) .none]]) ks.length ?_ ?_
 ·intro _; exact ⟨0, by omega, by omega, rfl, by simp, rfl⟩
 ·rintro q t7 H' ⟨i, hi, rfl, rfl, ho, rfl⟩ hsc hlen hsF Kb hKb
  by_cases hlt : i < ks.length
  ·rw [List.drop_eq_getElem_cons hlt, zcs] at ho
   obtain ⟨k', n', ks', hx⟩ : ∃ k' n' ks', ks[i] = .mk k' n' ks' := by cases h : ks[i] with | mk a b c => exact ⟨a, b, c, rfl⟩
   rw [hx, zgr] at ho
   cases g1 : (k' == 4) with
   | false =>
    have : (k' != 4) = true := by simp [bne, g1]
    rw [g1] at ho
    simp only [Bool.false_and] at ho
    rw [← ho] at hO
    simp [zfY, hlt, hx, VT.cs, this]
    exact hO _
   | true =>
   have g1' : (k' != 4) = false := by simp [bne, g1]
   cases g2 : (n' == (i : Int)) with
   | false =>
    have : (n' != (i : Int)) = true := by simp [bne, g2]
    rw [g1, g2] at ho
    simp only [Bool.false_and, Bool.and_false] at ho
    rw [← ho] at hO
    simp [zfY, hlt, hx, VT.cs, g1', this]
    exact hO _
   | true =>
   have g2' : (n' != (i : Int)) = false := by simp [bne, g2]
   by_cases g3 : ks'.length = 0
   ·have g3' : ¬ (0 : Int) < ks'.length := by omega
    have g3'' : ¬ 0 < ks'.length := by omega
    rw [g1, g2, g3] at ho
    simp only [Bool.true_and, BEq.rfl] at ho
    simp [zfY, hlt, hx, VT.cs, g1', g2', g3', g3'']
    rw [zar (by omega) (by omega)]
    refine hKb _ _ ⟨ks.length - (i + 1), by omega, Back.here (by simp) hsc ?_ ⟨_, rfl, i + 1, by omega, rfl, by simp, ho, rfl⟩⟩
    simp [zlK, AV.sc, AV.scV, AV.scA, AV.scB]
   ·have g3' : (0 : Int) < ks'.length := by omega
    have g3'' : 0 < ks'.length := by omega
    have g4 : (ks'.length == 0) = false := by simpa using g3
    rw [g4] at ho
    simp only [Bool.and_false, Bool.false_and] at ho
    rw [← ho] at hO
    simp [zfY, hlt, hx, VT.cs, g1', g2', g3', g3'']
    exact hO _
  ·obtain rfl : i = ks.length := by omega
   rw [List.drop_length, zcs] at ho
   rw [← ho] at hO
   simp [zfY]
   exact hO _
theorem zAs : zc1 tP zid = true := by kernel_rfl
theorem ztC (d : Int) : ∀ l : List VT, zea d l = l.any (zcg d)
 | [] => rfl
 | t :: ts => by simp [zea, ztC d ts]
theorem zJJ (d : Int) : ∀ (m : Nat) (v : VT), v.nodes ≤ m → v.nodes ≤ 1000000 → ∀ (H : zaa) (K : AV → zaa → Prop), K (.bool (zcg d v)) H → ACalls tP zic [.agg v.cs, .int .i64 d] H K := by
 intro m
 induction m with
 | zero => intro v h; have := v.nodes_pos; omega
 | succ m ih =>
  intro v hv hb H K hK
  obtain ⟨k, n, ks⟩ := v
  have hnl : VT.nodesL ks + 1 ≤ 1000000 := by simpa [VT.nodes] using hb
  have hll := VT.len_le ks
  refine ACalls.out (zJI fun hs => ?_)
  have hO : ∀ J, Out H.length K (.bool ((k == 5 && n == d) || ks.any (zcg d))) (H ++ J) := fun J => Out.bool rfl (Nat.le_refl _) hs (by simpa [zcg, ztC] using hK)
  have go : (k == 5 && n == d) = false → ∀ KK : AV → zaa → Prop, (∀ b, Out H.length K (.bool b) (H ++ [.cells [.int .i64 k, .int .i64 n, .sl (VT.css ks) .none], .cells [.int .i64 d]]) → KK (.bool b) (H ++ [.cells [.int .i64 k, .int .i64 n, .sl (VT.css ks) .none], .cells [.int .i64 d]])) →
    ACalls tP zeH [.sl (VT.css ks) .none, .fn zid [.ptr (H.length + 1) 0]] (H ++ [.cells [.int .i64 k, .int .i64 n, .sl (VT.css ks) .none], .cells [.int .i64 d]]) KK := by
   intro hno KK hKK
   rw [hno, Bool.false_or] at hO
   refine zmp ks (by omega) _ _ _ (by simp [AV.sc, AV.scV, AV.scA, AV.scB]) (fun i H' => (ks.drop i).any (zcg d) = ks.any (zcg d) ∧ H' = H ++ [.cells [.int .i64 k, .int .i64 n, .sl (VT.css ks) .none], .cells [.int .i64 d]]) ⟨by simp, rfl⟩ ?_ ?_
   ·rintro i hi H' hle ⟨ho, rfl⟩
    have hki := VT.kid_lt (k := k) (n := n) hi
    rw [List.drop_eq_getElem_cons hi, List.any_cons] at ho
    simp only [aCallV, zAs, List.singleton_append]
    refine ACalls.out (zJY fun hs1 => ?_)
    obtain ⟨x1, x2, x3, hvx, hx1, hx2, hx3⟩ := zaK ks[i]
    simp [zx1, hvx]
    rw [← hvx]
    refine ih ks[i] (by omega) (by omega) _ _ ?_
    refine Out.bool (J := [_]) (H2 := H ++ [.cells [.int .i64 k, .int .i64 n, .sl (VT.css ks) .none], .cells [.int .i64 d]]) (by simp; rfl) (by simp) hs1 ?_
    cases hb : zcg d ks[i] with
    | false =>
     rw [hb, Bool.false_or] at ho
     exact .inl ⟨rfl, ho, rfl⟩
    | true =>
     rw [hb, Bool.true_or] at ho
     rw [← ho] at hO
     exact .inr ⟨rfl, hKK _ (hO _)⟩
   ·rintro H' ⟨ho, rfl⟩
    rw [List.drop_length, List.any_nil] at ho
    rw [← ho] at hO
    exact hKK _ (hO _)
  simp only [VT.cs, zxW]
  cases h5 : (k == 5) with
  | false =>
   simp [h5, AV.isB]
   refine go (by rw [h5]; rfl) _ fun b hb => ?_
   simpa using hb
  | true =>
   cases hn : (n == d) with
   | false =>
    simp [h5, hn, AV.isB]
    refine go (by rw [hn]; simp) _ fun b hb => ?_
    simpa using hb
   | true =>
    rw [h5, hn] at hO
    simp [h5, hn]
    exact hO _
def zbt (l : List Bool) : List AV := l.map AV.bool
@[simp] theorem zRT (l : List Bool) : (zbt l).length = l.length := by simp [zbt]
theorem zAo (n : Nat) : (List.replicate n [AV.bool false]).flatten = zbt (List.replicate n false) := by
 induction n with
 | zero => rfl
 | succ n ih => simp [List.replicate_succ, ih, zbt]
theorem zso {l : List Bool} {i : Nat} (h : i < l.length) (b : Bool) : (zbt l).take i ++ .bool b :: (zbt l).drop (i + 1) = zbt (l.set i b) := by
 simp [zbt, List.set_eq_take_append_cons_drop, h]
theorem zsn (m : Nat) (l : List Bool) : (zbt l).all (AV.scA m) = true := by simp [zbt]
theorem zt7 : ∀ l : List Bool, zaB (zbt l) = some (l.map fun b => [AV.bool b]).flatten
 | [] => rfl
 | b :: l => by
  have := zt7 l
  simp [zbt] at this ⊢
  simp [zaB, this, AV.pd]
theorem zlC (data : List Dat) (d : Nat) (c : Nat) (hd : d < data.length) (hc : c < (data[d]).cons.length) (hl : data.length ≤ 1000000) (hcl : (data[d]).cons.length ≤ 1000000) (hal : ((data[d]).cons[c]).args.length ≤ 1000000)
  (hb : ∀ x ∈ ((data[d]).cons[c]).args, x.nodes ≤ 1000000) (H : zaa) (K : AV → zaa → Prop)
  (hK : K (.sl (((data[d]).cons[c]).args.map fun t => [.bool (zbD d (data[d]).vars t)]) .none) H) :
  ACalls tP zdf [.sl (data.map Dat.cs) .none, .int .i64 d, .int .i64 c] H K := by
 refine ACalls.out (zNF fun hs => ?_)
 have e1 : (data.map Dat.cs)[d]? = some (data[d]).cs := by simp [hd]
 have e2 : ((data[d]).cons.map Con.cs)[c]? = some ((data[d]).cons[c]).cs := by simp [hc]
 generalize hD : data[d] = D at *
 generalize hA : D.cons[c] = C at *
 have h1 : ¬ (d : Int) < 0 := by omega
 have h2 : ¬ (data.length : Int) ≤ d := by omega
 have h3 : ¬ (c : Int) < 0 := by omega
 have h4 : ¬ (D.cons.length : Int) ≤ c := by omega
 simp [zzh, h1, h2, h3, h4, e1, e2, Dat.cs, Con.cs, hd, hD, hc, hA]
 simp only [zbp, Int.toNat_natCast, zAo]
 refine ⟨⟨by omega, by omega, by omega, by omega⟩, ?_⟩
 refine zND (Inv := fun q t49 H' => ∃ (i : Nat) (bs : List Bool), i ≤ C.args.length ∧ q = C.args.length - i ∧ t49 = .int .i64 i ∧ bs.length = C.args.length ∧ (∀ j (hj : j < i) (h' : j < C.args.length), bs[j]? = some (zbD d D.vars C.args[j])) ∧ H' = H ++ [.cells (zbt bs)]) C.args.length ?_ ?_
 ·intro _; exact ⟨0, _, by omega, by omega, rfl, by simp, by omega, rfl⟩
 ·rintro q t49 H' ⟨i, bs, hi, rfl, rfl, hbl, hbs, rfl⟩ hsc hlen hsF Kb hKb
  by_cases hlt : i < C.args.length
  ·obtain ⟨k, n, ks, hx⟩ : ∃ k n ks, C.args[i] = .mk k n ks := by cases h : C.args[i] with | mk a b c => exact ⟨a, b, c, rfl⟩
   have hnb := hb _ (List.getElem_mem hlt)
   rw [hx, VT.nodes] at hnb
   have hll := VT.len_le ks
   have inner : ∀ b0 : Bool, b0 = (k == 5 && n == (d : Int) && (ks.length : Int) == D.vars) →
     zrl (.sl (data.map Dat.cs) .none) (.int .i64 d) (.ms H.length 0 C.args.length C.args.length) (.int .i64 i) (.sl (VT.css C.args) .none) (.int .i64 C.args.length) (.int .i64 i) (.sl (VT.css ks) .none) (.int .i64 ks.length) (.int .i64 0)
      (H ++ [.cells (zbt (bs.set i b0)), .cells [.int .i64 k, .int .i64 n, .sl (VT.css ks) .none]]) (Out H.length K) Kb := by
    intro b0 hb0
    refine zNC (Inv := fun q t80 H' => ∃ (j : Nat) (b : Bool), j ≤ ks.length ∧ q = ks.length - j ∧ t80 = .int .i64 j ∧ (b && zcs (ks.drop j) j) = zbD d D.vars C.args[i] ∧ H' = H ++ [.cells (zbt (bs.set i b)), .cells [.int .i64 k, .int .i64 n, .sl (VT.css ks) .none]]) ks.length ?_ ?_
    ·intro _; exact ⟨0, b0, by omega, by omega, rfl, by simp [hx, zbD, hb0], rfl⟩
    ·rintro q t80 H' ⟨j, b, hj, rfl, rfl, hob, rfl⟩ hsc1 hlen1 hsF1 Kb1 hKb1
     have hsc0 : ∀ b : Bool, HSc (H ++ [.cells (zbt (bs.set i b))]) := fun b => hs.snoc (by simp [AB.sc, zsn])
     have hsc2 : ∀ b : Bool, HSc (H ++ [.cells (zbt (bs.set i b)), .cells [.int .i64 k, .int .i64 n, .sl (VT.css ks) .none]]) := fun b => hs.append (by simp [AB.sc, zsn])
     by_cases hjl : j < ks.length
     ·obtain ⟨k', n', ks', hx'⟩ : ∃ k' n' ks', ks[j] = .mk k' n' ks' := by cases h : ks[j] with | mk a b c => exact ⟨a, b, c, rfl⟩
      have hib : i < bs.length := by omega
      rw [List.drop_eq_getElem_cons hjl, zcs, hx', zgr] at hob
      have hback : ∀ (b' : Bool) J, (b' && zcs (ks.drop (j + 1)) (j + 1)) = zbD d D.vars C.args[i] → zrk (.sl (data.map Dat.cs) .none) (.int .i64 d) (.ms H.length 0 C.args.length C.args.length) (.int .i64 i) (.sl (VT.css C.args) .none) (.int .i64 C.args.length) (.int .i64 i) (.sl (VT.css ks) .none) (.int .i64 ks.length) (.int .i64 j)
        (H ++ .cells (zbt (bs.set i b')) :: .cells [.int .i64 k, .int .i64 n, .sl (VT.css ks) .none] :: J) (Out H.length K) Kb Kb1 := by
       intro b' J hb'
       simp [zrk]
       rw [zar (by omega) (by omega)]
       refine hKb1 _ _ ⟨ks.length - (j + 1), by omega, Back.at (J := J) (H2 := H ++ [.cells (zbt (bs.set i b')), .cells [.int .i64 k, .int .i64 n, .sl (VT.css ks) .none]]) (by simp) (by simp) (hsc2 _) ?_ ⟨_, rfl, j + 1, b', by omega, rfl, by simp, hb', rfl⟩⟩
       simp [zlA, AV.sc, AV.scV, AV.scA, AV.scB]
      have hstore : ∀ l, List.take i (zbt (bs.set i b)) ++ .bool false :: List.drop (i + 1) (zbt (bs.set i b)) = l → l = zbt (bs.set i false) := by
       rintro _ rfl
       rw [zso (by simpa using hib)]; simp
      cases g1 : (k' == 4) with
      | false =>
       have : (k' != 4) = true := by simp [bne, g1]
       rw [g1] at hob
       simp [zfU, zfV, hjl, hx', VT.cs, this, hlt, hbl, hstore _ rfl]
       refine ⟨by omega, hback _ _ ?_⟩; simpa using hob.symm
      | true =>
      have g1' : (k' != 4) = false := by simp [bne, g1]
      cases g2 : (n' == (j : Int)) with
      | false =>
       have : (n' != (j : Int)) = true := by simp [bne, g2]
       rw [g1, g2] at hob
       simp [zfU, zfV, hjl, hx', VT.cs, g1', this, hlt, hbl, hstore _ rfl]
       refine ⟨by omega, hback _ _ ?_⟩; simpa using hob.symm
      | true =>
      have g2' : (n' != (j : Int)) = false := by simp [bne, g2]
      by_cases g3 : ks'.length = 0
      ·have g3' : ¬ (0 : Int) < ks'.length := by omega
       have g3'' : ¬ 0 < ks'.length := by omega
       simp [zfU, zfV, hjl, hx', VT.cs, g1', g2', g3', g3'']
       refine hback _ _ ?_; simpa [g1, g2, g3] using hob
      ·have g3' : (0 : Int) < ks'.length := by omega
       have g3'' : 0 < ks'.length := by omega
       have g4 : (ks'.length == 0) = false := by simpa using g3
       rw [g4] at hob
       simp [zfU, zfV, hjl, hx', VT.cs, g1', g2', g3', g3'', hlt, hbl, hstore _ rfl]
       refine ⟨by omega, hback _ _ ?_⟩; simpa using hob.symm
     ·obtain rfl : j = ks.length := by omega
      rw [List.drop_length, zcs, Bool.and_true] at hob
      simp [zfU]
      rw [zar (by omega) (by omega)]
      refine hKb _ _ ⟨C.args.length - (i + 1), by omega, Back.at (J := [.cells [.int .i64 k, .int .i64 n, .sl (VT.css ks) .none]]) (H2 := H ++ [.cells (zbt (bs.set i b))]) (by simp) (by simp) (hsc0 _) ?_ ⟨_, rfl, i + 1, bs.set i b, by omega, rfl, by simp, by simpa using hbl, ?_, rfl⟩⟩
      ·simp [zlB, AV.sc, AV.scV, AV.scA, AV.scB]
      ·intro j hj h'
       by_cases hji : j = i
       ·subst hji; rw [← hob]; simp [hbl, hlt]
       ·rw [List.getElem?_set_ne (by omega)]; exact hbs j (by omega) h'
   have hstore : ∀ b l, List.take i (zbt bs) ++ .bool b :: List.drop (i + 1) (zbt bs) = l → l = zbt (bs.set i b) := by
    rintro b _ rfl
    rw [zso (by omega)]
   cases h5 : (k == 5) with
   | false => simp [zhp, hlt, hx, VT.cs, e1, hd, hD, Dat.cs, h5, hbl, hstore _ _ rfl]; refine ⟨by omega, inner _ ?_⟩; simp [h5]
   | true =>
   cases hn : (n == (d : Int)) with
   | false => simp [zhp, hlt, hx, VT.cs, e1, hd, hD, Dat.cs, h5, hn, hbl, hstore _ _ rfl]; refine ⟨by omega, inner _ ?_⟩; simp [h5, hn]
   | true => simp [zhp, hlt, hx, VT.cs, e1, hd, hD, Dat.cs, h5, hn, hbl, hstore _ _ rfl]; refine ⟨by omega, inner _ ?_⟩; simp [h5, hn]
  ·obtain rfl : i = C.args.length := by omega
   simp [zhp]
   have hbe : bs = C.args.map (zbD d D.vars) := by
    refine List.ext_getElem (by simpa using hbl) fun j h1 h2 => ?_
    have := hbs j (by omega) (by omega)
    rw [List.getElem?_eq_getElem h1] at this
    simpa using this
   subst hbe
   refine ⟨_, H, _, rfl, Nat.le_refl _, hs, .one (.frz H.length 0 _ _ 1 (zbt (C.args.map (zbD d D.vars))) (C.args.map fun t => [.bool (zbD d D.vars t)]) (Nat.le_refl _) (by simp) (by simp) ?_ (by simp) (by simp) (Nat.le_refl _)), hK⟩
   rw [List.drop_zero, List.take_of_length_le (by simp), zt7, List.map_map]
   rfl
end Go.Proofs.YtjkkonpjecoieaaGreat
namespace Go.Abs
open Go
def zbJ (b : UInt8) : Bool := decide (97 ≤ (b.toNat : Int)) && decide ((b.toNat : Int) ≤ 122)
def bUp (b : UInt8) : Bool := decide (65 ≤ (b.toNat : Int)) && decide ((b.toNat : Int) ≤ 90)
def zaU (b : UInt8) : Bool := decide (48 ≤ (b.toNat : Int)) && decide ((b.toNat : Int) ≤ 57)
def bIn (b : UInt8) : Bool := zbJ b || bUp b || zaU b || b == 95
def zc0 (b : UInt8) : Bool := b == 9 || b == 10 || b == 13 || b == 32
def zb1 : List UInt8 → Int → Bool
 | [], _ => true
 | b :: l, n => let m := n * 10 + ((b.toNat : Int) - 48)
  if m > 1000000 then false else zb1 l m
def zc8 (r : List UInt8) : Bool := r.take 2 == [45, 62] || r.take 2 == [60, 61] || r.take 2 == [61, 61]
def sgns : List UInt8 := [40, 41, 44, 61, 124, 43, 45, 42, 47, 37, 60, 59, 95]
def sgn (r : List UInt8) : Nat :=
 if zc8 r = true then 2 else match r with
 | [] => 0
 | b :: _ => if sgns.contains b = true then 1 else 0
structure Tk where
 kind : Int
 text : List UInt8
 pos : Nat
def tok (kw : List UInt8 → Bool) (b : UInt8) (r : List UInt8) : Except Int (Int × Nat) :=
 if (zbJ b || bUp b) = true then
  let n := (r.takeWhile bIn).length + 1
  if n > 24 then .error 9 else .ok (if bUp b = true then 2 else if kw ((b :: r).take n) = true then 4 else 1, n)
 else if zaU b = true then
  let n := (r.takeWhile zaU).length + 1
  if b == 48 && decide (n > 1) then .error 2 else if zb1 ((b :: r).take n) 0 = true then .ok (3, n) else .error 9
 else
  let n := sgn (b :: r)
  if n = 0 then .error 2 else .ok (5, n)
theorem zon {kw : List UInt8 → Bool} {b : UInt8} {r : List UInt8} {k : Int} {n : Nat} (h : tok kw b r = .ok (k, n)) : 0 < n := by
 unfold tok at h
 split at h
 ·simp only at h; split at h <;> simp at h; omega
 ·split at h
  ·simp only at h; split at h
   ·simp at h
   ·split at h <;> simp at h; omega
  ·simp only at h; split at h <;> simp at h; omega
def zbr (kw : List UInt8 → Bool) (r : List UInt8) (pos : Nat) : Except (Nat × Int) (List Tk) :=
 match r with
 | [] => .ok [⟨6, [], pos⟩]
 | b :: r' =>
  if zc0 b = true then zbr kw r' (pos + 1)
  else if b == 35 then zbr kw (r'.dropWhile (· != 10)) (pos + 1 + (r'.takeWhile (· != 10)).length)
  else match tok kw b r' with
   | .error e => .error (pos, e)
   | .ok (k, n) => match zbr kw (r'.drop (n - 1)) (pos + n) with
    | .error e => .error e
    | .ok l => .ok (⟨k, (b :: r').take n, pos⟩ :: l)
termination_by r.length
decreasing_by
 ·simp
 ·have := (List.dropWhile_sublist (p := (· != 10)) (l := r')).length_le; simp; omega
 ·simp; omega
end Go.Abs
namespace Go.Proofs.YtjkkonpjecoieaaGreat
open Go Go.Abs
set_option maxRecDepth 100000
def ze0 : Nat → List Bool
 | 5 => rl false [0,1,4,2,54]
 | 9 => rl false [0,1,4,2,54]
 | _ => []
noncomputable def zqc : Code := Tryz.f206.body.getD .skip
noncomputable def zJF : List ResultVar := Tryz.f206.results.toList
def zfO (t0 t5 t6 : AV) : List AV := t0 :: ux 4 (t5 :: t6 :: ux 54 [])
def zxV : List Bool := ze0 5
noncomputable def zqd : Code := zas [1, 0, 1, 1, 1, 1, 0, 0, 0] zqc
def zxS (K : Kt) : AExit → List AV → zaa → Prop := zat tP ze0 [1, 0, 1, 1, 1, 1, 0, 0] zqc (zaA tP zJF K)
def zkE (t0 t5 t6 : AV) (H : zaa) (K : Kt) : Prop := ALoop tP zqd (zxS K) (zfO t0 t5 t6) H
def zfP (t0 t5 t6 : AV) (H : zaa) (K : Kt) (Kb5 : Lt) : Prop :=
 Kb5 (zfO t0 t5 t6) H
def zkC (t0 t5 t6 : AV) : List AV := t0 :: ux 4 (t5 :: t6 :: ux 54 [])
def zJD : List Bool := ze0 9
noncomputable def zJA : Code := zas [1, 0, 1, 0, 1, 0, 0, 0, 0] zqd
def zJz (K : Kt) (Kb5 : Lt) : AExit → List AV → zaa → Prop := zat tP ze0 [1, 0, 1, 0, 1, 0, 0, 0] zqd (zbz zxV Kb5 (zxS K))
def zxU (t0 t5 t6 : AV) (H : zaa) (K : Kt) (Kb5 : Lt) : Prop := ALoop tP zJA (zJz K Kb5) (zkC t0 t5 t6) H
def zxT (t0 t5 : AV) (H : zaa) (K : Kt) : Prop :=
 zah 0 t0 fun t57 =>
 zax [(.int .i64 0), (.str []), (.int .i64 0)] [(0, 1), (1, 1), (2, 1)] [(0, (.int .i64 6)), (2, t57)] fun t58 =>
 zaz 3 [(.int .i64 0), (.str []), (.int .i64 0)] 1 [(0, t58)] fun t59 =>
 zaw zd4 3 32 t5 t59 H fun t60 H =>
 zaD [t60, (.int .i64 0), (.int .i64 0)] (K · H)
def zkD (t0 t5 : AV) (H : zaa) (K : Kt) : Prop :=
 zxT t0 t5 H K
def zqb (t0 t5 t6 : AV) (H : zaa) (K : Kt) (Kb5 : Lt) (Kb9 : Lt) : Prop :=
 zah 0 t0 fun t28 =>
 zac .lss false t6 t28 fun t29 =>
 zag t29
 (zbw t0 t6 fun t34 =>
 zac .eql false t34 (.int .u8 10) fun t35 =>
 zag t35
 (zfP t0 t5 t6 H K Kb5)
 (zac .add false t6 (.int .i64 1) fun t31 =>
 Kb9 (zkC t0 t5 t31) H))
 (zkD t0 t5 H K)
def zqa (t0 t5 t6 : AV) (H : zaa) (K : Kt) (Kb5 : Lt) : Prop :=
 zah 0 t0 fun t14 =>
 zac .lss false t6 t14 fun t15 =>
 zag t15
 (zbw t0 t6 fun t18 =>
 ACalls tP znp [t18] H fun t19 H =>
 zag t19
 (zac .add false t6 (.int .i64 1) fun t21 =>
 zfP t0 t5 t21 H K Kb5)
 (zbw t0 t6 fun t24 =>
 zac .eql false t24 (.int .u8 35) fun t25 =>
 zag t25
 (zxU t0 t5 t6 H K Kb5)
 (ACalls tP znq [t0, t6] H fun t39 H =>
 zay t39 0 fun t40 =>
 zay t39 1 fun t41 =>
 zau [(.int .i64 0), (.str []), (.int .i64 0)] H fun t7 H =>
 zak 3 t7 t40 H fun H =>
 zac .neq false t41 (.int .i64 0) fun t43 =>
 zag t43
 (zaD [.snil, t6, t41] (K · H))
 (zad true 3 t7 H fun t47 =>
 zaz 3 [(.int .i64 0), (.str []), (.int .i64 0)] 1 [(0, t47)] fun t48 =>
 zaw zd4 3 32 t5 t48 H fun t49 H =>
 zaf 1 t7 fun t51 =>
 zad false 1 t51 H fun t52 =>
 zah 0 t52 fun t53 =>
 zac .add false t6 t53 fun t54 =>
 zfP t0 t49 t54 H K Kb5))))
 (zkD t0 t5 H K)
def zp9 (t0 : AV) (H : zaa) (K : Kt) : Prop :=
 zah 0 t0 fun t10 =>
 zac .gtr false t10 (.int .i64 16384) fun t11 =>
 zag t11
 (zaD [.snil, (.int .i64 0), (.int .i64 9)] (K · H))
 (zkE t0 .snil (.int .i64 0) H K)
theorem zJC {t0 t5 t6 : AV} {H : zaa} {K : Kt} {Kb5 : Lt} (Inv : Nat → AV → zaa → Prop) (n : Nat) (h0 : HSc H → Inv n t6 H)
  (round : Rd1 (fun t6 => zkC t0 t5 t6) (fun t6 => fun H Kb9 => zqb t0 t5 t6 H K Kb5 Kb9) H Inv) : zxU t0 t5 t6 H K Kb5 :=
 lp1 (M := ze0) zJD t6 (by kernel_rfl) Inv n h0 round
theorem zJB {t0 t5 t6 : AV} {H : zaa} {K : Kt} (Inv : Nat → AV → AV → zaa → Prop) (n : Nat) (h0 : HSc H → Inv n t5 t6 H)
  (round : Rd2 (fun t5 => fun t6 => zfO t0 t5 t6) (fun t5 => fun t6 => fun H Kb5 => zqa t0 t5 t6 H K Kb5) H Inv) : zkE t0 t5 t6 H K :=
 lp2 (M := ze0) zxV t5 t6 (by kernel_rfl) Inv n h0 round
theorem zJE {t0 : AV} {H : zaa} {K : Kt} (h : HSc H → zp9 t0 H K) : ACalls tP znn [t0] H K :=
 zam (M := ze0) Tryz.func206 (c := zqc) (by kernel_rfl) (fun hs => Eq.mpr (by kernel_rfl) (h hs))
def zcU : Nat → List Bool
 | 5 => rl false [0,1,4,2,193]
 | 10 => rl false [0,1,4,2,193]
 | 18 => rl false [0,1,4,4,191]
 | 29 => rl false [0,1,4,4,191]
 | _ => []
noncomputable def zoX : Code := Tryz.f129.body.getD .skip
noncomputable def zFl : List ResultVar := Tryz.f129.results.toList
def zeV (t0 t5 t6 : AV) : List AV := t0 :: ux 4 (t5 :: t6 :: ux 193 [])
def zju : List Bool := zcU 5
noncomputable def zeU : Code := zas [1, 1, 1, 0, 1, 0, 0] zoX
def zjo (K : Kt) : AExit → List AV → zaa → Prop := zat tP zcU [1, 1, 1, 0, 1, 0] zoX (zaA tP zFl K)
def zjt (t0 t5 t6 : AV) (H : zaa) (K : Kt) : Prop := ALoop tP zeU (zjo K) (zeV t0 t5 t6) H
def zek (t0 t5 t6 : AV) (H : zaa) (K : Kt) (Kb5 : Lt) : Prop :=
 Kb5 (zeV t0 t5 t6) H
def zjr (t0 t5 t6 : AV) : List AV := t0 :: ux 4 (t5 :: t6 :: ux 193 [])
def zFh : List Bool := zcU 10
noncomputable def zFa : Code := zas [1, 0, 1, 1, 0, 1, 0, 0, 0, 0] zeU
def zE7 (K : Kt) (Kb5 : Lt) : AExit → List AV → zaa → Prop := zat tP zcU [1, 0, 1, 1, 0, 1, 0, 0, 0] zeU (zbz zju Kb5 (zjo K))
def zwg (t0 t5 t6 : AV) (H : zaa) (K : Kt) (Kb5 : Lt) : Prop := ALoop tP zFa (zE7 K Kb5) (zjr t0 t5 t6) H
def zoU (t0 t5 t6 : AV) (H : zaa) (K : Kt) (Kb5 : Lt) (Kb10 : Lt) : Prop :=
 zah 0 t0 fun t42 =>
 zac .lss false t6 t42 fun t43 =>
 zab t43 true H (fun K' => K' t0 H) fun t45 H =>
 zab t43 true H (fun K' => K' t6 H) fun t46 H =>
 zab t43 true H (fun K' => zbw t45 t46 (K' · H)) fun t47 H =>
 zab t43 true H (fun K' => zac .neq false t47 (.int .u8 10) (K' · H)) fun t48 H =>
 zai t43 t48 (.bool false) fun t49 =>
 zag t49
 (zac .add false t6 (.int .i64 1) fun t51 =>
 Kb10 (zjr t0 t5 t51) H)
 (zek t0 t5 t6 H K Kb5)
def zhe (t0 t5 t6 t7 t8 : AV) : List AV := t0 :: ux 4 (t5 :: t6 :: t7 :: t8 :: ux 191 [])
def zFi : List Bool := zcU 18
noncomputable def zFb : Code := zas [1, 0, 1, 1, 1, 1, 0, 0, 1, 0, 0, 0, 0] zeU
def zE8 (K : Kt) (Kb5 : Lt) : AExit → List AV → zaa → Prop := zat tP zcU [1, 0, 1, 1, 1, 1, 0, 0, 1, 0, 0, 0] zeU (zbz zju Kb5 (zjo K))
def zoY (t0 t5 t6 t7 t8 : AV) (H : zaa) (K : Kt) (Kb5 : Lt) : Prop := ALoop tP zFb (zE8 K Kb5) (zhe t0 t5 t6 t7 t8) H
def zhf (t0 t5 t6 t8 : AV) (H : zaa) (K : Kt) (Kb5 : Lt) : Prop :=
 zac .add false t6 t8 fun t193 =>
 zek t0 t5 t193 H K Kb5
def zem (t0 t5 t6 t8 : AV) (H : zaa) (K : Kt) (Kb5 : Lt) : Prop :=
 zhf t0 t5 t6 t8 H K Kb5
def zel (t0 t5 t6 t8 t9 : AV) (H : zaa) (K : Kt) (Kb5 : Lt) : Prop :=
 zac .add false t6 t8 fun t135 =>
 zaL 0 0 t0 (some t6) (some t135) fun t136 =>
 zax [(.int .i64 0), (.str []), (.int .i64 0)] [(0, 1), (1, 1), (2, 1)] [(0, t9), (1, t136), (2, t6)] fun t138 =>
 zaz 3 [(.int .i64 0), (.str []), (.int .i64 0)] 1 [(0, t138)] fun t139 =>
 zaw zbk 3 32 t5 t139 H fun t140 H =>
 zem t0 t140 t6 t8 H K Kb5
def zoV (t0 t5 t6 t7 t8 : AV) (H : zaa) (K : Kt) (Kb5 : Lt) (Kb18 : Lt) : Prop :=
 zac .add false t6 t8 fun t79 =>
 zah 0 t0 fun t81 =>
 zac .lss false t79 t81 fun t82 =>
 zab t82 true H (fun K' => K' t0 H) fun t84 H =>
 zab t82 true H (fun K' => K' t6 H) fun t85 H =>
 zab t82 true H (fun K' => K' t8 H) fun t86 H =>
 zab t82 true H (fun K' => zac .add false t85 t86 (K' · H)) fun t87 H =>
 zab t82 true H (fun K' => zbw t84 t87 (K' · H)) fun t88 H =>
 zab t82 true H (fun K' => ACalls tP zh5 [t88] H K') fun t89 H =>
 zab t82 true H (fun K' => K' t89 H) fun t90 H =>
 zab t90 false H (fun K' => K' t0 H) fun t91 H =>
 zab t90 false H (fun K' => K' t6 H) fun t92 H =>
 zab t90 false H (fun K' => K' t8 H) fun t93 H =>
 zab t90 false H (fun K' => zac .add false t92 t93 (K' · H)) fun t94 H =>
 zab t90 false H (fun K' => zbw t91 t94 (K' · H)) fun t95 H =>
 zab t90 false H (fun K' => ACalls tP zfq [t95] H K') fun t96 H =>
 zab t82 true H (fun K' => zai t90 (.bool true) t96 (K' · H)) fun t97 H =>
 zab t82 true H (fun K' => K' t97 H) fun t98 H =>
 zab t98 false H (fun K' => K' t0 H) fun t99 H =>
 zab t98 false H (fun K' => K' t6 H) fun t100 H =>
 zab t98 false H (fun K' => K' t8 H) fun t101 H =>
 zab t98 false H (fun K' => zac .add false t100 t101 (K' · H)) fun t102 H =>
 zab t98 false H (fun K' => zbw t99 t102 (K' · H)) fun t103 H =>
 zab t98 false H (fun K' => ACalls tP zgE [t103] H K') fun t104 H =>
 zab t82 true H (fun K' => zai t98 (.bool true) t104 (K' · H)) fun t105 H =>
 zab t82 true H (fun K' => K' t105 H) fun t106 H =>
 zab t106 false H (fun K' => K' t0 H) fun t107 H =>
 zab t106 false H (fun K' => K' t6 H) fun t108 H =>
 zab t106 false H (fun K' => K' t8 H) fun t109 H =>
 zab t106 false H (fun K' => zac .add false t108 t109 (K' · H)) fun t110 H =>
 zab t106 false H (fun K' => zbw t107 t110 (K' · H)) fun t111 H =>
 zab t106 false H (fun K' => zac .eql false t111 (.int .u8 95) (K' · H)) fun t112 H =>
 zab t82 true H (fun K' => zai t106 (.bool true) t112 (K' · H)) fun t113 H =>
 zai t82 t113 (.bool false) fun t114 =>
 zag t114
 (zac .add false t8 (.int .i64 1) fun t116 =>
 Kb18 (zhe t0 t5 t6 t7 t116) H)
 (zac .gtr false t8 (.int .i64 24) fun t118 =>
 zag t118
 (zaD [.snil, t6, (.int .i64 9)] (K · H))
 (ACalls tP zfq [t7] H fun t121 H =>
 zag t121
 (zel t0 t5 t6 t8 (.int .i64 2) H K Kb5)
 (zac .add false t6 t8 fun t126 =>
 zaL 0 0 t0 (some t6) (some t126) fun t127 =>
 ACalls tP zh6 [t127] H fun t128 H =>
 zag t128
 (zel t0 t5 t6 t8 (.int .i64 4) H K Kb5)
 (zel t0 t5 t6 t8 (.int .i64 1) H K Kb5))))
def zjs (t0 t5 t6 t7 t8 : AV) : List AV := t0 :: ux 4 (t5 :: t6 :: t7 :: t8 :: ux 191 [])
def zFj : List Bool := zcU 29
noncomputable def zFc : Code := zas [1, 0, 1, 1, 1, 1, 0, 0, 1, 1, 1, 0, 0, 0, 0] zeU
def zE9 (K : Kt) (Kb5 : Lt) : AExit → List AV → zaa → Prop := zat tP zcU [1, 0, 1, 1, 1, 1, 0, 0, 1, 1, 1, 0, 0, 0] zeU (zbz zju Kb5 (zjo K))
def zoZ (t0 t5 t6 t7 t8 : AV) (H : zaa) (K : Kt) (Kb5 : Lt) : Prop := ALoop tP zFc (zE9 K Kb5) (zjs t0 t5 t6 t7 t8) H
def zoW (t0 t5 t6 t7 t8 : AV) (H : zaa) (K : Kt) (Kb5 : Lt) (Kb29 : Lt) : Prop :=
 zac .add false t6 t8 fun t146 =>
 zah 0 t0 fun t148 =>
 zac .lss false t146 t148 fun t149 =>
 zab t149 true H (fun K' => K' t0 H) fun t151 H =>
 zab t149 true H (fun K' => K' t6 H) fun t152 H =>
 zab t149 true H (fun K' => K' t8 H) fun t153 H =>
 zab t149 true H (fun K' => zac .add false t152 t153 (K' · H)) fun t154 H =>
 zab t149 true H (fun K' => zbw t151 t154 (K' · H)) fun t155 H =>
 zab t149 true H (fun K' => ACalls tP zgE [t155] H K') fun t156 H =>
 zai t149 t156 (.bool false) fun t157 =>
 zag t157
 (zac .add false t8 (.int .i64 1) fun t159 =>
 Kb29 (zjs t0 t5 t6 t7 t159) H)
 (zac .gtr false t8 (.int .i64 1) fun t161 =>
 zab t161 true H (fun K' => K' t7 H) fun t163 H =>
 zab t161 true H (fun K' => zac .eql false t163 (.int .u8 48) (K' · H)) fun t164 H =>
 zai t161 t164 (.bool false) fun t165 =>
 zag t165
 (zaD [.snil, t6, (.int .i64 2)] (K · H))
 (zac .add false t6 t8 fun t172 =>
 zaL 0 0 t0 (some t6) (some t172) fun t173 =>
 ACalls tP zfr [t173] H fun t174 H =>
 zay t174 0 fun t175 =>
 zay t174 1 fun t176 =>
 aUn .not t176 fun t178 =>
 zag t178
 (zaD [.snil, t6, (.int .i64 9)] (K · H))
 (zac .add false t6 t8 fun t185 =>
 zaL 0 0 t0 (some t6) (some t185) fun t186 =>
 zax [(.int .i64 0), (.str []), (.int .i64 0)] [(0, 1), (1, 1), (2, 1)] [(0, (.int .i64 3)), (1, t186), (2, t6)] fun t188 =>
 zaz 3 [(.int .i64 0), (.str []), (.int .i64 0)] 1 [(0, t188)] fun t189 =>
 zaw zbk 3 32 t5 t189 H fun t190 H =>
 zem t0 t190 t6 t8 H K Kb5)))
def zjp (t0 t5 t6 : AV) (H : zaa) (K : Kt) (Kb5 : Lt) : Prop :=
 zah 0 t0 fun t17 =>
 zac .lss false t6 t17 fun t18 =>
 zag t18
 (zbw t0 t6 fun t21 =>
 zac .eql false t21 (.int .u8 9) fun t23 =>
 zab t23 false H (fun K' => K' t21 H) fun t25 H =>
 zab t23 false H (fun K' => zac .eql false t25 (.int .u8 10) (K' · H)) fun t26 H =>
 zai t23 (.bool true) t26 fun t27 =>
 zab t27 false H (fun K' => K' t21 H) fun t29 H =>
 zab t27 false H (fun K' => zac .eql false t29 (.int .u8 13) (K' · H)) fun t30 H =>
 zai t27 (.bool true) t30 fun t31 =>
 zab t31 false H (fun K' => K' t21 H) fun t33 H =>
 zab t31 false H (fun K' => zac .eql false t33 (.int .u8 32) (K' · H)) fun t34 H =>
 zai t31 (.bool true) t34 fun t35 =>
 zag t35
 (zac .add false t6 (.int .i64 1) fun t37 =>
 zek t0 t5 t37 H K Kb5)
 (zac .eql false t21 (.int .u8 35) fun t39 =>
 zag t39
 (zwg t0 t5 t6 H K Kb5)
 (ACalls tP zh5 [t21] H fun t72 H =>
 zab t72 false H (fun K' => K' t21 H) fun t74 H =>
 zab t72 false H (fun K' => ACalls tP zfq [t74] H K') fun t75 H =>
 zai t72 (.bool true) t75 fun t76 =>
 zag t76
 (zoY t0 t5 t6 t21 (.int .i64 1) H K Kb5)
 (ACalls tP zgE [t21] H fun t143 H =>
 zag t143
 (zoZ t0 t5 t6 t21 (.int .i64 1) H K Kb5)
 (zaL 0 0 t0 (some t6) none fun t54 =>
 ACalls tP znh [t54] H fun t55 H =>
 zac .eql false t55 (.int .i64 0) fun t57 =>
 zag t57
 (zaD [.snil, t6, (.int .i64 2)] (K · H))
 (zac .add false t6 t55 fun t64 =>
 zaL 0 0 t0 (some t6) (some t64) fun t65 =>
 zax [(.int .i64 0), (.str []), (.int .i64 0)] [(0, 1), (1, 1), (2, 1)] [(0, (.int .i64 5)), (1, t65), (2, t6)] fun t67 =>
 zaz 3 [(.int .i64 0), (.str []), (.int .i64 0)] 1 [(0, t67)] fun t68 =>
 zaw zbk 3 32 t5 t68 H fun t69 H =>
 zem t0 t69 t6 t55 H K Kb5))))))
 (zah 0 t0 fun t196 =>
 zax [(.int .i64 0), (.str []), (.int .i64 0)] [(0, 1), (1, 1), (2, 1)] [(0, (.int .i64 6)), (1, (.str [])), (2, t196)] fun t197 =>
 zaz 3 [(.int .i64 0), (.str []), (.int .i64 0)] 1 [(0, t197)] fun t198 =>
 zaw zbk 3 32 t5 t198 H fun t199 H =>
 zaD [t199, (.int .i64 0), (.int .i64 0)] (K · H))
def zoT (t0 : AV) (H : zaa) (K : Kt) : Prop :=
 zah 0 t0 fun t13 =>
 zac .gtr false t13 (.int .i64 16384) fun t14 =>
 zag t14
 (zaD [.snil, (.int .i64 0), (.int .i64 9)] (K · H))
 (zjt t0 .snil (.int .i64 0) H K)
theorem zFd {t0 t5 t6 : AV} {H : zaa} {K : Kt} {Kb5 : Lt} (Inv : Nat → AV → zaa → Prop) (n : Nat) (h0 : HSc H → Inv n t6 H)
  (round : Rd1 (fun t6 => zjr t0 t5 t6) (fun t6 => fun H Kb10 => zoU t0 t5 t6 H K Kb5 Kb10) H Inv) : zwg t0 t5 t6 H K Kb5 :=
 lp1 (M := zcU) zFh t6 (by kernel_rfl) Inv n h0 round
theorem zFe {t0 t5 t6 t7 t8 : AV} {H : zaa} {K : Kt} {Kb5 : Lt} (Inv : Nat → AV → zaa → Prop) (n : Nat) (h0 : HSc H → Inv n t8 H)
  (round : Rd1 (fun t8 => zhe t0 t5 t6 t7 t8) (fun t8 => fun H Kb18 => zoV t0 t5 t6 t7 t8 H K Kb5 Kb18) H Inv) : zoY t0 t5 t6 t7 t8 H K Kb5 :=
 lp1 (M := zcU) zFi t8 (by kernel_rfl) Inv n h0 round
theorem zFf {t0 t5 t6 t7 t8 : AV} {H : zaa} {K : Kt} {Kb5 : Lt} (Inv : Nat → AV → zaa → Prop) (n : Nat) (h0 : HSc H → Inv n t8 H)
  (round : Rd1 (fun t8 => zjs t0 t5 t6 t7 t8) (fun t8 => fun H Kb29 => zoW t0 t5 t6 t7 t8 H K Kb5 Kb29) H Inv) : zoZ t0 t5 t6 t7 t8 H K Kb5 :=
 lp1 (M := zcU) zFj t8 (by kernel_rfl) Inv n h0 round
theorem zFg {t0 t5 t6 : AV} {H : zaa} {K : Kt} (Inv : Nat → AV → AV → zaa → Prop) (n : Nat) (h0 : HSc H → Inv n t5 t6 H)
  (round : Rd2 (fun t5 => fun t6 => zeV t0 t5 t6) (fun t5 => fun t6 => fun H Kb5 => zjp t0 t5 t6 H K Kb5) H Inv) : zjt t0 t5 t6 H K :=
 lp2 (M := zcU) zju t5 t6 (by kernel_rfl) Inv n h0 round
theorem zFk {t0 : AV} {H : zaa} {K : Kt} (h : HSc H → zoT t0 H K) : ACalls tP zm0 [t0] H K :=
 zam (M := zcU) Tryz.func129 (c := zoX) (by kernel_rfl) (fun hs => Eq.mpr (by kernel_rfl) (h hs))
def zJQ (_ : Nat) : List Bool := []
noncomputable def zJR : Code := Tryz.f219.body.getD .skip
def zxZ (t0 : AV) (H : zaa) (K : Kt) : Prop :=
 zac .eql false t0 (.int .u8 9) fun t4 =>
 zab t4 false H (fun K' => K' t0 H) fun t6 H =>
 zab t4 false H (fun K' => zac .eql false t6 (.int .u8 10) (K' · H)) fun t7 H =>
 zai t4 (.bool true) t7 fun t8 =>
 zab t8 false H (fun K' => K' t0 H) fun t10 H =>
 zab t8 false H (fun K' => zac .eql false t10 (.int .u8 13) (K' · H)) fun t11 H =>
 zai t8 (.bool true) t11 fun t12 =>
 zab t12 false H (fun K' => K' t0 H) fun t14 H =>
 zab t12 false H (fun K' => zac .eql false t14 (.int .u8 32) (K' · H)) fun t15 H =>
 zai t12 (.bool true) t15 fun t16 =>
 K t16 H
theorem zJS {t0 : AV} {H : zaa} {K : Kt} (h : HSc H → zxZ t0 H K) : ACalls tP znp [t0] H K :=
 zam (M := zJQ) Tryz.func219 (c := zJR) (by kernel_rfl) (fun hs => Eq.mpr (by kernel_rfl) (h hs))
end Go.Proofs.YtjkkonpjecoieaaGreat
