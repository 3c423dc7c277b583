import Derived.Test.YtkdmpbhbmmhijaaAbsQ1
import Derived.Test.YtkdmpbhbmmhijaaKGY
set_option linter.unusedSimpArgs false
set_option linter.unusedVariables false
namespace Go.Proofs.Ytkdmpbhbmmhijaa
open Go Go.Abs
set_option maxRecDepth 8000
theorem zx0 : ∀ (m : Nat) (v : VT),v.nodes ≤ m → ∀ (left : Int),left ≤ 1000000 → -1 ≤ left → ∀ (H : zaa) (id : Nat),H[id]? = some (.cells [.int .i64 left]) → ∀ (K : AV → zaa → Prop),
  ((v.nodes : Int) ≤ left → K (.bool true) (H.set id (.cells [.int .i64 (left - v.nodes)]))) → (¬ (v.nodes : Int) ≤ left → ∀ l',K (.bool false) (H.set id (.cells [.int .i64 l']))) →
  ACalls tP zg6 [.agg v.cs,.ptr id 0] H K:=by
 intro m
 induction m with
 | zero=>intro v h; have:=v.nodes_pos; omega
 | succ m ih=>
  intro v hv left hl1 hl0 H id hid K hK hF
  obtain ⟨k,n,ks⟩:=v
  have hlt:=zb0 hid
  have hnn : (VT.mk k n ks).nodes = VT.nodesL ks + 1:=by simp [VT.nodes]
  refine ACalls.out (zLZ fun hs=>?_)
  have hget : (H ++ [AB.cells [.int .i64 k,.int .i64 n,.sl (VT.css ks) .none]])[id]? = some (.cells [.int .i64 left]):=zaO hid
  have bad : (¬ ((VT.mk k n ks).nodes : Int) ≤ left) → ∀ l' H',H' = H.set id (.cells [.int .i64 l']) ++ [.cells [.int .i64 k,.int .i64 n,.sl (VT.css ks) .none]] → Out H.length K (.bool false) H':=by
   intro h l' H' he
   exact Out.bool he (by simp) (hs.set rfl) (hF h l')
  simp [zxY,VT.cs,hget,AV.known]
  rw [zaq (by omega) (by omega),zdK _ hid,zaO (zc8 _ hid)]
  by_cases h0 : left - 1 < 0
  ·simp [h0]
   exact bad (by omega) _ _ rfl
  ·simp [h0]
   refine zLX (Inv:=fun q t5 H'=>∃ i : Nat,i ≤ ks.length ∧ q = ks.length - i ∧ t5 = .int .i64 i ∧ ((VT.nodesL (ks.take i) : Int) + 1 ≤ left) ∧ H' = H.set id (.cells [.int .i64 (left - 1 - VT.nodesL (ks.take i))]) ++ [.cells [.int .i64 k,.int .i64 n,.sl (VT.css ks) .none]]) ks.length ?_ ?_
   ·intro _; exact ⟨0,by omega,by omega,rfl,by simp [VT.nodesL]; omega,by simp [VT.nodesL]⟩
   ·rintro q t5 H' ⟨i,hi,rfl,rfl,hb,rfl⟩ hsc hlen hsF Kb hKb
    by_cases hil : i < ks.length
    ·have hki:=VT.kid_lt (k:=k) (n:=n) hil
     have h1:=VT.nodesL_take hil
     have h2:=VT.nodesL_take_le ks (i + 1)
     have hll:=VT.len_le (ks.take i)
     simp only [List.length_take] at hll
     have hge : (H.set id (.cells [.int .i64 (left - 1 - VT.nodesL (ks.take i))]) ++ [AB.cells [.int .i64 k,.int .i64 n,.sl (VT.css ks) .none]])[id]? = some (.cells [.int .i64 (left - 1 - VT.nodesL (ks.take i))]):=zaO (zc8 _ hid)
     simp [zqZ,hil]
     refine ih ks[i] (by omega) (left - 1 - VT.nodesL (ks.take i)) (by omega) (by omega) _ id hge _ ?_ ?_
     ·intro hle
      rw [zdK _ (zc8 _ hid),List.set_set]
      simp
      rw [zaq (by omega) (by omega)]
      refine hKb _ _ ⟨ks.length - (i + 1),by omega,Back.here (by simp) ((hs.set rfl).snoc rfl) ?_ ⟨_,rfl,i + 1,by omega,rfl,by simp,by omega,?_⟩⟩
      ·simp [zlD,AV.sc,AV.scV,AV.scA,AV.scB]; omega
      ·rw [h1]; congr 5; omega
     ·intro hle l'
      rw [zdK _ (zc8 _ hid),List.set_set]
      simp
      exact bad (by omega) _ _ rfl
    ·obtain rfl : i = ks.length:=by omega
     rw [List.take_length] at hb ⊢
     simp [zqZ]
     refine Out.bool rfl (by simp) (hs.set rfl) ?_
     have:=hK (by omega)
     rw [hnn] at this
     rw [show left - 1 - (VT.nodesL ks : Int) = left - ((VT.nodesL ks + 1 : Nat) : Int) by omega]
     exact this
theorem zpR (v : VT) (H : zaa) (K : AV → zaa → Prop) (hK : ∀ b,(b = true → v.nodes ≤ 250) → K (.bool b) H) : ACalls tP zg5 [.agg v.cs] H K:=by
 refine ACalls.out (zIm fun hs=>?_)
 simp [zws,AV.known]
 refine zx0 _ v (Nat.le_refl _) 250 (by omega) (by omega) _ (H.length + 1) (by simp) _ ?_ ?_
 ·intro h
  exact Out.bool (J:=[_,_]) (by simp; exact ⟨rfl,rfl⟩) (Nat.le_refl _) hs (hK true fun _=>by omega)
 ·intro h l'
  exact Out.bool (J:=[_,_]) (by simp; exact ⟨rfl,rfl⟩) (Nat.le_refl _) hs (hK false fun h=>by cases h)
theorem zIj (vs : List VT) (n : Nat) (hn : n ≤ 1000000) (hlen : vs.length ≤ 9223372036854775807) (H : zaa) (K : AV → zaa → Prop) (hK : ∀ b,(b = true → vs.length ≤ n ∧ ∀ v ∈ vs,v.nodes ≤ 250) → K (.bool b) H) : ACalls tP znr [.sl (VT.css vs) .none,.int .i64 n] H K:=by
 refine ACalls.out (zIh fun hs=>?_)
 have hO : ∀ b,(b = true → vs.length ≤ n ∧ ∀ v ∈ vs,v.nodes ≤ 250) → Out H.length K (.bool b) H:=fun b h=>Out.bool (J:=[]) (by simp) (Nat.le_refl _) hs (hK b h)
 simp only [zwq]
 refine zIf (Inv:=fun q t5 H'=>∃ i : Nat,i ≤ vs.length ∧ i ≤ n + 1 ∧ q = vs.length - i ∧ t5 = .int .i64 i ∧ (∀ v ∈ vs.take i,v.nodes ≤ 250) ∧ H = H') vs.length ?_ ?_
 ·intro _; exact ⟨0,by omega,by omega,by omega,rfl,by simp,rfl⟩
 ·rintro q t5 H' ⟨i,hi,hin,rfl,rfl,ha,rfl⟩ hsc hlen' hsF Kb hKb
  by_cases hc : i < vs.length ∧ i ≤ n
  ·obtain ⟨h1,h2⟩:=hc
   have h2' : (i : Int) ≤ n:=by omega
   simp [zku,h1,h2]
   refine zpR _ _ _ fun b hb=>?_
   cases b with
   | false=>simp; exact hO false (fun h=>by cases h)
   | true=>
    simp
    rw [zaq (by omega) (by omega)]
    refine hKb _ _ ⟨vs.length - (i + 1),by omega,Back.here (Nat.le_refl _) hs ?_ ⟨_,rfl,i + 1,by omega,by omega,rfl,by simp,?_,rfl⟩⟩
    ·simp [zkv,AV.sc,AV.scV,AV.scA,AV.scB]
    ·rw [List.take_succ_eq_append_getElem h1]
     intro v hv
     rcases List.mem_append.1 hv with h | h
     ·exact ha v h
     ·simp at h; subst h; exact hb rfl
  ·have hfin : Out H.length K (.bool (decide ((vs.length : Int) ≤ n))) H:=hO _ (fun h=>by
    have h : (vs.length : Int) ≤ n:=of_decide_eq_true h
    refine ⟨by omega,?_⟩
    have : i = vs.length:=by omega
    rw [this,List.take_length] at ha
    exact ha)
   have hfin' : Out H.length K (.bool (decide (vs.length ≤ n))) H:=by
    have e : decide ((vs.length : Int) ≤ n) = decide (vs.length ≤ n):=decide_eq_decide.2 (by omega)
    rwa [e] at hfin
   by_cases h1 : i < vs.length
   ·have h2 : ¬ i ≤ n:=fun h=>hc ⟨h1,h⟩
    simp [zku,h1,h2]
    exact hfin'
   ·simp [zku,h1]
    exact hfin'
theorem zys : ∀ (m : Nat) (v : VT),v.nodes ≤ m → v.nodes ≤ 1000000000 → ∀ (H : zaa) (K : AV → zaa → Prop),K (.int .i64 v.nodes) H → ACalls tP zg7 [.agg v.cs] H K:=by
 intro m
 induction m with
 | zero=>intro v h; have:=v.nodes_pos; omega
 | succ m ih=>
  intro v hv hb H K hK
  obtain ⟨k,n,ks⟩:=v
  have hnl : VT.nodesL ks + 1 ≤ 1000000000:=by simpa [VT.nodes] using hb
  have hll:=VT.len_le ks
  refine ACalls.out (zM8 fun hs=>?_)
  simp [VT.cs,zyq]
  refine zM6 (Inv:=fun q t3 t4 H'=>∃ i : Nat,i ≤ ks.length ∧ q = ks.length - i ∧ t4 = .int .i64 i ∧ t3 = .int .i64 (1 + VT.nodesL (ks.take i) : Nat) ∧ H' = H ++ [.cells [.int .i64 k,.int .i64 n,.sl (VT.css ks) .none]]) ks.length ?_ ?_
  ·intro _; exact ⟨0,by omega,by omega,rfl,by simp [VT.nodesL],rfl⟩
  ·rintro q t3 t4 H' ⟨i,hi,rfl,rfl,rfl,rfl⟩ hsc hlen hsF Kb hKb
   by_cases hlt : i < ks.length
   ·have hki:=VT.kid_lt (k:=k) (n:=n) hlt
    have h1:=VT.nodesL_take hlt
    have h2:=VT.nodesL_take_le ks (i + 1)
    simp [zrc,hlt]
    refine ih ks[i] (by omega) (by omega) _ _ ?_
    simp
    rw [zaq (by omega) (by omega),zaq (by omega) (by omega)]
    refine hKb _ _ ⟨ks.length - (i + 1),by omega,Back.here (by simp) hsc ?_ ⟨_,_,rfl,i + 1,by omega,rfl,by simp,?_,rfl⟩⟩
    ·simp [zlQ,AV.sc,AV.scV,AV.scA,AV.scB]
    ·rw [h1]; congr 1; omega
   ·obtain rfl : i = ks.length:=by omega
    simp [zrc]
    refine Out.int rfl (Nat.le_refl _) hs ?_
    simpa [VT.nodes,Int.add_comm] using hK
theorem zw5 : ∀ (m : Nat) (v u : VT),v.nodes ≤ m → v.nodes ≤ 1000000000 → ∀ (H : zaa) (K : AV → zaa → Prop),K (.bool (v.same u)) H → ACalls tP zcE [.agg v.cs,.agg u.cs] H K:=by
 intro m
 induction m with
 | zero=>intro v u h; have:=v.nodes_pos; omega
 | succ m ih=>
  intro v u hv hb H K hK
  obtain ⟨k,n,ks⟩:=v
  obtain ⟨k',n',ks'⟩:=u
  have hnl : VT.nodesL ks + 1 ≤ 1000000000:=by simpa [VT.nodes] using hb
  have hll:=VT.len_le ks
  refine ACalls.out (zJF fun hs=>?_)
  have hO : ∀ J,Out H.length K (.bool ((VT.mk k n ks).same (.mk k' n' ks'))) (H ++ J):=fun J=>Out.bool rfl (Nat.le_refl _) hs hK
  simp only [VT.same] at hO
  cases hk : (k == k') with
  | false=>
   rw [hk] at hO
   have : (k != k') = true:=by simp [bne,hk]
   simp [VT.cs,zhH,this]
   exact hO _
  | true=>
  have hk' : (k != k') = false:=by simp [bne,hk]
  cases hn : (n == n') with
  | false=>
   rw [hk,hn] at hO
   have : (n != n') = true:=by simp [bne,hn]
   simp [VT.cs,zhH,hk',this]
   exact hO _
  | true=>
  have hn' : (n != n') = false:=by simp [bne,hn]
  rw [hk,hn,Bool.true_and,Bool.true_and] at hO
  by_cases hl : ks.length = ks'.length
  ·have hl' : ((ks.length : Int) != ks'.length) = false:=by simp [hl]
   simp [VT.cs,zhH,hk',hn',hl]
   refine zJD (Inv:=fun q t5 H'=>∃ i : Nat,i ≤ ks.length ∧ q = ks.length - i ∧ t5 = .int .i64 i ∧ VT.sameL (ks.drop i) (ks'.drop i) = VT.sameL ks ks' ∧ H' = H ++ [.cells [.int .i64 k,.int .i64 n,.sl (VT.css ks) .none],.cells [.int .i64 k',.int .i64 n',.sl (VT.css ks') .none]]) ks.length ?_ ?_
   ·intro _; exact ⟨0,by omega,by omega,rfl,by simp,rfl⟩
   ·rintro q t5 H' ⟨i,hi,rfl,rfl,ho,rfl⟩ hsc hlen hsF Kb hKb
    by_cases hlt : i < ks.length
    ·have hlt' : i < ks'.length:=by omega
     have hki:=VT.kid_lt (k:=k) (n:=n) hlt
     rw [List.drop_eq_getElem_cons hlt,List.drop_eq_getElem_cons hlt',VT.sameL] at ho
     simp [zqe,hlt,hlt']
     refine zay (.bool (VT.same ks[i] ks'[i])) (fun J=>ih ks[i] ks'[i] (by omega) (by omega) _ _ ⟨rfl,rfl⟩) ?_
     cases hb : VT.same ks[i] ks'[i] with
     | false=>
      rw [hb,Bool.false_and] at ho
      rw [← ho] at hO
      simp
      exact hO _
     | true=>
      rw [hb,Bool.true_and] at ho
      simp
      rw [zaq (by omega) (by omega)]
      refine hKb _ _ ⟨ks.length - (i + 1),by omega,Back.here (by simp) hsc ?_ ⟨_,rfl,i + 1,by omega,rfl,by simp,ho,rfl⟩⟩
      simp [zkS,AV.sc,AV.scV,AV.scA,AV.scB]
    ·obtain rfl : i = ks.length:=by omega
     rw [List.drop_length,hl,List.drop_length,VT.sameL] at ho
     rw [← ho] at hO
     simp [zqe]
     exact hO _
  ·have hl' : ((ks.length : Int) != ks'.length) = true:=by simp; omega
   have hs' : VT.sameL ks ks' = false:=by
    have : ∀ (x y : List VT),x.length ≠ y.length → VT.sameL x y = false:=by
     intro x
     induction x with
     | nil=>intro y h; cases y <;> simp [VT.sameL] at *
     | cons a x ih=>intro y h; cases y <;> simp [VT.sameL] at *; intro _; exact ih _ h
    exact this _ _ hl
   rw [hs'] at hO
   simp [VT.cs,zhH,hk',hn',hl']
   exact hO _
theorem zNg (data : List Dat) (hdl : data.length ≤ 1000000) (vars : Int) : ∀ (m : Nat) (v : VT),v.nodes ≤ m → v.nodes ≤ 1000000000 → ∀ (H : zaa) (K : AV → zaa → Prop),K (.bool (zbz data vars v)) H → ACalls tP ziQ [.sl (data.map Dat.cs) .none,.agg v.cs,.int .i64 vars] H K:=by
 intro m
 induction m with
 | zero=>intro v h; have:=v.nodes_pos; omega
 | succ m ih=>
  intro v hv hb H K hK
  obtain ⟨k,n,ks⟩:=v
  have hnl : VT.nodesL ks + 1 ≤ 1000000000:=by simpa [VT.nodes] using hb
  have hll:=VT.len_le ks
  refine ACalls.out (zNe fun hs=>?_)
  have hO : ∀ J,Out H.length K (.bool (zbd data vars k n ks.length && zbA data vars ks)) (H ++ J):=fun J=>Out.bool rfl (Nat.le_refl _) hs (by simpa [zbz] using hK)
  have hF : zbd data vars k n ks.length = false → ∀ J,Out H.length K (.bool false) (H ++ J):=fun h J=>by have:=hO J; rwa [h,Bool.false_and] at this
  have loop : zbd data vars k n ks.length = true → zrg (.sl (data.map Dat.cs) .none) (.int .i64 vars) (.ptr H.length 0) (.int .i64 ks.length) (.int .i64 0) (H ++ [.cells [.int .i64 k,.int .i64 n,.sl (VT.css ks) .none]]) (Out H.length K):=by
   intro hsh
   rw [hsh] at hO
   simp only [Bool.true_and] at hO
   refine zNc (Inv:=fun q t8 H'=>∃ i : Nat,i ≤ ks.length ∧ q = ks.length - i ∧ t8 = .int .i64 i ∧ zbA data vars (ks.drop i) = zbA data vars ks ∧ H' = H ++ [.cells [.int .i64 k,.int .i64 n,.sl (VT.css ks) .none]]) ks.length ?_ ?_
   ·intro _; exact ⟨0,by omega,by omega,rfl,by simp,rfl⟩
   ·rintro q t8 H' ⟨i,hi,rfl,rfl,ho,rfl⟩ hsc hlen hsF Kb hKb
    by_cases hlt : i < ks.length
    ·have hki:=VT.kid_lt (k:=k) (n:=n) hlt
     rw [List.drop_eq_getElem_cons hlt,zbA] at ho
     simp [zre,hlt]
     refine ih ks[i] (by omega) (by omega) _ _ ?_
     cases hb : zbz data vars ks[i] with
     | false=>
      rw [hb,Bool.false_and] at ho
      rw [← ho] at hO
      simp
      exact hO _
     | true=>
      rw [hb,Bool.true_and] at ho
      simp
      rw [zaq (by omega) (by omega)]
      refine hKb _ _ ⟨ks.length - (i + 1),by omega,Back.here (by simp) hsc ?_ ⟨_,rfl,i + 1,by omega,rfl,by simp,ho,rfl⟩⟩
      simp [zlS,AV.sc,AV.scV,AV.scA,AV.scB]
    ·obtain rfl : i = ks.length:=by omega
     rw [List.drop_length,zbA] at ho
     rw [← ho] at hO
     simp [zre]
     exact hO _
  have prim : (k = 1 ∨ k = 2 ∨ k = 3) → Out H.length K (.bool (n == 0 && ks.length == 0)) (H ++ [.cells [.int .i64 k,.int .i64 n,.sl (VT.css ks) .none]]):=by
   intro h
   have hsh : zbd data vars k n ks.length = (n == 0 && ks.length == 0):=by rcases h with rfl | rfl | rfl <;> rfl
   have:=hO [.cells [.int .i64 k,.int .i64 n,.sl (VT.css ks) .none]]
   rw [hsh] at this
   cases ks with
   | nil=>simpa [zbA] using this
   | cons x l=>simpa using this
  by_cases h123 : k = 1 ∨ k = 2 ∨ k = 3
  ·have:=prim h123
   cases hn : (n == 0) with
   | false=>rw [hn,Bool.false_and] at this; rcases h123 with rfl | rfl | rfl <;> simp [zcM,VT.cs,zbU,hn] <;> exact this
   | true=>
    rw [hn,Bool.true_and] at this
    have e : ((ks.length : Int) == 0) = (ks.length == 0):=by rw [Bool.eq_iff_iff]; simp
    rw [← e] at this
    rcases h123 with rfl | rfl | rfl <;> simp only [zcM,VT.cs] <;> simp [zbU,hn] <;> simpa using this
  by_cases h4 : k = 4
  ·subst h4
   have hsh : zbd data vars 4 n ks.length = (decide (0 ≤ n) && decide (n < vars) && ks.length == 0):=rfl
   have hO' : ∀ J,Out H.length K (.bool (decide (0 ≤ n) && decide (n < vars) && ks.length == 0)) (H ++ J):=fun J=>by
    have:=hO J
    rw [hsh] at this
    cases ks with
    | nil=>simpa [zbA] using this
    | cons x l=>simpa using this
   have e : ((ks.length : Int) == 0) = (ks.length == 0):=by rw [Bool.eq_iff_iff]; simp
   rw [← e] at hO'
   by_cases g1 : 0 ≤ n
   ·by_cases g2 : n < vars
    ·simp only [zcM,VT.cs]
     simp [zbU,g1,g2]
     simpa [g1,g2] using hO' _
    ·simp only [zcM,VT.cs]
     simp [zbU,g1,g2]
     simpa [g1,g2] using hO' _
   ·simp only [zcM,VT.cs]
    simp [zbU,g1]
    simpa [g1] using hO' _
  by_cases h5 : k = 5
  ·subst h5
   have hsh : zbd data vars 5 n ks.length = (decide (0 ≤ n) && (match data[n.toNat]? with | some d=>(ks.length : Int) == d.vars | none=>false)):=rfl
   by_cases g1 : 0 ≤ n
   ·have g1' : ¬ n < 0:=by omega
    by_cases g2 : n < data.length
    ·have hnl : n.toNat < data.length:=by omega
     have g2' : ¬ (data.length : Int) ≤ n:=by omega
     have hat : (data.map Dat.cs)[n.toNat]?.getD [] = [.str data[n.toNat].name,.int .i64 data[n.toNat].vars,.sl (data[n.toNat].cons.map Con.cs) .none]:=by simp [hnl,Dat.cs]
     rw [List.getElem?_eq_getElem hnl] at hsh
     simp only [g1,decide_true,Bool.true_and] at hsh
     cases hv : ((ks.length : Int) == data[n.toNat].vars) with
     | false=>
      rw [hv] at hsh
      have hv' : ((ks.length : Int) != data[n.toNat].vars) = true:=by simp [bne,hv]
      simp only [zcM,VT.cs]
      simp [zbU,g1',g2',g1,g2,hnl,Dat.cs,hv']
      exact hF hsh _
     | true=>
      rw [hv] at hsh
      have hv' : ((ks.length : Int) != data[n.toNat].vars) = false:=by simp [bne,hv]
      simp only [zcM,VT.cs]
      simp [zbU,g1',g2',g1,g2,hnl,Dat.cs,hv',zeR,zhZ]
      exact loop hsh
    ·have g2' : (data.length : Int) ≤ n:=by omega
     rw [List.getElem?_eq_none (by omega)] at hsh
     simp only [zcM,VT.cs]
     simp [zbU,g1',g2']
     exact hF (by rw [hsh]; simp) _
   ·have g1' : n < 0:=by omega
    simp only [zcM,VT.cs]
    simp [zbU,g1']
    exact hF (by rw [hsh]; simp [g1]) _
  by_cases h6 : k = 6
  ·subst h6
   have hsh : zbd data vars 6 n ks.length = (n == 0 && decide (2 ≤ ks.length) && decide (ks.length ≤ 6)):=rfl
   simp only [zcM,VT.cs]
   cases hn : (n == 0) with
   | false=>
    have : (n != 0) = true:=by simp [bne,hn]
    simp [zbU,this]
    exact hF (by rw [hsh,hn]; rfl) _
   | true=>
    have hn' : (n != 0) = false:=by simp [bne,hn]
    by_cases g1 : ks.length < 2
    ·have : (ks.length : Int) < 2:=by omega
     simp [zbU,hn',this]
     exact hF (by rw [hsh]; simp; omega) _
    ·have g1' : ¬ (ks.length : Int) < 2:=by omega
     by_cases g2 : 6 < ks.length
     ·have : (6 : Int) < ks.length:=by omega
      simp [zbU,hn',g1',this]
      exact hF (by rw [hsh]; simp; omega) _
     ·have : ¬ (6 : Int) < ks.length:=by omega
      simp [zbU,hn',g1',this,zeR,zhZ]
      exact loop (by rw [hsh,hn]; simp; omega)
  by_cases h78 : k = 7 ∨ k = 8
  ·have hsh : zbd data vars k n ks.length = (n == 0 && ks.length == 1):=by rcases h78 with rfl | rfl <;> rfl
   cases hn : (n == 0) with
   | false=>
    have : (n != 0) = true:=by simp [bne,hn]
    have fin:=hF (by rw [hsh,hn]; rfl)
    simp only [zcM,VT.cs]
    rcases h78 with rfl | rfl <;> simp [zbU,zd5,this] <;> exact fin _
   | true=>
    have hn' : (n != 0) = false:=by simp [bne,hn]
    by_cases g1 : ks.length = 1
    ·have g1' : ((ks.length : Int) != 1) = false:=by simp [g1]
     have fin:=loop (by rw [hsh,hn,g1]; rfl)
     simp only [zcM,VT.cs]
     rcases h78 with rfl | rfl <;> simp [zbU,zd5,hn',g1',zeR,zhZ] <;> exact fin
    ·have g1' : ((ks.length : Int) != 1) = true:=by simp; omega
     have fin:=hF (by rw [hsh]; simp [g1])
     simp only [zcM,VT.cs]
     rcases h78 with rfl | rfl <;> simp [zbU,zd5,hn',g1'] <;> exact fin _
  have b1 : (k == 1) = false:=by simp; omega
  have b2 : (k == 2) = false:=by simp; omega
  have b3 : (k == 3) = false:=by simp; omega
  have b4 : (k == 4) = false:=by simp; omega
  have b5 : (k == 5) = false:=by simp; omega
  have b6 : (k == 6) = false:=by simp; omega
  have b7 : (k == 7) = false:=by simp; omega
  have b8 : (k == 8) = false:=by simp; omega
  by_cases h9 : k = 9
  ·subst h9
   have hsh : zbd data vars 9 n ks.length = (n == 0 && decide (1 ≤ ks.length) && decide (ks.length ≤ 7)):=rfl
   simp only [zcM,VT.cs]
   cases hn : (n == 0) with
   | false=>
    have : (n != 0) = true:=by simp [bne,hn]
    simp [zbU,zd5,this]
    exact hF (by rw [hsh,hn]; rfl) _
   | true=>
    have hn' : (n != 0) = false:=by simp [bne,hn]
    by_cases g1 : ks.length < 1
    ·have : (ks.length : Int) < 1:=by omega
     simp [zbU,zd5,hn',this]
     exact hF (by rw [hsh]; simp; omega) _
    ·have g1' : ¬ (ks.length : Int) < 1:=by omega
     by_cases g2 : 7 < ks.length
     ·have : (7 : Int) < ks.length:=by omega
      simp [zbU,zd5,hn',g1',this]
      exact hF (by rw [hsh]; simp; omega) _
     ·have : ¬ (7 : Int) < ks.length:=by omega
      simp [zbU,zd5,hn',g1',this,zeR,zhZ]
      exact loop (by rw [hsh,hn]; simp; omega)
  ·have b9 : (k == 9) = false:=by simp; omega
   simp only [zcM,VT.cs]
   simp [zbU,zd5,b1,b2,b3,b4,b5,b6,b7,b8,b9]
   exact hF (by unfold zbd; simp [b1,b2,b3,b4,b5,b6,b7,b8,b9]) _
theorem zgo (data : List Dat) (hdl : data.length ≤ 1000000) (vars : Int) (v : VT) (hb : v.nodes ≤ 1000000000) (H : zaa) (K : AV → zaa → Prop) (hK : K (.bool (zaz data vars v)) H) : ACalls tP zfW [.sl (data.map Dat.cs) .none,.agg v.cs,.int .i64 vars] H K:=by
 refine ACalls.out (zJu fun hs=>?_)
 have hO : ∀ J,Out H.length K (.bool (zaz data vars v)) (H ++ J):=fun J=>Out.bool rfl (Nat.le_refl _) hs hK
 unfold zaz at hO
 simp [zw1]
 refine zys _ v (Nat.le_refl _) hb _ _ ?_
 by_cases h : v.nodes ≤ 200
 ·have h' : (v.nodes : Int) ≤ 200:=by omega
  simp [h']
  refine zNg data hdl vars _ v (Nat.le_refl _) hb _ _ ?_
  simpa [h] using hO _
 ·have h' : ¬ (v.nodes : Int) ≤ 200:=by omega
  simp [h']
  simpa [h] using hO _
theorem zCx {x y : List VT} (h : x.length ≠ y.length) : VT.sameL x y = false:=by
 cases hs : VT.sameL x y with
 | false=>rfl
 | true=>exact (h (VT.sameL_len x y hs)).elim
theorem zNq (x y : List VT) (hx : ∀ v ∈ x,v.nodes ≤ 1000000000) (hl : x.length ≤ 1000000000) (H : zaa) (K : AV → zaa → Prop) (hK : K (.bool (VT.sameL x y)) H) : ACalls tP zdl [.sl (VT.css x) .none,.sl (VT.css y) .none] H K:=by
 refine ACalls.out (zNo fun hs=>?_)
 have hO : Out H.length K (.bool (VT.sameL x y)) H:=Out.bool (J:=[]) (by simp) (Nat.le_refl _) hs hK
 by_cases hlen : x.length = y.length
 ·have hl' : ((x.length : Int) != y.length) = false:=by simp [hlen]
  simp [zrh,hlen]
  refine zNm (Inv:=fun q t5 H'=>∃ i : Nat,i ≤ x.length ∧ q = x.length - i ∧ t5 = .int .i64 i ∧ VT.sameL (x.drop i) (y.drop i) = VT.sameL x y ∧ H = H') x.length ?_ ?_
  ·intro _; exact ⟨0,by omega,by omega,rfl,by simp,rfl⟩
  ·rintro q t5 H' ⟨i,hi,rfl,rfl,ho,rfl⟩ hsc hlen2 hsF Kb hKb
   by_cases hlt : i < x.length
   ·have hlt' : i < y.length:=by omega
    rw [List.drop_eq_getElem_cons hlt,List.drop_eq_getElem_cons hlt',VT.sameL] at ho
    simp [zri,hlt,hlt']
    refine zay (.bool (VT.same x[i] y[i])) (fun J=>zw5 _ x[i] y[i] (Nat.le_refl _) (hx _ (List.getElem_mem hlt)) _ _ ⟨rfl,rfl⟩) ?_
    cases hb : VT.same x[i] y[i] with
    | false=>
     rw [hb,Bool.false_and] at ho
     rw [← ho] at hO
     simp
     exact hO
    | true=>
     rw [hb,Bool.true_and] at ho
     simp
     rw [zaq (by omega) (by omega)]
     refine hKb _ _ ⟨x.length - (i + 1),by omega,Back.here (by simp) hsc ?_ ⟨_,rfl,i + 1,by omega,rfl,by simp,ho,rfl⟩⟩
     simp [zlU,AV.sc,AV.scV,AV.scA,AV.scB]
   ·obtain rfl : i = x.length:=by omega
    rw [List.drop_length,hlen,List.drop_length,VT.sameL] at ho
    rw [← ho] at hO
    simp [zri]
    exact hO
 ·have hl' : ((x.length : Int) != y.length) = true:=by simp; omega
  rw [zCx hlen] at hO
  simp [zrh,hl']
  exact hO
def zbr (es : List (List AV)) (id : Nat) : AV:=match es with | []=>.snil | _=>.sl es (.own id)
def zbu (e s : Nat) (n : Nat) : zaa:=match n with | 0=>[] | n=>[.perm e s n]
theorem zmw (es : List (List AV)) (id : Nat) : WkA (zbr es id) (.sl es .none):=by
 cases es with
 | nil=>exact .snil
 | cons e es=>exact .sl _ _
theorem zmv (es : List (List AV)) {id n : Nat} (h : es = [] ∨ id < n) : (zbr es id).scA n = true:=by
 cases es with
 | nil=>rfl
 | cons e es=>
  rcases h with h | h
  ·cases h
  ·simpa [zbr,AV.scA,AV.scB] using h
theorem zzj (es : List (List AV)) (id : Nat) : (zbr es id).known = true:=by cases es <;> rfl
theorem zzi (es : List (List AV)) (id : Nat) : (zbr es id).cs? = some [zbr es id]:=by cases es <;> rfl
theorem zzk {e s bytes : Nat} {es : List (List AV)} {y : List AV} {t : Tok} {H : zaa} {K : AV → zaa → Prop} (hy : y.length = s) (hb : (es.length + 1) * bytes ≤ 140737488355328) (hl : es.length + 1 ≤ 9223372036854775807)
  (hk : K (zbr (es ++ [y]) H.length) (H ++ zbu e s (es.length + 1))) : zaC e s bytes (zbr es H.length) (.sl [y] t) (H ++ zbu e s es.length) K:=by
 unfold zaC zbq
 refine ⟨by simpa using hy,?_⟩
 cases es with
 | nil=>
  unfold za8
  simp [zbr,zbu] at *
  exact ⟨by omega,hk⟩
 | cons x es=>
  unfold za8
  simp [zbr,zbu] at *
  refine ⟨⟨by omega,by omega⟩,hk⟩
theorem zh8 {e s bytes id n : Nat} {es : List (List AV)} {y : List AV} {t : Tok} {H0 Hh : zaa} {K : AV → zaa → Prop} (hn : n = es.length) (he : Hh = H0 ++ zbu e s n) (hid : id = H0.length) (hy : y.length = s) (hb : (es.length + 1) * bytes ≤ 140737488355328) (hl : es.length + 1 ≤ 9223372036854775807)
  (hk : K (zbr (es ++ [y]) id) (H0 ++ zbu e s (n + 1))) : zaC e s bytes (zbr es id) (.sl [y] t) Hh K:=by
 subst he hid hn
 exact zzk hy hb hl hk
@[simp] theorem zRW (es : List (List AV)) (id : Nat) : (zbr es id).cs? = some [zbr es id]:=zzi es id
@[simp] theorem zRX (es : List (List AV)) (id : Nat) : (zbr es id).known = true:=zzj es id
theorem zbP {v : VT} {k : AV → Prop} : zav 3 [.int .i64 0,.int .i64 0,.snil] 1 [(0,.agg v.cs)] k = k (.sl [v.cs] .full):=by
 cases v
 exact propext Iff.rfl
theorem zgP {l : List VT} {i : Nat} (h : i < l.length) : VT.css (l.take (i + 1)) = VT.css (l.take i) ++ [(l[i]).cs]:=by
 rw [VT.css_map,VT.css_map,List.take_succ_eq_append_getElem h,List.map_append]
 rfl
theorem znY {H J : zaa} {K : AV → zaa → Prop} {k n : Int} {ks : List VT} {id : Nat} (hs : HSc H) (hK : K (.agg (VT.mk k n ks).cs) H) : Out H.length K (.agg [.int .i64 k,.int .i64 n,zbr (VT.css ks) id]) (H ++ J):=
 Out.at rfl (Nat.le_refl _) hs (WkV.agg (ds:=[.int .i64 k,.int .i64 n,.sl (VT.css ks) .none]) ⟨.refl _,.refl _,zmw _ _,trivial⟩) rfl (by simp [AV.scV,AV.scA,AV.scB]) (by simpa [VT.cs] using hK)
theorem zAu : ∀ (m : Nat) (v : VT),v.nodes ≤ m → v.nodes ≤ 1000000 → ∀ (H : zaa) (K : AV → zaa → Prop),K (.agg v.cs) H → ACalls tP ziB [.agg v.cs] H K:=by
 intro m
 induction m with
 | zero=>intro v h; have:=v.nodes_pos; omega
 | succ m ih=>
  intro v hv hb H K hK
  obtain ⟨k,n,ks⟩:=v
  have hnl : VT.nodesL ks + 1 ≤ 1000000:=by simpa [VT.nodes] using hb
  have hll:=VT.len_le ks
  refine ACalls.out (zE9 fun hs=>?_)
  simp [VT.cs,zvq,zaL,zbD,Nat.add_assoc]
  refine zE7 (Inv:=fun q t4 H'=>∃ i : Nat,i ≤ ks.length ∧ q = ks.length - i ∧ t4 = .int .i64 i ∧ H' = H ++ [.cells [.int .i64 k,.int .i64 n,.sl (VT.css ks) .none],.cells [.int .i64 0,.int .i64 0,.snil],.cells [.int .i64 k,.int .i64 n,zbr (VT.css (ks.take i)) (H.length + 3)]] ++ zbu zaB 3 i) ks.length ?_ ?_
  ·intro _; exact ⟨0,by omega,by omega,rfl,by simp [zbu,zbr,VT.css]⟩
  ·rintro q t4 H' ⟨i,hi,rfl,rfl,rfl⟩ hsc hlen hsF Kb hKb
   by_cases hlt : i < ks.length
   ·have hki:=VT.kid_lt (k:=k) (n:=n) hlt
    simp [zoR,hlt]
    refine zay (.agg (ks[i]).cs) (fun J=>ih ks[i] (by omega) (by omega) _ _ ⟨rfl,rfl⟩) ?_
    rw [zbP]
    refine zh8 (H0:=H ++ [.cells [.int .i64 k,.int .i64 n,.sl (VT.css ks) .none],.cells [.int .i64 0,.int .i64 0,.snil],.cells [.int .i64 k,.int .i64 n,zbr (VT.css (ks.take i)) (H.length + 3)]]) (n:=i) (by simp; omega) (by simp) (by simp) (by simp) (by simp; omega) (by simp; omega) ?_
    rw [← zgP hlt]
    simp
    rw [zaq (by omega) (by omega)]
    refine hKb _ _ ⟨ks.length - (i + 1),by omega,Back.here (by simp [zbu]) ?_ ?_ ⟨_,rfl,i + 1,by omega,rfl,by simp,by simp⟩⟩
    ·refine hs.append ?_
     simp [AB.sc,zbu,AV.scA,AV.scB]
     exact zmv _ (.inr (by omega))
    ·simp [zjF,AV.sc,AV.scV,AV.scA,AV.scB]
   ·obtain rfl : i = ks.length:=by omega
    rw [List.take_length] at *
    simp [zoR]
    exact znY hs hK
theorem zeo (args : List VT) : ∀ l : List VT,za0 args l = l.map (subst args)
 | []=>rfl
 | t :: ts=>by rw [za0,zeo args ts]; rfl
theorem zPj (args : List VT) (ha : ∀ x ∈ args,x.nodes ≤ 1000000) (hal : args.length ≤ 1000000) : ∀ (m : Nat) (v : VT),v.nodes ≤ m → v.nodes ≤ 1000000 → ∀ (H : zaa) (K : AV → zaa → Prop),K (.agg (subst args v).cs) H → ACalls tP ziV [.agg v.cs,.sl (VT.css args) .none] H K:=by
 intro m
 induction m with
 | zero=>intro v h; have:=v.nodes_pos; omega
 | succ m ih=>
  intro v hv hb H K hK
  obtain ⟨k,n,ks⟩:=v
  have hnl : VT.nodesL ks + 1 ≤ 1000000:=by simpa [VT.nodes] using hb
  have hll:=VT.len_le ks
  refine ACalls.out (zPh fun hs=>?_)
  by_cases hvar : k = 4 ∧ 0 ≤ n ∧ n < args.length
  ·obtain ⟨rfl,h0,h1⟩:=hvar
   have hn : n.toNat < args.length:=by omega
   have hK' : K (.agg (args[n.toNat]).cs) H:=by
    rw [subst,if_pos ⟨rfl,h0,h1⟩,List.getElem?_eq_getElem hn] at hK
    exact hK
   simp [VT.cs,zrR,h0,h1,hn]
   refine zAu _ _ (Nat.le_refl _) (ha _ (List.getElem_mem hn)) _ _ ?_
   generalize args[n.toNat] = x at *
   obtain ⟨k',n',ks'⟩:=x
   simp [VT.cs]
   exact Out.at rfl (Nat.le_refl _) hs .rfl' rfl rfl hK'
  ·have hK' : K (.agg (VT.mk k n (za0 args ks)).cs) H:=by
    rw [subst,if_neg hvar] at hK
    exact hK
   have go : ∀ H1,H1 = H ++ [.cells [.int .i64 k,.int .i64 n,.sl (VT.css ks) .none],.cells [.int .i64 0,.int .i64 0,.snil],.cells [.int .i64 k,.int .i64 n,.snil]] → zrU (.sl (VT.css args) .none) (.ptr H.length 0) (.ptr (H.length + 1) 0) (.ptr (H.length + 2) 0) (.int .i64 0) H1 (Out H.length K):=by
    rintro _ rfl
    refine zPf (Inv:=fun q t6 H'=>∃ i : Nat,i ≤ ks.length ∧ q = ks.length - i ∧ t6 = .int .i64 i ∧ H' = H ++ [.cells [.int .i64 k,.int .i64 n,.sl (VT.css ks) .none],.cells [.int .i64 0,.int .i64 0,.snil],.cells [.int .i64 k,.int .i64 n,zbr (VT.css ((za0 args ks).take i)) (H.length + 3)]] ++ zbu zaB 3 i) ks.length ?_ ?_
    ·intro _; exact ⟨0,by omega,by omega,rfl,by simp [zbu,zbr,VT.css]⟩
    ·rintro q t6 H' ⟨i,hi,rfl,rfl,rfl⟩ hsc hlen hsF Kb hKb
     by_cases hlt : i < ks.length
     ·have hki:=VT.kid_lt (k:=k) (n:=n) hlt
      have hlt' : i < (za0 args ks).length:=by rw [zeo]; simpa using hlt
      have hsi : (za0 args ks)[i] = subst args ks[i]:=by simp [zeo]
      simp [zrS,hlt]
      refine zay (.agg (subst args ks[i]).cs) (fun J=>ih ks[i] (by omega) (by omega) _ _ ⟨rfl,rfl⟩) ?_
      rw [zbP,← hsi]
      refine zh8 (H0:=H ++ [.cells [.int .i64 k,.int .i64 n,.sl (VT.css ks) .none],.cells [.int .i64 0,.int .i64 0,.snil],.cells [.int .i64 k,.int .i64 n,zbr (VT.css ((za0 args ks).take i)) (H.length + 3)]]) (n:=i) (by simp; omega) (by simp) (by simp) (by simp) (by simp; omega) (by simp; omega) ?_
      rw [← zgP hlt']
      simp
      rw [zaq (by omega) (by omega)]
      refine hKb _ _ ⟨ks.length - (i + 1),by omega,Back.here (by simp [zbu]) ?_ ?_ ⟨_,rfl,i + 1,by omega,rfl,by simp,by simp⟩⟩
      ·refine hs.append ?_
       simp [AB.sc,zbu,AV.scA,AV.scB]
       exact zmv _ (.inr (by omega))
      ·simp [zmo,AV.sc,AV.scV,AV.scA,AV.scB]
     ·obtain rfl : i = ks.length:=by omega
      have e : (za0 args ks).take ks.length = za0 args ks:=List.take_of_length_le (by rw [zeo]; simp)
      rw [e]
      simp [zrS]
      exact znY hs hK'
   simp only [VT.cs,zrR]
   by_cases h4 : k = 4
   ·subst h4
    by_cases h0 : 0 ≤ n
    ·have h1 : ¬ n < args.length:=fun h=>hvar ⟨rfl,h0,h⟩
     simp [h0,h1,zaL,zbD,Nat.add_assoc]
     exact go _ rfl
    ·simp [h0,zaL,zbD,Nat.add_assoc]
     exact go _ rfl
   ·have h4' : (k == 4) = false:=by simpa using h4
    simp [h4',zaL,zbD,Nat.add_assoc]
    exact go _ rfl
mutual
theorem zuz {args : List VT} {M : Nat} (h1 : 1 ≤ M) (ha : ∀ x ∈ args,x.nodes ≤ M) : ∀ v : VT,(subst args v).nodes ≤ v.nodes * M
 | .mk k n ks=>by
  unfold subst
  split
  ·rename_i h
   have hn : n.toNat < args.length:=by omega
   rw [List.getElem?_eq_getElem hn]
   have:=ha _ (List.getElem_mem hn)
   have h2 : M ≤ (VT.mk k n ks).nodes * M:=by
    have:=(VT.mk k n ks).nodes_pos
    exact Nat.le_mul_of_pos_left M this
   simp only [Option.getD_some]
   omega
  ·have:=zux h1 ha ks
   simp only [VT.nodes,Nat.succ_mul]
   omega
theorem zux {args : List VT} {M : Nat} (h1 : 1 ≤ M) (ha : ∀ x ∈ args,x.nodes ≤ M) : ∀ l : List VT,VT.nodesL (za0 args l) ≤ VT.nodesL l * M
 | []=>by simp [za0,VT.nodesL]
 | t :: ts=>by
  have h2:=zuz h1 ha t
  have h3:=zux h1 ha ts
  simp only [za0,VT.nodesL,Nat.add_mul]
  omega
end
theorem zio {k n : Int} {ks : List VT} : ∀ x ∈ ks,x.nodes ≤ (VT.mk k n ks).nodes:=by
 intro x hx
 obtain ⟨i,hi,rfl⟩:=List.mem_iff_getElem.1 hx
 exact Nat.le_of_lt (VT.kid_lt hi)
theorem zAZ {k n : Int} {ks : List VT} : ∀ x ∈ ks,x.nodes < (VT.mk k n ks).nodes:=by
 intro x hx
 obtain ⟨i,hi,rfl⟩:=List.mem_iff_getElem.1 hx
 exact VT.kid_lt hi
theorem zuJ {H : zaa} {x y : AB} : H ++ [x,y] = (H ++ [x]) ++ [y]:=by simp
theorem zdk (data : List Dat) (k n : Int) (ks : List VT) (c : Int) : zbx data (.mk k n ks) c = (if k = 5 ∧ 0 ≤ n ∧ 0 ≤ c then
  match data[n.toNat]? with
  | some d=>if (ks.length : Int) = d.vars then
    match d.cons[c.toNat]? with
    | some co=>if (co.args.map (subst ks)).all (fun x=>decide (x.nodes ≤ 200)) = true then some (co.args.map (subst ks)) else none
    | none=>none
   else none
  | none=>none
 else none):=rfl
def zcA (o : Option (List VT)) : AV:=match o with
 | some l=>.tup [.sl (VT.css l) .none,.bool true]
 | none=>.tup [.sl [] .none,.bool false]
theorem ztx {α : Type} {l : List α} {i : Nat} (h : i < l.length) {p : α → Prop} (h1 : ∀ x ∈ l.take i,p x) (h2 : p l[i]) : ∀ x ∈ l.take (i + 1),p x:=by
 rw [List.take_succ_eq_append_getElem h]
 intro x hx
 rcases List.mem_append.1 hx with hx | hx
 ·exact h1 x hx
 ·simp at hx; subst hx; exact h2
theorem zcY (v : VT) : ∃ a b c,v.cs = [a,b,c] ∧ a.known = true ∧ b.known = true ∧ c.known = true:=by
 obtain ⟨k,n,ks⟩:=v; exact ⟨_,_,_,rfl,rfl,rfl,rfl⟩
theorem zNx (data : List Dat) (hdl : data.length ≤ 1000000) (hda : ∀ d ∈ data,∀ c ∈ d.cons,c.args.length ≤ 1000 ∧ ∀ x ∈ c.args,x.nodes ≤ 1000) (hdc : ∀ d ∈ data,d.cons.length ≤ 1000000) (t : VT) (ht : t.nodes ≤ 1000) (c : Int) (H : zaa) (K : AV → zaa → Prop) (hK : K (zcA (zbx data t c)) H) :
  ACalls tP zg8 [.sl (data.map Dat.cs) .none,.agg t.cs,.int .i64 c] H K:=by
 refine ACalls.out (zNv fun hs=>?_)
 obtain ⟨k,n,ks⟩:=t
 have hkn : VT.nodesL ks + 1 ≤ 1000:=by simpa [VT.nodes] using ht
 have hkl:=VT.len_le ks
 have hF : zbx data (.mk k n ks) c = none → ∀ J,Out H.length K (.tup [.snil,.bool false]) (H ++ J):=fun h J=>by
  rw [h] at hK
  exact Out.tup hs hK ⟨zhg,zcm rfl rfl,trivial⟩
 have hFF : ∀ J,zbx data (.mk k n ks) c = none → Out H.length K (.tup [.snil,.bool false]) (H ++ J):=fun J h=>hF h J
 simp only [VT.cs,zyv]
 by_cases h5 : k = 5
 case neg=>
  have : (k != 5) = true:=by simpa using h5
  simp [this,AV.isV]
  exact hF (by rw [zdk,if_neg (fun h=>h5 h.1)]) _
 subst h5
 by_cases h0 : n < 0
 ·simp [h0,AV.isV]
  exact hF (by rw [zdk,if_neg (fun h=>by have:=h.2.1; omega)]) _
 by_cases h1 : (data.length : Int) ≤ n
 ·simp [h0,h1,AV.isV]
  exact hF (by
   rw [zdk]
   split
   ·rw [List.getElem?_eq_none (by omega)]
   ·rfl) _
 have hn : n.toNat < data.length:=by omega
 have h1' : n < data.length:=by omega
 have h0' : 0 ≤ n:=by omega
 generalize hdd : data[n.toNat] = d at *
 have hd : d ∈ data:=by rw [← hdd]; exact List.getElem_mem hn
 have hget : data[n.toNat]? = some d:=by rw [List.getElem?_eq_getElem hn,hdd]
 cases hv : ((ks.length : Int) == d.vars) with
 | false=>
  have hv' : ((ks.length : Int) != d.vars) = true:=by simp [bne,hv]
  simp [h0,h1,h0',h1',hn,hdd,Dat.cs,hv',AV.isV,hget]
  exact hF (by
   rw [zdk]
   split
   ·rw [hget]
    simp only
    rw [if_neg (by simpa using hv)]
   ·rfl) _
 | true=>
 have hv' : ((ks.length : Int) != d.vars) = false:=by simp [bne,hv]
 have hve : (ks.length : Int) = d.vars:=by simpa using hv
 by_cases hc0 : c < 0
 ·simp [h0,h1,h0',h1',hn,hdd,Dat.cs,hv',AV.isV,hget,hc0]
  exact hF (by rw [zdk,if_neg (fun h=>by have:=h.2.2; omega)]) _
 have hfe : ∀ o,(match d.cons[c.toNat]? with | some k=>if (k.args.map (subst ks)).all (fun x=>decide (x.nodes ≤ 200)) = true then some (k.args.map (subst ks)) else none | none=>none) = o → zbx data (.mk 5 n ks) c = o:=fun o h=>by
  rw [zdk,if_pos ⟨rfl,h0',by omega⟩,hget]
  simp only
  rw [if_pos hve]
  exact h
 by_cases hc1 : (d.cons.length : Int) ≤ c
 ·simp [h0,h1,h0',h1',hn,hdd,Dat.cs,hv',AV.isV,hget,hc0,hc1]
  exact hF (hfe none (by rw [List.getElem?_eq_none (by omega)])) _
 have hcn : c.toNat < d.cons.length:=by omega
 have hc1' : c < d.cons.length:=by omega
 have hc0' : 0 ≤ c:=by omega
 generalize hcc : d.cons[c.toNat] = co at *
 have hco : co ∈ d.cons:=by rw [← hcc]; exact List.getElem_mem hcn
 have hgc : d.cons[c.toNat]? = some co:=by rw [List.getElem?_eq_getElem hcn,hcc]
 obtain ⟨hal,han⟩:=hda d hd co hco
 have hfe':=fun o=>hfe o
 rw [hgc] at hfe'
 simp only at hfe'
 have hsub : ∀ x ∈ co.args,(subst ks x).nodes ≤ 1000000:=fun x hx=>by
  have h2:=zuz (M:=1000) (by omega) (fun y hy=>Nat.le_trans (zio (k:=5) (n:=n) y hy) ht) x
  have h3:=han x hx
  have : x.nodes * 1000 ≤ 1000 * 1000:=Nat.mul_le_mul_right _ h3
  omega
 simp [h0,h1,h0',h1',hn,hdd,Dat.cs,hv',AV.isV,hget,hc0,hc1,hc0',hc1',hcn,hcc,Con.cs,hgc]
 have hperm : ∀ m,HSc (H ++ [.cells [.int .i64 5,.int .i64 n,.sl (VT.css ks) .none],.perm zaB 3 m]):=fun m=>hs.append rfl
 unfold zlX
 refine ALoop.own 8 zaB 3 rfl ?_
 have hlen1 : (H ++ [AB.cells [.int .i64 5,.int .i64 n,.sl (VT.css ks) .none]]).length = H.length + 1:=by simp
 rw [hlen1,List.append_assoc]
 show zlX (.ptr H.length 0) (.sl [] (.own (H.length + 1))) (.sl (VT.css co.args) .none) (.int .i64 co.args.length) (.int .i64 0) (H ++ [.cells [.int .i64 5,.int .i64 n,.sl (VT.css ks) .none],.perm zaB 3 0]) (Out H.length K)
 refine zNt (Inv:=fun q t8 t65 H'=>∃ i : Nat,i ≤ co.args.length ∧ q = co.args.length - i ∧ t65 = .int .i64 i ∧ t8 = .sl (VT.css ((co.args.map (subst ks)).take i)) (.own (H.length + 1)) ∧ (∀ x ∈ co.args.take i,(subst ks x).nodes ≤ 200) ∧ H' = H ++ [.cells [.int .i64 5,.int .i64 n,.sl (VT.css ks) .none],.perm zaB 3 i]) co.args.length ?_ ?_
 ·intro _; exact ⟨0,by omega,by omega,rfl,by simp [VT.css],by simp,rfl⟩
 ·rintro q t8 t65 H' ⟨i,hi,rfl,rfl,rfl,hall,rfl⟩ hsc hlen hsF Kb hKb
  by_cases hlt : i < co.args.length
  ·have hmem:=List.getElem_mem hlt
   have hx3:=hsub _ hmem
   obtain ⟨x,y,z,hvx,hx,hy,hz⟩:=zcY co.args[i]
   simp [zrk,hlt,hvx,hx,hy,hz]
   rw [← hvx]
   refine zPj ks (fun y hy=>by have:=zio (k:=5) (n:=n) y hy; omega) (by omega) _ co.args[i] (Nat.le_refl _) (by have:=han _ hmem; omega) _ _ ?_
   obtain ⟨x',y',z',hvx',hx',hy',hz'⟩:=zcY (subst ks co.args[i])
   simp [hvx',hx',hy',hz']
   rw [← hvx']
   refine zys _ _ (Nat.le_refl _) (by omega) _ _ ?_
   by_cases h200 : (subst ks co.args[i]).nodes ≤ 200
   ·have h200' : ¬ (200 : Int) < (subst ks co.args[i]).nodes:=by omega
    simp [h200']
    rw [zbP]
    simp [zaC,zbq,za8]
    refine ⟨by omega,by omega,?_⟩
    rw [zaq (by omega) (by omega),show min i co.args.length = i by omega]
    refine hKb _ _ ⟨co.args.length - (i + 1),by omega,Back.at (H2:=H ++ [.cells [.int .i64 5,.int .i64 n,.sl (VT.css ks) .none],.perm zaB 3 (i + 1)]) (J:=[_,_]) (by simp; exact ⟨rfl,rfl⟩) (by simp) (hperm _) ?_ ⟨_,_,rfl,i + 1,by omega,rfl,by simp,?_,ztx hlt hall h200,rfl⟩⟩
    ·simp [zlW,AV.sc,AV.scV,AV.scA,AV.scB]
    ·rw [zgP (by simpa using hlt)]; simp
   ·have h200' : (200 : Int) < (subst ks co.args[i]).nodes:=by omega
    simp [h200',AV.isV]
    refine hF (hfe' none ?_) _
    rw [if_neg]
    intro hal2
    have:=List.all_eq_true.1 hal2 (subst ks co.args[i]) (List.mem_map.2 ⟨_,hmem,rfl⟩)
    exact h200 (of_decide_eq_true this)
  ·obtain rfl : i = co.args.length:=by omega
   rw [List.take_length] at hall
   rw [List.take_of_length_le (by simp)]
   simp [zrk,AV.isV]
   have hfs:=hfe' (some (co.args.map (subst ks))) (if_pos (List.all_eq_true.2 fun y hy=>by
    obtain ⟨x,hx,rfl⟩:=List.mem_map.1 hy
    exact decide_eq_true (hall x hx)))
   rw [hfs] at hK
   exact Out.tup hs hK ⟨slV,zcm rfl rfl,trivial⟩
theorem zFQ : ∀ (m : Nat) (v : VT),v.nodes ≤ m → v.nodes ≤ 1000000000 → ∀ (H : zaa) (K : AV → zaa → Prop),K (.int .i64 v.nodes) H → ACalls tP ziE [.agg v.cs] H K:=by
 intro m
 induction m with
 | zero=>intro v h; have:=v.nodes_pos; omega
 | succ m ih=>
  intro v hv hb H K hK
  obtain ⟨k,n,ks⟩:=v
  have hnl : VT.nodesL ks + 1 ≤ 1000000000:=by simpa [VT.nodes] using hb
  have hll:=VT.len_le ks
  refine ACalls.out (zFO fun hs=>?_)
  simp [VT.cs,zvC]
  refine zFM (Inv:=fun q t3 t4 H'=>∃ i : Nat,i ≤ ks.length ∧ q = ks.length - i ∧ t4 = .int .i64 i ∧ t3 = .int .i64 (1 + VT.nodesL (ks.take i) : Nat) ∧ H' = H ++ [.cells [.int .i64 k,.int .i64 n,.sl (VT.css ks) .none]]) ks.length ?_ ?_
  ·intro _; exact ⟨0,by omega,by omega,rfl,by simp [VT.nodesL],rfl⟩
  ·rintro q t3 t4 H' ⟨i,hi,rfl,rfl,rfl,rfl⟩ hsc hlen hsF Kb hKb
   by_cases hlt : i < ks.length
   ·have hki:=VT.kid_lt (k:=k) (n:=n) hlt
    have h1:=VT.nodesL_take hlt
    have h2:=VT.nodesL_take_le ks (i + 1)
    obtain ⟨x,y,z,hvx,hx,hy,hz⟩:=zcY ks[i]
    simp [zoX,hlt,hvx,hx,hy,hz]
    rw [← hvx]
    refine ih ks[i] (by omega) (by omega) _ _ ?_
    simp
    rw [zaq (by omega) (by omega),zaq (by omega) (by omega),zuJ]
    refine hKb _ _ ⟨ks.length - (i + 1),by omega,Back.same (by simp) hsc ?_ ⟨_,_,rfl,i + 1,by omega,rfl,by simp,?_,rfl⟩⟩
    ·simp [zjM,AV.sc,AV.scV,AV.scA,AV.scB]
    ·rw [h1]; congr 1; omega
   ·obtain rfl : i = ks.length:=by omega
    simp [zoX]
    refine Out.int rfl (Nat.le_refl _) hs ?_
    simpa [VT.nodes,Int.add_comm] using hK
def zdv (f : VT → VT → Bool) : List VT → List VT → Bool
 | [],[]=>true
 | a :: x,b :: y=>f a b && zdv f x y
 | _,_=>false
theorem zsS {f : VT → VT → Bool} : ∀ {x y : List VT},x.length ≠ y.length → zdv f x y = false
 | [],[],h=>(h rfl).elim
 | a :: x,b :: y,h=>by
  have : x.length ≠ y.length:=fun e=>h (by simp [e])
  simp [zdv,zsS this]
 | [],_ :: _,_=>rfl
 | _ :: _,[],_=>rfl
theorem zmV : ∀ x y : List VT,zdv VT.same x y = VT.sameL x y
 | [],[]=>rfl
 | a :: x,b :: y=>by simp [zdv,VT.sameL,zmV x y]
 | [],_ :: _=>rfl
 | _ :: _,[]=>rfl
theorem zsT (f : VT → VT → Bool) (fv : AV) (hsc : ∀ n,fv.sc n = true) (x y : List VT) (hf : ∀ a ∈ x,∀ (b : VT) (H : zaa) (K : AV → zaa → Prop),K (.bool (f a b)) H → aCallV tP fv [.agg a.cs,.agg b.cs] H K)
  (hl : x.length ≤ 1000000000) (H : zaa) (K : AV → zaa → Prop) (hK : K (.bool (zdv f x y)) H) : ACalls tP ziT [.sl (VT.css x) .none,.sl (VT.css y) .none,fv] H K:=by
 refine ACalls.out (zOc fun hs=>?_)
 have hO : ∀ J,Out H.length K (.bool (zdv f x y)) (H ++ J):=fun J=>Out.bool rfl (Nat.le_refl _) hs hK
 by_cases hlen : x.length = y.length
 ·simp [zrB,hlen]
  refine zOa (Inv:=fun q t17 H'=>∃ i : Nat,i ≤ x.length ∧ q = x.length - i ∧ t17 = .int .i64 i ∧ zdv f (x.drop i) (y.drop i) = zdv f x y ∧ H = H') x.length ?_ ?_
  ·intro _; exact ⟨0,by omega,by omega,rfl,by simp,rfl⟩
  ·rintro q t17 H' ⟨i,hi,rfl,rfl,ho,rfl⟩ hsc4 hlen2 hsF Kb hKb
   by_cases hlt : i < x.length
   ·have hlt' : i < y.length:=by omega
    have hltI : (i : Int) < y.length:=by omega
    rw [List.drop_eq_getElem_cons hlt,List.drop_eq_getElem_cons hlt',zdv] at ho
    obtain ⟨x1,x2,x3,hvx,hx1,hx2,hx3⟩:=zcY x[i]
    obtain ⟨y1,y2,y3,hvy,hy1,hy2,hy3⟩:=zcY y[i]
    simp [zrC,hlt,hlt',hvx,hx1,hx2,hx3,hvy,hy1,hy2,hy3]
    rw [← hvx,← hvy]
    refine hf _ (List.getElem_mem hlt) _ _ _ ?_
    cases hb : f x[i] y[i] with
    | false=>
     rw [hb,Bool.false_and] at ho
     rw [← ho] at hO
     simp
     exact hO _
    | true=>
     rw [hb,Bool.true_and] at ho
     simp
     rw [zaq (by omega) (by omega)]
     refine hKb _ _ ⟨x.length - (i + 1),by omega,Back.same (by simp) hs ?_ ⟨_,rfl,i + 1,by omega,rfl,by simp,ho,rfl⟩⟩
     simp [zl9,AV.sc,AV.scV,AV.scA,AV.scB]
     exact hsc _
   ·have hlt' : ¬ i < y.length:=by omega
    obtain rfl : i = x.length:=by omega
    rw [List.drop_length,hlen,List.drop_length,zdv] at ho
    rw [← ho] at hO
    simp [zrC,hlt']
    simpa using hO []
 ·have hl' : ((x.length : Int) != y.length) = true:=by simp; omega
  rw [zsS hlen] at hO
  simp [zrB,hl']
  simpa using hO []
theorem zss : zcO tP zbN = true:=by kernel_rfl
theorem zlG : ∀ (m : Nat) (v u : VT),v.nodes ≤ m → v.nodes ≤ 1000000000 → ∀ (H : zaa) (K : AV → zaa → Prop),K (.bool (v.same u)) H → ACalls tP zbN [.agg v.cs,.agg u.cs] H K:=by
 intro m
 induction m with
 | zero=>intro v u h; have:=v.nodes_pos; omega
 | succ m ih=>
  intro v u hv hb H K hK
  obtain ⟨k,n,ks⟩:=v
  obtain ⟨k',n',ks'⟩:=u
  have hnl : VT.nodesL ks + 1 ≤ 1000000000:=by simpa [VT.nodes] using hb
  have hll:=VT.len_le ks
  refine ACalls.out (zMm fun hs=>?_)
  have hO : ∀ J,Out H.length K (.bool ((VT.mk k n ks).same (.mk k' n' ks'))) (H ++ J):=fun J=>Out.bool rfl (Nat.le_refl _) hs hK
  simp only [VT.same] at hO
  simp only [VT.cs,zx8]
  cases hk : (k == k') with
  | false=>
   rw [hk] at hO
   simp [hk]
   exact hO _
  | true=>
  cases hn : (n == n') with
  | false=>
   rw [hk,hn] at hO
   simp [hk,hn]
   exact hO _
  | true=>
   rw [hk,hn,Bool.true_and,Bool.true_and,← zmV] at hO
   simp [hk,hn]
   refine zsT VT.same _ (fun _=>rfl) ks ks' (fun a ha b H K hK=>?_) (by omega) _ _ ?_
   ·simp only [aCallV,zss,List.append_nil]
    have:=zAZ (k:=k) (n:=n) a ha
    exact ih a b (by omega) (by omega) H K hK
   ·exact hO _
theorem zAP (x : List VT) (hl : x.length ≤ 1000000000) (fv : AV) (H : zaa) (K : AV → zaa → Prop) (hfv : fv.sc H.length = true) (Inv : Nat → zaa → Prop) (h0 : Inv 0 H)
  (step : ∀ (i : Nat) (h : i < x.length) (H' : zaa),H.length ≤ H'.length → Inv i H' → aCallV tP fv [.agg (x[i]).cs] H' fun r H''=>(r = .bool false ∧ Inv (i + 1) H'') ∨ (r = .bool true ∧ K (.int .i64 i) H''))
  (fin : ∀ H',Inv x.length H' → K (.int .i64 (-1)) H') : ACalls tP znM [.sl (VT.css x) .none,fv] H K:=by
 refine zNV fun hs=>?_
 simp [zyF]
 refine zNT (Inv:=fun q t8 H'=>∃ i : Nat,i ≤ x.length ∧ q = x.length - i ∧ t8 = .int .i64 i ∧ H.length ≤ H'.length ∧ Inv i H') x.length ?_ ?_
 ·intro _; exact ⟨0,by omega,by omega,rfl,Nat.le_refl _,h0⟩
 ·rintro q t8 H' ⟨i,hi,rfl,rfl,hle,hI⟩ hsc hlen hsF Kb hKb
  by_cases hlt : i < x.length
  ·simp [zrv,hlt]
   refine (step i hlt H' hle hI).mono' fun r H'' hsc' hle' hr=>?_
   rcases hr with ⟨rfl,hI'⟩ | ⟨rfl,hk⟩
   ·simp
    rw [zaq (by omega) (by omega)]
    refine hKb _ _ ⟨x.length - (i + 1),by omega,Back.here (by omega) hsc' ?_ ⟨_,rfl,i + 1,by omega,rfl,by simp,by omega,hI'⟩⟩
    simp [zl4,AV.sc,AV.scV,AV.scA,AV.scB]
    exact zcI (by omega) hfv
   ·simpa using hk
  ·obtain rfl : i = x.length:=by omega
   simp [zrv]
   exact fin H' hI
theorem zmQ (x : List VT) (hl : x.length ≤ 1000000000) (fv : AV) (H : zaa) (K : AV → zaa → Prop) (hfv : fv.sc H.length = true) (Inv : Nat → zaa → Prop) (h0 : Inv 0 H)
  (step : ∀ (i : Nat) (h : i < x.length) (H' : zaa),H.length ≤ H'.length → Inv i H' → aCallV tP fv [.agg (x[i]).cs] H' fun r H''=>(r = .bool false ∧ Inv (i + 1) H'') ∨ (r = .bool true ∧ K (.bool true) H''))
  (fin : ∀ H',Inv x.length H' → K (.bool false) H') : ACalls tP zfc [.sl (VT.css x) .none,fv] H K:=by
 refine zMd fun hs=>?_
 unfold zx5
 refine zAP x hl fv H _ hfv Inv h0 (fun i h H' hle hI=>(step i h H' hle hI).mono' fun r H'' _ _ hr=>?_) (fun H' hI=>?_)
 ·rcases hr with hr | ⟨h1,h2⟩
  ·exact .inl hr
  ·refine .inr ⟨h1,?_⟩
   have : decide ((0 : Int) ≤ i) = true:=by simp
   simpa using h2
 ·simpa using fin H' hI
theorem zz1 : zcO tP ziw = true:=by kernel_rfl
section
variable (data : List Dat) (vars : Int)
theorem zDt : ∀ (l : List VT) (i : Nat) (h : i < l.length),zbA data vars l = true → zbz data vars l[i] = true:=by
 intro l
 induction l with
 | nil=>intro i h; simp at h
 | cons a l ih=>
  intro i h hl
  simp [zbA] at hl
  cases i with
  | zero=>exact hl.1
  | succ i=>exact ih i (by simpa using h) hl.2
def zbS (left : Int) : AB:=.cells [.sl (data.map Dat.cs) .none,.int .i64 vars,.int .i64 left]
theorem zDP : ∀ (m : Nat) (v : VT),v.nodes ≤ m → v.nodes ≤ 1000000000 → ∀ (left : Int),left ≤ 1000000 → -1 ≤ left → ∀ (H : zaa) (id : Nat),H[id]? = some (zbS data vars left) → ∀ (K : AV → zaa → Prop),
  (zbz data vars v = true → (v.nodes : Int) ≤ left → K (.bool true) (H.set id (zbS data vars (left - v.nodes)))) → (¬ (zbz data vars v = true ∧ (v.nodes : Int) ≤ left) → ∀ l',K (.bool false) (H.set id (zbS data vars l'))) →
  ACalls tP ziS [.ptr id 0,.agg v.cs] H K:=by
 intro m
 induction m with
 | zero=>intro v h; have:=v.nodes_pos; omega
 | succ m ih=>
  intro v hv hb left hl1 hl0 H id hid K hK hF
  obtain ⟨k,n,ks⟩:=v
  have hlt:=zb0 hid
  have hnn : (VT.mk k n ks).nodes = VT.nodesL ks + 1:=by simp [VT.nodes]
  have hll:=VT.len_le ks
  refine ACalls.out (zN7 fun hs=>?_)
  -- the heap within: the receiver's copy and the type's
  generalize hJ : ([.cells [.ptr id 0],.cells [.int .i64 k,.int .i64 n,.sl (VT.css ks) .none]] : zaa) = J
  have hJ0 : J[0]? = some (.cells [.ptr id 0]):=by subst hJ; rfl
  have hJ1 : J[1]? = some (.cells [.int .i64 k,.int .i64 n,.sl (VT.css ks) .none]):=by subst hJ; rfl
  have hget : ∀ l',(H.set id (zbS data vars l') ++ J)[id]? = some (zbS data vars l'):=fun l'=>zaO (zc8 _ hid)
  have bad : (¬ (zbz data vars (.mk k n ks) = true ∧ ((VT.mk k n ks).nodes : Int) ≤ left)) → ∀ l',Out H.length K (.bool false) (H.set id (zbS data vars l') ++ J):=fun h l'=>
   Out.bool rfl (by simp) (hs.set rfl) (hF h l')
  have badS : zbd data vars k n ks.length = false → ∀ l',Out H.length K (.bool false) (H.set id (zbS data vars l') ++ J):=fun h l'=>bad (fun ⟨h1,_⟩=>by simp [zbz,h] at h1) l'
  -- the arguments
  have args : zbd data vars k n ks.length = true → 1 ≤ left → ∀ KK : AV → zaa → Prop,(∀ H',Out H.length K (.bool true) H' → KK (.bool false) H') → (∀ H',Out H.length K (.bool false) H' → KK (.bool true) H') →
    ACalls tP zfc [.sl (VT.css ks) .none,.fn ziw [.ptr H.length 0]] (H.set id (zbS data vars (left - 1)) ++ J) KK:=by
   intro hsh h1 KK hKf hKt
   subst hJ
   refine zmQ ks (by omega) _ _ _ (by simp [AV.sc,AV.scV,AV.scA,AV.scB]) (fun i H'=>(VT.nodesL (ks.take i) : Int) + 1 ≤ left ∧ zbA data vars (ks.take i) = true ∧ H' = H.set id (zbS data vars (left - 1 - VT.nodesL (ks.take i))) ++ [.cells [.ptr id 0],.cells [.int .i64 k,.int .i64 n,.sl (VT.css ks) .none]]) ⟨by simp [VT.nodesL]; omega,by simp [zbA],by simp [VT.nodesL]⟩ ?_ ?_
   ·rintro i hi H' hle ⟨hb1,hb2,rfl⟩
    have hki:=VT.kid_lt (k:=k) (n:=n) hi
    have h1:=VT.nodesL_take hi
    have h2:=VT.nodesL_take_le ks (i + 1)
    have hokL : zbA data vars (ks.take (i + 1)) = (zbA data vars (ks.take i) && zbz data vars ks[i]):=by
     rw [List.take_succ_eq_append_getElem hi]
     have : ∀ (l : List VT) (x : VT),zbA data vars (l ++ [x]) = (zbA data vars l && zbz data vars x):=by
      intro l x
      induction l with
      | nil=>simp [zbA]
      | cons a l ih=>simp [zbA,ih,Bool.and_assoc]
     exact this _ _
    simp only [aCallV,zz1,List.singleton_append]
    refine ACalls.out (zD2 fun hs1=>?_)
    have hH1 : ∀ l',HSc (H.set id (zbS data vars l') ++ [.cells [.ptr id 0],.cells [.int .i64 k,.int .i64 n,.sl (VT.css ks) .none]]):=fun l'=>(hs.set rfl).append (by simp [AB.sc,AV.scA,AV.scB]; omega)
    obtain ⟨x1,x2,x3,hvx,hx1,hx2,hx3⟩:=zcY ks[i]
    have hll2 : (H.set id (zbS data vars (left - 1 - VT.nodesL (ks.take i)))).length = H.length:=by simp
    have hg1 : (H.set id (zbS data vars (left - 1 - VT.nodesL (ks.take i))) ++ [AB.cells [.ptr id 0],.cells [.int .i64 k,.int .i64 n,.sl (VT.css ks) .none],.cells [x1,x2,x3]])[H.length]? = some (.cells [.ptr id 0]):=by
     rw [List.getElem?_append_right (by simp)]; simp
    have hg2 : (H.set id (zbS data vars (left - 1 - VT.nodesL (ks.take i))) ++ [AB.cells [.ptr id 0],.cells [.int .i64 k,.int .i64 n,.sl (VT.css ks) .none],.cells [x1,x2,x3]])[H.length + 2]? = some (.cells [x1,x2,x3]):=by
     rw [List.getElem?_append_right (by simp)]; simp
    simp [zu5,hvx,hg1,hg2,hll2]
    rw [← hvx]
    refine ih ks[i] (by omega) (by omega) (left - 1 - VT.nodesL (ks.take i)) (by omega) (by omega) _ id (zaO (zc8 _ hid)) _ ?_ ?_
    ·intro ho hle2
     rw [zdK _ (zc8 _ hid),List.set_set,show left - 1 - (VT.nodesL (ks.take i) : Int) - (ks[i]).nodes = left - 1 - VT.nodesL (ks.take (i + 1)) by omega]
     simp
     refine Out.bool (J:=[_]) (H2:=H.set id (zbS data vars (left - 1 - VT.nodesL (ks.take (i + 1)))) ++ [.cells [.ptr id 0],.cells [.int .i64 k,.int .i64 n,.sl (VT.css ks) .none]]) (by simp; rfl) (by simp) (hH1 _) (.inl ⟨rfl,by omega,by rw [hokL,hb2,ho]; rfl,rfl⟩)
    ·intro ho l'
     rw [zdK _ (zc8 _ hid),List.set_set]
     simp
     have hno : ¬ (zbz data vars (.mk k n ks) = true ∧ ((VT.mk k n ks).nodes : Int) ≤ left):=by
      rintro ⟨g1,g2⟩
      have hall : zbA data vars ks = true:=by simp [zbz] at g1; exact g1.2
      exact ho ⟨zDt data vars ks i hi hall,by omega⟩
     have hb3:=bad hno l'
     exact Out.bool (J:=[_]) (H2:=H.set id (zbS data vars l') ++ [.cells [.ptr id 0],.cells [.int .i64 k,.int .i64 n,.sl (VT.css ks) .none]]) (by simp; rfl) (by simp) (hH1 _) (.inr ⟨rfl,hKt _ hb3⟩)
   ·rintro H' ⟨hb1,hb2,rfl⟩
    rw [List.take_length] at *
    refine hKf _ ?_
    refine Out.bool rfl (by simp) (hs.set rfl) ?_
    have:=hK (by simp [zbz,hsh,hb2]) (by omega)
    rw [hnn] at this
    rw [show left - 1 - (VT.nodesL ks : Int) = left - ((VT.nodesL ks + 1 : Nat) : Int) by omega]
    exact this
  -- behind the shape
  have fin : ∀ lo hi : Int,(k ≠ 4 → k ≠ 5 → n ≠ 0 → zbd data vars k n ks.length = false) → ((ks.length : Int) < lo ∨ hi < (ks.length : Int) → zbd data vars k n ks.length = false) → 1 ≤ left →
    ((k = 4 ∨ k = 5 ∨ n = 0) → lo ≤ (ks.length : Int) → (ks.length : Int) ≤ hi → zbd data vars k n ks.length = true) →
    zgB (.ptr H.length 0) (.ptr (H.length + 1) 0) (.int .i64 lo) (.int .i64 hi) (H.set id (zbS data vars (left - 1)) ++ J) (Out H.length K):=by
   intro lo hi hz hr h1 hok
   have hg3 : (H.set id (zbS data vars (left - 1)) ++ J)[H.length + 1]? = some (.cells [.int .i64 k,.int .i64 n,.sl (VT.css ks) .none]):=by
    rw [List.getElem?_append_right (by simp)]; subst hJ; simp
   by_cases hcase : k = 4 ∨ k = 5 ∨ n = 0
   ·have h3 : (k != 4) = false ∨ ((k != 4) = true ∧ (k != 5) = false) ∨ ((k != 4) = true ∧ (k != 5) = true ∧ (n != 0) = false):=by
     by_cases g4 : k = 4
     ·left; simp [g4]
     ·by_cases g5 : k = 5
      ·right; left; simp [g5]
      ·right; right; simp [g4,g5]; omega
    rcases h3 with g | ⟨g,g'⟩ | ⟨g,g',g''⟩
    case' inl=>simp [zgB,hg3,hJ1,g]
    case' inr.inl=>simp [zgB,hg3,hJ1,g,g']
    case' inr.inr=>simp [zgB,hg3,hJ1,g,g',g'']
    all_goals
     by_cases hlo : (ks.length : Int) < lo
     ·simp [hlo]
      exact badS (hr (.inl hlo)) _
     ·by_cases hhi : hi < (ks.length : Int)
      ·simp [hlo,hhi,hJ1]
       exact badS (hr (.inr hhi)) _
      ·simp [hlo,hhi,AV.isB,hJ1]
       refine args (hok hcase (by omega) (by omega)) h1 _ (fun H' ho=>?_) (fun H' ho=>?_) <;> simpa using ho
   ·have g : (k != 4) = true:=by simp; omega
    have g' : (k != 5) = true:=by simp; omega
    have g'' : (n != 0) = true:=by simp; omega
    simp [zgB,hg3,hJ1,g,g',g'']
    exact badS (hz (by omega) (by omega) (by omega)) _
  have start : (H ++ J)[id]? = some (zbS data vars left):=zaO hid
  have hmain : zrx (.ptr H.length 0) (.ptr (H.length + 1) 0) (H.set id (zbS data vars (left - 1)) ++ J) (Out H.length K):=by
   refine zNZ fun hs1=>?_
   have hgv:=hget (left - 1)
   unfold zbS at hgv
   by_cases h0 : left - 1 < 0
   ·simp [zry,hJ0,zbS,hgv,h0]
    exact bad (fun h=>by have:=h.2; rw [hnn] at this; omega) _
   have h1 : 1 ≤ left:=by omega
   simp [zry,hJ0,hJ1,zbS,hgv,h0]
   refine zN2 fun _=>?_
   have hfin:=fun lo hi a b c=>fin lo hi a b h1 c
   unfold zbS at hfin badS
   -- the three without arguments
   by_cases h123 : k = 1 ∨ k = 2 ∨ k = 3
   ·have hsh : zbd data vars k n ks.length = (n == 0 && ks.length == 0):=by rcases h123 with rfl | rfl | rfl <;> rfl
    have:=hfin 0 0 (fun _ _ hn=>by rw [hsh]; simp [hn]) (fun h=>by rw [hsh]; simp; intro _; rintro rfl; simp at h) (fun h h2 h3=>by
     have hn : n = 0:=by omega
     have hl : ks.length = 0:=by omega
     rw [hsh,hn,hl]; rfl)
    rcases h123 with rfl | rfl | rfl <;> simp [zrz] <;> refine zyJ fun _=>?_ <;> simp [zdF,zdr] <;> exact this
   have b1 : (k == 1) = false:=by simp; omega
   have b2 : (k == 2) = false:=by simp; omega
   have b3 : (k == 3) = false:=by simp; omega
   simp [zrz,b1,b2,b3]
   refine zyJ fun _=>?_
   by_cases h4 : k = 4
   ·subst h4
    have hsh : zbd data vars 4 n ks.length = (decide (0 ≤ n) && decide (n < vars) && ks.length == 0):=rfl
    by_cases g1 : n < 0
    ·simp [zdF,hJ0,hJ1,hgv,g1]
     exact badS (by rw [hsh]; simp; omega) _
    by_cases g2 : vars ≤ n
    ·simp [zdF,hJ0,hJ1,hgv,g1,g2]
     exact badS (by rw [hsh]; simp; omega) _
    have:=hfin 0 0 (fun h=>(h rfl).elim) (fun h=>by rw [hsh]; simp; intro _ _; rintro rfl; simp at h) (fun h h2 h3=>by
     have hl : ks.length = 0:=by omega
     rw [hsh,hl]; simp; omega)
    simp [zdF,hJ0,hJ1,hgv,g1,g2,zdr]
    exact this
   have b4 : (k == 4) = false:=by simp; omega
   by_cases h5 : k = 5
   ·subst h5
    have hsh : zbd data vars 5 n ks.length = (decide (0 ≤ n) && (match data[n.toNat]? with | some d=>(ks.length : Int) == d.vars | none=>false)):=rfl
    by_cases g1 : n < 0
    ·simp [zdF,hJ0,hJ1,hgv,g1]
     exact badS (by rw [hsh]; simp; omega) _
    by_cases g2 : (data.length : Int) ≤ n
    ·simp [zdF,hJ0,hJ1,hgv,g1,g2]
     exact badS (by rw [hsh,List.getElem?_eq_none (by omega)]; simp) _
    have hnl : n.toNat < data.length:=by omega
    have g2' : n < data.length:=by omega
    have g1' : 0 ≤ n:=by omega
    rw [List.getElem?_eq_getElem hnl] at hsh
    simp only [g1',decide_true,Bool.true_and] at hsh
    have:=hfin (data[n.toNat]).vars (data[n.toNat]).vars (fun _ h=>(h rfl).elim) (fun h=>by rw [hsh]; simp; omega) (fun h h2 h3=>by rw [hsh]; simp; omega)
    simp [zdF,hJ0,hJ1,hgv,g1,g2,g1',g2',hnl,Dat.cs,zdr]
    exact this
   have b5 : (k == 5) = false:=by simp; omega
   by_cases h6 : k = 6
   ·subst h6
    have hsh : zbd data vars 6 n ks.length = (n == 0 && decide (2 ≤ ks.length) && decide (ks.length ≤ 6)):=rfl
    have:=hfin 2 6 (fun _ _ hn=>by rw [hsh]; simp [hn]) (fun h=>by rw [hsh]; simp; intros; omega) (fun h h2 h3=>by rw [hsh]; simp; omega)
    simp [zdF,zdr]
    exact this
   have b6 : (k == 6) = false:=by simp; omega
   by_cases h78 : k = 7 ∨ k = 8
   ·have hsh : zbd data vars k n ks.length = (n == 0 && ks.length == 1):=by rcases h78 with rfl | rfl <;> rfl
    have:=hfin 1 1 (fun _ _ hn=>by rw [hsh]; simp [hn]) (fun h=>by rw [hsh]; simp; intros; omega) (fun h h2 h3=>by rw [hsh]; simp; omega)
    rcases h78 with rfl | rfl <;> simp [zdF] <;> refine zyK fun _=>?_ <;> simp [zl6,zdr] <;> exact this
   have b7 : (k == 7) = false:=by simp; omega
   have b8 : (k == 8) = false:=by simp; omega
   simp [zdF,b4,b5,b6,b7,b8]
   refine zyK fun _=>?_
   by_cases h9 : k = 9
   ·subst h9
    have hsh : zbd data vars 9 n ks.length = (n == 0 && decide (1 ≤ ks.length) && decide (ks.length ≤ 7)):=rfl
    have:=hfin 1 7 (fun _ _ hn=>by rw [hsh]; simp [hn]) (fun h=>by rw [hsh]; simp; intros; omega) (fun h h2 h3=>by rw [hsh]; simp; omega)
    simp [zl6,zdr]
    exact this
   ·have b9 : (k == 9) = false:=by simp; omega
    simp [zl6,b9]
    exact badS (by unfold zbd; simp [b1,b2,b3,b4,b5,b6,b7,b8,b9]) _
  subst hJ
  unfold zbS at start
  simp [zyH,VT.cs,start]
  rw [zaq (by omega) (by omega),zdK _ hid]
  exact hmain
theorem zlF (v : VT) (hb : v.nodes ≤ 1000000000) (H : zaa) (K : AV → zaa → Prop) (hK : K (.bool (zaz data vars v)) H) : ACalls tP zfZ [.sl (data.map Dat.cs) .none,.agg v.cs,.int .i64 vars] H K:=by
 refine ACalls.out (zMj fun hs=>?_)
 have hO : ∀ J,Out H.length K (.bool (zaz data vars v)) (H ++ J):=fun J=>Out.bool rfl (Nat.le_refl _) hs hK
 obtain ⟨x1,x2,x3,hvx,hx1,hx2,hx3⟩:=zcY v
 simp [zx7,hvx,zaL,zbD]
 rw [← hvx]
 refine zDP data vars _ v (Nat.le_refl _) hb 200 (by omega) (by omega) _ (H.length + 1) (by simp [zbS]) _ ?_ ?_
 ·intro ho hn
  have : zaz data vars v = true:=by simp [zaz,ho]; omega
  rw [this] at hO
  simp
  exact hO _
 ·intro hno l'
  have : zaz data vars v = false:=by
   cases h : zaz data vars v with
   | false=>rfl
   | true=>simp [zaz] at h; exact (hno ⟨h.2,by omega⟩).elim
  rw [this] at hO
  simp
  exact hO _
end
mutual
theorem zuA : ∀ v : VT,subst [] v = v
 | .mk k n ks=>by
  rw [subst,if_neg (by rintro ⟨_,h1,h2⟩; simp at h2; omega),zuy ks]
theorem zuy : ∀ l : List VT,za0 [] l = l
 | []=>rfl
 | t :: ts=>by rw [za0,zuA t,zuy ts]
end
theorem zF4 : ∀ (m : Nat) (args : List VT),(∀ x ∈ args,x.nodes ≤ 1000000) → args.length ≤ 1000000 → ∀ (v : VT),(if args = [] then v.nodes else v.nodes + 1000001) ≤ m → v.nodes ≤ 1000000 → ∀ (H : zaa) (K : AV → zaa → Prop),K (.agg (subst args v).cs) H → ACalls tP zg4 [.agg v.cs,.sl (VT.css args) .none] H K:=by
 intro m
 induction m with
 | zero=>intro args _ _ v h; have:=v.nodes_pos; split at h <;> omega
 | succ m ih=>
  intro args ha hal v hv hb H K hK
  obtain ⟨k,n,ks⟩:=v
  have hnl : VT.nodesL ks + 1 ≤ 1000000:=by simpa [VT.nodes] using hb
  have hll:=VT.len_le ks
  refine ACalls.out (zF2 fun hs=>?_)
  by_cases hvar : k = 4 ∧ 0 ≤ n ∧ n < args.length
  ·obtain ⟨rfl,h0,h1⟩:=hvar
   have hn : n.toNat < args.length:=by omega
   have hne : args ≠ []:=by rintro rfl; simp at hn
   have hK' : K (.agg (args[n.toNat]).cs) H:=by
    rw [subst,if_pos ⟨rfl,h0,h1⟩,List.getElem?_eq_getElem hn] at hK
    exact hK
   have hle:=ha _ (List.getElem_mem hn)
   simp [VT.cs,zo4,h0,h1,hn]
   rw [if_neg hne] at hv
   refine ACalls.wk (args':=[.agg (args[n.toNat]).cs,.sl (VT.css []) .none]) ?_ ⟨.rfl',.atom .snil,trivial⟩
   refine ih [] (by simp) (by simp) _ (by simp; omega) hle _ _ ?_
   rw [zuA]
   generalize args[n.toNat] = x at *
   obtain ⟨k',n',ks'⟩:=x
   simp [VT.cs]
   exact Out.at rfl (Nat.le_refl _) hs .rfl' rfl rfl hK'
  ·have hK' : K (.agg (VT.mk k n (za0 args ks)).cs) H:=by
    rw [subst,if_neg hvar] at hK
    exact hK
   have go : ∀ H1,H1 = H ++ [.cells [.int .i64 k,.int .i64 n,.sl (VT.css ks) .none],.cells [.int .i64 0,.int .i64 0,.snil],.cells [.int .i64 k,.int .i64 n,.snil]] → zhn (.sl (VT.css args) .none) (.ptr (H.length + 1) 0) (.ptr (H.length + 2) 0) (.sl (VT.css ks) .none) (.int .i64 ks.length) (.int .i64 0) H1 (Out H.length K):=by
    rintro _ rfl
    unfold zhn
    refine ALoop.ownC (cs:=[.int .i64 k,.int .i64 n,.snil]) (H.length + 2) 2 zaB 3 (by simp) rfl ?_
    have e0 : (H ++ [AB.cells [.int .i64 k,.int .i64 n,.sl (VT.css ks) .none],.cells [.int .i64 0,.int .i64 0,.snil],.cells [.int .i64 k,.int .i64 n,.snil]]).length = H.length + 3:=by simp
    rw [e0,zoe,List.append_assoc]
    have hJ : ∀ i X,HSc (H ++ [.cells [.int .i64 k,.int .i64 n,.sl (VT.css ks) .none],.cells [.int .i64 0,.int .i64 0,.snil],.cells [.int .i64 k,.int .i64 n,.sl X (.own (H.length + 3))],.perm zaB 3 i]):=fun i X=>hs.append (by simp [AB.sc,AV.scA,AV.scB])
    show zhn (.sl (VT.css args) .none) (.ptr (H.length + 1) 0) (.ptr (H.length + 2) 0) (.sl (VT.css ks) .none) (.int .i64 ks.length) (.int .i64 0) (H ++ [.cells [.int .i64 k,.int .i64 n,.sl (VT.css ks) .none],.cells [.int .i64 0,.int .i64 0,.snil],.cells [.int .i64 k,.int .i64 n,.sl [] (.own (H.length + 3))],.perm zaB 3 0]) (Out H.length K)
    refine zF0 (Inv:=fun q t37 H'=>∃ i : Nat,i ≤ ks.length ∧ q = ks.length - i ∧ t37 = .int .i64 i ∧ H' = H ++ [.cells [.int .i64 k,.int .i64 n,.sl (VT.css ks) .none],.cells [.int .i64 0,.int .i64 0,.snil],.cells [.int .i64 k,.int .i64 n,.sl (VT.css ((za0 args ks).take i)) (.own (H.length + 3))],.perm zaB 3 i]) ks.length ?_ ?_
    ·intro _; exact ⟨0,by omega,by omega,rfl,by simp [VT.css]⟩
    ·rintro q t37 H' ⟨i,hi,rfl,rfl,rfl⟩ hsc hlen hsF Kb hKb
     by_cases hlt : i < ks.length
     ·have hki:=VT.kid_lt (k:=k) (n:=n) hlt
      have hsl : (za0 args ks).length = ks.length:=by rw [zeo]; simp
      have hlt' : i < (za0 args ks).length:=by omega
      have hsi : (za0 args ks)[i] = subst args ks[i]:=by simp [zeo]
      obtain ⟨x1,x2,x3,hvx,hx1,hx2,hx3⟩:=zcY ks[i]
      simp [zo5,hlt,hvx,hx1,hx2,hx3]
      rw [← hvx]
      refine zay (.agg (subst args ks[i]).cs) (fun J=>ih args ha hal ks[i] (by by_cases he : args = [] <;> simp only [he,if_true,if_false] at hv ⊢ <;> omega) (by omega) _ _ ⟨rfl,rfl⟩) ?_
      rw [zbP,← hsi]
      simp [zaC,zbq,za8,hsl]
      refine ⟨by omega,⟨by omega,by omega⟩,?_⟩
      rw [zaq (by omega) (by omega),show min i ks.length = i by omega]
      refine hKb _ _ ⟨ks.length - (i + 1),by omega,Back.at (J:=[_]) (H2:=H ++ [.cells [.int .i64 k,.int .i64 n,.sl (VT.css ks) .none],.cells [.int .i64 0,.int .i64 0,.snil],.cells [.int .i64 k,.int .i64 n,.sl (VT.css ((za0 args ks).take (i + 1))) (.own (H.length + 3))],.perm zaB 3 (i + 1)]) (by rw [zgP hlt']; simp; rfl) (by simp) (hJ _ _) ?_ ⟨_,rfl,i + 1,by omega,rfl,by simp,rfl⟩⟩
      simp [zjR,AV.sc,AV.scV,AV.scA,AV.scB]
     ·obtain rfl : i = ks.length:=by omega
      have e : (za0 args ks).take ks.length = za0 args ks:=List.take_of_length_le (by rw [zeo]; simp)
      rw [e]
      simp [zo5]
      exact Out.at rfl (Nat.le_refl _) hs (WkV.agg (ds:=[.int .i64 k,.int .i64 n,.sl (VT.css (za0 args ks)) .none]) ⟨.refl _,.refl _,.sl _ _,trivial⟩) rfl (by simp [AV.scV,AV.scA,AV.scB]) (by simpa [VT.cs] using hK')
   simp only [VT.cs,zo4]
   by_cases h4 : k = 4
   ·subst h4
    by_cases h0 : 0 ≤ n
    ·have h1 : ¬ n < args.length:=fun h=>hvar ⟨rfl,h0,h⟩
     simp [h0,h1,zaL,zbD,Nat.add_assoc]
     exact go _ rfl
    ·simp [h0,zaL,zbD,Nat.add_assoc]
     exact go _ rfl
   ·have h4' : (k == 4) = false:=by simpa using h4
    simp [h4',zaL,zbD,Nat.add_assoc]
    exact go _ rfl
def zi8 (args : List VT) : AB:=.cells (args.map fun x=>.int .i64 x.nodes)
theorem zFX (args : List VT) (ha : ∀ x ∈ args,x.nodes ≤ 1000000) (hal : args.length ≤ 1000000) : ∀ (m : Nat) (v : VT),v.nodes ≤ m → v.nodes ≤ 1000000 → ∀ (H : zaa) (id : Nat),H[id]? = some (zi8 args) → ∀ (K : AV → zaa → Prop),
  (∀ r : Nat,(r ≤ 200 ↔ (subst args v).nodes ≤ 200) → (r ≤ 200 → r = (subst args v).nodes) → r ≤ 1000000 + 200 * v.nodes → K (.int .i64 r) H) → ACalls tP ziF [.agg v.cs,.ms id 0 args.length args.length] H K:=by
 intro m
 induction m with
 | zero=>intro v h; have:=v.nodes_pos; omega
 | succ m ih=>
  intro v hv hb H id hid K hK
  obtain ⟨k,n,ks⟩:=v
  have hnl : VT.nodesL ks + 1 ≤ 1000000:=by simpa [VT.nodes] using hb
  have hll:=VT.len_le ks
  have hidl:=zb0 hid
  refine ACalls.out (zFV fun hs=>?_)
  by_cases hvar : k = 4 ∧ 0 ≤ n ∧ n < args.length
  ·obtain ⟨rfl,h0,h1⟩:=hvar
   have hn : n.toNat < args.length:=by omega
   have hsub : subst args (.mk 4 n ks) = args[n.toNat]:=by rw [subst,if_pos ⟨rfl,h0,h1⟩,List.getElem?_eq_getElem hn]; rfl
   rw [hsub] at hK
   have hg : (H ++ [AB.cells [.int .i64 4,.int .i64 n,.sl (VT.css ks) .none]])[id]? = some (zi8 args):=zaO hid
   have hle:=ha _ (List.getElem_mem hn)
   unfold zi8 at hg
   simp [VT.cs,zoZ,h0,h1,hn,hg,zaS]
   exact Out.int rfl (Nat.le_refl _) hs (hK _ Iff.rfl (fun _=>rfl) (by omega))
  ·have hsub : subst args (.mk k n ks) = .mk k n (za0 args ks):=by rw [subst,if_neg hvar]
   have hnodes : (subst args (.mk k n ks)).nodes = VT.nodesL (za0 args ks) + 1:=by rw [hsub]; rfl
   rw [hnodes] at hK
   have hO : ∀ r : Nat,(r ≤ 200 ↔ VT.nodesL (za0 args ks) + 1 ≤ 200) → (r ≤ 200 → r = VT.nodesL (za0 args ks) + 1) → r ≤ 1000000 + 200 * (VT.mk k n ks).nodes → ∀ J,Out H.length K (.int .i64 r) (H ++ J):=fun r h1 h2 h3 J=>Out.int rfl (Nat.le_refl _) hs (hK r h1 h2 h3)
   have hsl : (za0 args ks).length = ks.length:=by rw [zeo]; simp
   have go : zo3 (.ms id 0 args.length args.length) (.int .i64 1) (.sl (VT.css ks) .none) (.int .i64 ks.length) (.int .i64 0) (H ++ [.cells [.int .i64 k,.int .i64 n,.sl (VT.css ks) .none]]) (Out H.length K):=by
    refine zFT (Inv:=fun q t5 t31 H'=>∃ i : Nat,i ≤ ks.length ∧ q = ks.length - i ∧ t31 = .int .i64 i ∧ t5 = .int .i64 (1 + VT.nodesL ((za0 args ks).take i) : Nat) ∧ 1 + VT.nodesL ((za0 args ks).take i) ≤ 200 ∧ H' = H ++ [.cells [.int .i64 k,.int .i64 n,.sl (VT.css ks) .none]]) ks.length ?_ ?_
    ·intro _; exact ⟨0,by omega,by omega,rfl,by simp [VT.nodesL],by simp [VT.nodesL],rfl⟩
    ·rintro q t5 t31 H' ⟨i,hi,rfl,rfl,rfl,hb2,rfl⟩ hsc hlen hsF Kb hKb
     by_cases hlt : i < ks.length
     ·have hki:=VT.kid_lt (k:=k) (n:=n) hlt
      have hlt' : i < (za0 args ks).length:=by omega
      have hsi : (za0 args ks)[i] = subst args ks[i]:=by simp [zeo]
      have h1:=VT.nodesL_take hlt'
      have h2:=VT.nodesL_take_le (za0 args ks) (i + 1)
      rw [hsi] at h1
      obtain ⟨x1,x2,x3,hvx,hx1,hx2,hx3⟩:=zcY ks[i]
      simp [zo0,hlt,hvx,hx1,hx2,hx3]
      rw [← hvx]
      refine ih ks[i] (by omega) (by omega) _ id (zaO hid) _ fun r hr1 hr2 hr3=>?_
      simp
      rw [zaq (by omega) (by omega)]
      by_cases hbig : (200 : Int) < 1 + VT.nodesL ((za0 args ks).take i) + r
      ·simp [hbig,zjP,zo2]
       have:=hO (1 + VT.nodesL ((za0 args ks).take i) + r) (by constructor <;> intro h <;> omega) (by omega) (by omega)
       have e : ((1 + VT.nodesL ((za0 args ks).take i) + r : Nat) : Int) = 1 + (VT.nodesL ((za0 args ks).take i) : Int) + r:=by omega
       rw [e] at this
       exact this _
      ·have hr : r = (subst args ks[i]).nodes:=hr2 (by omega)
       simp [hbig]
       rw [zaq (by omega) (by omega),zuJ]
       refine hKb _ _ ⟨ks.length - (i + 1),by omega,Back.same (by simp) hsc ?_ ⟨_,_,rfl,i + 1,by omega,rfl,by simp,?_,by omega,rfl⟩⟩
       ·simp [zjO,AV.sc,AV.scV,AV.scA,AV.scB]; omega
       ·congr 1; omega
     ·obtain rfl : i = ks.length:=by omega
      rw [List.take_of_length_le (by omega)] at *
      simp [zo0,zjP,zo2]
      have:=hO (1 + VT.nodesL (za0 args ks)) (by omega) (by omega) (by omega)
      have e : ((1 + VT.nodesL (za0 args ks) : Nat) : Int) = 1 + (VT.nodesL (za0 args ks) : Int):=by omega
      rw [e] at this
      exact this _
   simp only [VT.cs,zoZ]
   by_cases h4 : k = 4
   ·subst h4
    by_cases h0 : 0 ≤ n
    ·have h1 : ¬ n < args.length:=fun h=>hvar ⟨rfl,h0,h⟩
     simp [h0,h1]
     exact go
    ·simp [h0]
     exact go
   ·have h4' : (k == 4) = false:=by simpa using h4
    simp [h4']
    exact go
end Go.Proofs.Ytkdmpbhbmmhijaa
