import Derived.Test.YtkdmpbhbmmhijaaKB12
set_option linter.unusedSimpArgs false
set_option linter.unusedVariables false
namespace Go.Proofs.Ytkdmpbhbmmhijaa
open Go Go.Abs
set_option maxRecDepth 8000
def zej (data : List Dat) (d : Nat) (vars : Int) (t : VT) : Bool:=zcs d vars t || zaz (data.take d) vars t
structure RCon (data : List Dat) (d : Nat) (vars : Int) (c : Con) : Prop where
 up : zcX c.name = true
 len : c.args.length ≤ 6
 args : ∀ x ∈ c.args,zej data d vars x = true
structure RDat (data : List Dat) (d : Nat) (D : Dat) : Prop where
 v0 : 0 ≤ D.vars
 v6 : D.vars ≤ 6
 c1 : 1 ≤ D.cons.length
 c8 : D.cons.length ≤ 8
 up : zcX D.name = true
 cons : ∀ c ∈ D.cons,RCon data d D.vars c
structure RData (data : List Dat) : Prop where
 len : data.length ≤ 12
 dats : ∀ d (h : d < data.length),RDat data d data[d]
 names : (zbw data).Nodup
 cons : (zaV data).Nodup
theorem zsC : ∀ l : List Dat,(∀ D ∈ l,D.cons.length ≤ 10) → (zaV l).length ≤ l.length * 10
 | [],_=>by simp [zaV]
 | D :: l,h=>by
  have h1:=zsC l (fun D hD=>h D (by simp [hD]))
  have h2:=h D (by simp)
  rw [zaV] at h1 ⊢
  rw [List.flatMap_cons,List.length_append,List.length_map,List.length_cons]; omega
theorem zAy {data : List Dat} {d : Nat} (h : d < data.length) : zbw (data.take (d + 1)) = zbw (data.take d) ++ [(data[d]).name]:=by
 rw [zbw,zbX h,List.map_append]; rfl
theorem zAh {data : List Dat} {d : Nat} (h : d < data.length) : zaV (data.take (d + 1)) = zaV (data.take d) ++ (data[d]).cons.map Con.name:=by
 rw [zaV,zbX h,List.flatMap_append]; simp [zaV]
theorem zoh (l : List (List UInt8)) (s : List UInt8) : strs (l ++ [s]) = strs l ++ [[.str s]]:=by simp [strs]
theorem zmE {s : List UInt8} {k : AV → Prop} : zav 1 [.str []] 1 [(0,.str s)] k = k (.sl [[.str s]] .full):=propext Iff.rfl
theorem zn3 (l : List (List UInt8)) (hl : l.length ≤ 1000000) {tok : Tok} (H : zaa) (K : AV → zaa → Prop) (hK : K (.bool (zcb l)) H) : ACalls tP zfX [.sl (strs l) tok] H K:=
 ACalls.wk (zJO l hl H K hK) ⟨.atom (.sl _ _),trivial⟩
theorem zAs {D : Dat} {i : Nat} (h : i < D.cons.length) : (D.cons.map Con.cs)[i]?.getD [] = [.str (D.cons[i]).name,.sl (VT.css (D.cons[i]).args) .none]:=by simp [h,Con.cs]
theorem zJr (data : List Dat) (hkd : zmr data) (H : zaa) (K : AV → zaa → Prop) (hK : ∀ b,(b = true ↔ RData data) → K (.bool b) H) : ACalls tP znz [.sl (data.map Dat.cs) .none] H K:=by
 refine ACalls.out (zJp fun hs=>?_)
 obtain ⟨kl,kd⟩:=hkd
 have hF : ¬ RData data → ∀ J,Out H.length K (.bool false) (H ++ J):=fun h J=>Out.bool rfl (Nat.le_refl _) hs (hK _ (by simp [h]))
 have hT : ∀ b : Bool,(b = true ↔ RData data) → ∀ J,Out H.length K (.bool b) (H ++ J):=fun b h J=>Out.bool rfl (Nat.le_refl _) hs (hK _ h)
 by_cases h12 : data.length > 12
 ·have h12' : (12 : Int) < data.length:=by omega
  simp [zp7,h12']
  have:=hF (fun h=>by have:=h.len; omega) []
  simpa using this
 have h12' : ¬ (12 : Int) < data.length:=by omega
 simp [zp7,h12']
 unfold zkO
 refine ALoop.own 3 zbJ 1 rfl ?_
 refine ALoop.own 4 zbJ 1 rfl ?_
 rw [List.append_assoc]
 have hcn : ∀ d,(zaV (data.take d)).length ≤ 140:=fun d=>by
  have:=zsC (data.take d) (fun D hD=>(kd D (List.mem_of_mem_take hD)).2.1)
  rw [List.length_take] at this
  have : min d data.length * 10 ≤ 14 * 10:=Nat.mul_le_mul_right _ (by omega)
  omega
 have hl1 : (H ++ [AB.perm zbJ 1 0]).length = H.length + 1:=by simp
 rw [hl1]
 show zkO (.sl (data.map Dat.cs) .none) (.sl [] (.own H.length)) (.sl [] (.own (H.length + 1))) (.int .i64 0) (H ++ [.perm zbJ 1 0,.perm zbJ 1 0]) (Out H.length K)
 have hsP : ∀ m n,HSc (H ++ [.perm zbJ 1 m,.perm zbJ 1 n]):=fun m n=>hs.append rfl
 refine zJn (Inv:=fun q t3 t4 t5 H'=>∃ d : Nat,d ≤ data.length ∧ q = data.length - d ∧ t5 = .int .i64 d ∧ t3 = .sl (strs (zbw (data.take d))) (.own H.length) ∧ t4 = .sl (strs (zaV (data.take d))) (.own (H.length + 1)) ∧ (∀ j (h : j < data.length),j < d → RDat data j data[j]) ∧ H' = H ++ [.perm zbJ 1 d,.perm zbJ 1 (zaV (data.take d)).length]) data.length ?_ ?_
 ·intro _; exact ⟨0,by omega,by omega,rfl,by simp [zbw,strs],by simp [zaV,strs],by omega,by simp [zaV]⟩
 ·rintro q t3 t4 t5 H' ⟨d,hd,rfl,rfl,rfl,rfl,hok,rfl⟩ hsc hlen hsF Kb hKb
  by_cases hlt : d < data.length
  ·have hbad : ¬ RDat data d data[d] → ∀ J,Out H.length K (.bool false) (H ++ J):=fun h=>hF fun hh=>h (hh.dats d hlt)
   have hcd:=hcn d
   have hds:=zAy hlt
   have hcs:=zAh hlt
   obtain ⟨kn,kc,kcc⟩:=kd _ (List.getElem_mem hlt)
   have hdl : (zbw (data.take d)).length = d:=by simp [zbw]; omega
   generalize hD : data[d] = D at *
   have hge : (data.map Dat.cs)[d]?.getD [] = [.str D.name,.int .i64 D.vars,.sl (D.cons.map Con.cs) .none]:=by simp [hlt,hD,Dat.cs]
   by_cases hv0 : D.vars < 0
   ·simp [zfv,hlt,hD,Dat.cs,hv0]
    exact hbad (fun h=>by have:=h.v0; omega) _
   by_cases hv6 : 6 < D.vars
   ·simp [zfv,hlt,hD,Dat.cs,hv0,hv6]
    exact hbad (fun h=>by have:=h.v6; omega) _
   by_cases hc1 : D.cons.length < 1
   ·have hc1' : (D.cons.length : Int) < 1:=by omega
    simp [zfv,hlt,hD,Dat.cs,hv0,hv6,hc1']
    exact hbad (fun h=>by have:=h.c1; omega) _
   have hc1' : ¬ (D.cons.length : Int) < 1:=by omega
   by_cases hc8 : 8 < D.cons.length
   ·have hc8' : (8 : Int) < D.cons.length:=by omega
    simp [zfv,hlt,hD,Dat.cs,hv0,hv6,hc1',hc8']
    exact hbad (fun h=>by have:=h.c8; omega) _
   have hc8' : ¬ (8 : Int) < D.cons.length:=by omega
   simp [zfv,hlt,hD,Dat.cs,hv0,hv6,hc1',hc8']
   refine zyn _ _ _ ?_
   cases hup : zcX D.name with
   | false=>simp; exact hbad (fun h=>by have:=h.up; rw [hup] at this; cases this) _
   | true=>
   simp [zmE]
   simp [zaC,zbq,za8,hdl]
   refine ⟨by omega,?_⟩
   rw [← zoh,← hds]
   refine zJl (Inv:=fun q t4 t7 H'=>∃ k : Nat,k ≤ D.cons.length ∧ q = D.cons.length - k ∧ t7 = .int .i64 k ∧ t4 = .sl (strs (zaV (data.take d) ++ (D.cons.map Con.name).take k)) (.own (H.length + 1)) ∧ (∀ c ∈ D.cons.take k,RCon data d D.vars c) ∧ H' = H ++ [.perm zbJ 1 (d + 1),.perm zbJ 1 ((zaV (data.take d)).length + k),.cells [.str D.name,.int .i64 D.vars,.sl (D.cons.map Con.cs) .none]]) D.cons.length ?_ ?_
   ·intro _; exact ⟨0,by omega,by omega,rfl,by simp,by simp,by simp⟩
   ·rintro q t4 t7 H' ⟨k,hk,rfl,rfl,rfl,hck,rfl⟩ hsc1 hlen1 hsF1 Kb1 hKb1
    have hlk : (zaV (data.take d) ++ (D.cons.map Con.name).take k).length = (zaV (data.take d)).length + k:=by simp; omega
    by_cases hkl : k < D.cons.length
    ·have hkI : (k : Int) < D.cons.length:=by omega
     have hca:=zAs hkl
     have hcbad : ¬ RCon data d D.vars D.cons[k] → ∀ J,Out H.length K (.bool false) (H ++ J):=fun h=>hbad fun hh=>h (hh.cons _ (List.getElem_mem hkl))
     have hns : zaV (data.take d) ++ (D.cons.map Con.name).take (k + 1) = (zaV (data.take d) ++ (D.cons.map Con.name).take k) ++ [(D.cons[k]).name]:=by rw [zbX (by simpa using hkl)]; simp
     obtain ⟨_,ka,kan⟩:=kcc _ (List.getElem_mem hkl)
     generalize hC : D.cons[k] = C at *
     simp [zp8,hkl,hC,Con.cs]
     refine zyn _ _ _ ?_
     cases hupc : zcX C.name with
     | false=>simp; exact hcbad (fun h=>by have:=h.up; rw [hupc] at this; cases this) _
     | true=>
     by_cases ha6 : 6 < C.args.length
     ·have ha6' : (6 : Int) < C.args.length:=by omega
      simp [hkl,hC,Con.cs,ha6']
      exact hcbad (fun h=>by have:=h.len; omega) _
     have ha6' : ¬ (6 : Int) < C.args.length:=by omega
     simp [hkl,hC,Con.cs,ha6',zmE]
     generalize hA : zaV (data.take d) ++ (D.cons.map Con.name).take k = A at *
     have hAl : A.length = (zaV (data.take d)).length + k:=hlk
     simp [zaC,zbq,za8,hAl,hkl,hC,Con.cs]
     refine ⟨by omega,?_⟩
     rw [← zoh,← hns]
     refine zJm (Inv:=fun q t95 H'=>∃ i : Nat,i ≤ C.args.length ∧ q = C.args.length - i ∧ t95 = .int .i64 i ∧ (∀ x ∈ C.args.take i,zej data d D.vars x = true) ∧ H' = H ++ [.perm zbJ 1 (d + 1),.perm zbJ 1 ((zaV (data.take d)).length + k + 1),.cells [.str D.name,.int .i64 D.vars,.sl (D.cons.map Con.cs) .none]]) C.args.length ?_ ?_
     ·intro _; exact ⟨0,by omega,by omega,rfl,by simp,rfl⟩
     ·rintro q t95 H' ⟨i,hi,rfl,rfl,hok3,rfl⟩ hsc2 hlen2 hsF2 Kb2 hKb2
      by_cases hil : i < C.args.length
      ·have hxn:=kan _ (List.getElem_mem hil)
       have habad : zej data d D.vars C.args[i] = false → ∀ J,Out H.length K (.bool false) (H ++ J):=fun h=>hcbad fun hh=>by
        have:=hh.args _ (List.getElem_mem hil)
        rw [h] at this; cases this
       obtain ⟨x,y,z,hvx,hx,hy,hz⟩:=vt3 C.args[i]
       have good : zej data d D.vars C.args[i] = true → zkN (.sl (data.map Dat.cs) .none) (.sl (strs (zbw (data.take (d + 1)))) (.own H.length)) (.sl (strs (zaV (data.take d) ++ (D.cons.map Con.name).take (k + 1))) (.own (H.length + 1))) (.int .i64 d) (.ptr (H.length + 2) 0) (.int .i64 k) (.sl (VT.css C.args) .none) (.int .i64 C.args.length) (.int .i64 i) (H ++ [.perm zbJ 1 (d + 1),.perm zbJ 1 ((zaV (data.take d)).length + k + 1),.cells [.str D.name,.int .i64 D.vars,.sl (D.cons.map Con.cs) .none],.cells [x,y,z]]) (Out H.length K) Kb Kb1 Kb2:=fun hg=>by
        simp [zkN,zwW]
        rw [zaq (by omega) (by omega)]
        refine hKb2 _ _ ⟨C.args.length - (i + 1),by omega,Back.at (J:=[_]) (H2:=H ++ [.perm zbJ 1 (d + 1),.perm zbJ 1 ((zaV (data.take d)).length + k + 1),.cells [.str D.name,.int .i64 D.vars,.sl (D.cons.map Con.cs) .none]]) (by simp; rfl) (by simp) hsc2 ?_ ⟨_,rfl,i + 1,by omega,rfl,by simp,zcn hil hok3 hg,rfl⟩⟩
        simp [zkL,AV.sc,AV.scV,AV.scA,AV.scB]
       simp [zp9,hil,hvx,hx,hy,hz]
       rw [← hvx]
       refine zy8 _ _ _ (by omega) _ _ ?_
       cases hself : zcs d D.vars C.args[i] with
       | true=>
        rw [hvx]
        simp
        exact good (by simp [zej,hself])
       | false=>
        simp [hvx]
        refine ⟨⟨by omega,fun a _=>rfl⟩,?_⟩
        rw [← List.map_take,← hvx]
        refine zay (.bool (zaz (data.take d) D.vars C.args[i])) (fun J=>zgo (data.take d) (by simp; omega) _ _ (by omega) _ _ ⟨rfl,rfl⟩) ?_
        cases hty : zaz (data.take d) D.vars C.args[i] with
        | false=>simp; exact habad (by simp [zej,hself,hty]) _
        | true=>
         rw [hvx]
         simp
         exact good (by simp [zej,hty])
      ·obtain rfl : i = C.args.length:=by omega
       rw [List.take_length] at *
       simp [zp9]
       rw [zaq (by omega) (by omega)]
       refine hKb1 _ _ ⟨D.cons.length - (k + 1),by omega,Back.here (by simp) hsc2 ?_ ⟨_,_,rfl,k + 1,by omega,rfl,by simp,rfl,?_,by simp [Nat.add_assoc]⟩⟩
       ·simp [zkK,AV.sc,AV.scV,AV.scA,AV.scB]
       ·exact zcn hkl hck (by rw [hC]; exact ⟨hupc,by omega,hok3⟩)
    ·obtain rfl : k = D.cons.length:=by omega
     rw [List.take_length] at *
     simp [zp8]
     rw [zaq (by omega) (by omega)]
     refine hKb _ _ ⟨data.length - (d + 1),by omega,Back.at (J:=[_]) (H2:=H ++ [.perm zbJ 1 (d + 1),.perm zbJ 1 (zaV (data.take (d + 1))).length]) (by rw [hcs]; simp; rfl) (by simp) (hsP _ _) ?_ ⟨_,_,_,rfl,d + 1,by omega,rfl,by simp,rfl,by rw [hcs]; exact congrArg (fun l=>AV.sl (strs (zaV (data.take d) ++ l)) (.own (H.length + 1))) (List.take_of_length_le (Nat.le_of_eq (List.length_map _))),fun j hj hji=>?_,rfl⟩⟩
     ·simp [zkM,AV.sc,AV.scV,AV.scA,AV.scB]
     ·by_cases hjd : j = d
      ·subst hjd; rw [hD]; exact ⟨by omega,by omega,by omega,by omega,hup,hck⟩
      ·exact hok j hj (by omega)
  ·obtain rfl : d = data.length:=by omega
   rw [List.take_length] at *
   have hdn : (zbw data).length = data.length:=by simp [zbw]
   have hcn':=hcn data.length
   rw [List.take_length] at hcn'
   simp [zfv]
   refine zn3 _ (by omega) _ _ ?_
   cases hr : zcb (zbw data) with
   | true=>
    simp
    refine hT _ ?_ _
    simp
    intro h
    have:=zi2 h.names
    rw [hr] at this; cases this
   | false=>
    simp
    refine zn3 _ (by omega) _ _ ?_
    refine hT _ ?_ _
    simp only [zcb,Bool.not_eq_false',decide_eq_true_eq,Bool.not_not] at hr ⊢
    exact ⟨fun h=>⟨by omega,fun j hj=>hok j hj hj,hr,h⟩,fun h=>h.cons⟩
def cnt (n : Nat) (S : List Int) : List Int:=(List.range n).map fun (i : Nat)=>((S.count (i : Int) : Nat) : Int)
@[simp] theorem zR3 (n : Nat) (S : List Int) : (cnt n S).length = n:=by simp [cnt]
theorem zea {n i : Nat} {S : List Int} (h : i < (cnt n S).length) : (cnt n S)[i] = ((S.count (i : Int) : Nat) : Int):=by simp [cnt]
theorem zmM (n : Nat) : List.replicate n (0 : Int) = cnt n []:=by
 apply List.ext_getElem <;> simp [cnt]
theorem zmN {n e : Nat} (S : List Int) (h : e < n) : (cnt n S).set e (((S.count (e : Int) : Nat) : Int) + 1) = cnt n (S ++ [(e : Int)]):=by
 apply List.ext_getElem
 ·simp
 ·intro k h1 h2
  rw [List.getElem_set,zea,zea,List.count_append]
  by_cases hk : e = k
  ·subst hk; simp
  ·have : ¬ (e : Int) = k:=by omega
   simp [hk,List.count_singleton,this]
def boB (st : List Bool) : AB:=.cells (zas st)
theorem zit {H : zaa} {id n : Nat} {l : List Int} {st : List Bool} {b : Bool} (hid : H[id]? = some (boB st)) (hst : st.length = n) (hl : l.length ≤ 1000000) (hr : ∀ x ∈ l,0 ≤ x ∧ x < (n : Int)) (K : AV → zaa → Prop)
  (hK : K (.tup []) (H.set id (boB (zaG st l b)))) : ACalls tP zfY [.ms id 0 n n,.sl (ints l) .none,.bool b] H K:=by
 refine zKO fun hs=>?_
 have hil:=zb0 hid
 simp [zxq]
 refine zKM (Inv:=fun q t10 H'=>∃ j : Nat,j ≤ l.length ∧ q = l.length - j ∧ t10 = .int .i64 j ∧ H' = H.set id (boB (zaG st (l.take j) b))) l.length ?_ ?_
 ·intro _; exact ⟨0,by omega,by omega,rfl,by simp [zaG,zel hid]⟩
 ·rintro q t10 H' ⟨j,hj,rfl,rfl,rfl⟩ hsc hlen hsF Kb hKb
  have hg : ∀ st,(H.set id (boB st))[id]? = some (.cells (zas st)):=fun us=>by rw [zc8 _ hid]; rfl
  by_cases hjl : j < l.length
  ·have hrr:=hr _ (List.getElem_mem hjl)
   obtain ⟨e,he⟩ : ∃ e : Nat,l[j] = e:=⟨(l[j]).toNat,by omega⟩
   have hen : e < n:=by omega
   have hnx : zaG st (l.take (j + 1)) b = (zaG st (l.take j) b).set e b:=by rw [zbX hjl,zoc,he]; rfl
   have hsl : (zaG st (l.take j) b).length = n:=by rw [zob,hst]
   generalize zaG st (l.take j) b = st1 at *
   simp [zqw,hjl,he,hen,hg,hsl]
   rw [zaq (by omega) (by omega),zcy (by omega)]
   refine ⟨by omega,hKb _ _ ⟨l.length - (j + 1),by omega,Back.here (by simp) (hs.set (by simp [AB.sc,zck])) ?_ ⟨_,rfl,j + 1,by omega,rfl,by simp,by rw [hnx]; rfl⟩⟩⟩
   simp [zlb,AV.sc,AV.scV,AV.scA,AV.scB]; omega
  ·obtain rfl : j = l.length:=by omega
   rw [List.take_length] at *
   simp [zqw]
   simpa [za6] using hK
mutual
def zbF (c : Cor) : Nat → Nat → List Bool → Bool × List Bool
 | 0,_,st=>(false,st)
 | m + 1,i,st=>match c.exprs[i]? with
  | none=>(false,st)
  | some e=>if e.vars.all (fun v=>decide (0 ≤ v) && st.getD v.toNat false) = true then zci c m e.binds e.kids st else (false,st)
termination_by m _ _=>(m,0)
def zci (c : Cor) (m : Nat) : List (List Int) → List Int → List Bool → Bool × List Bool
 | b :: bs,k :: ks,st=>match zbF c m k.toNat (zaG st b true) with
  | (false,st')=>(false,zaG st' b false)
  | (true,st')=>zci c m bs ks (zaG st' b false)
 | [],_,st=>(true,st)
 | _ :: _,[],st=>(true,st)
termination_by bs _ _=>(m,bs.length + 1)
end
theorem zDF {c : Cor} {m : Nat} (ih : ∀ i st,zbh c m i st = if (zbF c m i st).1 = true then some (zbF c m i st).2 else none) : ∀ (bs : List (List Int)) (ks : List Int) (st : List Bool),zbO c m bs ks st = if (zci c m bs ks st).1 = true then some (zci c m bs ks st).2 else none:=by
 intro bs
 induction bs with
 | nil=>intro ks st; simp [zbO,zci]
 | cons b bs ihb=>
  intro ks st
  cases ks with
  | nil=>simp [zbO,zci]
  | cons k ks=>
   rw [zbO,zci,ih]
   cases hv : zbF c m k.toNat (zaG st b true) with
   | mk b1 s1=>cases b1 <;> simp [ihb]
theorem zDI (c : Cor) : ∀ (m i : Nat) (st : List Bool),zbh c m i st = if (zbF c m i st).1 = true then some (zbF c m i st).2 else none:=by
 intro m
 induction m with
 | zero=>intro i st; simp [zbh,zbF]
 | succ m ih=>
  intro i st
  rw [zbh,zbF]
  cases c.exprs[i]? with
  | none=>simp
  | some e=>
   simp only []
   by_cases hh : (e.vars.all fun v=>decide (0 ≤ v) && st.getD v.toNat false) = true
   ·rw [if_pos hh,if_pos hh]; exact zDF ih _ _ _
   ·rw [if_neg hh,if_neg hh]; simp
theorem zDH {c : Cor} {m : Nat} (ih : ∀ i st,(zbF c m i st).2.length = st.length) : ∀ (bs : List (List Int)) (ks : List Int) (st : List Bool),(zci c m bs ks st).2.length = st.length:=by
 intro bs
 induction bs with
 | nil=>intro ks st; simp [zci]
 | cons b bs ihb=>
  intro ks st
  cases ks with
  | nil=>simp [zci]
  | cons k ks=>
   rw [zci]
   have h1:=ih k.toNat (zaG st b true)
   cases hv : zbF c m k.toNat (zaG st b true) with
   | mk b1 s1=>
    rw [hv] at h1
    simp at h1
    cases b1 <;> simp [ihb,h1]
theorem zDJ (c : Cor) : ∀ (m i : Nat) (st : List Bool),(zbF c m i st).2.length = st.length:=by
 intro m
 induction m with
 | zero=>intro i st; simp [zbF]
 | succ m ih=>
  intro i st
  rw [zbF]
  split
  ·rfl
  ·split
   ·exact zDH ih _ _ _
   ·rfl
theorem zDG (c : Cor) (m : Nat) {bs : List (List Int)} {ks : List Int} {j : Nat} (h1 : j < bs.length) (h2 : j < ks.length) (st : List Bool) : zci c m (bs.drop j) (ks.drop j) st = match zbF c m (ks[j]).toNat (zaG st bs[j] true) with
  | (false,st')=>(false,zaG st' bs[j] false)
  | (true,st')=>zci c m (bs.drop (j + 1)) (ks.drop (j + 1)) (zaG st' bs[j] false):=by
 rw [List.drop_eq_getElem_cons h1,List.drop_eq_getElem_cons h2,zci]
theorem zCA {c : Cor} (hp : InP c) (hvv : ∀ i (h : i < c.exprs.length),inV c (c.exprs[i]).vars) : ∀ (m i : Nat),c.exprs.length - i ≤ m → i < c.exprs.length → ∀ (st : List Bool) (H : zaa) (id : Nat),H[id]? = some (boB st) → st.length = c.vars.length → ∀ (K : AV → zaa → Prop),
  K (.bool (zbF c m i st).1) (H.set id (boB (zbF c m i st).2)) →
  ACalls tP ziK [.agg c.cs,.int .i64 i,.ms id 0 c.vars.length c.vars.length] H K:=by
 intro m
 induction m with
 | zero=>intro i h1 h2; omega
 | succ m ih=>
 intro i hm hi st H id hid hst K hK1
 refine ACalls.out (zKY fun hs=>?_)
 have hil:=zb0 hid
 obtain ⟨x,y,z,hv,hx,hy,hz,hat⟩:=zdw hi
 obtain ⟨k1,k2,k3,⟨k4,k5⟩,k6,k7⟩:=hp.kcore
 obtain ⟨kv,kb,kk,_,kbl⟩:=k7 _ (List.getElem_mem hi)
 have hbk:=hp.binds i hi
 have hkd:=hp.kids i hi
 have hbr:=hp.brange i hi
 have hvr:=hvv i hi
 have hvis : zbF c (m + 1) i st = if (c.exprs[i]).vars.all (fun v=>decide (0 ≤ v) && st.getD v.toNat false) = true then zci c m (c.exprs[i]).binds (c.exprs[i]).kids st else (false,st):=by
  rw [zbF,List.getElem?_eq_getElem hi]
 rw [hvis] at hK1
 have hC : c.cs = [.sl (c.data.map Dat.cs) .none,.sl (c.codes.map Cod.cs) .none,.sl (VT.css c.vars) .none,.sl (c.exprs.map CEx.cs) .none]:=rfl
 have scB : ∀ st : List Bool,(boB st).sc H.length = true:=fun st=>by simp [boB,AB.sc,zck]
 have hset : ∀ st J,(H.set id (boB st) ++ J)[id]? = some (.cells (zas st)):=fun st J=>zaO (zc8 _ hid)
 have hlen1 : ∀ st J k,(H.set id (boB st) ++ J)[H.length + k]? = J[k]?:=fun st J k=>by
  have:=zij (H.set id (boB st)) J k
  rwa [List.length_set] at this
 have hss : ∀ st st2 J,(H.set id (boB st) ++ J).set id (boB st2) = H.set id (boB st2) ++ J:=fun st st2 J=>by
  rw [zdK _ (zc8 _ hid),List.set_set]
 have hO : ∀ b st' J,(if (c.exprs[i]).vars.all (fun v=>decide (0 ≤ v) && st.getD v.toNat false) = true then zci c m (c.exprs[i]).binds (c.exprs[i]).kids st else (false,st)) = (b,st') → Out H.length K (.bool b) (H.set id (boB st') ++ J):=fun b st' J h=>by
  rw [h] at hK1
  exact Out.bool rfl (by simp) (hs.set (scB _)) hK1
 simp [zxs,hC,hi,hat,hx,hy,hz]
 generalize hE : c.exprs[i] = E at *
 have hscX : ∀ st',HSc (H.set id (boB st') ++ [.cells [.sl (c.data.map Dat.cs) .none,.sl (c.codes.map Cod.cs) .none,.sl (VT.css c.vars) .none,.sl (c.exprs.map CEx.cs) .none],.cells [.int .i64 E.op,.int .i64 E.num,.sl (ints E.vars) .none,.sl (rows E.binds) .none,.sl (ints E.kids) .none,x,y,z]]):=fun st'=>by
  refine (hs.set (scB _)).append ?_
  have:=VT.cs_scA E.ty (H.length + 2)
  rw [hv] at this
  simp at this
  simp [AB.sc,this]
 have hH0 : H = H.set id (boB st):=(zel hid).symm
 refine zKU (Inv:=fun q t20 H'=>∃ j : Nat,j ≤ E.vars.length ∧ q = E.vars.length - j ∧ t20 = .int .i64 j ∧ (∀ v ∈ E.vars.take j,(decide (0 ≤ v) && st.getD v.toNat false) = true) ∧ H' = H.set id (boB st) ++ [.cells [.sl (c.data.map Dat.cs) .none,.sl (c.codes.map Cod.cs) .none,.sl (VT.css c.vars) .none,.sl (c.exprs.map CEx.cs) .none],.cells [.int .i64 E.op,.int .i64 E.num,.sl (ints E.vars) .none,.sl (rows E.binds) .none,.sl (ints E.kids) .none,x,y,z]]) E.vars.length ?_ ?_
 ·intro _; exact ⟨0,by omega,by omega,rfl,by simp,by rw [zel hid]⟩
 ·rintro q t20 H' ⟨j,hj,rfl,rfl,hok,rfl⟩ hsc hlen hsF Kb hKb
  by_cases hjl : j < E.vars.length
  ·have hrr:=hvr _ (List.getElem_mem hjl)
   obtain ⟨e,he⟩ : ∃ e : Nat,E.vars[j] = e:=⟨(E.vars[j]).toNat,by omega⟩
   have hen : e < c.vars.length:=by omega
   have hes : e < st.length:=by omega
   cases hse : st[e] with
   | false=>
    simp [zlc,hjl,he,hen,hset,zaS,hes,hse]
    refine hO _ _ _ ?_
    rw [if_neg]
    intro h'
    rw [List.all_eq_true] at h'
    have:=h' _ (List.getElem_mem hjl)
    rw [he] at this; simp [hes,hse] at this
   | true=>
    simp [zlc,hjl,he,hen,hset,zaS,hes,hse]
    rw [zaq (by omega) (by omega)]
    refine hKb _ _ ⟨E.vars.length - (j + 1),by omega,Back.here (by simp) (hscX _) ?_ ⟨_,rfl,j + 1,by omega,rfl,by simp,?_,rfl⟩⟩
    ·simp [zld,AV.sc,AV.scV,AV.scA,AV.scB]; omega
    ·exact zcn hjl hok (by rw [he]; simp [hes,hse])
  ·obtain rfl : j = E.vars.length:=by omega
   rw [List.take_length] at hok
   have hall : E.vars.all (fun v=>decide (0 ≤ v) && st.getD v.toNat false) = true:=by rw [List.all_eq_true]; exact hok
   simp [zlc,hlen1]
   refine zKV (Inv:=fun q t33 H'=>∃ (j : Nat) (st1 : List Bool),j ≤ E.kids.length ∧ q = E.kids.length - j ∧ t33 = .int .i64 j ∧ st1.length = c.vars.length ∧ zci c m (E.binds.drop j) (E.kids.drop j) st1 = zci c m E.binds E.kids st ∧ H' = H.set id (boB st1) ++ [.cells [.sl (c.data.map Dat.cs) .none,.sl (c.codes.map Cod.cs) .none,.sl (VT.css c.vars) .none,.sl (c.exprs.map CEx.cs) .none],.cells [.int .i64 E.op,.int .i64 E.num,.sl (ints E.vars) .none,.sl (rows E.binds) .none,.sl (ints E.kids) .none,x,y,z]]) E.kids.length ?_ ?_
   ·intro _; exact ⟨0,st,by omega,by omega,rfl,hst,by simp,rfl⟩
   ·rintro q t33 H' ⟨j,st1,hj,rfl,rfl,hs1,hvk,rfl⟩ hsc1 hlen2 hsF1 Kb1 hKb1
    by_cases hjl : j < E.kids.length
    ·have hjb : j < E.binds.length:=by omega
     rw [zDG c m hjb hjl] at hvk
     have hkr:=hkd _ (List.getElem_mem hjl)
     obtain ⟨k,hk⟩ : ∃ k : Nat,E.kids[j] = k:=⟨(E.kids[j]).toNat,by omega⟩
     have hbl:=kbl _ (List.getElem_mem hjb)
     have hbr':=hbr _ (List.getElem_mem hjb)
     rw [hk,Int.toNat_natCast] at hvk
     simp [zqy,hjl,hk,hlen1,hjb]
     refine zit (hset st1 _) hs1 (by omega) hbr' _ ?_
     rw [hss]
     simp [hlen1,hjl,hk]
     rw [← hC]
     have hs2 : (zaG st1 E.binds[j] true).length = c.vars.length:=by simpa using hs1
     have hs3:=zDJ c m k (zaG st1 E.binds[j] true)
     rw [hs2] at hs3
     cases hvg : zbF c m k (zaG st1 E.binds[j] true) with
     | mk ok st2=>
     rw [hvg] at hvk hs3
     refine zdt (.bool ok) (H.set id (boB st2) ++ [.cells c.cs,.cells [.int .i64 E.op,.int .i64 E.num,.sl (ints E.vars) .none,.sl (rows E.binds) .none,.sl (ints E.kids) .none,x,y,z]]) (ih k (by omega) (by omega) _ _ id (hset _ _) hs2 _ (by rw [hvg]; exact ⟨rfl,hss _ _ _⟩)) ?_
     simp [hlen1,hjb]
     refine zit (hset st2 _) hs3 (by omega) hbr' _ ?_
     rw [hss]
     cases ok with
     | false=>
      simp
      refine hO _ _ _ ?_
      rw [if_pos hall]; exact hvk.symm
     | true=>
      simp
      rw [zaq (by omega) (by omega)]
      refine hKb1 _ _ ⟨E.kids.length - (j + 1),by omega,Back.here (by simp) (hscX _) ?_ ⟨_,rfl,j + 1,zaG st2 E.binds[j] false,by omega,rfl,by simp,by simpa using hs3,hvk,rfl⟩⟩
      simp [zle,AV.sc,AV.scV,AV.scA,AV.scB]; omega
    ·obtain rfl : j = E.kids.length:=by omega
     rw [List.drop_length,← hbk,List.drop_length,zci] at hvk
     simp [zqy]
     refine hO _ _ _ ?_
     rw [if_pos hall]; exact hvk.symm
end Go.Proofs.Ytkdmpbhbmmhijaa
