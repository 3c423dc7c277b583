import Derived.Test.YtkdmpbhbmmhijaaKC10
set_option linter.unusedSimpArgs false
set_option linter.unusedVariables false
namespace Go.Proofs.Ytkdmpbhbmmhijaa
open Go Go.Abs
set_option maxRecDepth 8000
def ScP (c : Cor) : Prop:=∀ i (h : i < c.codes.length),(zbF c c.exprs.length (c.codes[i]).body.toNat (zdp c c.codes[i])).1 = true
theorem zBR {c : Cor} (hc : zaP c) (hcodes : ∀ i (h : i < c.codes.length),RCode c i c.codes[i]) (hexprs : ∀ i (h : i < c.exprs.length),RExpr c i c.exprs[i]) {H : zaa} (hs : HSc H) {S T M : List Int} {m : Nat} (K : AV → zaa → Prop) (hb : ∀ b : Bool,(b = true ↔ ScP c) → ∀ J,Out H.length K (.bool b) (H ++ J)) :
  zpl (.ptr H.length 0) (.sl (c.codes.map Cod.cs) .none) (.int .i64 c.codes.length) (.int .i64 0) (vH H c S T M m) (Out H.length K):=by
 have hbJ : ∀ b : Bool,(b = true ↔ ScP c) → ∀ J,Out H.length K (.bool b) (vH H c S T M m ++ J):=fun b h J=>by rw [vH,List.append_assoc]; exact hb b h _
 obtain ⟨k1,k2,k3,⟨k4,k5⟩,k6,k7⟩:=hc
 have hp : InP c:=⟨⟨k1,k2,k3,⟨k4,k5⟩,k6,k7⟩,fun i h=>(hexprs i h).bk,fun i h k hk=>⟨(hexprs i h).kids k hk,((hexprs i h).range k hk).2⟩,fun i h=>(hexprs i h).binds,fun i h=>⟨(hcodes i h).rp,(hcodes i h).rc⟩,fun i h=>by obtain ⟨b,h1,h2,_⟩:=(hcodes i h).body; exact ⟨b,h1,h2⟩⟩
 refine zGS (Inv:=fun q t326 H'=>∃ i : Nat,i ≤ c.codes.length ∧ q = c.codes.length - i ∧ t326 = .int .i64 i ∧ (∀ j (h : j < c.codes.length),j < i → (zbF c c.exprs.length (c.codes[j]).body.toNat (zdp c c.codes[j])).1 = true) ∧ H' = vH H c S T M m) c.codes.length ?_ ?_
 ·intro _; exact ⟨0,by omega,by omega,rfl,by omega,rfl⟩
 ·rintro q t326 H' ⟨i,hi,rfl,rfl,hok,rfl⟩ hsc hlen hsF Kb hKb
  by_cases hlt : i < c.codes.length
  ·have hcat : (c.codes[i]).cs = zbl c.codes[i]:=zfR _
   obtain ⟨_,kp,kc,_⟩:=k6 _ (List.getElem_mem hlt)
   have hR:=hcodes i hlt
   obtain ⟨b,hbb,hbl,_⟩:=hR.body
   have hrp:=hR.rp
   have hrc:=hR.rc
   have hbad : (zbF c c.exprs.length (c.codes[i]).body.toNat (zdp c c.codes[i])).1 = false → ¬ ScP c:=fun h hh=>by rw [hh i hlt] at h; cases h
   have hgd : (zbF c c.exprs.length (c.codes[i]).body.toNat (zdp c c.codes[i])).1 = true → ∀ j (h : j < c.codes.length),j < i + 1 → (zbF c c.exprs.length (c.codes[j]).body.toNat (zdp c c.codes[j])).1 = true:=fun h j hj hji=>by
    by_cases e : j = i
    ·subst e; exact h
    ·exact hok j hj (by omega)
   generalize hf : c.codes[i] = f at *
   rw [hbb,Int.toNat_natCast] at hbad hgd
   have g0:=vH0 H c S T M m
   have g5:=vH5 H c S T M m
   have g50 : ∀ J,(vH H c S T M m ++ J)[H.length + 5]? = J[0]?:=fun J=>by have:=g5 0 J; simpa using this
   simp [zpe,hlt,hf,hcat,zbl,g0,zaJ]
   simp only [zaN,Int.toNat_natCast,zgI]
   refine ⟨⟨by omega,by omega,by omega,by omega⟩,?_⟩
   simp [g0,g50,zaJ]
   obtain ⟨B,hB⟩ : ∃ B,B = vH H c S T M m ++ [.cells [.str f.name,.sl (ints f.params) .none,.sl (ints f.capt) .none,.int .i64 f.res.kind,.int .i64 f.res.num,.sl (VT.css f.res.kids) .none,.int .i64 f.body]]:=⟨_,rfl⟩
   have hBl : B.length = H.length + 6:=by rw [hB]; simp
   have hset : ∀ st st',(B ++ [boB st]).set (H.length + 6) (boB st') = B ++ [boB st']:=fun st st'=>by rw [← hBl]; simp
   have hget : ∀ st,(B ++ [boB st])[H.length + 6]? = some (boB st):=fun st=>by rw [← hBl]; simp
   have hb0 : ∀ st,(B ++ [boB st])[H.length]? = some (.cells (zaJ c)):=fun st=>by rw [hB,List.append_assoc]; exact g0 _
   have hb5 : ∀ st,(B ++ [boB st])[H.length + 5]? = some (.cells [.str f.name,.sl (ints f.params) .none,.sl (ints f.capt) .none,.int .i64 f.res.kind,.int .i64 f.res.num,.sl (VT.css f.res.kids) .none,.int .i64 f.body]):=fun st=>by rw [hB,List.append_assoc,g50]; rfl
   have hHB : ∀ st,vH H c S T M m ++ [.cells [.str f.name,.sl (ints f.params) .none,.sl (ints f.capt) .none,.int .i64 f.res.kind,.int .i64 f.res.num,.sl (VT.css f.res.kids) .none,.int .i64 f.body],.cells (zas st)] = B ++ [boB st]:=fun st=>by rw [hB]; simp [boB]
   rw [hHB]
   refine zit (hget _) (by simp) (by omega) hrp _ ?_
   rw [hset]
   simp [hb5]
   refine zit (hget _) (by simp) (by omega) hrc _ ?_
   rw [hset]
   simp [hb0,hb5,zaJ,hbb]
   refine zCA hp (fun i h=>(hexprs i h).vars) c.exprs.length b (by omega) hbl (zdp c f) _ _ (hget _) (by simp [zdp]) _ ?_
   rw [hset]
   cases hv : (zbF c c.exprs.length b (zdp c f)).1 with
   | false=>
    simp
    rw [hB,List.append_assoc]
    exact hbJ _ (by simp; exact hbad hv) _
   | true=>
    simp
    rw [zaq (by omega) (by omega),hB,List.append_assoc]
    refine hKb _ _ ⟨c.codes.length - (i + 1),by omega,Back.at (H2:=vH H c S T M m) rfl (by simp) (zeq hs _ _ _ _ _) ?_ ⟨_,rfl,i + 1,by omega,rfl,by simp,hgd hv,rfl⟩⟩
    simp [zj7,AV.sc,AV.scV,AV.scA,AV.scB]
  ·obtain rfl : i = c.codes.length:=by omega
   simp [zpe]
   have:=hbJ true (by simp; exact fun j hj=>hok j hj hj) []
   simpa using this
structure RuP (c : Cor) : Prop where
 rules : ∀ i (h : i < c.exprs.length),zdB c c.exprs[i] = true
 sc : ScP c
theorem zBQ {c : Cor} (hc : zaP c) (hvars : ∀ v ∈ c.vars,zaz c.data 0 v = true) (hcodes : ∀ i (h : i < c.codes.length),RCode c i c.codes[i]) (hexprs : ∀ i (h : i < c.exprs.length),RExpr c i c.exprs[i]) {H : zaa} (hs : HSc H) {S T M : List Int} {m : Nat} (K : AV → zaa → Prop) (hb : ∀ b : Bool,(b = true ↔ RuP c) → ∀ J,Out H.length K (.bool b) (H ++ J)) :
  zpk (.ptr H.length 0) (.int .i64 c.exprs.length) (.int .i64 0) (vH H c S T M m) (Out H.length K):=by
 have hbJ : ∀ b : Bool,(b = true ↔ RuP c) → ∀ J,Out H.length K (.bool b) (vH H c S T M m ++ J):=fun b h J=>by rw [vH,List.append_assoc]; exact hb b h _
 have hc':=hc
 obtain ⟨k1,k2,k3,⟨k4,k5⟩,k6,k7⟩:=hc
 have hex : ∀ i (h : i < c.exprs.length),ExIn c c.exprs[i]:=fun i h=>⟨hc',k7 _ (List.getElem_mem h),(hexprs i h).vars,(hexprs i h).range,(hexprs i h).bk,(hexprs i h).binds,fun f hf=>by
  obtain ⟨j,hj,rfl⟩:=List.getElem_of_mem hf
  exact ⟨(hcodes j hj).rp,(hcodes j hj).rc⟩,hvars⟩
 refine zGR (Inv:=fun q t311 H'=>∃ i : Nat,i ≤ c.exprs.length ∧ q = c.exprs.length - i ∧ t311 = .int .i64 i ∧ (∀ j (h : j < c.exprs.length),j < i → zdB c c.exprs[j] = true) ∧ H' = vH H c S T M m) c.exprs.length ?_ ?_
 ·intro _; exact ⟨0,by omega,by omega,rfl,by omega,rfl⟩
 ·rintro q t311 H' ⟨i,hi,rfl,rfl,hok,rfl⟩ hsc hlen hsF Kb hKb
  have g0 : ∀ h,(vH H c S T M m)[H.length]'h = .cells (zaJ c):=fun h=>by simp [vH]
  by_cases hlt : i < c.exprs.length
  ·have hat : (c.exprs[i]).cs = [.int .i64 (c.exprs[i]).op,.int .i64 (c.exprs[i]).num,.sl (ints (c.exprs[i]).vars) .none,.sl (rows (c.exprs[i]).binds) .none,.sl (ints (c.exprs[i]).kids) .none,.int .i64 (c.exprs[i]).ty.kind,.int .i64 (c.exprs[i]).ty.num,.sl (VT.css (c.exprs[i]).ty.kids) .none]:=by rw [CEx.cs,zat]
   have hcc : c.cs = [.sl (c.data.map Dat.cs) .none,.sl (c.codes.map Cod.cs) .none,.sl (VT.css c.vars) .none,.sl (c.exprs.map CEx.cs) .none]:=rfl
   simp [zpd,hlt,g0,zaJ,hat,zal]
   rw [← hcc,← hat]
   refine zdt (.bool (zdB c c.exprs[i])) _ (zCr (hex i hlt) (fun h=>by obtain ⟨h1,h2⟩:=(hexprs i hlt).lam h; exact ⟨(c.exprs[i]).num.toNat,by omega,by omega⟩) _ _ ⟨rfl,rfl⟩) ?_
   cases hr : zdB c c.exprs[i] with
   | false=>
    simp
    have:=hbJ false (by simp; intro h; have:=h.rules i hlt; rw [hr] at this; cases this) []
    simpa using this
   | true=>
    simp
    rw [zaq (by omega) (by omega)]
    refine hKb _ _ ⟨c.exprs.length - (i + 1),by omega,Back.here (by simp) (zeq hs _ _ _ _ _) ?_ ⟨_,rfl,i + 1,by omega,rfl,by simp,fun j hj hji=>?_,rfl⟩⟩
    ·simp [zj6,AV.sc,AV.scV,AV.scA,AV.scB]
    ·by_cases e : j = i
     ·subst e; exact hr
     ·exact hok j hj (by omega)
  ·obtain rfl : i = c.exprs.length:=by omega
   simp [zpd,g0,zaJ]
   refine zBR hc' hcodes hexprs hs K fun b h J=>hb b ?_ J
   rw [h]
   exact ⟨fun h=>⟨fun j hj=>hok j hj hj,h⟩,fun h=>h.sc⟩
structure MaP (c : Cor) (M : List Int) : Prop where
 made : ∀ i (h : i < c.codes.length),M.count (i : Int) = if (c.codes[i]).name = [] then 1 else 0
 ru : RuP c
theorem zBP {c : Cor} (hc : zaP c) (hvars : ∀ v ∈ c.vars,zaz c.data 0 v = true) (hcodes : ∀ i (h : i < c.codes.length),RCode c i c.codes[i]) (hexprs : ∀ i (h : i < c.exprs.length),RExpr c i c.exprs[i]) {H : zaa} (hs : HSc H) {S T M : List Int} {m : Nat} (K : AV → zaa → Prop) (hb : ∀ b : Bool,(b = true ↔ MaP c M) → ∀ J,Out H.length K (.bool b) (H ++ J)) :
  zpj (.ptr H.length 0) (.ms (H.length + 3) 0 c.codes.length c.codes.length) (.int .i64 c.codes.length) (.int .i64 0) (vH H c S T M m) (Out H.length K):=by
 have hF : ¬ MaP c M → Out H.length K (.bool false) (vH H c S T M m):=fun h=>by have:=hb false (by simp [h]) [.cells (zaJ c),usB (cnt c.vars.length S),usB (cnt c.exprs.length T),usB (cnt c.codes.length M),.perm zbJ 1 m]; exact this
 have hc':=hc
 obtain ⟨k1,k2,k3,⟨k4,k5⟩,k6,k7⟩:=hc
 refine zGQ (Inv:=fun q t278 H'=>∃ i : Nat,i ≤ c.codes.length ∧ q = c.codes.length - i ∧ t278 = .int .i64 i ∧ (∀ j (h : j < c.codes.length),j < i → M.count (j : Int) = if (c.codes[j]).name = [] then 1 else 0) ∧ H' = vH H c S T M m) c.codes.length ?_ ?_
 ·intro _; exact ⟨0,by omega,by omega,rfl,by omega,rfl⟩
 ·rintro q t278 H' ⟨i,hi,rfl,rfl,hok,rfl⟩ hsc hlen hsF Kb hKb
  have g0 : ∀ h,(vH H c S T M m)[H.length]'h = .cells (zaJ c):=fun h=>by simp [vH]
  have g3 : ∀ h,(vH H c S T M m)[H.length + 3]'h = .cells ((cnt c.codes.length M).map fun n=>.int .i64 n):=fun h=>by simp [vH,usB]
  by_cases hlt : i < c.codes.length
  ·have hel : i < (cnt c.codes.length M).length:=by simpa using hlt
   have hcat : (c.codes[i]).cs = zbl c.codes[i]:=zfR _
   have hu1 : ∀ k : AV → Prop,zaS false 1 i ((cnt c.codes.length M).map fun n=>AV.int .i64 n) k = k (.int .i64 ((M.count (i : Int) : Nat) : Int)):=fun k=>by rw [zaK 1 (zeN hel),zea]
   have good : (M.count (i : Int) = if (c.codes[i]).name = [] then 1 else 0) → Kb (zho (.ptr H.length 0) (.ms (H.length + 3) 0 c.codes.length c.codes.length) (.int .i64 c.codes.length) (.int .i64 ((i : Int) + 1))) (vH H c S T M m):=fun h=>by
    refine hKb _ _ ⟨c.codes.length - (i + 1),by omega,Back.here (by simp) (zeq hs _ _ _ _ _) ?_ ⟨_,rfl,i + 1,by omega,rfl,by simp,fun j hj hji=>?_,rfl⟩⟩
    ·simp [zho,AV.sc,AV.scV,AV.scA,AV.scB]
    ·by_cases e : j = i
     ·subst e; exact h
     ·exact hok j hj (by omega)
   have bad : ¬ (M.count (i : Int) = if (c.codes[i]).name = [] then 1 else 0) → ¬ MaP c M:=fun h hh=>h (hh.made i hlt)
   cases hnm : (c.codes[i]).name.isEmpty with
   | true=>
    have hn : (c.codes[i]).name = []:=by simpa using hnm
    rw [if_pos hn] at good bad
    by_cases h1 : M.count (i : Int) = 1
    ·have h1' : ((M.count (i : Int) : Int) != 1) = false:=by simp [h1]
     simp [zgg,hlt,g0,g3,hu1,zaJ,hcat,zbl,hnm,h1']
     rw [zaq (by omega) (by omega)]
     exact good h1
    ·have h1' : ((M.count (i : Int) : Int) != 1) = true:=nbt (by omega)
     simp [zgg,hlt,g0,g3,hu1,zaJ,hcat,zbl,hnm,h1']
     exact hF (bad h1)
   | false=>
    have hn : (c.codes[i]).name ≠ []:=by intro h; simp [h] at hnm
    rw [if_neg hn] at good bad
    by_cases h1 : M.count (i : Int) = 0
    ·have h1' : ((M.count (i : Int) : Int) != 0) = false:=by simp [h1]
     simp [zgg,hlt,g0,g3,hu1,zaJ,hcat,zbl,hnm,h1']
     rw [zaq (by omega) (by omega)]
     exact good h1
    ·have h1' : ((M.count (i : Int) : Int) != 0) = true:=nbt (by omega)
     simp [zgg,hlt,g0,g3,hu1,zaJ,hcat,zbl,hnm,h1']
     exact hF (bad h1)
  ·obtain rfl : i = c.codes.length:=by omega
   simp [zgg,g0,zaJ]
   refine zBQ hc' hvars hcodes hexprs hs K fun b h J=>hb b ?_ J
   rw [h]
   exact ⟨fun h=>⟨fun j hj=>hok j hj hj,h⟩,fun h=>h.ru⟩
structure PlP (c : Cor) (T M : List Int) : Prop where
 placed : ∀ v : Nat,v < c.exprs.length → T.count (v : Int) = 1
 ma : MaP c M
theorem zBO {c : Cor} (hc : zaP c) (hvars : ∀ v ∈ c.vars,zaz c.data 0 v = true) (hcodes : ∀ i (h : i < c.codes.length),RCode c i c.codes[i]) (hexprs : ∀ i (h : i < c.exprs.length),RExpr c i c.exprs[i]) {H : zaa} (hs : HSc H) {S T M : List Int} {m : Nat} (K : AV → zaa → Prop) (hb : ∀ b : Bool,(b = true ↔ PlP c T M) → ∀ J,Out H.length K (.bool b) (H ++ J)) :
  zpi (.ptr H.length 0) (.ms (H.length + 3) 0 c.codes.length c.codes.length) (.ms (H.length + 2) 0 c.exprs.length c.exprs.length) (.int .i64 c.exprs.length) (.int .i64 0) (vH H c S T M m) (Out H.length K):=by
 have hF : ¬ PlP c T M → Out H.length K (.bool false) (vH H c S T M m):=fun h=>by have:=hb false (by simp [h]) [.cells (zaJ c),usB (cnt c.vars.length S),usB (cnt c.exprs.length T),usB (cnt c.codes.length M),.perm zbJ 1 m]; exact this
 have hc':=hc
 obtain ⟨k1,k2,k3,⟨k4,k5⟩,k6,k7⟩:=hc
 refine zGP (Inv:=fun q t269 H'=>∃ i : Nat,i ≤ c.exprs.length ∧ q = c.exprs.length - i ∧ t269 = .int .i64 i ∧ (∀ j,j < i → T.count (j : Int) = 1) ∧ H' = vH H c S T M m) c.exprs.length ?_ ?_
 ·intro _; exact ⟨0,by omega,by omega,rfl,by omega,rfl⟩
 ·rintro q t269 H' ⟨i,hi,rfl,rfl,hok,rfl⟩ hsc hlen hsF Kb hKb
  have g3 : ∀ h,(vH H c S T M m)[H.length + 2]'h = .cells ((cnt c.exprs.length T).map fun n=>.int .i64 n):=fun h=>by simp [vH,usB]
  by_cases hlt : i < c.exprs.length
  ·have hel : i < (cnt c.exprs.length T).length:=by simpa using hlt
   have hu1 : ∀ k : AV → Prop,zaS false 1 i ((cnt c.exprs.length T).map fun n=>AV.int .i64 n) k = k (.int .i64 ((T.count (i : Int) : Nat) : Int)):=fun k=>by rw [zaK 1 (zeN hel),zea]
   by_cases h1 : T.count (i : Int) = 1
   ·have h1' : ((T.count (i : Int) : Int) != 1) = false:=by simp [h1]
    simp [zjX,hlt,g3,hu1,h1']
    rw [zaq (by omega) (by omega)]
    refine hKb _ _ ⟨c.exprs.length - (i + 1),by omega,Back.here (by simp) (zeq hs _ _ _ _ _) ?_ ⟨_,rfl,i + 1,by omega,rfl,by simp,fun j hji=>?_,rfl⟩⟩
    ·simp [zj5,AV.sc,AV.scV,AV.scA,AV.scB]
    ·by_cases e : j = i
     ·subst e; exact h1
     ·exact hok j (by omega)
   ·have h1' : ((T.count (i : Int) : Int) != 1) = true:=nbt (by omega)
    simp [zjX,hlt,g3,hu1,h1']
    exact hF fun h=>h1 (h.placed i hlt)
  ·obtain rfl : i = c.exprs.length:=by omega
   simp [zjX]
   refine zBP hc' hvars hcodes hexprs hs K fun b h J=>hb b ?_ J
   rw [h]
   exact ⟨fun h=>⟨hok,h⟩,fun h=>h.ma⟩
structure BoP (c : Cor) (S T M : List Int) : Prop where
 bound : ∀ v : Nat,v < c.vars.length → S.count (v : Int) = 1
 pl : PlP c T M
theorem zBN {c : Cor} (hc : zaP c) (hvars : ∀ v ∈ c.vars,zaz c.data 0 v = true) (hcodes : ∀ i (h : i < c.codes.length),RCode c i c.codes[i]) (hexprs : ∀ i (h : i < c.exprs.length),RExpr c i c.exprs[i]) {H : zaa} (hs : HSc H) {S T M : List Int} {m : Nat} (K : AV → zaa → Prop) (hb : ∀ b : Bool,(b = true ↔ BoP c S T M) → ∀ J,Out H.length K (.bool b) (H ++ J)) :
  zph (.ptr H.length 0) (.ms (H.length + 2) 0 c.exprs.length c.exprs.length) (.ms (H.length + 3) 0 c.codes.length c.codes.length) (.ms (H.length + 1) 0 c.vars.length c.vars.length) (.int .i64 c.vars.length) (.int .i64 0) (vH H c S T M m) (Out H.length K):=by
 have hF : ¬ BoP c S T M → Out H.length K (.bool false) (vH H c S T M m):=fun h=>by have:=hb false (by simp [h]) [.cells (zaJ c),usB (cnt c.vars.length S),usB (cnt c.exprs.length T),usB (cnt c.codes.length M),.perm zbJ 1 m]; exact this
 have hc':=hc
 obtain ⟨k1,k2,k3,⟨k4,k5⟩,k6,k7⟩:=hc
 refine zGO (Inv:=fun q t260 H'=>∃ i : Nat,i ≤ c.vars.length ∧ q = c.vars.length - i ∧ t260 = .int .i64 i ∧ (∀ j,j < i → S.count (j : Int) = 1) ∧ H' = vH H c S T M m) c.vars.length ?_ ?_
 ·intro _; exact ⟨0,by omega,by omega,rfl,by omega,rfl⟩
 ·rintro q t260 H' ⟨i,hi,rfl,rfl,hok,rfl⟩ hsc hlen hsF Kb hKb
  have g3 : ∀ h,(vH H c S T M m)[H.length + 1]'h = .cells ((cnt c.vars.length S).map fun n=>.int .i64 n):=fun h=>by simp [vH,usB]
  by_cases hlt : i < c.vars.length
  ·have hel : i < (cnt c.vars.length S).length:=by simpa using hlt
   have hu1 : ∀ k : AV → Prop,zaS false 1 i ((cnt c.vars.length S).map fun n=>AV.int .i64 n) k = k (.int .i64 ((S.count (i : Int) : Nat) : Int)):=fun k=>by rw [zaK 1 (zeN hel),zea]
   by_cases h1 : S.count (i : Int) = 1
   ·have h1' : ((S.count (i : Int) : Int) != 1) = false:=by simp [h1]
    simp [zjW,hlt,g3,hu1,h1']
    rw [zaq (by omega) (by omega)]
    refine hKb _ _ ⟨c.vars.length - (i + 1),by omega,Back.here (by simp) (zeq hs _ _ _ _ _) ?_ ⟨_,rfl,i + 1,by omega,rfl,by simp,fun j hji=>?_,rfl⟩⟩
    ·simp [zj4,AV.sc,AV.scV,AV.scA,AV.scB]
    ·by_cases e : j = i
     ·subst e; exact h1
     ·exact hok j (by omega)
   ·have h1' : ((S.count (i : Int) : Int) != 1) = true:=nbt (by omega)
    simp [zjW,hlt,g3,hu1,h1']
    exact hF fun h=>h1 (h.bound i hlt)
  ·obtain rfl : i = c.vars.length:=by omega
   simp [zjW]
   refine zBO hc' hvars hcodes hexprs hs K fun b h J=>hb b ?_ J
   rw [h]
   exact ⟨fun h=>⟨hok,h⟩,fun h=>h.pl⟩
theorem ztY {c : Cor} (hc : zaP c) (i : Nat) : (zaX c i).length ≤ 1200:=by
 obtain ⟨k1,k2,k3,⟨k4,k5⟩,k6,k7⟩:=hc
 have h:=zdx (fun f : Cod=>f.params ++ f.capt) 50 (c.codes.take i) (fun f hf=>by
  obtain ⟨_,h1,h2,_⟩:=k6 f (List.mem_of_mem_take hf)
  rw [List.length_append]; omega)
 have h2 : (c.codes.take i).length * 50 ≤ 24 * 50:=Nat.mul_le_mul_right _ (by rw [List.length_take]; omega)
 rw [zaX]; omega
theorem zs0 (l : List (List Int)) (h : ∀ r ∈ l,r.length ≤ 10) : l.flatten.length ≤ l.length * 10:=by
 have:=zdx (fun r : List Int=>r) 10 l h
 simpa [List.flatMap] using this
theorem zzA {c : Cor} (hc : zaP c) (i : Nat) : (zbI c i).length ≤ 16000:=by
 obtain ⟨k1,k2,k3,⟨k4,k5⟩,k6,k7⟩:=hc
 have h:=zdx (fun e : CEx=>e.binds.flatten) 100 (c.exprs.take i) (fun e he=>by
  obtain ⟨_,h1,_,_,h2⟩:=k7 e (List.mem_of_mem_take he)
  have:=zs0 e.binds h2
  have : e.binds.length * 10 ≤ 10 * 10:=Nat.mul_le_mul_right _ h1
  omega)
 have h2 : (c.exprs.take i).length * 100 ≤ 160 * 100:=Nat.mul_le_mul_right _ (by rw [List.length_take]; omega)
 rw [zbI]; omega
theorem zAW {c : Cor} (hc : zaP c) (i : Nat) : (zbm c i).length ≤ 1600:=by
 obtain ⟨k1,k2,k3,⟨k4,k5⟩,k6,k7⟩:=hc
 have h:=zdx CEx.kids 10 (c.exprs.take i) (fun e he=>(k7 e (List.mem_of_mem_take he)).2.2.1)
 have h2 : (c.exprs.take i).length * 10 ≤ 160 * 10:=Nat.mul_le_mul_right _ (by rw [List.length_take]; omega)
 rw [zbm]; omega
theorem zsp {c : Cor} (hc : zaP c) (i : Nat) : (zaU c i).length ≤ 24:=by
 obtain ⟨k1,k2,k3,⟨k4,k5⟩,k6,k7⟩:=hc
 simp [zaU]; omega
theorem zAX {c : Cor} {i : Nat} (h : i < c.exprs.length) : zbm c (i + 1) = zbm c i ++ (c.exprs[i]).kids:=by
 rw [zbm,zbX h,List.flatMap_append]; simp [zbm]
theorem ztl {c : Cor} {i : Nat} (h : i < c.exprs.length) : zce (c.exprs.take (i + 1)) = zce (c.exprs.take i) ++ (if (c.exprs[i]).op = 11 then [(c.exprs[i]).num] else []):=by
 rw [zce,zbX h,List.filter_append,List.map_append,zce]
 by_cases h1 : (c.exprs[i]).op = 11
 ·simp [h1]
 ·simp [h1]
theorem zA4 (l : List CEx) : (zce l).length ≤ l.length:=by
 rw [zce,List.length_map]; exact List.length_filter_le _ _
structure ExP (c : Cor) : Prop where
 exprs : ∀ i (h : i < c.exprs.length),RExpr c i c.exprs[i]
 bo : BoP c (zb4 c) (zcj c) (zce c.exprs)
theorem zBM {c : Cor} (hc : zaP c) (hvars : ∀ v ∈ c.vars,zaz c.data 0 v = true) (hcodes : ∀ i (h : i < c.codes.length),RCode c i c.codes[i]) {H : zaa} (hs : HSc H) {m : Nat} (K : AV → zaa → Prop) (hb : ∀ b : Bool,(b = true ↔ ExP c) → ∀ J,Out H.length K (.bool b) (H ++ J)) :
  zpg (.ptr H.length 0) (.ms (H.length + 1) 0 c.vars.length c.vars.length) (.ms (H.length + 2) 0 c.exprs.length c.exprs.length) (.ms (H.length + 3) 0 c.codes.length c.codes.length) (.sl (c.exprs.map CEx.cs) .none) (.int .i64 c.exprs.length) (.int .i64 0)
   (vH H c (zaX c c.codes.length) (zaU c c.codes.length) [] m) (Out H.length K):=by
 have hF : ¬ ExP c → ∀ S T M J,Out H.length K (.bool false) (vH H c S T M m ++ J):=fun h S T M J=>by rw [vH,List.append_assoc]; exact hb false (by simp [h]) _
 have hc':=hc
 obtain ⟨k1,k2,k3,⟨k4,k5⟩,k6,k7⟩:=hc
 have lp:=ztY hc' c.codes.length
 have lb:=zsp hc' c.codes.length
 refine zGJ (Inv:=fun q t177 H'=>∃ i : Nat,i ≤ c.exprs.length ∧ q = c.exprs.length - i ∧ t177 = .int .i64 i ∧ (∀ j (h : j < c.exprs.length),j < i → RExpr c j c.exprs[j]) ∧ H' = vH H c (zaX c c.codes.length ++ zbI c i) (zaU c c.codes.length ++ zbm c i) (zce (c.exprs.take i)) m) c.exprs.length ?_ ?_
 ·intro _; exact ⟨0,by omega,by omega,rfl,by omega,by simp [zbI,zbm,zce]⟩
 rintro q t177 H' ⟨i,hi,rfl,rfl,hok,rfl⟩ hsc hlen hsF Kb hKb
 have lbi:=zzA hc' i
 have lki:=zAW hc' i
 have lmi:=zA4 (c.exprs.take i)
 rw [List.length_take] at lmi
 by_cases hlt : i < c.exprs.length
 ·have hbad : ¬ RExpr c i c.exprs[i] → ∀ S T M J,Out H.length K (.bool false) (vH H c S T M m ++ J):=fun h=>hF fun hh=>h (hh.exprs i hlt)
  have hbs:=zsn hlt
  have hks:=zAX hlt
  have hls:=ztl hlt
  obtain ⟨kv,kb,kk,_,kbl⟩:=k7 _ (List.getElem_mem hlt)
  have hat : (c.exprs[i]).cs = [.int .i64 (c.exprs[i]).op,.int .i64 (c.exprs[i]).num,.sl (ints (c.exprs[i]).vars) .none,.sl (rows (c.exprs[i]).binds) .none,.sl (ints (c.exprs[i]).kids) .none,.int .i64 (c.exprs[i]).ty.kind,.int .i64 (c.exprs[i]).ty.num,.sl (VT.css (c.exprs[i]).ty.kids) .none]:=by rw [CEx.cs,zat]
  have hgood : RExpr c i c.exprs[i] → ∀ j (h : j < c.exprs.length),j < i + 1 → RExpr c j c.exprs[j]:=fun h j hj hji=>by
   by_cases e : j = i
   ·subst e; exact h
   ·exact hok j hj (by omega)
  generalize hE : c.exprs[i] = E at *
  generalize hS : zaX c c.codes.length ++ zbI c i = S at *
  generalize hT : zaU c c.codes.length ++ zbm c i = T at *
  generalize hM : zce (c.exprs.take i) = M at *
  have lS : S.length ≤ 20000:=by rw [← hS,List.length_append]; omega
  have lT : T.length ≤ 2000:=by rw [← hT,List.length_append]; omega
  have lfl : ∀ j,(E.binds.take j).flatten.length ≤ 100:=fun j=>by
   have:=zs0 (E.binds.take j) (fun r hr=>kbl r (List.mem_of_mem_take hr))
   have : (E.binds.take j).length * 10 ≤ 10 * 10:=Nat.mul_le_mul_right _ (by rw [List.length_take]; omega)
   omega
  obtain ⟨X,hX⟩ : ∃ X,X = AB.cells [.int .i64 E.op,.int .i64 E.num,.sl (ints E.vars) .none,.sl (rows E.binds) .none,.sl (ints E.kids) .none,.int .i64 E.ty.kind,.int .i64 E.ty.num,.sl (VT.css E.ty.kids) .none]:=⟨_,rfl⟩
  have g5 : ∀ S T M,(vH H c S T M m ++ [X])[H.length + 5]? = some X:=fun S T M=>by have:=vH5 H c S T M m 0 [X]; rw [Nat.add_zero] at this; exact this
  have hscX : ∀ S T M,HSc (vH H c S T M m ++ [X]):=fun S T M=>(zeq hs c S T M m).snoc (by rw [hX]; simp [AB.sc,AV.scA,AV.scB])
  simp [zpa,hlt,hE,hat]
  rw [← hX]
  refine zGK (Inv:=fun q t185 H'=>∃ j : Nat,j ≤ E.kids.length ∧ q = E.kids.length - j ∧ t185 = .int .i64 j ∧ (∀ k ∈ E.kids.take j,(i : Int) < k) ∧ H' = vH H c S T M m ++ [X]) E.kids.length ?_ ?_
  ·intro _; exact ⟨0,by omega,by omega,rfl,by simp,rfl⟩
  rintro q t185 H' ⟨j,hj,rfl,rfl,hk1,rfl⟩ hsc1 hlen1 hsF1 Kb1 hKb1
  by_cases hjl : j < E.kids.length
  ·by_cases hle : E.kids[j] ≤ i
   ·simp [zjV,hjl,hle]
    exact hbad (fun h=>by have:=h.kids _ (List.getElem_mem hjl); omega) _ _ _ _
   ·simp [zjV,hjl,hle]
    rw [zaq (by omega) (by omega)]
    refine hKb1 _ _ ⟨E.kids.length - (j + 1),by omega,Back.here (by simp) (hscX _ _ _) ?_ ⟨_,rfl,j + 1,by omega,rfl,by simp,zcn hjl hk1 (by omega),rfl⟩⟩
    simp [zj0,AV.sc,AV.scV,AV.scA,AV.scB]; omega
  obtain rfl : j = E.kids.length:=by omega
  rw [List.take_length] at hk1
  simp [zjV,g5]
  rw [hX]
  simp
  rw [← hX]
  refine zeA (vH2 _ _ _ _ _ _ _) (by omega) _ (fun hr=>?_) (fun hr=>?_)
  rotate_left
  ·rw [zjh]
   simp
   exact hbad (fun h=>hr h.range) _ _ _ _
  rw [zjh]
  by_cases hbk : E.binds.length ≠ E.kids.length
  ·have h1 : ((E.binds.length : Int) != E.kids.length) = true:=nbt (by omega)
   simp [g5]
   rw [hX]
   simp [h1]
   exact hbad (fun h=>hbk h.bk) _ _ _ _
  have hbk' : E.binds.length = E.kids.length:=by omega
  have h1 : ((E.binds.length : Int) != E.kids.length) = false:=by simp [hbk']
  simp [g5]
  rw [hX]
  simp [h1,hbk']
  rw [← hX,← hbk']
  refine zGL (Inv:=fun q t210 H'=>∃ j : Nat,j ≤ E.binds.length ∧ q = E.binds.length - j ∧ t210 = .int .i64 j ∧ (∀ l ∈ E.binds.take j,inV c l) ∧ H' = vH H c (S ++ (E.binds.take j).flatten) (T ++ E.kids) M m ++ [X]) E.binds.length ?_ ?_
  ·intro _; exact ⟨0,by omega,by omega,rfl,by simp,by simp⟩
  rintro q t210 H' ⟨j,hj,rfl,rfl,hb2,rfl⟩ hsc2 hlen2 hsF2 Kb2 hKb2
  by_cases hjl : j < E.binds.length
  ·have hbl:=kbl _ (List.getElem_mem hjl)
   have hfl:=lfl j
   simp [zpb,hjl]
   refine zeA (vH1 _ _ _ _ _ _ _) (by rw [List.length_append]; omega) _ (fun hr=>?_) (fun hr=>?_)
   ·rw [zgb]
    simp
    rw [zaq (by omega) (by omega)]
    have hnx : S ++ ((E.binds.take j).flatten ++ E.binds[j]) = S ++ (E.binds.take (j + 1)).flatten:=by
     rw [zbX hjl,List.flatten_append]; simp
    rw [hnx]
    refine hKb2 _ _ ⟨E.binds.length - (j + 1),by omega,Back.here (by simp) (hscX _ _ _) ?_ ⟨_,rfl,j + 1,by omega,rfl,by simp,zcn hjl hb2 hr,rfl⟩⟩
    simp [zj1,AV.sc,AV.scV,AV.scA,AV.scB]; omega
   ·rw [zgb]
    simp
    exact hbad (fun h=>hr (h.binds _ (List.getElem_mem hjl))) _ _ _ _
  obtain rfl : j = E.binds.length:=by omega
  rw [List.take_length] at *
  simp [zpb,g5]
  rw [hX]
  simp
  rw [← hX]
  refine zGN (Inv:=fun q t222 H'=>∃ j : Nat,j ≤ E.vars.length ∧ q = E.vars.length - j ∧ t222 = .int .i64 j ∧ (∀ x ∈ E.vars.take j,0 ≤ x ∧ x < (c.vars.length : Int)) ∧ H' = vH H c (S ++ E.binds.flatten) (T ++ E.kids) M m ++ [X]) E.vars.length ?_ ?_
  ·intro _; exact ⟨0,by omega,by omega,rfl,by simp,rfl⟩
  rintro q t222 H' ⟨j,hj,rfl,rfl,hv1,rfl⟩ hsc3 hlen3 hsF3 Kb3 hKb3
  have g0:=vH0 H c (S ++ E.binds.flatten) (T ++ E.kids) M m
  by_cases hjl : j < E.vars.length
  ·by_cases h0 : E.vars[j] < 0
   ·simp [zeP,hjl,h0]
    exact hbad (fun h=>by have:=h.vars _ (List.getElem_mem hjl); omega) _ _ _ _
   by_cases hge : (c.vars.length : Int) ≤ E.vars[j]
   ·simp [zeP,hjl,h0,g0,zaJ,hge]
    exact hbad (fun h=>by have:=h.vars _ (List.getElem_mem hjl); omega) _ _ _ _
   simp [zeP,hjl,h0,g0,zaJ,hge]
   rw [zaq (by omega) (by omega)]
   refine hKb3 _ _ ⟨E.vars.length - (j + 1),by omega,Back.here (by simp) (hscX _ _ _) ?_ ⟨_,rfl,j + 1,by omega,rfl,by simp,zcn hjl hv1 (by omega),rfl⟩⟩
   simp [zj3,AV.sc,AV.scV,AV.scA,AV.scB]; omega
  obtain rfl : j = E.vars.length:=by omega
  rw [List.take_length] at hv1
  have back : ∀ M',zce (c.exprs.take (i + 1)) = M' → RExpr c i E → zj9 (.ptr H.length 0) (.ms (H.length + 1) 0 c.vars.length c.vars.length) (.ms (H.length + 2) 0 c.exprs.length c.exprs.length) (.ms (H.length + 3) 0 c.codes.length c.codes.length) (.sl (c.exprs.map CEx.cs) .none) (.int .i64 c.exprs.length) (.int .i64 i) (vH H c (S ++ E.binds.flatten) (T ++ E.kids) M' m ++ [X]) (Out H.length K) Kb:=fun M' hM' hR=>by
   simp [zj9,zvP]
   rw [zaq (by omega) (by omega)]
   refine hKb _ _ ⟨c.exprs.length - (i + 1),by omega,Back.at (J:=[X]) (H2:=vH H c (S ++ E.binds.flatten) (T ++ E.kids) M' m) rfl (by simp) (zeq hs _ _ _ _ _) ?_ ⟨_,rfl,i + 1,by omega,rfl,by simp,hgood hR,?_⟩⟩
   ·simp [zjZ,AV.sc,AV.scV,AV.scA,AV.scB]
   ·rw [hM',hbs,hks,← List.append_assoc,hS,← List.append_assoc,hT]
  by_cases h11 : E.op = 11
  ·rw [if_pos h11] at hls
   by_cases hn0 : E.num < 0
   ·simp [zeP,g5]
    rw [hX]
    simp [h11,hn0]
    exact hbad (fun h=>by have:=(h.lam h11).1; omega) _ _ _ _
   by_cases hnc : (c.codes.length : Int) ≤ E.num
   ·simp [zeP,g5,g0,zaJ]
    rw [hX]
    simp [h11,hn0,g0,zaJ,hnc]
    exact hbad (fun h=>by have:=(h.lam h11).2; omega) _ _ _ _
   obtain ⟨n,hn⟩ : ∃ n : Nat,E.num = n:=⟨E.num.toNat,by omega⟩
   have hnl : n < c.codes.length:=by omega
   have hel : n < (cnt c.codes.length M).length:=by simpa using hnl
   have hu1 : ∀ k : AV → Prop,zaS false 1 n ((cnt c.codes.length M).map fun n=>AV.int .i64 n) k = k (.int .i64 ((M.count (n : Int) : Nat) : Int)):=fun k=>by rw [zaK 1 (zeN hel),zea]
   have hce:=List.count_le_length (a:=(n : Int)) (l:=M)
   have g3 : ∀ J,(vH H c (S ++ E.binds.flatten) (T ++ E.kids) M m ++ J)[H.length + 3]? = some (.cells ((cnt c.codes.length M).map fun n=>.int .i64 n)):=fun J=>vH3 _ _ _ _ _ _ _
   have:=back (M ++ [E.num]) hls ⟨hk1,hr,hbk',hb2,hv1,fun _=>by omega⟩
   have hn0' : ¬ (n : Int) < 0:=by omega
   have hnc' : ¬ c.codes.length ≤ n:=by omega
   have hs3 : ∀ M',(vH H c (S ++ E.binds.flatten) (T ++ E.kids) M m).set (H.length + 3) (.cells ((cnt c.codes.length M').map fun n=>.int .i64 n)) = vH H c (S ++ E.binds.flatten) (T ++ E.kids) M' m:=fun M'=>by simp [vH,usB]
   have g3' : ∀ h,(vH H c (S ++ E.binds.flatten) (T ++ E.kids) M m)[H.length + 3]'h = .cells ((cnt c.codes.length M).map fun n=>.int .i64 n):=fun h=>by simp [vH,usB]
   rw [hn] at this
   simp [zeP,g5]
   rw [hX]
   simp [h11,hn,hn0',hnc',hnl]
   rw [← hn,← h11,← hX]
   simp [g0,zaJ,hn,hnc',g3',hu1]
   rw [zaq (by omega) (by omega),zfj hel,zmN M hnl,hs3]
   exact ⟨by omega,this⟩
  ·rw [if_neg h11,List.append_nil] at hls
   have:=back M hls ⟨hk1,hr,hbk',hb2,hv1,fun h=>absurd h h11⟩
   simp [zeP,g5]
   rw [hX]
   simp [nb h11]
   rw [← hX]
   exact this
 obtain rfl : i = c.exprs.length:=by omega
 rw [List.take_length] at *
 simp [zpa]
 rw [← zsd,← zsc]
 refine zBN hc' hvars hcodes (fun j hj=>hok j hj hj) hs K fun b h J=>hb b ?_ J
 rw [h]
 exact ⟨fun h=>⟨fun j hj=>hok j hj hj,h⟩,fun h=>h.bo⟩
theorem zBe {c : Cor} {i : Nat} (h : i < c.codes.length) : nms (c.codes.take (i + 1)) = nms (c.codes.take i) ++ (if (c.codes[i]).name.isEmpty = true then [] else [(c.codes[i]).name]):=by
 rw [nms,zbX h,List.map_append,List.filter_append,nms]
 cases h1 : (c.codes[i]).name.isEmpty <;> simp [h1]
theorem zBd (l : List Cod) : (nms l).length ≤ l.length:=by
 rw [nms]; exact Nat.le_trans (List.length_filter_le _ _) (by simp)
theorem zzE {c : Cor} {i : Nat} (h : i < c.codes.length) : zaU c (i + 1) = zaU c i ++ [(c.codes[i]).body]:=by
 rw [zaU,zbX h,List.map_append]; rfl
theorem zzI {m : Int} {k : AV → Prop} : zav 1 [.int .i64 0] 1 [(0,.int .i64 m)] k = k (.sl (ints [m]) .full):=propext Iff.rfl
structure CoP (c : Cor) : Prop where
 codes : ∀ i (h : i < c.codes.length),RCode c i c.codes[i]
 names : (nms c.codes).Nodup
 ex : ExP c
theorem zBL {c : Cor} (hc : zaP c) (hvars : ∀ v ∈ c.vars,zaz c.data 0 v = true) {H : zaa} (hs : HSc H) (K : AV → zaa → Prop) (hb : ∀ b : Bool,(b = true ↔ CoP c) → ∀ J,Out H.length K (.bool b) (H ++ J)) :
  zka (.ptr H.length 0) (.ms (H.length + 1) 0 c.vars.length c.vars.length) (.ms (H.length + 2) 0 c.exprs.length c.exprs.length) (.ms (H.length + 3) 0 c.codes.length c.codes.length) (.sl [] (.own (H.length + 4))) (.sl (c.codes.map Cod.cs) .none) (.int .i64 c.codes.length) (.int .i64 0)
   (vH H c [] [] [] 0) (Out H.length K):=by
 have hF : ¬ CoP c → ∀ S T M m J,Out H.length K (.bool false) (vH H c S T M m ++ J):=fun h S T M m J=>by rw [vH,List.append_assoc]; exact hb false (by simp [h]) _
 have hc':=hc
 obtain ⟨k1,k2,k3,⟨k4,k5⟩,k6,k7⟩:=hc
 refine zGI (Inv:=fun q t8 t79 H'=>∃ i : Nat,i ≤ c.codes.length ∧ q = c.codes.length - i ∧ t79 = .int .i64 i ∧ t8 = .sl (strs (nms (c.codes.take i))) (.own (H.length + 4)) ∧ (∀ j (h : j < c.codes.length),j < i → RCode c j c.codes[j]) ∧ H' = vH H c (zaX c i) (zaU c i) [] (nms (c.codes.take i)).length) c.codes.length ?_ ?_
 ·intro _; exact ⟨0,by omega,by omega,rfl,by simp [nms,strs],by omega,by simp [nms,zaX,zaU]⟩
 rintro q t8 t79 H' ⟨i,hi,rfl,rfl,rfl,hok,rfl⟩ hsc hlen hsF Kb hKb
 have lp:=ztY hc' i
 have lb:=zsp hc' i
 have ln:=zBd (c.codes.take i)
 rw [List.length_take] at ln
 by_cases hlt : i < c.codes.length
 ·have hbad : ¬ RCode c i c.codes[i] → ∀ S T M m J,Out H.length K (.bool false) (vH H c S T M m ++ J):=fun h=>hF fun hh=>h (hh.codes i hlt)
  have hps:=ztZ hlt
  have hbs:=zzE hlt
  have hns:=zBe hlt
  have hcat : (c.codes[i]).cs = zbl c.codes[i]:=zfR _
  obtain ⟨_,kp,kc,kr⟩:=k6 _ (List.getElem_mem hlt)
  have hgood : RCode c i c.codes[i] → ∀ j (h : j < c.codes.length),j < i + 1 → RCode c j c.codes[j]:=fun h j hj hji=>by
   by_cases e : j = i
   ·subst e; exact h
   ·exact hok j hj (by omega)
  generalize hf : c.codes[i] = f at *
  generalize hS : zaX c i = S at *
  generalize hT : zaU c i = T at *
  generalize hN : nms (c.codes.take i) = N at *
  have hw : IntKind.i64.wrap ((i : Int) + 1) = (i : Int) + 1:=zaq (by omega) (by omega)
  obtain ⟨X,hX⟩ : ∃ X,X = AB.cells [.str f.name,.sl (ints f.params) .none,.sl (ints f.capt) .none,.int .i64 f.res.kind,.int .i64 f.res.num,.sl (VT.css f.res.kids) .none,.int .i64 f.body]:=⟨_,rfl⟩
  have g5 : ∀ S T M m,(vH H c S T M m ++ [X])[H.length + 5]? = some X:=fun S T M m=>by have:=vH5 H c S T M m 0 [X]; rw [Nat.add_zero] at this; exact this
  have hscX : ∀ S T M m,HSc (vH H c S T M m ++ [X]):=fun S T M m=>(zeq hs c S T M m).snoc (by rw [hX]; simp [AB.sc,AV.scA,AV.scB])
  have hNl : N.length ≤ 24:=by omega
  -- the counts
  have j3 : (f.name = [] → ∀ h : i + 1 < c.codes.length,(c.codes[i + 1]).name = []) → (f.name ≠ [] → f.capt = []) → f.params.length ≤ 6 → zaz c.data 0 f.res = true → ∀ N',nms (c.codes.take (i + 1)) = N' →
    zj8 (.ptr H.length 0) (.ms (H.length + 1) 0 c.vars.length c.vars.length) (.ms (H.length + 2) 0 c.exprs.length c.exprs.length) (.ms (H.length + 3) 0 c.codes.length c.codes.length) (.sl (strs N') (.own (H.length + 4))) (.ptr (H.length + 5) 0) (.sl (c.codes.map Cod.cs) .none) (.int .i64 c.codes.length) (.int .i64 i) (vH H c S T [] N'.length ++ [X]) (Out H.length K) Kb:=by
   intro q1 q2 q3 q4 N' hN'
   refine zGE fun hs3=>?_
   unfold zvM
   simp [g5]
   rw [hX]
   simp
   rw [← hX]
   by_cases hrp : inV c f.params
   ·refine zdt (.bool true) (vH H c (S ++ f.params) T [] N'.length ++ [X]) (zeA (vH1 _ _ _ _ _ _ _) (by omega) _ (fun hr=>⟨rfl,zgb _ _ _ _ _ _ _ _⟩) (fun hr=>absurd hrp hr)) ?_
    simp [g5]
    rw [hX]
    simp
    rw [← hX]
    by_cases hrc : inV c f.capt
    ·refine zdt (.bool true) (vH H c (S ++ f.params ++ f.capt) T [] N'.length ++ [X]) (zeA (vH1 _ _ _ _ _ _ _) (by rw [List.length_append]; omega) _ (fun hr=>⟨rfl,zgb _ _ _ _ _ _ _ _⟩) (fun hr=>absurd hrc hr)) ?_
     simp [g5]
     rw [hX]
     simp [zzI]
     rw [← hX]
     by_cases hbd : 0 ≤ f.body ∧ f.body < c.exprs.length
     ·refine zdt (.bool true) (vH H c (S ++ (f.params ++ f.capt)) (T ++ [f.body]) [] N'.length ++ [X]) (zeA (vH2 _ _ _ _ _ _ _) (by simp; omega) _ (fun hr=>⟨rfl,zjh _ _ _ _ _ _ _ _⟩) (fun hr=>absurd (by simpa using hbd) hr)) ?_
      obtain ⟨b,hbb⟩ : ∃ b : Nat,f.body = b:=⟨f.body.toNat,by omega⟩
      have hbl : b < c.exprs.length:=by omega
      have hce : (c.exprs[b]).cs = zal c.exprs[b]:=by rw [CEx.cs,zat]; rfl
      have hnb:=(k7 _ (List.getElem_mem hbl)).2.2.2.1
      have g0:=vH0 H c (S ++ (f.params ++ f.capt)) (T ++ [f.body]) [] N'.length
      simp [g5,g0,zaJ]
      rw [hX]
      simp [hbb,hbl,hce,zal]
      rw [← zat,← zat,← hbb]
      refine zdt (.bool ((c.exprs[b]).ty.same f.res)) _ (zdA (by omega) _ _ ⟨rfl,rfl⟩) ?_
      cases hsm : (c.exprs[b]).ty.same f.res with
      | false=>
       simp
       refine hbad (fun h=>?_) _ _ _ _ _
       obtain ⟨b',h1,h2,h3⟩:=h.body
       obtain rfl : b' = b:=by omega
       rw [hsm] at h3; cases h3
      | true=>
       simp
       rw [hw]
       refine hKb _ _ ⟨c.codes.length - (i + 1),by omega,Back.at (J:=[_]) (H2:=vH H c (S ++ (f.params ++ f.capt)) (T ++ [f.body]) [] N'.length) rfl (by simp) (zeq hs _ _ _ _ _) ?_ ⟨_,_,rfl,i + 1,by omega,rfl,by simp,by rw [hN'],hgood ⟨q1,q2,q3,q4,hrp,hrc,b,hbb,hbl,hsm⟩,by rw [hN',hps,hbs]⟩⟩
       simp [zjY,AV.sc,AV.scV,AV.scA,AV.scB]
     ·refine zdt (.bool false) _ (zeA (vH2 _ _ _ _ _ _ _) (by simp; omega) _ (fun hr=>absurd (by simpa using hr) hbd) (fun hr=>⟨rfl,zjh _ _ _ _ _ _ _ _⟩)) ?_
      simp
      refine hbad (fun h=>?_) _ _ _ _ _
      obtain ⟨b',h1,h2,_⟩:=h.body
      exact hbd (by omega)
    ·refine zdt (.bool false) _ (zeA (vH1 _ _ _ _ _ _ _) (by rw [List.length_append]; omega) _ (fun hr=>absurd hr hrc) (fun hr=>⟨rfl,zgb _ _ _ _ _ _ _ _⟩)) ?_
     simp
     exact hbad (fun h=>hrc h.rc) _ _ _ _ _
   ·refine zdt (.bool false) _ (zeA (vH1 _ _ _ _ _ _ _) (by omega) _ (fun hr=>absurd hr hrp) (fun hr=>⟨rfl,zgb _ _ _ _ _ _ _ _⟩)) ?_
    simp
    exact hbad (fun h=>hrp h.rp) _ _ _ _ _
  have g0:=vH0 H c S T [] N.length
  cases hnm : f.name.isEmpty with
  | true=>
   have hn : f.name = []:=by simpa using hnm
   by_cases hI : i + 1 < c.codes.length
   ·have hI' : (i : Int) + 1 < c.codes.length:=by omega
    have hto : ((i : Int) + 1).toNat = i + 1:=by omega
    have hI0 : (0 : Int) ≤ (i : Int) + 1:=by omega
    have hcat2 : (c.codes[i + 1]).cs = zbl c.codes[i + 1]:=zfR _
    cases hnx : (c.codes[i + 1]).name.isEmpty with
    | false=>
     simp [zdW,hlt,hf,hcat,zbl,g0,zaJ,hw,hnm,hI,hI',hto,hI0,hcat2,hnx]
     refine hbad (fun h=>?_) _ _ _ _ _
     have:=h.order hn hI
     simp [this] at hnx
    | true=>
     have hnx' : (c.codes[i + 1]).name = []:=by simpa using hnx
     by_cases hp6 : 6 < f.params.length
     ·have hp6' : (6 : Int) < f.params.length:=by omega
      simp [zdW,hlt,hf,hcat,zbl,g0,zaJ,hw,hnm,hI,hI',hto,hI0,hcat2,hnx,hp6']
      exact hbad (fun h=>by have:=h.pars; omega) _ _ _ _ _
     have hp6' : ¬ (6 : Int) < f.params.length:=by omega
     simp [zdW,hlt,hf,hcat,zbl,g0,zaJ,hw,hnm,hI,hI',hto,hI0,hcat2,hnx,hp6']
     rw [← zat f.res]
     refine zgo c.data (by obtain ⟨k1,_⟩:=k1; omega) 0 f.res (by omega) _ _ ?_
     cases hty : zaz c.data 0 f.res with
     | false=>simp; exact hbad (fun h=>by have:=h.res; rw [hty] at this; cases this) _ _ _ _ _
     | true=>
      have fin:=j3 (fun _ _=>hnx') (fun h=>absurd hn h) (by omega) hty
      rw [← hX]
      have fin:=fin N (by rw [hns,if_pos hnm,List.append_nil])
      simp [g5]
      rw [hX] at fin ⊢
      simp [hnm] at fin ⊢
      exact fin
   ·have hI' : ¬ (i : Int) + 1 < c.codes.length:=by omega
    by_cases hp6 : 6 < f.params.length
    ·have hp6' : (6 : Int) < f.params.length:=by omega
     simp [zdW,hlt,hf,hcat,zbl,g0,zaJ,hw,hnm,hI',hp6']
     exact hbad (fun h=>by have:=h.pars; omega) _ _ _ _ _
    have hp6' : ¬ (6 : Int) < f.params.length:=by omega
    simp [zdW,hlt,hf,hcat,zbl,g0,zaJ,hw,hnm,hI',hp6']
    rw [← zat f.res]
    refine zgo c.data (by obtain ⟨k1,_⟩:=k1; omega) 0 f.res (by omega) _ _ ?_
    cases hty : zaz c.data 0 f.res with
    | false=>simp; exact hbad (fun h=>by have:=h.res; rw [hty] at this; cases this) _ _ _ _ _
    | true=>
     have fin:=j3 (fun _ h=>absurd h hI) (fun h=>absurd hn h) (by omega) hty
     rw [← hX]
     have fin:=fin N (by rw [hns,if_pos hnm,List.append_nil])
     simp [g5]
     rw [hX] at fin ⊢
     simp [hnm] at fin ⊢
     exact fin
  | false=>
   have hn : f.name ≠ []:=by intro h; simp [h] at hnm
   by_cases hcap : 0 < f.capt.length
   ·have hcap' : (0 : Int) < f.capt.length:=by omega
    simp [zdW,hlt,hf,hcat,zbl,g0,zaJ,hw,hnm,hcap,hcap']
    exact hbad (fun h=>by have:=h.capt hn; rw [this] at hcap; simp at hcap) _ _ _ _ _
   have hcap' : ¬ (0 : Int) < f.capt.length:=by omega
   have hcap2 : f.capt = []:=List.eq_nil_of_length_eq_zero (by omega)
   by_cases hp6 : 6 < f.params.length
   ·have hp6' : (6 : Int) < f.params.length:=by omega
    simp [zdW,hlt,hf,hcat,zbl,g0,zaJ,hw,hnm,hcap,hcap',hp6']
    exact hbad (fun h=>by have:=h.pars; omega) _ _ _ _ _
   have hp6' : ¬ (6 : Int) < f.params.length:=by omega
   simp [zdW,hlt,hf,hcat,zbl,g0,zaJ,hw,hnm,hcap,hcap',hp6']
   rw [← zat f.res]
   refine zgo c.data (by obtain ⟨k1,_⟩:=k1; omega) 0 f.res (by omega) _ _ ?_
   cases hty : zaz c.data 0 f.res with
   | false=>simp; exact hbad (fun h=>by have:=h.res; rw [hty] at this; cases this) _ _ _ _ _
   | true=>
    have fin:=j3 (fun h=>absurd h hn) (fun _=>hcap2) (by omega) hty
    rw [← hX]
    have fin:=fin (N ++ [f.name]) (by rw [hns,if_neg (by simp [hnm])])
    simp [g5]
    rw [hX] at fin ⊢
    simp [hnm,zmE] at fin ⊢
    simp [zaC,zbq,za8,vH]
    refine ⟨by clear fin j3 hbad hgood ln hok hF hKb; omega,?_⟩
    rw [← zoh]
    simpa [vH] using fin
 obtain rfl : i = c.codes.length:=by omega
 rw [List.take_length] at *
 simp [zdW]
 refine zGH fun hs4=>?_
 unfold zvO
 refine zn3 _ (by omega) _ _ ?_
 have g0 : ∀ h,(vH H c (zaX c c.codes.length) (zaU c c.codes.length) [] (nms c.codes).length)[H.length]'h = .cells (zaJ c):=fun h=>by simp [vH]
 cases hr : zcb (nms c.codes) with
 | true=>
  simp
  have:=hF (fun h=>by have:=zi2 h.names; rw [hr] at this; cases this) (zaX c c.codes.length) (zaU c c.codes.length) [] (nms c.codes).length []
  simpa using this
 | false=>
  simp [g0,zaJ]
  refine zBM hc' hvars (fun j hj=>hok j hj hj) hs K fun b h J=>hb b ?_ J
  rw [h]
  simp only [zcb,Bool.not_eq_false',decide_eq_true_eq] at hr
  exact ⟨fun h=>⟨fun j hj=>hok j hj hj,hr,h⟩,fun h=>h.ex⟩
theorem zG3 (c : Cor) (hc : zaP c) (H : zaa) (K : AV → zaa → Prop) (hK : ∀ b,(b = true ↔ RefV c) → K (.bool b) H) : ACalls tP zg2 [.agg c.cs] H K:=by
 refine ACalls.out (zG2 fun hs=>?_)
 have hF : ¬ RefV c → ∀ J,Out H.length K (.bool false) (H ++ J):=fun h J=>Out.bool rfl (Nat.le_refl _) hs (hK _ (by simp [h]))
 have hT : ∀ b : Bool,(b = true ↔ RefV c) → ∀ J,Out H.length K (.bool b) (H ++ J):=fun b h J=>Out.bool rfl (Nat.le_refl _) hs (hK _ h)
 have hc':=hc
 obtain ⟨k1,k2,k3,⟨k4,k5⟩,k6,k7⟩:=hc
 have h1 : ¬ (64 : Int) < c.codes.length:=by omega
 have h2 : ¬ (3000 : Int) < c.exprs.length:=by omega
 have h3 : ¬ (3000 : Int) < c.vars.length:=by omega
 simp [zvz,Cor.cs]
 refine zJr c.data k1 _ _ fun b hb=>?_
 cases b with
 | false=>simp; exact hF (fun h=>by have:=hb.2 h.data; cases this) _
 | true=>
 have hd:=hb.1 rfl
 simp [h1,h2,h3]
 refine zGy fun hs1=>?_
 unfold zvJ
 simp
 refine zGM (Inv:=fun q t54 H'=>∃ i : Nat,i ≤ c.vars.length ∧ q = c.vars.length - i ∧ t54 = .int .i64 i ∧ (∀ v ∈ c.vars.take i,zaz c.data 0 v = true) ∧ H' = H ++ [.cells (zaJ c)]) c.vars.length ?_ ?_
 ·intro _; exact ⟨0,by omega,by omega,rfl,by simp,rfl⟩
 rintro q t54 H' ⟨i,hi,rfl,rfl,hok,rfl⟩ hsc hlen hsF Kb hKb
 by_cases hlt : i < c.vars.length
 ·have hn:=k5 _ (List.getElem_mem hlt)
  have hcs:=zat c.vars[i]
  simp [zpc,hlt,hcs,zaJ]
  rw [← hcs]
  refine zgo c.data (by obtain ⟨k1,_⟩:=k1; omega) 0 c.vars[i] (by omega) _ _ ?_
  cases hty : zaz c.data 0 c.vars[i] with
  | false=>
   simp
   exact hF (fun h=>by have:=h.vars _ (List.getElem_mem hlt); rw [hty] at this; cases this) _
  | true=>
   simp
   rw [zaq (by omega) (by omega)]
   refine hKb _ _ ⟨c.vars.length - (i + 1),by omega,Back.at (J:=[_]) (H2:=H ++ [.cells (zaJ c)]) (by simp [zaJ]; rfl) (by simp) hsc ?_ ⟨_,rfl,i + 1,by omega,rfl,by simp,zcn hlt hok hty,rfl⟩⟩
   simp [zj2,AV.sc,AV.scV,AV.scA,AV.scB]
 obtain rfl : i = c.vars.length:=by omega
 rw [List.take_length] at hok
 simp [zpc,zaJ]
 simp only [zaN,Int.toNat_natCast,zhc,zmM]
 refine ⟨⟨by omega,by omega,by omega,by omega⟩,?_⟩
 simp [zaJ]
 refine ⟨⟨by omega,by omega⟩,?_⟩
 refine zGB fun hs2=>?_
 unfold zvL
 simp
 simp only [zaN,Int.toNat_natCast,zhc,zmM]
 refine ⟨⟨by omega,by omega,by omega,by omega⟩,?_⟩
 simp
 unfold zka
 refine ALoop.own 8 zbJ 1 rfl ?_
 have:=zBL hc' hok hs K fun b h J=>hT b (by
  rw [h]
  exact ⟨fun h=>⟨hd,hok,h.codes,h.names,h.ex.exprs,h.ex.bo.bound,h.ex.bo.pl.placed,h.ex.bo.pl.ma.made,h.ex.bo.pl.ma.ru.rules,h.ex.bo.pl.ma.ru.sc⟩,fun h=>⟨h.codes,h.names,h.exprs,h.bound,h.placed,h.made,h.rules,h.scopes⟩⟩) J
 simp [vH,usB,zaJ] at this ⊢
 exact this
mutual
theorem zbf : ∀ v w : VT,v.same w = true ↔ v = w
 | .mk k n ks,.mk k' n' ks'=>by
  have h:=zby ks ks'
  simp only [VT.same,Bool.and_eq_true,beq_iff_eq,VT.mk.injEq,h,and_assoc]
theorem zby : ∀ v w : List VT,VT.sameL v w = true ↔ v = w
 | v :: vs,w :: ws=>by
  have h1:=zbf v w
  have h2:=zby vs ws
  simp only [VT.sameL,Bool.and_eq_true,List.cons.injEq,h1,h2]
 | [],[]=>by simp [VT.sameL]
 | [],_ :: _=>by simp [VT.sameL]
 | _ :: _,[]=>by simp [VT.sameL]
end
theorem zon {α : Type} (l : List α) (d n : Nat) : (l.take d)[n]? = if n < d then l[n]? else none:=by
 by_cases h : n < d
 ·rw [if_pos h,List.getElem?_take_of_lt h]
 ·rw [if_neg h,List.getElem?_eq_none (by rw [List.length_take]; omega)]
theorem zCH {data : List Dat} {d : Nat} {vars k n : Int} {len : Nat} (h : (k == 5 && n == (d : Int)) = false) : zbd (data.take (d + 1)) vars k n len = zbd (data.take d) vars k n len:=by
 unfold zbd
 by_cases h5 : k = 5
 ·subst h5
  have hn : n ≠ d:=by simpa using h
  simp only [zon]
  by_cases h0 : 0 ≤ n
  ·have : (n.toNat < d + 1) = (n.toNat < d):=by
    apply propext; omega
   simp [this]
  ·simp [h0]
 ·have : (k == 5) = false:=by simpa using h5
  simp [this]
mutual
theorem zuL (data : List Dat) (d : Nat) (vars : Int) : ∀ t : VT,zct d t = false → zbz (data.take (d + 1)) vars t = zbz (data.take d) vars t
 | .mk k n ks=>by
  intro h
  simp only [zct,Bool.or_eq_false_iff] at h
  rw [zbz,zbz,zCH h.1,zuK data d vars ks h.2]
theorem zuK (data : List Dat) (d : Nat) (vars : Int) : ∀ l : List VT,zeF d l = false → zbA (data.take (d + 1)) vars l = zbA (data.take d) vars l
 | []=>fun _=>rfl
 | t :: ts=>by
  intro h
  simp only [zeF,Bool.or_eq_false_iff] at h
  rw [zbA,zbA,zuL data d vars t h.1,zuK data d vars ts h.2]
end
mutual
theorem ztz (data : List Dat) (d : Nat) (vars : Int) : ∀ t : VT,zbz (data.take d) vars t = true → zct d t = false
 | .mk k n ks=>by
  intro h
  rw [zbz,Bool.and_eq_true] at h
  rw [zct,zty data d vars ks h.2,Bool.or_false]
  by_cases h5 : k = 5
  ·subst h5
   have h1:=h.1
   simp [zbd,zon] at h1
   obtain ⟨h0,h2⟩:=h1
   by_cases hn : n = d
   ·subst hn
    simp at h2
   ·simpa using hn
  ·have : (k == 5) = false:=by simpa using h5
   simp [this]
theorem zty (data : List Dat) (d : Nat) (vars : Int) : ∀ l : List VT,zbA (data.take d) vars l = true → zeF d l = false
 | []=>fun _=>rfl
 | t :: ts=>by
  intro h
  rw [zbA,Bool.and_eq_true] at h
  rw [zeF,ztz data d vars t h.1,zty data d vars ts h.2]; rfl
end
theorem zul (data : List Dat) (vars : Int) : ∀ (l : List VT) (i : Nat),zc3 l i = true → ((i + l.length : Nat) : Int) ≤ vars → zbA data vars l = true ∧ VT.nodesL l = l.length
 | [],i,_,_=>⟨rfl,rfl⟩
 | .mk k n ks :: l,i,h,hv=>by
  rw [zc3,Bool.and_eq_true] at h
  obtain ⟨h1,h2⟩:=h
  simp only [zin,Bool.and_eq_true,beq_iff_eq] at h1
  obtain ⟨⟨rfl,rfl⟩,h3⟩:=h1
  have hk : ks = []:=List.eq_nil_of_length_eq_zero h3
  subst hk
  obtain ⟨h4,h5⟩:=zul data vars l (i + 1) h2 (by simp at hv ⊢; omega)
  simp at hv
  constructor
  ·simp [zbA,zbz,zbd,h4]
   omega
  ·simp [VT.nodesL,VT.nodes,h5]; omega
theorem zsh (data : List Dat) (d : Nat) (hd : d < data.length) (h0 : 0 ≤ (data[d]).vars) (h6 : (data[d]).vars ≤ 6) (t : VT) : zd7 data d (data[d]).vars t = zej data d (data[d]).vars t:=by
 unfold zd7 zej
 cases hs : zcs d (data[d]).vars t with
 | true=>
  obtain ⟨k,n,ks⟩:=t
  simp only [zcs,Bool.and_eq_true,beq_iff_eq] at hs
  obtain ⟨⟨⟨rfl,rfl⟩,hl⟩,hs⟩:=hs
  obtain ⟨h1,h2⟩:=zul (data.take (d + 1)) (data[d]).vars ks 0 hs (by simp; omega)
  have hty : zaz (data.take (d + 1)) (data[d]).vars (.mk 5 d ks) = true:=by
   simp [zaz,zbz,h1,VT.nodes,h2,zbd,zon,hd,hl]
   omega
  simp [hty]
 | false=>
  simp only [Bool.false_or]
  unfold zaz
  cases hm : zct d t with
  | false=>rw [zuL data d _ t hm]; simp
  | true=>
   have : zbz (data.take d) (data[d]).vars t = false:=by
    cases h : zbz (data.take d) (data[d]).vars t with
    | false=>rfl
    | true=>rw [ztz data d _ t h] at hm; cases hm
   simp [this]
theorem zsN (data : List Dat) : ∀ (l : List Dat) (d : Nat),zdj data l d = true ↔ ∀ j (h : j < l.length),zc0 data (d + j) l[j] = true
 | [],d=>by simp [zdj]
 | D :: l,d=>by
  rw [zdj,Bool.and_eq_true,zsN data l (d + 1)]
  constructor
  ·rintro ⟨h1,h2⟩ j hj
   cases j with
   | zero=>exact h1
   | succ j=>
    have:=h2 j (by simpa using hj)
    rw [show d + (j + 1) = d + 1 + j by omega]
    simpa using this
  ·intro h
   refine ⟨h 0 (by simp),fun j hj=>?_⟩
   have:=h (j + 1) (by simpa using hj)
   rw [show d + (j + 1) = d + 1 + j by omega] at this
   simpa using this
theorem zsM (data : List Dat) : zcz data = true ↔ RData data:=by
 unfold zcz
 simp only [Bool.and_eq_true,decide_eq_true_eq,zsN,zcb,Bool.not_not,Nat.zero_add]
 constructor
 ·rintro ⟨⟨⟨h1,h2⟩,h3⟩,h4⟩
  refine ⟨h1,fun d hd=>?_,h3,h4⟩
  have:=h2 d hd
  simp only [zc0,Bool.and_eq_true,decide_eq_true_eq,List.all_eq_true] at this
  obtain ⟨⟨⟨⟨⟨q1,q2⟩,q3⟩,q4⟩,q5⟩,q6⟩:=this
  refine ⟨q2,q3,q4,q5,q1,fun c hc=>?_⟩
  have:=q6 c hc
  simp only [zdu,Bool.and_eq_true,decide_eq_true_eq,List.all_eq_true] at this
  exact ⟨this.1,this.2.1,fun x hx=>by rw [← zsh data d hd q2 q3 x]; exact this.2.2 x hx⟩
 ·rintro ⟨h1,h2,h3,h4⟩
  refine ⟨⟨⟨h1,fun d hd=>?_⟩,h3⟩,h4⟩
  obtain ⟨q2,q3,q4,q5,q1,q6⟩:=h2 d hd
  simp only [zc0,Bool.and_eq_true,decide_eq_true_eq,List.all_eq_true]
  refine ⟨⟨⟨⟨⟨q1,q2⟩,q3⟩,q4⟩,q5⟩,fun c hc=>?_⟩
  obtain ⟨r1,r2,r3⟩:=q6 c hc
  simp only [zdu,Bool.and_eq_true,decide_eq_true_eq,List.all_eq_true]
  exact ⟨r1,r2,fun x hx=>by rw [zsh data d hd q2 q3 x]; exact r3 x hx⟩
theorem zuW (t : VT) : t = .mk t.kind t.num t.kids:=by cases t; rfl
theorem zjj {t u : VT} (h1 : t.kind = u.kind) (h2 : t.num = u.num) (h3 : t.kids = u.kids) : t = u:=by rw [zuW t,zuW u,h1,h2,h3]
theorem zji {data : List Dat} {t : VT} (h : zaz data 0 t = true) : zbd data 0 t.kind t.num t.kids.length = true:=by
 obtain ⟨k,n,ks⟩:=t
 simp only [zaz,zbz,Bool.and_eq_true] at h
 exact h.2.1
theorem zfi {data : List Dat} {t : VT} (h : zaz data 0 t = true) {k : Int} (hk : k = 1 ∨ k = 2 ∨ k = 3) : t.kind = k ↔ t = sm k:=by
 constructor
 ·intro h1
  have h2:=zji h
  rw [h1] at h2
  have : t.num = 0 ∧ t.kids = []:=by rcases hk with rfl | rfl | rfl <;> simpa [zbd] using h2
  exact zjj h1 this.1 this.2
 ·intro h1; rw [h1]; rfl
theorem zDv {data : List Dat} {t : VT} (h : zaz data 0 t = true) (h6 : t.kind = 6) : t.num = 0 ∧ 2 ≤ t.kids.length ∧ t.kids.length ≤ 6:=by
 have h2:=zji h
 rw [h6] at h2
 simpa [zbd,and_assoc] using h2
theorem zDu {data : List Dat} {t : VT} (h : zaz data 0 t = true) (h9 : t.kind = 9) : t.num = 0:=by
 have h2:=zji h
 rw [h9] at h2
 simp [zbd] at h2
 exact h2.1.1
theorem zhi {data : List Dat} {t : VT} (h : zaz data 0 t = true) {k : Int} (hk : k = 7 ∨ k = 8) (h1 : t.kind = k) : t = .mk k 0 [zb9 t]:=by
 have h2:=zji h
 rw [h1] at h2
 have : t.num = 0 ∧ t.kids.length = 1:=by rcases hk with rfl | rfl <;> simpa [zbd] using h2
 obtain ⟨a,ha⟩:=zcB (l:=t.kids) (by simp [this.2])
 have hk0 : zb9 t = a:=by simp [zb9,ha]
 rw [hk0]
 exact zjj h1 this.1 ha
theorem zbv (c : Cor) (t : VT) (l : List Int) : zb3 c t l = true ↔ ∀ k ∈ l,ety c k = t:=by
 simp [zb3,zbf]
theorem zsE {c : Cor} {n : Nat} (h : n < c.codes.length) : zdh c (n : Int) = c.codes[n]:=by simp [zdh,h]
section
variable {c : Cor} {e : CEx}
abbrev RR (c : Cor) (e : CEx) : Bool:=refR4 c e (e.num == 0) ((e.kids.length : Int) == 0) (zam c e.vars) (zaE c e.kids) (e.binds.map (zam c))
theorem zAB {data : List Dat} {t : VT} {n : Int} {fs : List VT} (h : zbx data t n = some fs) : t.kind = 5:=by
 unfold zbx at h
 split at h
 ·rename_i h1; exact h1.1
 ·cases h
theorem zjl (hx : ExIn c e) {v : Int} (hv : v ∈ e.vars) : zaz c.data 0 (vty c v) = true:=by
 have:=hx.vars v hv
 obtain ⟨k,rfl⟩ : ∃ k : Nat,v = k:=⟨v.toNat,by omega⟩
 rw [zfl (by omega)]
 exact hx.vtys _ (List.getElem_mem _)
theorem zzw (c : Cor) (l : List (List Int)) (k : Nat) : bAt (l.map (zam c)) k = zam c (l.getD k []):=by
 rw [bAt,List.getD_eq_getElem?_getD,List.getElem?_map,List.getD_eq_getElem?_getD]
 cases l[k]? <;> rfl
theorem zs7 {t : VT} {X : List VT} (h : zaz c.data 0 t = true) : t = .mk 9 0 X ↔ t.kind = 9 ∧ t.kids = X:=by
 constructor
 ·intro h; rw [h]; exact ⟨rfl,rfl⟩
 ·rintro ⟨h1,h2⟩; exact zjj h1 (zDu h h1) h2
theorem rl1 (hx : ExIn c e) (hT : zaz c.data 0 e.ty = true) (hop : e.op = 1) : progRule c e = true ↔ RR c e = true:=by
 have hvl:=zaR c e.vars
 have hkl : (zaE c e.kids).length = e.kids.length:=by simp [zaE]
 simp [progRule,zba,zbg,restR,numR,parR,stR,stF,RR,refR4,refR5,refR6,refR7,refR9,hop,zaD,zbf,zby,zaR,zbv,cntL,zfi hT (k:=3) (by simp)]
 grind
theorem rl2 (hx : ExIn c e) (hT : zaz c.data 0 e.ty = true) (hop : e.op = 2) : progRule c e = true ↔ RR c e = true:=by
 have hvl:=zaR c e.vars
 have hkl : (zaE c e.kids).length = e.kids.length:=by simp [zaE]
 simp [progRule,zba,zbg,restR,numR,parR,stR,stF,RR,refR4,refR5,refR6,refR7,refR9,hop,zaD,zbf,zby,zaR,zbv,cntL,zfi hT (k:=2) (by simp)]
 grind
theorem rl3 (hx : ExIn c e) (hT : zaz c.data 0 e.ty = true) (hop : e.op = 3) : progRule c e = true ↔ RR c e = true:=by
 have hvl:=zaR c e.vars
 have hkl : (zaE c e.kids).length = e.kids.length:=by simp [zaE]
 simp [progRule,zba,zbg,restR,numR,parR,stR,stF,RR,refR4,refR5,refR6,refR7,refR9,hop,zaD,zbf,zby,zaR,zbv,cntL,zfi hT (k:=1) (by simp)]
 grind
theorem zCb (hx : ExIn c e) (hT : zaz c.data 0 e.ty = true) (hop : e.op = 22) : progRule c e = true ↔ RR c e = true:=by
 have hvl:=zaR c e.vars
 have hkl : (zaE c e.kids).length = e.kids.length:=by simp [zaE]
 simp [progRule,zba,zbg,restR,numR,parR,stR,stF,RR,refR4,refR5,refR6,refR7,refR9,hop,zaD,zbf,zby,zaR,zbv,cntL,zfi hT (k:=3) (by simp)]
 grind
theorem rl4 (hx : ExIn c e) (hT : zaz c.data 0 e.ty = true) (hop : e.op = 4) : progRule c e = true ↔ RR c e = true:=by
 have hvl:=zaR c e.vars
 have hkl : (zaE c e.kids).length = e.kids.length:=by simp [zaE]
 simp [progRule,zba,zbg,restR,numR,parR,stR,stF,RR,refR4,refR5,refR6,refR7,refR9,hop,zaD,zbf,zby,zaR,zbv,cntL]
 grind
theorem rl5 (hx : ExIn c e) (hT : zaz c.data 0 e.ty = true) (hop : e.op = 5) : progRule c e = true ↔ RR c e = true:=by
 have hvl:=zaR c e.vars
 have hkl : (zaE c e.kids).length = e.kids.length:=by simp [zaE]
 simp [progRule,zba,zbg,restR,numR,parR,stR,stF,RR,refR4,refR5,refR6,refR7,refR9,hop,zaD,zbf,zby,zaR,zbv,cntL]
 intro h0 h1
 constructor
 ·rintro ⟨h2,h3,h4⟩
  rw [h4]; exact ⟨rfl,rfl⟩
 ·rintro ⟨h2,h3⟩
  obtain ⟨q1,q2,q3⟩:=zDv hT h2
  rw [h3] at hvl
  exact ⟨by omega,by omega,zjj h2 q1 h3.symm⟩
theorem rl6 (hx : ExIn c e) (hT : zaz c.data 0 e.ty = true) (hop : e.op = 6) : progRule c e = true ↔ RR c e = true:=by
 have hvl:=zaR c e.vars
 have hkl : (zaE c e.kids).length = e.kids.length:=by simp [zaE]
 simp [progRule,zba,zbg,restR,numR,parR,stR,stF,RR,refR4,refR5,refR6,refR7,refR9,hop,zaD,zbf,zby,zaR,zbv,cntL]
 cases hf : zbx c.data e.ty e.num with
 | none=>simp
 | some fs=>
  have:=zAB hf
  simp [this]
  grind
theorem rl7 (hx : ExIn c e) (hT : zaz c.data 0 e.ty = true) (hop : e.op = 7) : progRule c e = true ↔ RR c e = true:=by
 have hvl:=zaR c e.vars
 have hkl : (zaE c e.kids).length = e.kids.length:=by simp [zaE]
 simp [progRule,zba,zbg,restR,numR,parR,stR,stF,RR,refR4,refR5,refR6,refR7,refR9,hop,zaD,zbf,zby,zaR,zbv,cntL]
 intro h0
 by_cases hk : e.kids.length = 2
 ·obtain ⟨k0,k1,hk'⟩:=zcC (l:=e.kids) (by simp [hk])
  obtain ⟨b0,b1,hb'⟩:=zcC (l:=e.binds) (by simp [hx.bk,hk])
  simp [hk',hb',zaE,bAt,hd0,hd1,zbW,zam]
  grind
 ·grind
theorem rl8 (hx : ExIn c e) (hT : zaz c.data 0 e.ty = true) (hop : e.op = 8) : progRule c e = true ↔ RR c e = true:=by
 have hvl:=zaR c e.vars
 have hkl : (zaE c e.kids).length = e.kids.length:=by simp [zaE]
 simp [progRule,zba,zbg,restR,numR,parR,stR,stF,RR,refR4,refR5,refR6,refR7,refR9,hop,zaD,zbf,zby,zaR,zbv,cntL]
 intro h0
 by_cases hv : e.vars.length = 1
 ·obtain ⟨v,hv'⟩:=zcB (l:=e.vars) (by simp [hv])
  by_cases hk : e.kids.length = 1
  ·obtain ⟨k0,hk'⟩:=zcB (l:=e.kids) (by simp [hk])
   obtain ⟨b0,hb'⟩:=zcB (l:=e.binds) (by simp [hx.bk,hk])
   simp [hv',hk',hb',zaE,bAt,hd0,hd1,zbW,zam]
  ·grind
 ·grind
theorem rl9 (hx : ExIn c e) (hT : zaz c.data 0 e.ty = true) (hop : e.op = 9) : progRule c e = true ↔ RR c e = true:=by
 have hvl:=zaR c e.vars
 have hkl : (zaE c e.kids).length = e.kids.length:=by simp [zaE]
 simp [progRule,zba,zbg,restR,numR,parR,stR,stF,RR,refR4,refR5,refR6,refR7,refR9,hop,zaD,zbf,zby,zaR,zbv,cntL]
 intro h0
 by_cases hv : e.vars.length = 1
 ·obtain ⟨v,hv'⟩:=zcB (l:=e.vars) (by simp [hv])
  by_cases hk : e.kids.length = 2
  ·obtain ⟨k0,k1,hk'⟩:=zcC (l:=e.kids) (by simp [hk])
   obtain ⟨b0,b1,hb'⟩:=zcC (l:=e.binds) (by simp [hx.bk,hk])
   simp [hv',hk',hb',zaE,bAt,hd0,hd1,zbW,zam]
   grind
  ·grind
 ·grind
theorem zBZ (hx : ExIn c e) (hT : zaz c.data 0 e.ty = true) (hop : e.op = 10) : progRule c e = true ↔ RR c e = true:=by
 have hvl:=zaR c e.vars
 have hkl : (zaE c e.kids).length = e.kids.length:=by simp [zaE]
 simp [progRule,zba,zbg,restR,numR,parR,stR,stF,RR,refR4,refR5,refR6,refR7,refR9,hop,zaD,zbf,zby,zaR,zbv,cntL]
 intro h0
 by_cases hv : e.vars.length = 1
 ·obtain ⟨v,hv'⟩:=zcB (l:=e.vars) (by simp [hv])
  have hcr : ∀ k (h : k < e.kids.length),caseR c (vty c v) e.ty (zaE c e.kids) (e.binds.map (zam c)) k = (ze4 c (vty c v) e k && (ety c e.kids[k]).same e.ty):=fun k h=>by
   rw [caseR,ze4,zzw]
   congr 1
   simp [zaE,h]
  have h1 : (∀ x,x < e.kids.length → caseR c (vty c v) e.ty (zaE c e.kids) (e.binds.map (zam c)) x = true) ↔ (ze5 c (vty c v) e = true ∧ ∀ k ∈ e.kids,ety c k = e.ty):=by
   rw [ze5,List.all_eq_true]
   constructor
   ·intro h
    refine ⟨fun k hk=>?_,fun k hk=>?_⟩
    ·have:=h k (by simpa using hk)
     rw [hcr k (by simpa using hk),Bool.and_eq_true] at this
     exact this.1
    ·obtain ⟨j,hj,rfl⟩:=List.getElem_of_mem hk
     have:=h j hj
     rw [hcr j hj,Bool.and_eq_true,zbf] at this
     exact this.2
   ·rintro ⟨h1,h2⟩ k hk
    rw [hcr k hk,Bool.and_eq_true,zbf]
    exact ⟨h1 k (by simpa using hk),h2 _ (List.getElem_mem hk)⟩
  have hh : hd0 (zam c e.vars) = vty c v:=by simp [hv',zam,hd0]
  rw [hh,hkl,h1]
  simp [hv']
  grind
 ·grind
theorem zB0 (hx : ExIn c e) (hT : zaz c.data 0 e.ty = true) (hlam : e.op = 11 → ∃ n : Nat,e.num = n ∧ ∃ h : n < c.codes.length,(c.codes[n]).name = []) (hop : e.op = 11) : progRule c e = true ↔ RR c e = true:=by
 have hvl:=zaR c e.vars
 have hkl : (zaE c e.kids).length = e.kids.length:=by simp [zaE]
 simp [progRule,zba,zbg,restR,numR,parR,stR,stF,RR,refR4,refR5,refR6,refR7,refR9,hop,zaD,zbf,zby,zaR,zbv,cntL]
 obtain ⟨n,hn,hnl,hnm⟩:=hlam hop
 rw [hn,zsE hnl]
 simp [hnl,hnm,zbf,zby,zs7 hT]
 grind
theorem zB1 (hx : ExIn c e) (hT : zaz c.data 0 e.ty = true) (hop : e.op = 12) : progRule c e = true ↔ RR c e = true:=by
 have hvl:=zaR c e.vars
 have hkl : (zaE c e.kids).length = e.kids.length:=by simp [zaE]
 simp [progRule,zba,zbg,restR,numR,parR,stR,stF,RR,refR4,refR5,refR6,refR7,refR9,hop,zaD,zbf,zby,zaR,zbv,cntL]
 by_cases h0 : 0 ≤ e.num
 ·by_cases hl : e.num < c.codes.length
  ·obtain ⟨n,hn⟩ : ∃ n : Nat,e.num = n:=⟨e.num.toNat,by omega⟩
   have hnl : n < c.codes.length:=by omega
   rw [hn,zsE hnl]
   simp [hnl,zbf,zby]
   grind
  ·have : c.codes[e.num.toNat]? = none:=List.getElem?_eq_none (by omega)
   simp [this,h0,hl]
 ·simp [h0]
theorem zB2 (hx : ExIn c e) (hT : zaz c.data 0 e.ty = true) (hop : e.op = 13) : progRule c e = true ↔ RR c e = true:=by
 have hvl:=zaR c e.vars
 have hkl : (zaE c e.kids).length = e.kids.length:=by simp [zaE]
 simp [progRule,zba,zbg,restR,numR,parR,stR,stF,RR,refR4,refR5,refR6,refR7,refR9,hop,zaD,zbf,zby,zaR,zbv,cntL]
 intro h0
 cases hv : e.vars with
 | nil=>simp
 | cons v l=>
  have hvv:=zjl hx (v:=v) (by simp [hv])
  simp [zam,hd0,zs7 hvv]
  grind
theorem zB3 (hx : ExIn c e) (hT : zaz c.data 0 e.ty = true) (hop : e.op = 14) : progRule c e = true ↔ RR c e = true:=by
 have hvl:=zaR c e.vars
 have hkl : (zaE c e.kids).length = e.kids.length:=by simp [zaE]
 simp [progRule,zba,zbg,restR,numR,parR,stR,stF,RR,refR4,refR5,refR6,refR7,refR9,hop,zaD,zbf,zby,zaR,zbv,cntL]
 have t1:=zfi hT (k:=1) (by simp)
 have t2:=zfi hT (k:=2) (by simp)
 by_cases h6 : 6 ≤ e.num
 ·simp [h6,t2,zbf]
  grind
 ·simp [h6,t1,zbf]
  grind
theorem zB4 (hx : ExIn c e) (hT : zaz c.data 0 e.ty = true) (hop : e.op = 15) : progRule c e = true ↔ RR c e = true:=by
 have hvl:=zaR c e.vars
 have hkl : (zaE c e.kids).length = e.kids.length:=by simp [zaE]
 simp [progRule,zba,zbg,restR,numR,parR,stR,stF,RR,refR4,refR5,refR6,refR7,refR9,hop,zaD,zbf,zby,zaR,zbv,cntL]
 intro h0
 by_cases hv : e.vars.length = 2
 ·obtain ⟨a,b,hv'⟩:=zcC (l:=e.vars) (by simp [hv])
  simp [hv',zam,hd0,hd1]
  intro h1
  constructor
  ·rintro ⟨h2,h3⟩
   rw [h3]
   exact ⟨rfl,h2,rfl⟩
  ·rintro ⟨h2,h3,h4⟩
   refine ⟨h3,?_⟩
   rw [h4]
   exact zhi hT (k:=7) (by simp) h2
 ·grind
theorem zB5 (hx : ExIn c e) (hT : zaz c.data 0 e.ty = true) (hop : e.op = 16) : progRule c e = true ↔ RR c e = true:=by
 have hvl:=zaR c e.vars
 have hkl : (zaE c e.kids).length = e.kids.length:=by simp [zaE]
 simp [progRule,zba,zbg,restR,numR,parR,stR,stF,RR,refR4,refR5,refR6,refR7,refR9,hop,zaD,zbf,zby,zaR,zbv,cntL]
 intro h0
 by_cases hv : e.vars.length = 2
 ·obtain ⟨a,b,hv'⟩:=zcC (l:=e.vars) (by simp [hv])
  have hva:=zjl hx (v:=a) (by simp [hv'])
  simp [hv',zam,hd0,hd1]
  have:=fun h=>zhi hva (k:=7) (by simp) h
  grind
 ·grind
theorem zB6 (hx : ExIn c e) (hT : zaz c.data 0 e.ty = true) (hop : e.op = 17) : progRule c e = true ↔ RR c e = true:=by
 have hvl:=zaR c e.vars
 have hkl : (zaE c e.kids).length = e.kids.length:=by simp [zaE]
 simp [progRule,zba,zbg,restR,numR,parR,stR,stF,RR,refR4,refR5,refR6,refR7,refR9,hop,zaD,zbf,zby,zaR,zbv,cntL]
 intro h0
 by_cases hv : e.vars.length = 3
 ·obtain ⟨a,b,d,hv'⟩:=ztm (l:=e.vars) (by simp [hv])
  have hva:=zjl hx (v:=a) (by simp [hv'])
  simp [hv',zam,hd0,hd1]
  have:=fun h=>zhi hva (k:=7) (by simp) h
  grind
 ·grind
theorem zB7 (hx : ExIn c e) (hT : zaz c.data 0 e.ty = true) (hop : e.op = 18) : progRule c e = true ↔ RR c e = true:=by
 have hvl:=zaR c e.vars
 have hkl : (zaE c e.kids).length = e.kids.length:=by simp [zaE]
 simp [progRule,zba,zbg,restR,numR,parR,stR,stF,RR,refR4,refR5,refR6,refR7,refR9,hop,zaD,zbf,zby,zaR,zbv,cntL,zfi hT (k:=1) (by simp)]
 intro h0
 by_cases hv : e.vars.length = 1
 ·obtain ⟨a,hv'⟩:=zcB (l:=e.vars) (by simp [hv])
  simp [hv',zam,hd0,hd1]

 ·grind
theorem zB8 (hx : ExIn c e) (hT : zaz c.data 0 e.ty = true) (hop : e.op = 19) : progRule c e = true ↔ RR c e = true:=by
 have hvl:=zaR c e.vars
 have hkl : (zaE c e.kids).length = e.kids.length:=by simp [zaE]
 simp [progRule,zba,zbg,restR,numR,parR,stR,stF,RR,refR4,refR5,refR6,refR7,refR9,hop,zaD,zbf,zby,zaR,zbv,cntL]
 intro h0
 by_cases hv : e.vars.length = 1
 ·obtain ⟨a,hv'⟩:=zcB (l:=e.vars) (by simp [hv])
  simp [hv',zam,hd0,hd1]
  intro h1
  constructor
  ·intro h2
   rw [h2]
   exact ⟨rfl,rfl⟩
  ·rintro ⟨h2,h3⟩
   rw [h3]
   exact zhi hT (k:=8) (by simp) h2
 ·grind
theorem zB9 (hx : ExIn c e) (hT : zaz c.data 0 e.ty = true) (hop : e.op = 20) : progRule c e = true ↔ RR c e = true:=by
 have hvl:=zaR c e.vars
 have hkl : (zaE c e.kids).length = e.kids.length:=by simp [zaE]
 simp [progRule,zba,zbg,restR,numR,parR,stR,stF,RR,refR4,refR5,refR6,refR7,refR9,hop,zaD,zbf,zby,zaR,zbv,cntL]
 intro h0
 by_cases hv : e.vars.length = 1
 ·obtain ⟨a,hv'⟩:=zcB (l:=e.vars) (by simp [hv])
  simp [hv',zam,hd0,hd1]
  grind
 ·grind
theorem zCa (hx : ExIn c e) (hT : zaz c.data 0 e.ty = true) (hop : e.op = 21) : progRule c e = true ↔ RR c e = true:=by
 have hvl:=zaR c e.vars
 have hkl : (zaE c e.kids).length = e.kids.length:=by simp [zaE]
 simp [progRule,zba,zbg,restR,numR,parR,stR,stF,RR,refR4,refR5,refR6,refR7,refR9,hop,zaD,zbf,zby,zaR,zbv,cntL]
 intro h0
 by_cases hv : e.vars.length = 2
 ·obtain ⟨a,b,hv'⟩:=zcC (l:=e.vars) (by simp [hv])
  have hva:=zjl hx (v:=a) (by simp [hv'])
  simp [hv',zam,hd0,hd1]
  have:=fun h=>zhi hva (k:=8) (by simp) h
  grind
 ·grind
theorem zCc (hx : ExIn c e) (hT : zaz c.data 0 e.ty = true) (hop : e.op = 23) : progRule c e = true ↔ RR c e = true:=by
 have hvl:=zaR c e.vars
 have hkl : (zaE c e.kids).length = e.kids.length:=by simp [zaE]
 simp [progRule,zba,zbg,restR,numR,parR,stR,stF,RR,refR4,refR5,refR6,refR7,refR9,hop,zaD,zbf,zby,zaR,zbv,cntL]
 simp [hT]
 grind
theorem zCd (hx : ExIn c e) (hT : zaz c.data 0 e.ty = true) (hop : e.op = 24) : progRule c e = true ↔ RR c e = true:=by
 have hvl:=zaR c e.vars
 have hkl : (zaE c e.kids).length = e.kids.length:=by simp [zaE]
 simp [progRule,zba,zbg,restR,numR,parR,stR,stF,RR,refR4,refR5,refR6,refR7,refR9,hop,zaD,zbf,zby,zaR,zbv,cntL]
 intro h0
 by_cases hk : e.kids.length = 2
 ·obtain ⟨k0,k1,hk'⟩:=zcC (l:=e.kids) (by simp [hk])
  obtain ⟨b0,b1,hb'⟩:=zcC (l:=e.binds) (by simp [hx.bk,hk])
  simp [hk',hb',zaE,bAt,hd0,hd1,zbW,zam]
  grind
 ·grind
theorem zuf (hx : ExIn c e) (hT : zaz c.data 0 e.ty = true) (hlam : e.op = 11 → ∃ n : Nat,e.num = n ∧ ∃ h : n < c.codes.length,(c.codes[n]).name = []) : progRule c e = true ↔ RR c e = true:=by
 by_cases h1 : e.op = 1
 ·exact rl1 hx hT h1
 by_cases h2 : e.op = 2
 ·exact rl2 hx hT h2
 by_cases h3 : e.op = 3
 ·exact rl3 hx hT h3
 by_cases h4 : e.op = 4
 ·exact rl4 hx hT h4
 by_cases h5 : e.op = 5
 ·exact rl5 hx hT h5
 by_cases h6 : e.op = 6
 ·exact rl6 hx hT h6
 by_cases h7 : e.op = 7
 ·exact rl7 hx hT h7
 by_cases h8 : e.op = 8
 ·exact rl8 hx hT h8
 by_cases h9 : e.op = 9
 ·exact rl9 hx hT h9
 by_cases h10 : e.op = 10
 ·exact zBZ hx hT h10
 by_cases h11 : e.op = 11
 ·exact zB0 hx hT hlam h11
 by_cases h12 : e.op = 12
 ·exact zB1 hx hT h12
 by_cases h13 : e.op = 13
 ·exact zB2 hx hT h13
 by_cases h14 : e.op = 14
 ·exact zB3 hx hT h14
 by_cases h15 : e.op = 15
 ·exact zB4 hx hT h15
 by_cases h16 : e.op = 16
 ·exact zB5 hx hT h16
 by_cases h17 : e.op = 17
 ·exact zB6 hx hT h17
 by_cases h18 : e.op = 18
 ·exact zB7 hx hT h18
 by_cases h19 : e.op = 19
 ·exact zB8 hx hT h19
 by_cases h20 : e.op = 20
 ·exact zB9 hx hT h20
 by_cases h21 : e.op = 21
 ·exact zCa hx hT h21
 by_cases h22 : e.op = 22
 ·exact zCb hx hT h22
 by_cases h23 : e.op = 23
 ·exact zCc hx hT h23
 by_cases h24 : e.op = 24
 ·exact zCd hx hT h24
 have hp : progRule c e = false:=by
  have h15' : ¬ (15 ≤ e.op ∧ e.op ≤ 21):=by omega
  simp [progRule,zba,zbg,restR,stR,h1,h2,h3,h4,h5,h6,h7,h8,h9,h10,h11,h12,h13,h14,h15,h16,h17,h18,h19,h20,h21,h22,h23,h24]
  intro _ h1 h2
  omega
 have hr : RR c e = false:=by simp [RR,refR4,refR5,refR6,refR7,refR9,h1,h2,h3,h4,h5,h6,h7,h8,h9,h10,h11,h12,h13,h14,h15,h16,h17,h18,h19,h20,h21,h22,h23,h24]
 rw [hp,hr]
end
end Go.Proofs.Ytkdmpbhbmmhijaa
