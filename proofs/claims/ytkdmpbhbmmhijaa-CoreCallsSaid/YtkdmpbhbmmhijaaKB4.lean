import Derived.Test.YtkdmpbhbmmhijaaKY10
import Derived.Test.YtkdmpbhbmmhijaaKY14
import Derived.Test.YtkdmpbhbmmhijaaKY16
set_option linter.unusedSimpArgs false
set_option linter.unusedVariables false
namespace Go.Proofs.Ytkdmpbhbmmhijaa
open Go Go.Abs
set_option maxRecDepth 8000
def zrY (c : Con) : Prop:=c.name.length ≤ 40 ∧ c.args.length ≤ 8 ∧ ∀ t ∈ c.args,t.nodes ≤ 20
def zmq (d : Dat) : Prop:=d.name.length ≤ 40 ∧ d.cons.length ≤ 10 ∧ ∀ c ∈ d.cons,zrY c
def zmr (ds : List Dat) : Prop:=ds.length ≤ 14 ∧ ∀ d ∈ ds,zmq d
theorem zcn {α : Type} {l : List α} {i : Nat} (h : i < l.length) {p : α → Prop} (h1 : ∀ x ∈ l.take i,p x) (h2 : p l[i]) : ∀ x ∈ l.take (i + 1),p x:=by
 rw [List.take_succ_eq_append_getElem h]
 intro x hx
 rcases List.mem_append.1 hx with hx | hx
 ·exact h1 x hx
 ·simp at hx; subst hx; exact h2
theorem zis {α : Type} {cs : α → List AV} {l : List α} {i : Nat} (h : i < l.length) : (l.map cs)[i]?.getD [] = cs l[i]:=by simp [h]
theorem vt3 (v : VT) : ∃ a b c,v.cs = [a,b,c] ∧ a.known = true ∧ b.known = true ∧ c.known = true:=by
 obtain ⟨k,n,ks⟩:=v; exact ⟨_,_,_,rfl,rfl,rfl,rfl⟩
theorem zIc (ds : List Dat) (H : zaa) (K : AV → zaa → Prop) (hlen : ds.length ≤ 9223372036854775807) (hK : ∀ b,(b = true → zmr ds) → K (.bool b) H) : ACalls tP znq [.sl (ds.map Dat.cs) .none] H K:=by
 refine ACalls.out (zIa fun hs=>?_)
 have hF : ∀ J,Out H.length K (.bool false) (H ++ J):=fun J=>Out.bool rfl (Nat.le_refl _) hs (hK false fun h=>by cases h)
 have hF0 : Out H.length K (.bool false) H:=by simpa using hF []
 by_cases h14 : ds.length > 14
 ·have : (14 : Int) < ds.length:=by omega
  simp [zpJ,this]
  exact hF0
 have : ¬ (14 : Int) < ds.length:=by omega
 simp [zpJ,this]
 refine zH7 (Inv:=fun q t15 H'=>∃ i : Nat,i ≤ ds.length ∧ q = ds.length - i ∧ t15 = .int .i64 i ∧ (∀ d ∈ ds.take i,zmq d) ∧ H = H') ds.length ?_ ?_
 ·intro _; exact ⟨0,by omega,by omega,rfl,by simp,rfl⟩
 ·rintro q t15 H' ⟨i,hi,rfl,rfl,ha,rfl⟩ hsc hl hsF Kb4 hKb4
  by_cases hil : i < ds.length
  ·have hat : (ds.map Dat.cs)[i]?.getD [] = [.str ds[i].name,.int .i64 ds[i].vars,.sl (ds[i].cons.map Con.cs) .none]:=zis hil
   have next : zmq ds[i] → ∀ J,Kb4 (zhy (.sl (ds.map Dat.cs) .none) (.int .i64 ds.length) (.int .i64 (i + 1))) (H ++ J):=by
    intro hd J
    refine hKb4 _ _ ⟨ds.length - (i + 1),by omega,Back.same (Nat.le_refl _) hs ?_ ⟨_,rfl,i + 1,by omega,rfl,by simp,zcn hil ha hd,rfl⟩⟩
    simp [zhy,AV.sc,AV.scV,AV.scA,AV.scB]
   generalize hdd : ds[i] = d at *
   simp [zpL,hil,hat,AV.known,hdd,Dat.cs]
   by_cases hn : d.name.length > 40
   ·have : (40 : Int) < d.name.length:=by omega
    simp [this]
    exact hF _
   have hn' : ¬ (40 : Int) < d.name.length:=by omega
   by_cases hc : d.cons.length > 10
   ·have : (10 : Int) < d.cons.length:=by omega
    simp [hn',this]
    exact hF _
   have hc' : ¬ (10 : Int) < d.cons.length:=by omega
   simp [hn',hc']
   refine zH8 (Inv:=fun q t32 H'=>∃ j : Nat,j ≤ d.cons.length ∧ q = d.cons.length - j ∧ t32 = .int .i64 j ∧ (∀ c ∈ d.cons.take j,zrY c) ∧ H' = H ++ [.cells [.str d.name,.int .i64 d.vars,.sl (d.cons.map Con.cs) .none]]) d.cons.length ?_ ?_
   ·intro _; exact ⟨0,by omega,by omega,rfl,by simp,rfl⟩
   ·rintro q t32 H' ⟨j,hj,rfl,rfl,hb,rfl⟩ hsc9 hl9 hsF9 Kb9 hKb9
    by_cases hjl : j < d.cons.length
    ·have hat : (d.cons.map Con.cs)[j]?.getD [] = [.str d.cons[j].name,.sl (VT.css d.cons[j].args) .none]:=zis hjl
     generalize hcc : d.cons[j] = c at *
     simp [zpM,hjl,hat,AV.known,hcc,Con.cs]
     by_cases hn : c.name.length > 40
     ·have : (40 : Int) < c.name.length:=by omega
      simp [this]
      exact hF _
     have hn' : ¬ (40 : Int) < c.name.length:=by omega
     by_cases hc : c.args.length > 8
     ·have : (8 : Int) < c.args.length:=by omega
      simp [hn',this]
      exact hF _
     have hc' : ¬ (8 : Int) < c.args.length:=by omega
     simp [hn',hc']
     refine zH6 (Inv:=fun q t49 H'=>∃ (k : Nat) (l : Int),k ≤ c.args.length ∧ q = c.args.length - k ∧ t49 = .int .i64 k ∧ -1 ≤ l ∧ l ≤ 20 ∧ (∀ t ∈ c.args.take k,t.nodes ≤ 20) ∧ H' = H ++ [.cells [.str d.name,.int .i64 d.vars,.sl (d.cons.map Con.cs) .none],.cells [.str c.name,.sl (VT.css c.args) .none],.cells [.int .i64 l]]) c.args.length ?_ ?_
     ·intro _; exact ⟨0,20,by omega,by omega,rfl,by omega,by omega,by simp,rfl⟩
     ·rintro q t49 H' ⟨k,l,hk,rfl,rfl,hl0,hl1,hb15,rfl⟩ hsc15 hl15 hsF15 Kb15 hKb15
      by_cases hkl : k < c.args.length
      ·obtain ⟨x,y,z,hv,hx,hy,hz⟩:=vt3 c.args[k]
       simp [zpK,hkl,hv,hx,hy,hz]
       rw [← hv]
       refine zx0 _ _ (Nat.le_refl _) l (by omega) hl0 _ (H.length + 2) (by simp) _ ?_ ?_
       ·intro hle
        simp
        rw [zaq (by omega) (by omega)]
        refine hKb15 _ _ ⟨c.args.length - (k + 1),by omega,Back.at (J:=[_]) (H2:=H ++ [.cells [.str d.name,.int .i64 d.vars,.sl (d.cons.map Con.cs) .none],.cells [.str c.name,.sl (VT.css c.args) .none],.cells [.int .i64 (l - c.args[k].nodes)]]) (by simp; rfl) (by simp) (hs.append rfl) ?_ ⟨_,rfl,k + 1,l - c.args[k].nodes,by omega,rfl,by simp,by omega,by omega,zcn hkl hb15 (by omega),rfl⟩⟩
        simp [zkr,AV.sc,AV.scV,AV.scA,AV.scB]
       ·intro hle l'
        simp
        exact hF _
      ·obtain rfl : k = c.args.length:=by omega
       rw [List.take_length] at hb15
       simp [zpK]
       rw [zaq (by omega) (by omega)]
       refine hKb9 _ _ ⟨d.cons.length - (j + 1),by omega,Back.at (J:=[_,_]) (H2:=H ++ [.cells [.str d.name,.int .i64 d.vars,.sl (d.cons.map Con.cs) .none]]) (by simp; exact ⟨rfl,rfl⟩) (by simp) (hs.append rfl) ?_ ⟨_,rfl,j + 1,by omega,rfl,by simp,zcn hjl hb (by rw [hcc]; exact ⟨by omega,by omega,hb15⟩),rfl⟩⟩
       simp [zks,AV.sc,AV.scV,AV.scA,AV.scB]
    ·obtain rfl : j = d.cons.length:=by omega
     rw [List.take_length] at hb
     simp [zpM]
     rw [zaq (by omega) (by omega)]
     exact next ⟨by omega,by omega,hb⟩ _
  ·obtain rfl : i = ds.length:=by omega
   rw [List.take_length] at ha
   simp [zpL]
   exact Out.bool (J:=[]) (by simp) (Nat.le_refl _) hs (hK true fun _=>⟨by omega,ha⟩)
def zrX (f : Cod) : Prop:=f.name.length ≤ 400 ∧ f.params.length ≤ 10 ∧ f.capt.length ≤ 40 ∧ f.res.nodes ≤ 250
def KEx (e : CEx) : Prop:=e.vars.length ≤ 40 ∧ e.binds.length ≤ 10 ∧ e.kids.length ≤ 10 ∧ e.ty.nodes ≤ 250 ∧ ∀ l ∈ e.binds,l.length ≤ 10
def zaP (c : Cor) : Prop:=zmr c.data ∧ c.codes.length ≤ 24 ∧ c.exprs.length ≤ 160 ∧ (c.vars.length ≤ 160 ∧ ∀ v ∈ c.vars,v.nodes ≤ 250) ∧ (∀ f ∈ c.codes,zrX f) ∧ ∀ e ∈ c.exprs,KEx e
theorem zEM (c : Cor) (h1 : c.data.length ≤ 9223372036854775807) (h2 : c.vars.length ≤ 9223372036854775807) (H : zaa) (K : AV → zaa → Prop) (hK : ∀ b,(b = true → zaP c) → K (.bool b) H) : ACalls tP zng [.agg c.cs] H K:=by
 refine ACalls.out (zEL fun hs=>?_)
 have hF : ∀ J,Out H.length K (.bool false) (H ++ J):=fun J=>Out.bool rfl (Nat.le_refl _) hs (hK false fun h=>by cases h)
 simp [zu2,Cor.cs]
 refine zIc c.data _ _ h1 fun b hb=>?_
 cases b with
 | false=>simp; exact hF _
 | true=>
 have hdata:=hb rfl
 by_cases hc : c.codes.length > 24
 ·have : (24 : Int) < c.codes.length:=by omega
  simp [this]
  exact hF _
 have hc' : ¬ (24 : Int) < c.codes.length:=by omega
 by_cases he : c.exprs.length > 160
 ·have : (160 : Int) < c.exprs.length:=by omega
  simp [hc',this]
  exact hF _
 have he' : ¬ (160 : Int) < c.exprs.length:=by omega
 simp [hc',he']
 refine zIj c.vars 160 (by omega) h2 _ _ fun b hb=>?_
 cases b with
 | false=>simp; exact hF _
 | true=>
 have hvars:=hb rfl
 simp
 refine zEI (Inv:=fun q t34 H'=>∃ i : Nat,i ≤ c.codes.length ∧ q = c.codes.length - i ∧ t34 = .int .i64 i ∧ (∀ f ∈ c.codes.take i,zrX f) ∧ H' = H ++ [.cells [.sl (c.data.map Dat.cs) .none,.sl (c.codes.map Cod.cs) .none,.sl (VT.css c.vars) .none,.sl (c.exprs.map CEx.cs) .none]]) c.codes.length ?_ ?_
 ·intro _; exact ⟨0,by omega,by omega,rfl,by simp,rfl⟩
 ·rintro q t34 H' ⟨i,hi,rfl,rfl,ha,rfl⟩ hsc4 hl4 hsF4 Kb4 hKb4
  by_cases hil : i < c.codes.length
  ·obtain ⟨x,y,z,hv,hx,hy,hz⟩:=vt3 (c.codes[i]).res
   have hat : (c.codes.map Cod.cs)[i]?.getD [] = [.str (c.codes[i]).name,.sl (ints (c.codes[i]).params) .none,.sl (ints (c.codes[i]).capt) .none,x,y,z,.int .i64 (c.codes[i]).body]:=by
    rw [zis hil,Cod.cs,hv]; rfl
   generalize hff : c.codes[i] = f at *
   simp [zoJ,hil,hat,hx,hy,hz,hff,Cod.cs,hv]
   by_cases hn : f.name.length > 400
   ·have : (400 : Int) < f.name.length:=by omega
    simp [this]; exact hF _
   have hn' : ¬ (400 : Int) < f.name.length:=by omega
   by_cases hp : f.params.length > 10
   ·have : (10 : Int) < f.params.length:=by omega
    simp [hn',this]; exact hF _
   have hp' : ¬ (10 : Int) < f.params.length:=by omega
   by_cases hq : f.capt.length > 40
   ·have : (40 : Int) < f.capt.length:=by omega
    simp [hn',hp',this]; exact hF _
   have hq' : ¬ (40 : Int) < f.capt.length:=by omega
   simp [hn',hp',hq']
   rw [← hv]
   refine zpR f.res _ _ fun b hb=>?_
   cases b with
   | false=>simp; exact hF _
   | true=>
    simp
    rw [zaq (by omega) (by omega)]
    refine hKb4 _ _ ⟨c.codes.length - (i + 1),by omega,Back.at (J:=[_]) (H2:=H ++ [.cells [.sl (c.data.map Dat.cs) .none,.sl (c.codes.map Cod.cs) .none,.sl (VT.css c.vars) .none,.sl (c.exprs.map CEx.cs) .none]]) (by simp; rfl) (by simp) (hs.append rfl) ?_ ⟨_,rfl,i + 1,by omega,rfl,by simp,zcn hil ha (by rw [hff]; exact ⟨by omega,by omega,by omega,hb rfl⟩),rfl⟩⟩
    simp [zjv,AV.sc,AV.scV,AV.scA,AV.scB]
  ·obtain rfl : i = c.codes.length:=by omega
   rw [List.take_length] at ha
   simp [zoJ]
   refine zEG (Inv:=fun q t64 H'=>∃ i : Nat,i ≤ c.exprs.length ∧ q = c.exprs.length - i ∧ t64 = .int .i64 i ∧ (∀ e ∈ c.exprs.take i,KEx e) ∧ H' = H ++ [.cells [.sl (c.data.map Dat.cs) .none,.sl (c.codes.map Cod.cs) .none,.sl (VT.css c.vars) .none,.sl (c.exprs.map CEx.cs) .none]]) c.exprs.length ?_ ?_
   ·intro _; exact ⟨0,by omega,by omega,rfl,by simp,rfl⟩
   ·rintro q t64 H' ⟨i,hi,rfl,rfl,hb,rfl⟩ hsc10 hl10 hsF10 Kb10 hKb10
    by_cases hil : i < c.exprs.length
    ·obtain ⟨x,y,z,hv,hx,hy,hz⟩:=vt3 (c.exprs[i]).ty
     have hat : (c.exprs.map CEx.cs)[i]?.getD [] = [.int .i64 (c.exprs[i]).op,.int .i64 (c.exprs[i]).num,.sl (ints (c.exprs[i]).vars) .none,.sl (rows (c.exprs[i]).binds) .none,.sl (ints (c.exprs[i]).kids) .none,x,y,z]:=by
      rw [zis hil,CEx.cs,hv]
     generalize hff : c.exprs[i] = e at *
     simp [zoH,hil,hat,hx,hy,hz,hff,CEx.cs,hv]
     by_cases hn : e.vars.length > 40
     ·have : (40 : Int) < e.vars.length:=by omega
      simp [this]; exact hF _
     have hn' : ¬ (40 : Int) < e.vars.length:=by omega
     by_cases hp : e.binds.length > 10
     ·have : (10 : Int) < e.binds.length:=by omega
      simp [hn',this]; exact hF _
     have hp' : ¬ (10 : Int) < e.binds.length:=by omega
     by_cases hq : e.kids.length > 10
     ·have : (10 : Int) < e.kids.length:=by omega
      simp [hn',hp',this]; exact hF _
     have hq' : ¬ (10 : Int) < e.kids.length:=by omega
     simp [hn',hp',hq']
     rw [← hv]
     refine zpR e.ty _ _ fun b hb4=>?_
     cases b with
     | false=>simp; exact hF _
     | true=>
      simp
      refine zEH (Inv:=fun q t93 H'=>∃ j : Nat,j ≤ e.binds.length ∧ q = e.binds.length - j ∧ t93 = .int .i64 j ∧ (∀ l ∈ e.binds.take j,l.length ≤ 10) ∧ ∃ J,H' = H ++ .cells [.sl (c.data.map Dat.cs) .none,.sl (c.codes.map Cod.cs) .none,.sl (VT.css c.vars) .none,.sl (c.exprs.map CEx.cs) .none] :: J) e.binds.length ?_ ?_
      ·intro _; exact ⟨0,by omega,by omega,rfl,by simp,_,rfl⟩
      ·rintro q t93 H' ⟨j,hj,rfl,rfl,hb,J,rfl⟩ hsc15 hl15 hsF15 Kb15 hKb15
       by_cases hjl : j < e.binds.length
       ·simp [zoI,hjl,rows]
        by_cases hr : (e.binds[j]).length > 10
        ·have : (10 : Int) < (e.binds[j]).length:=by omega
         simp [this]; exact hF _
        have hr' : ¬ (10 : Int) < (e.binds[j]).length:=by omega
        simp [hr']
        rw [zaq (by omega) (by omega)]
        refine hKb15 _ _ ⟨e.binds.length - (j + 1),by omega,Back.here hl15 hsc15 ?_ ⟨_,rfl,j + 1,by omega,rfl,by simp,zcn hjl hb (by omega),J,rfl⟩⟩
        simp [zju,AV.sc,AV.scV,AV.scA,AV.scB]
       ·obtain rfl : j = e.binds.length:=by omega
        rw [List.take_length] at hb
        simp [zoI]
        rw [zaq (by omega) (by omega)]
        refine hKb10 _ _ ⟨c.exprs.length - (i + 1),by omega,Back.at (J:=J) (H2:=H ++ [.cells [.sl (c.data.map Dat.cs) .none,.sl (c.codes.map Cod.cs) .none,.sl (VT.css c.vars) .none,.sl (c.exprs.map CEx.cs) .none]]) (by simp) (by simp) (hs.append rfl) ?_ ⟨_,rfl,i + 1,by omega,rfl,by simp,zcn hil (by assumption) (by rw [hff]; exact ⟨by omega,by omega,by omega,hb4 rfl,hb⟩),rfl⟩⟩
        simp [zjt,AV.sc,AV.scV,AV.scA,AV.scB]
    ·obtain rfl : i = c.exprs.length:=by omega
     rw [List.take_length] at hb
     simp [zoH]
     exact Out.bool rfl (Nat.le_refl _) hs (hK true fun _=>⟨hdata,by omega,by omega,hvars,ha,hb⟩)
def zbe (c : Cor) : AB:=.cells [.sl (c.data.map Dat.cs) .none,.sl (c.codes.map Cod.cs) .none,.sl (VT.css c.vars) .none,.sl (c.exprs.map CEx.cs) .none]
theorem zez {c : Cor} {i : Nat} (h : i < c.codes.length) : ∃ x y z,(c.codes[i]).res.cs = [x,y,z] ∧ x.known = true ∧ y.known = true ∧ z.known = true ∧ (c.codes[i]).cs = [.str (c.codes[i]).name,.sl (ints (c.codes[i]).params) .none,.sl (ints (c.codes[i]).capt) .none,x,y,z,.int .i64 (c.codes[i]).body]:=by
 obtain ⟨x,y,z,hv,hx,hy,hz⟩:=vt3 (c.codes[i]).res
 refine ⟨x,y,z,hv,hx,hy,hz,?_⟩
 rw [Cod.cs,hv]; rfl
theorem zdw {c : Cor} {i : Nat} (h : i < c.exprs.length) : ∃ x y z,(c.exprs[i]).ty.cs = [x,y,z] ∧ x.known = true ∧ y.known = true ∧ z.known = true ∧ (c.exprs[i]).cs = [.int .i64 (c.exprs[i]).op,.int .i64 (c.exprs[i]).num,.sl (ints (c.exprs[i]).vars) .none,.sl (rows (c.exprs[i]).binds) .none,.sl (ints (c.exprs[i]).kids) .none,x,y,z]:=by
 obtain ⟨x,y,z,hv,hx,hy,hz⟩:=vt3 (c.exprs[i]).ty
 refine ⟨x,y,z,hv,hx,hy,hz,?_⟩
 rw [CEx.cs,hv]
def zeO (c : Cor) : Bool:=decide (c.vars.length ≤ 3000) && c.vars.all (zaz c.data 0)
theorem zz2 : zcO tP znH = true:=by kernel_rfl
theorem zIy (c : Cor) (hc : zaP c) (H : zaa) (K : AV → zaa → Prop) (hK : K (.bool (zeO c)) H) : ACalls tP znt [.agg c.cs] H K:=by
 refine ACalls.out (zIx fun hs=>?_)
 obtain ⟨k1,k2,k3,⟨k4,k5⟩,k6,k7⟩:=hc
 have h1 : (c.vars.length : Int) ≤ 3000:=by omega
 have h2 : c.vars.length ≤ 3000:=by omega
 simp [zwx,Cor.cs,h1,h2]
 refine ⟨rfl,?_⟩
 have hO : ∀ J,Out H.length K (.bool (c.vars.all (zaz c.data 0))) (H ++ J):=fun J=>Out.bool rfl (Nat.le_refl _) hs (by simpa [zeO,h2] using hK)
 refine zmQ c.vars (by omega) _ _ _ (by simp [AV.sc,AV.scV,AV.scA,AV.scB]) (fun i H'=>H' = H ++ [zbe c] ∧ ∀ v ∈ c.vars.take i,zaz c.data 0 v = true) ⟨rfl,by simp⟩ ?_ ?_
 ·rintro i hi H' hle ⟨rfl,hp⟩
  simp only [aCallV,zz2]
  refine ACalls.out (zMg fun hs1=>?_)
  simp [zx6,zbe]
  refine zlF c.data 0 _ (by have:=k5 _ (List.getElem_mem hi); omega) _ _ ?_
  cases hv : zaz c.data 0 c.vars[i] with
  | true=>
   simp
   refine Out.bool (H2:=H ++ [zbe c]) (J:=[.cells (c.vars[i]).cs]) (by simp [zbe]) (by simp) hs1 (.inl ⟨rfl,rfl,zcn hi hp hv⟩)
  | false=>
   simp
   refine Out.bool (H2:=H ++ [zbe c]) (J:=[.cells (c.vars[i]).cs]) (by simp [zbe]) (by simp) hs1 (.inr ⟨rfl,?_⟩)
   have : c.vars.all (zaz c.data 0) = false:=by
    rw [List.all_eq_false]; exact ⟨_,List.getElem_mem hi,by simp [hv]⟩
   rw [this] at hO
   simpa using hO _
 ·rintro H' ⟨rfl,hp⟩
  rw [List.take_length] at hp
  have : c.vars.all (zaz c.data 0) = true:=by rw [List.all_eq_true]; exact hp
  rw [this] at hO
  simpa using hO _
theorem zCC (s : List UInt8) (l : List (List UInt8)) : ∃ l',zcP (zbt l) s (.bool true) = zbt l' ∧ ∀ x,x ∈ l' ↔ x ∈ l ∨ x = s:=by
 induction l with
 | nil=>exact ⟨[s],rfl,by simp⟩
 | cons a l ih=>
  cases h : a == s with
  | true=>
   have h' : a = s:=by simpa using h
   refine ⟨a :: l,by simp [zbt,zcP,h,h'],?_⟩
   intro x; subst h'; simp
   exact fun h=>.inl h
  | false=>
   obtain ⟨l',h1,h2⟩:=ih
   refine ⟨a :: l',?_,?_⟩
   ·simp only [zbt,List.map_cons,zcP,h] at h1 ⊢; rw [h1]
   ·intro x; simp [h2,or_assoc]
def zmp (c : Cor) (i : Nat) : Prop:=∃ h : i < c.codes.length,
 ((c.codes[i]).name ≠ [] → (∀ j (hj : j < i),(c.codes[j]).name ≠ []) ∧ (∀ j (hj : j < i),(c.codes[j]).name ≠ (c.codes[i]).name) ∧ (c.codes[i]).capt = []) ∧ (c.codes[i]).params.length ≤ 6 ∧ zaz c.data 0 (c.codes[i]).res = true ∧
 ∃ b : Nat,(c.codes[i]).body = b ∧ ∃ hb : b < c.exprs.length,(c.exprs[b]).ty.same (c.codes[i]).res = true
def zds (c : Cor) : Prop:=∀ i,i < c.codes.length → zmp c i
theorem zIF (c : Cor) (hc : zaP c) (H : zaa) (K : AV → zaa → Prop) (hK : ∀ b,(b = true ↔ zds c) → K (.bool b) H) : ACalls tP znu [.agg c.cs] H K:=by
 refine ACalls.out (zID fun hs=>?_)
 obtain ⟨k1,k2,k3,⟨k4,k5⟩,k6,k7⟩:=hc
 have hF : ¬ zds c → ∀ J,Out H.length K (.bool false) (H ++ J):=fun h J=>Out.bool rfl (Nat.le_refl _) hs (hK _ (by simp [h]))
 have hT : zds c → ∀ J,Out H.length K (.bool true) (H ++ J):=fun h J=>Out.bool rfl (Nat.le_refl _) hs (hK _ (by simp [h]))
 have h1 : ¬ (64 : Int) < c.codes.length:=by omega
 have h2 : ¬ (3000 : Int) < c.exprs.length:=by omega
 simp [zwy,Cor.cs,h1,h2]
 refine zIB (Inv:=fun q t4 t21 H'=>∃ (i : Nat) (lam : Bool) (l : List (List UInt8)),i ≤ c.codes.length ∧ q = c.codes.length - i ∧ t21 = .int .i64 i ∧ t4 = .bool lam ∧ (lam = true ↔ ∃ j,∃ h : j < c.codes.length,j < i ∧ (c.codes[j]).name = []) ∧ (∀ s,s ∈ l ↔ ∃ j,∃ h : j < c.codes.length,j < i ∧ (c.codes[j]).name = s) ∧ (∀ j,j < i → zmp c j) ∧ H' = H ++ [zbe c,.map (zbt l)]) c.codes.length ?_ ?_
 ·intro _; exact ⟨0,false,[],by omega,by omega,rfl,rfl,by simp,by simp,by simp,by simp [zbe,zbt]⟩
 ·rintro q t4 t21 H' ⟨i,lam,l,hi,rfl,rfl,rfl,hlam,hl,hp,rfl⟩ hsc hlen hsF Kb hKb
  by_cases hlt : i < c.codes.length
  ·obtain ⟨x,y,z,hv,hx,hy,hz,hat⟩:=zez hlt
   have hnb:=(k6 _ (List.getElem_mem hlt)).2.2.2
   have hno : ¬ zmp c i → ∀ J,Out H.length K (.bool false) (H ++ J):=fun h=>hF fun hh=>h (hh i hlt)
   have body : (((c.codes[i]).name ≠ [] → (∀ j (hj : j < i),(c.codes[j]).name ≠ []) ∧ (∀ j (hj : j < i),(c.codes[j]).name ≠ (c.codes[i]).name) ∧ (c.codes[i]).capt = [])) → ∀ lam' : Bool,(lam' = true ↔ ∃ j,∃ h : j < c.codes.length,j < i + 1 ∧ (c.codes[j]).name = []) →
     zhz (.ptr H.length 0) (.map (H.length + 1)) (.bool lam') (.ptr (H.length + 2) 0) (.sl (c.codes.map Cod.cs) .none) (.int .i64 c.codes.length) (.int .i64 i) (H ++ [zbe c,.map (zbt l),.cells [.str (c.codes[i]).name,.sl (ints (c.codes[i]).params) .none,.sl (ints (c.codes[i]).capt) .none,x,y,z,.int .i64 (c.codes[i]).body]]) (Out H.length K) Kb:=by
    intro hcond lam' hlam'
    obtain ⟨l',hl1,hl2⟩:=zCC (c.codes[i]).name l
    have hlp : ∀ s,s ∈ l' ↔ ∃ j,∃ h : j < c.codes.length,j < i + 1 ∧ (c.codes[j]).name = s:=by
     intro s
     rw [hl2,hl]
     constructor
     ·rintro (⟨j,h,h1,h2⟩ | rfl)
      ·exact ⟨j,h,by omega,h2⟩
      ·exact ⟨i,hlt,by omega,rfl⟩
     ·rintro ⟨j,h,h1,h2⟩
      by_cases hji : j = i
      ·subst hji; exact .inr h2.symm
      ·exact .inl ⟨j,h,by omega,h2⟩
    by_cases hp6 : (c.codes[i]).params.length ≤ 6
    ·have hp6' : ¬ (6 : Int) < (c.codes[i]).params.length:=by omega
     simp [zhz,hl1,zbe,hp6']
     rw [← hv]
     refine zlF c.data 0 _ (by omega) _ _ ?_
     cases hty : zaz c.data 0 (c.codes[i]).res with
     | false=>simp; exact hno (by rintro ⟨_,_,_,h,_⟩; rw [hty] at h; cases h) _
     | true=>
     by_cases hb0 : (c.codes[i]).body < 0
     ·simp [hb0]; exact hno (by rintro ⟨_,_,_,_,b,h,_⟩; omega) _
     by_cases hbn : (c.codes[i]).body ≥ c.exprs.length
     ·have:=hbn
      simp [hb0,hbn]; exact hno (by rintro ⟨_,_,_,_,b,h,h2,_⟩; omega) _
     obtain ⟨b,hb⟩ : ∃ b : Nat,(c.codes[i]).body = b:=⟨(c.codes[i]).body.toNat,by omega⟩
     have hbl : b < c.exprs.length:=by omega
     have hbn' : ¬ (c.exprs.length : Int) ≤ b:=by omega
     obtain ⟨x',y',z',hv',hx',hy',hz',hat'⟩:=zdw hbl
     have hnb':=(k7 _ (List.getElem_mem hbl)).2.2.2.1
     have hb0' : ¬ (b : Int) < 0:=by omega
     simp [hb,hb0',hbl,hbn',hat']
     rw [← hv,← hv']
     refine zay (.bool ((c.exprs[b]).ty.same (c.codes[i]).res)) (fun J=>zlG _ _ _ (Nat.le_refl _) (by omega) _ _ ⟨rfl,rfl⟩) ?_
     cases hsm : (c.exprs[b]).ty.same (c.codes[i]).res with
     | false=>
      simp
      refine hno ?_ _
      rintro ⟨_,_,_,_,b',h,h2,h3⟩
      obtain rfl : b' = b:=by omega
      rw [hsm] at h3; cases h3
     | true=>
      simp
      rw [zaq (by omega) (by omega)]
      refine hKb _ _ ⟨c.codes.length - (i + 1),by omega,Back.at (J:=[_]) (H2:=H ++ [zbe c,.map (zbt l')]) (by simp [zbe]; rfl) (by simp) (hs.append (by rw [List.all_cons,List.all_cons,zuk]; rfl)) ?_ ⟨_,_,rfl,i + 1,lam',l',by omega,rfl,by simp,rfl,hlam',hlp,?_,rfl⟩⟩
      ·simp [zkz,AV.sc,AV.scV,AV.scA,AV.scB]
      ·intro j hj
       by_cases hji : j = i
       ·subst hji; exact ⟨hlt,hcond,hp6,hty,b,hb,hbl,hsm⟩
       ·exact hp j (by omega)
    ·have hp6' : (6 : Int) < (c.codes[i]).params.length:=by omega
     simp [zhz,hl1,zbe,hp6']
     exact hno (by rintro ⟨_,_,h,_⟩; exact hp6 h) _
   cases hnm : ((c.codes[i]).name == []) with
   | true=>
    simp [zft,hlt,hat,hx,hy,hz,hnm,Nat.add_assoc]
    refine body (fun h=>absurd (by simpa using hnm) h) true ?_
    simp; exact ⟨i,by omega,hlt,by simpa using hnm⟩
   | false=>
    have hnm' : (c.codes[i]).name ≠ []:=by simpa using hnm
    cases lam with
    | true=>
     simp [zft,hlt,hat,hx,hy,hz,hnm]
     refine hno ?_ _
     rintro ⟨_,h,_⟩
     obtain ⟨j,h1,h2,h3⟩:=hlam.1 rfl
     exact (h hnm').1 j h2 h3
    | false=>
    by_cases hmem : (c.codes[i]).name ∈ l
    ·simp [zft,hlt,hat,hx,hy,hz,hnm,zdR,hmem]
     refine hno ?_ _
     rintro ⟨_,h,_⟩
     obtain ⟨j,h1,h2,h3⟩:=(hl _).1 hmem
     exact (h hnm').2.1 j h2 h3
    by_cases hcap : (c.codes[i]).capt.length > 0
    ·have hcap' : (0 : Int) < (c.codes[i]).capt.length:=by omega
     simp [zft,hlt,hat,hx,hy,hz,hnm,zdR,hmem,hcap,hcap']
     refine hno ?_ _
     rintro ⟨_,h,_⟩
     have:=(h hnm').2.2
     rw [this] at hcap; simp at hcap
    ·have hcap' : ¬ (0 : Int) < (c.codes[i]).capt.length:=by omega
     have hcap2 : (c.codes[i]).capt = []:=List.eq_nil_of_length_eq_zero (by omega)
     simp [zft,hlt,hat,hx,hy,hz,hnm,zdR,hmem,hcap,hcap',Nat.add_assoc]
     refine body (fun _=>⟨fun j hj h=>?_,fun j hj h=>?_,hcap2⟩) false ?_
     ·exact absurd (hlam.2 ⟨j,by omega,hj,h⟩) (by simp)
     ·exact hmem ((hl _).2 ⟨j,by omega,hj,h⟩)
     ·simp
      intro j hj h1 h2
      by_cases hji : j = i
      ·subst hji; exact hnm' h2
      ·exact absurd (hlam.2 ⟨j,h1,by omega,h2⟩) (by simp)
  ·obtain rfl : i = c.codes.length:=by omega
   simp [zft]
   exact hT hp _
theorem ziW : ∀ (n : Nat) (S : List Int),S.Nodup → (∀ x ∈ S,0 ≤ x ∧ x < n) → S.length ≤ n:=by
 intro n
 induction n with
 | zero=>
  intro S _ h
  cases S with
  | nil=>simp
  | cons a S=>have:=h a (by simp); omega
 | succ n ih=>
  intro S hS h
  by_cases hm : (n : Int) ∈ S
  ·have:=ih (S.erase n) (hS.erase _) (fun x hx=>by
    have h1:=h x (List.mem_of_mem_erase hx)
    have h2 : x ≠ n:=by rintro rfl; exact (hS.not_mem_erase) hx
    omega)
   rw [List.length_erase_of_mem hm] at this
   omega
  ·have:=ih S hS (fun x hx=>by
    have h1:=h x hx
    have h2 : x ≠ n:=by rintro rfl; exact hm hx
    omega)
   omega
def zcS (n : Nat) (S : List Int) : List Bool:=(List.range n).map fun (i : Nat)=>decide ((i : Int) ∈ S)
@[simp] theorem zSB (n : Nat) (S : List Int) : (zcS n S).length = n:=by simp [zcS]
theorem zBa {n e : Nat} (S : List Int) (h : e < n) : (zcS n S)[e]? = some (decide ((e : Int) ∈ S)):=by simp [zcS,h]
theorem zzC {n e : Nat} (S : List Int) (h : e < n) : (zas (zcS n S))[e]? = some (.bool (decide ((e : Int) ∈ S))):=by simp [zas,zBa S h]
@[simp] theorem zRY {l : List Bool} {i : Nat} (h : i < (zas l).length) : (zas l)[i] = .bool (l[i]'(by simpa using h)):=by simp [zas]
@[simp] theorem zSA {n i : Nat} {S : List Int} (h : i < (zcS n S).length) : (zcS n S)[i] = decide ((i : Int) ∈ S):=by simp [zcS]
theorem ztt (n : Nat) : List.replicate n false = zcS n []:=by
 apply List.ext_getElem <;> simp [zcS]
theorem ztu {n e : Nat} (S : List Int) (h : e < n) : (zcS n S).set e true = zcS n (S ++ [(e : Int)]):=by
 apply List.ext_getElem
 ·simp
 ·intro k h1 h2
  simp [List.getElem_set,zcS]
  by_cases hk : e = k
  ·subst hk; simp
  ·have : ¬ (k : Int) = e:=by omega
   simp [hk,this]
def zaH (H : zaa) (c : Cor) (n : Nat) (S : List Int) : zaa:=H ++ [zbe c,.cells (zas (zcS n S)),.cells [.ms (H.length + 1) 0 n n],.cells [.int .i64 S.length]]
theorem zfg {H : zaa} (hs : HSc H) (c : Cor) (n : Nat) (S : List Int) : HSc (zaH H c n S):=hs.append (by simp [AB.sc,zbe,zck])
theorem HSc.swap {A A' J : zaa} (h : HSc (A ++ J)) (hA : HSc A') (hl : A'.length = A.length) : HSc (A' ++ J):=by
 intro x hx
 rw [List.length_append,hl,← List.length_append]
 rcases List.mem_append.1 hx with h1 | h1
 ·exact zrV (by rw [List.length_append]; omega) (hA x h1)
 ·exact h x (List.mem_append_right _ h1)
theorem zzZ : zcO tP ziN = true:=by kernel_rfl
theorem zsB {H : zaa} {c : Cor} {n e : Nat} {S : List Int} {J : zaa} (he : e < n) (hl : (S.length : Int) ≤ 1000000) (K : AV → zaa → Prop)
  (h1 : (e : Int) ∈ S → K (.bool false) (zaH H c n S ++ J)) (h2 : (e : Int) ∉ S → K (.bool true) (zaH H c n (S ++ [(e : Int)]) ++ J)) :
  aCallV tP (.fn ziN [.ptr (H.length + 2) 0,.ptr (H.length + 3) 0]) [.int .i64 e] (zaH H c n S ++ J) K:=by
 simp only [aCallV,zzZ]
 refine zMp fun hs=>?_
 have hb:=zzC S he
 by_cases hm : (e : Int) ∈ S
 ·have h1:=h1 hm
  simp [zaH] at h1
  simp [zq3,zaH,he,zaS,hb,hm]
  exact h1
 ·have h2:=h2 hm
  simp [zaH] at h2
  simp [zq3,zaH,he,zaS,hb,hm]
  rw [zaq (by omega) (by omega),zcy (by simpa using he),ztu S he]
  exact ⟨by omega,h2⟩
def zcj (c : Cor) : List Int:=c.codes.map Cod.body ++ c.exprs.flatMap CEx.kids
structure TreeP (c : Cor) : Prop where
 binds : ∀ i (h : i < c.exprs.length),(c.exprs[i]).binds.length = (c.exprs[i]).kids.length
 kids : ∀ i (h : i < c.exprs.length),∀ k ∈ (c.exprs[i]).kids,(i : Int) < k ∧ k < c.exprs.length
 nodup : (zcj c).Nodup
 len : (zcj c).length = c.exprs.length
theorem znS {A R : List Int} {s : Int} (h : s ∈ A) : ¬ (A ++ s :: R).Nodup:=by
 rw [List.nodup_append]
 rintro ⟨_,_,h3⟩
 exact h3 s h s (by simp) rfl
theorem znT {A : List Int} {s : Int} (h : A.Nodup) (hs : s ∉ A) : (A ++ [s]).Nodup:=by
 rw [List.nodup_append]
 refine ⟨h,by simp,?_⟩
 intro a ha b hb
 simp at hb; subst hb
 exact fun e=>hs (e ▸ ha)
theorem zff {α : Type} {l : List α} {i : Nat} (h : i < l.length) : l = l.take i ++ l[i] :: l.drop (i + 1):=by rw [List.getElem_cons_drop,List.take_append_drop]
theorem zbX {α : Type} {l : List α} {i : Nat} (h : i < l.length) : l.take (i + 1) = l.take i ++ [l[i]]:=by rw [List.take_append_getElem h]
def zaU (c : Cor) (i : Nat) : List Int:=(c.codes.take i).map Cod.body
theorem zzD (c : Cor) (i : Nat) : (zaU c i).length = min i c.codes.length:=by simp [zaU]
theorem zzF {c : Cor} {i : Nat} (h : i < c.codes.length) : zaU c (i + 1) = zaU c i ++ [(c.codes[i]).body]:=by
 have:=congrArg (List.map Cod.body) (zbX h)
 rw [List.map_append] at this
 exact this
def zbm (c : Cor) (i : Nat) : List Int:=(c.exprs.take i).flatMap CEx.kids
theorem zAY {c : Cor} {i : Nat} (h : i < c.exprs.length) : zbm c (i + 1) = zbm c i ++ (c.exprs[i]).kids:=by
 have:=congrArg (List.flatMap CEx.kids) (zbX h)
 rw [List.flatMap_append] at this
 simpa [zbm] using this
theorem zsc (c : Cor) : zcj c = zaU c c.codes.length ++ zbm c c.exprs.length:=by simp [zcj,zaU,zbm]
theorem zzl {c : Cor} {i : Nat} (h : i < c.codes.length) : ∃ R,zcj c = zaU c i ++ (c.codes[i]).body :: R:=by
 refine ⟨(c.codes.drop (i + 1)).map Cod.body ++ c.exprs.flatMap CEx.kids,?_⟩
 have:=congrArg (List.map Cod.body) (zff h)
 rw [List.map_append,List.map_cons] at this
 rw [zcj,this,zaU,List.append_assoc]; rfl
theorem zzm {c : Cor} {i j : Nat} (h : i < c.exprs.length) (hj : j < (c.exprs[i]).kids.length) : ∃ R,zcj c = (zaU c c.codes.length ++ zbm c i ++ (c.exprs[i]).kids.take j) ++ (c.exprs[i]).kids[j] :: R:=by
 refine ⟨(c.exprs[i]).kids.drop (j + 1) ++ (c.exprs.drop (i + 1)).flatMap CEx.kids,?_⟩
 have h1 : c.exprs.flatMap CEx.kids = zbm c i ++ ((c.exprs[i]).kids ++ (c.exprs.drop (i + 1)).flatMap CEx.kids):=by
  have:=congrArg (List.flatMap CEx.kids) (zff h)
  rw [List.flatMap_append,List.flatMap_cons] at this
  exact this
 have h2:=zff hj
 rw [zcj,h1]
 have h3 : zaU c c.codes.length = c.codes.map Cod.body:=by simp [zaU]
 rw [h3]
 generalize (c.exprs.drop (i + 1)).flatMap CEx.kids = X at *
 generalize (c.exprs[i]).kids = Y at *
 have h4 : Y ++ X = Y.take j ++ Y[j] :: (Y.drop (j + 1) ++ X):=by
  have h5 : Y.take j ++ Y[j] :: (Y.drop (j + 1) ++ X) = (Y.take j ++ Y[j] :: Y.drop (j + 1)) ++ X:=by rw [List.append_assoc,List.cons_append]
  rw [h5,← h2]
 rw [h4]; simp
theorem zIQ (c : Cor) (hc : zaP c) (hbody : ∀ i (h : i < c.codes.length),∃ b : Nat,(c.codes[i]).body = b ∧ b < c.exprs.length) (H : zaa) (K : AV → zaa → Prop) (hK : ∀ b,(b = true ↔ TreeP c) → K (.bool b) H) : ACalls tP znv [.agg c.cs] H K:=by
 refine ACalls.out (zIP fun hs=>?_)
 obtain ⟨k1,k2,k3,⟨k4,k5⟩,k6,k7⟩:=hc
 have hF : ¬ TreeP c → ∀ J,Out H.length K (.bool false) (H ++ J):=fun h J=>Out.bool rfl (Nat.le_refl _) hs (hK _ (by simp [h]))
 have hT : ∀ b : Bool,(b = true ↔ TreeP c) → ∀ J,Out H.length K (.bool b) (H ++ J):=fun b h J=>Out.bool rfl (Nat.le_refl _) hs (hK _ h)
 generalize hn : c.exprs.length = n at *
 simp [zwA,Cor.cs,hn]
 simp only [zaN,Int.toNat_natCast,zgI,ztt]
 refine ⟨⟨by omega,by omega,by omega,by omega⟩,?_⟩
 simp
 refine ⟨⟨rfl,rfl⟩,?_⟩
 refine zIM (Inv:=fun q t20 H'=>∃ i : Nat,i ≤ c.codes.length ∧ q = c.codes.length - i ∧ t20 = .int .i64 i ∧ (zaU c i).Nodup ∧ H' = zaH H c n (zaU c i)) c.codes.length ?_ ?_
 ·intro _; exact ⟨0,by omega,by omega,rfl,by simp [zaU],by simp [zaH,zbe,zaU]⟩
 ·rintro q t20 H' ⟨i,hi,rfl,rfl,hnd,rfl⟩ hsc hlen hsF Kb hKb
  by_cases hlt : i < c.codes.length
  ·obtain ⟨x,y,z,hv,hx,hy,hz,hat⟩:=zez hlt
   obtain ⟨b,hb,hbl⟩:=hbody i hlt
   simp [zpY,hlt,hat,hx,hy,hz]
   rw [hb]
   refine zsB (S:=zaU c i) hbl (by rw [zzD]; omega) _ (fun hm=>?_) (fun hm=>?_)
   ·simp [zaH]
    refine hF (fun hp=>?_) _
    obtain ⟨R,hR⟩:=zzl hlt
    have:=hp.nodup
    rw [hR,hb] at this
    exact znS hm this
   ·simp
    rw [zaq (by omega) (by omega)]
    have he : zaU c i ++ [(b : Int)] = zaU c (i + 1):=by rw [zzF hlt,hb]
    refine hKb _ _ ⟨c.codes.length - (i + 1),by omega,Back.at (J:=[_]) (H2:=zaH H c n (zaU c (i + 1))) (by rw [he]) (by simp [zaH]) (zfg hs _ _ _) ?_ ⟨_,rfl,i + 1,by omega,rfl,by simp,?_,rfl⟩⟩
    ·simp [zkD,AV.sc,AV.scV,AV.scA,AV.scB,zaH]
    ·rw [← he]; exact znT hnd hm
  ·obtain rfl : i = c.codes.length:=by omega
   have hbr : ∀ x ∈ zaU c c.codes.length,0 ≤ x ∧ x < n:=by
    intro x hx
    simp [zaU] at hx
    obtain ⟨f,hf,rfl⟩:=hx
    obtain ⟨j,hj,rfl⟩:=List.getElem_of_mem hf
    obtain ⟨b,hb,hbl⟩:=hbody j hj
    omega
   simp [zpY,zaH,zbe,hn]
   refine zIK (Inv:=fun q t33 H'=>∃ i : Nat,i ≤ n ∧ q = n - i ∧ t33 = .int .i64 i ∧ (∀ j (h : j < c.exprs.length),j < i → (c.exprs[j]).binds.length = (c.exprs[j]).kids.length ∧ ∀ k ∈ (c.exprs[j]).kids,(j : Int) < k ∧ k < n) ∧ (zaU c c.codes.length ++ zbm c i).Nodup ∧ (∀ x ∈ zbm c i,0 ≤ x ∧ x < n) ∧ H' = zaH H c n (zaU c c.codes.length ++ zbm c i)) n ?_ ?_
   ·intro _; exact ⟨0,by omega,by omega,rfl,by omega,by simpa [zbm] using hnd,by simp [zbm],by simp [zaH,zbe,zbm]⟩
   ·rintro q t33 H' ⟨i,hi,rfl,rfl,hok,hnd2,hrg,rfl⟩ hsc1 hlen1 hsF1 Kb1 hKb1
    by_cases hlt : i < n
    ·have hlt' : i < c.exprs.length:=by omega
     obtain ⟨x,y,z,hv,hx,hy,hz,hat⟩:=zdw hlt'
     have hS : (zaU c c.codes.length ++ zbm c i).length ≤ n:=ziW n _ hnd2 (fun x hx=>by
      rcases List.mem_append.1 hx with h | h
      ·exact hbr x h
      ·exact hrg x h)
     cases hbk : ((c.exprs[i]).binds.length == (c.exprs[i]).kids.length) with
     | false=>
      have hbk' : (((c.exprs[i]).binds.length : Int) != (c.exprs[i]).kids.length) = true:=by simp at hbk ⊢; omega
      simp [zkA,hlt,hlt',hn,hat,hx,hy,hz,hbk']
      simp [zaH]
      refine hF (fun hp=>?_) _
      simp at hbk; exact hbk (hp.binds i hlt')
     | true=>
      have hbk' : (((c.exprs[i]).binds.length : Int) != (c.exprs[i]).kids.length) = false:=by simp at hbk ⊢; omega
      simp [zkA,hlt,hlt',hn,hat,hx,hy,hz,hbk']
      have hal:=fun j (hj : j < (c.exprs[i]).kids.length)=>zzm hlt' hj
      have hks:=zAY hlt'
      have hek:=(k7 _ (List.getElem_mem hlt')).2.2.1
      have hno : ¬ (∀ k ∈ (c.exprs[i]).kids,(i : Int) < k ∧ k < n) → ¬ TreeP c:=fun h hp=>h fun k hk=>by
       have:=hp.kids i hlt' k hk; omega
      generalize hE : c.exprs[i] = E at *
      refine zIL (Inv:=fun q t48 H'=>∃ j : Nat,j ≤ E.kids.length ∧ q = E.kids.length - j ∧ t48 = .int .i64 j ∧ (∀ k ∈ E.kids.take j,(i : Int) < k ∧ k < n) ∧ (zaU c c.codes.length ++ zbm c i ++ E.kids.take j).Nodup ∧ ∃ J,H' = zaH H c n (zaU c c.codes.length ++ zbm c i ++ E.kids.take j) ++ J) E.kids.length ?_ ?_
      ·intro _; exact ⟨0,by omega,by omega,rfl,by simp,by simpa using hnd2,_,by simp; rfl⟩
      ·rintro q t48 H' ⟨j,hj,rfl,rfl,hkk,hnd3,J,rfl⟩ hsc2 hlen2 hsF2 Kb2 hKb2
       by_cases hjl : j < E.kids.length
       ·obtain ⟨R,hR⟩:=hal j hjl
        have hmem : E.kids[j] ∈ E.kids:=List.getElem_mem hjl
        by_cases hle : E.kids[j] ≤ i
        ·simp [zhA,hjl,ints,hle]
         simp [zaH]
         refine hF (hno fun h=>?_) _
         have:=h _ hmem; omega
        by_cases hge : (n : Int) ≤ E.kids[j]
        ·simp [zhA,hjl,ints,hle,zaH,zbe,hn,hge]
         refine hF (hno fun h=>?_) _
         have:=h _ hmem; omega
        obtain ⟨k,hk⟩ : ∃ k : Nat,E.kids[j] = k:=⟨(E.kids[j]).toNat,by omega⟩
        have hge' : ¬ n ≤ k:=by omega
        have hle' : ¬ k ≤ i:=by omega
        have hS3 : (zaU c c.codes.length ++ zbm c i ++ E.kids.take j).length ≤ 1000000:=by
         rw [List.length_append,List.length_take]; omega
        have hsplitj : zaU c c.codes.length ++ zbm c i ++ E.kids.take (j + 1) = (zaU c c.codes.length ++ zbm c i ++ E.kids.take j) ++ [(k : Int)]:=by
         rw [zbX hjl,hk]; simp only [List.append_assoc]
        generalize hSS : zaU c c.codes.length ++ zbm c i ++ E.kids.take j = S3 at *
        have hC : zbe c = .cells [.sl (c.data.map Dat.cs) .none,.sl (c.codes.map Cod.cs) .none,.sl (VT.css c.vars) .none,.sl (c.exprs.map CEx.cs) .none]:=rfl
        have hg0 : (zaH H c n S3 ++ J)[H.length]? = some (zbe c):=by simp [zaH]
        simp [zhA,hjl,ints,hk,hle',hg0,hC,hn,hge']
        refine zsB (S:=S3) (by omega) (by omega) _ (fun hm=>?_) (fun hm=>?_)
        ·simp [zaH]
         refine hF (fun hp=>?_) _
         have:=hp.nodup
         rw [hR,hk] at this
         exact znS hm this
        ·simp
         rw [zaq (by omega) (by omega)]
         refine hKb2 _ _ ⟨E.kids.length - (j + 1),by omega,Back.at (J:=[]) (H2:=zaH H c n (S3 ++ [(k : Int)]) ++ J) (by simp) (by simpa [zaH] using hlen2) ?_ ?_ ⟨_,rfl,j + 1,by omega,rfl,by simp,?_,?_,J,by rw [hsplitj]⟩⟩
         ·exact HSc.swap hsc2 (zfg hs _ _ _) (by simp [zaH])
         ·simp [zkC,AV.sc,AV.scV,AV.scA,AV.scB,zaH]
         ·exact zcn hjl hkk (by rw [hk]; omega)
         ·rw [hsplitj]; exact znT hnd3 hm
       ·obtain rfl : j = E.kids.length:=by omega
        rw [List.take_length] at *
        simp [zhA]
        rw [zaq (by omega) (by omega)]
        refine hKb1 _ _ ⟨n - (i + 1),by omega,Back.at (J:=J) (H2:=zaH H c n (zaU c c.codes.length ++ zbm c (i + 1))) (by rw [hks]) (by simp [zaH]) (zfg hs _ _ _) ?_ ⟨_,rfl,i + 1,by omega,rfl,by simp,?_,?_,?_,rfl⟩⟩
        ·simp [zkB,AV.sc,AV.scV,AV.scA,AV.scB,zaH]
        ·intro j hj hji
         by_cases hje : j = i
         ·subst hje; rw [hE]; exact ⟨by simpa using hbk,hkk⟩
         ·exact hok j hj (by omega)
        ·rw [hks,← List.append_assoc]; exact hnd3
        ·rw [hks]; intro x hx
         rcases List.mem_append.1 hx with h | h
         ·exact hrg x h
         ·have:=hkk x h; omega
    ·obtain rfl : i = n:=by omega
     simp [zkA,zaH,zbe,hn]
     refine hT _ ?_ _
     have hal : zcj c = zaU c c.codes.length ++ zbm c i:=by rw [zsc,hn]
     have hlen' : (zcj c).length = (zaU c c.codes.length).length + (zbm c i).length:=by rw [hal]; simp
     constructor
     ·intro h
      refine ⟨fun j h=>(hok j h (by omega)).1,fun j h k hk=>?_,by rw [hal]; exact hnd2,?_⟩
      ·have:=(hok j h (by omega)).2 k hk; omega
      ·simp at h; omega
     ·intro hp
      have:=hp.len
      simp; omega
theorem zzP : zcO tP ziO = true:=by kernel_rfl
theorem zmL {H : zaa} {c : Cor} {n : Nat} {l S : List Int} {J : zaa} (hsH : HSc H) (hl : S.length + l.length ≤ 1000000) (hnd : S.Nodup) (K : AV → zaa → Prop)
  (h1 : (∀ x ∈ l,0 ≤ x ∧ x < n) → (S ++ l).Nodup → K (.bool true) (zaH H c n (S ++ l) ++ J)) (h2 : ¬ ((∀ x ∈ l,0 ≤ x ∧ x < n) ∧ (S ++ l).Nodup) → ∀ S',K (.bool false) (zaH H c n S' ++ J)) :
  aCallV tP (.fn ziO [.ptr (H.length + 2) 0,.ptr (H.length + 3) 0]) [.sl (ints l) .none] (zaH H c n S ++ J) K:=by
 simp only [aCallV,zzP]
 refine zMu fun hs=>?_
 simp [zx9]
 refine zMs (Inv:=fun q t9 H'=>∃ j : Nat,j ≤ l.length ∧ q = l.length - j ∧ t9 = .int .i64 j ∧ (∀ x ∈ l.take j,0 ≤ x ∧ x < (n : Int)) ∧ (S ++ l.take j).Nodup ∧ H' = zaH H c n (S ++ l.take j) ++ J) l.length ?_ ?_
 ·intro _; exact ⟨0,by omega,by omega,rfl,by simp,by simpa using hnd,by simp⟩
 ·rintro q t9 H' ⟨j,hj,rfl,rfl,hr,hn2,rfl⟩ hsc hlen hsF Kb hKb
  by_cases hjl : j < l.length
  ·have hsp:=zff hjl
   by_cases h0 : l[j] < 0
   ·simp [zgt,hjl,ints,h0]
    exact h2 (fun h=>by have:=h.1 _ (List.getElem_mem hjl); omega) _
   by_cases hge : (n : Int) ≤ l[j]
   ·simp [zgt,hjl,ints,h0,zaH,hge]
    have:=h2 (fun h=>by have:=h.1 _ (List.getElem_mem hjl); omega) (S ++ l.take j)
    simpa [zaH] using this
   obtain ⟨e,he⟩ : ∃ e : Nat,l[j] = e:=⟨(l[j]).toNat,by omega⟩
   have hen : e < n:=by omega
   have hen' : ¬ n ≤ e:=by omega
   have he0 : ¬ (e : Int) < 0:=by omega
   have hnx : S ++ l.take (j + 1) = (S ++ l.take j) ++ [(e : Int)]:=by rw [zbX hjl,he,List.append_assoc]
   have hlS : (S ++ l.take j).length ≤ 1000000:=by rw [List.length_append,List.length_take]; omega
   by_cases hm : (e : Int) ∈ S ++ l.take j
   ·have h3:=h2 (fun h=>by
     have:=h.2
     rw [hsp,← List.append_assoc,he] at this
     exact znS hm this) (S ++ l.take j)
    generalize S ++ l.take j = S1 at *
    simp [zgt,hjl,ints,he,he0,zaH,hen,hen',zaS,hm]
    simpa [zaH] using h3
   ·have hkb:=hKb
    generalize hS1 : S ++ l.take j = S1 at *
    simp [zgt,hjl,ints,he,he0,zaH,hen,hen',zaS,hm]
    rw [zaq (by omega) (by omega),zaq (by omega) (by omega),zcy (by simpa using hen),ztu S1 hen]
    refine ⟨by omega,hKb _ _ ⟨l.length - (j + 1),by omega,Back.at (J:=[]) (H2:=zaH H c n (S1 ++ [(e : Int)]) ++ J) (by simp [zaH]) (by simp [zaH]) ?_ ?_ ⟨_,rfl,j + 1,by omega,rfl,by simp,?_,?_,by rw [hnx]⟩⟩⟩
    ·exact HSc.swap hs (zfg hsH _ _ _) (by simp [zaH])
    ·simp [zlI,AV.sc,AV.scV,AV.scA,AV.scB,zaH]
    ·exact zcn hjl hr (by rw [he]; omega)
    ·rw [hnx]; exact znT hn2 hm
  ·obtain rfl : j = l.length:=by omega
   rw [List.take_length] at *
   simp [zgt]
   exact h1 hr hn2
def zb4 (c : Cor) : List Int:=(c.codes.flatMap fun f=>f.params ++ f.capt) ++ c.exprs.flatMap fun e=>e.binds.flatten
structure BindP (c : Cor) : Prop where
 range : ∀ x ∈ zb4 c,0 ≤ x ∧ x < c.vars.length
 nodup : (zb4 c).Nodup
 len : (zb4 c).length = c.vars.length
def zaX (c : Cor) (i : Nat) : List Int:=(c.codes.take i).flatMap fun f=>f.params ++ f.capt
def zbI (c : Cor) (i : Nat) : List Int:=(c.exprs.take i).flatMap fun e=>e.binds.flatten
theorem ztZ {c : Cor} {i : Nat} (h : i < c.codes.length) : zaX c (i + 1) = zaX c i ++ ((c.codes[i]).params ++ (c.codes[i]).capt):=by
 have:=congrArg (List.flatMap fun f : Cod=>f.params ++ f.capt) (zbX h)
 rw [List.flatMap_append] at this
 simpa [zaX] using this
theorem zsn {c : Cor} {i : Nat} (h : i < c.exprs.length) : zbI c (i + 1) = zbI c i ++ (c.exprs[i]).binds.flatten:=by
 have:=congrArg (List.flatMap fun e : CEx=>e.binds.flatten) (zbX h)
 rw [List.flatMap_append] at this
 simpa [zbI] using this
theorem zsd (c : Cor) : zb4 c = zaX c c.codes.length ++ zbI c c.exprs.length:=by simp [zb4,zaX,zbI]
theorem zzo {c : Cor} {i : Nat} (h : i < c.codes.length) : ∃ R,zb4 c = zaX c i ++ ((c.codes[i]).params ++ ((c.codes[i]).capt ++ R)):=by
 refine ⟨((c.codes.drop (i + 1)).flatMap fun f=>f.params ++ f.capt) ++ c.exprs.flatMap fun e=>e.binds.flatten,?_⟩
 have:=congrArg (List.flatMap fun f : Cod=>f.params ++ f.capt) (zff h)
 rw [List.flatMap_append,List.flatMap_cons] at this
 rw [zb4,this,zaX]
 simp only [List.append_assoc]
theorem zzn {c : Cor} {i : Nat} (h : i < c.exprs.length) {j : Nat} (hj : j < (c.exprs[i]).binds.length) : ∃ R,zb4 c = (zaX c c.codes.length ++ zbI c i ++ ((c.exprs[i]).binds.take j).flatten) ++ ((c.exprs[i]).binds[j] ++ R):=by
 refine ⟨((c.exprs[i]).binds.drop (j + 1)).flatten ++ (c.exprs.drop (i + 1)).flatMap fun e=>e.binds.flatten,?_⟩
 have h1:=congrArg (List.flatMap fun e : CEx=>e.binds.flatten) (zff h)
 rw [List.flatMap_append,List.flatMap_cons] at h1
 have h2:=congrArg List.flatten (zff hj)
 rw [List.flatten_append,List.flatten_cons] at h2
 rw [zb4,h1,h2,zbI]
 have h3 : zaX c c.codes.length = c.codes.flatMap fun f=>f.params ++ f.capt:=by simp [zaX]
 rw [h3]
 simp only [List.append_assoc]
theorem zBD {c : Cor} {A l R : List Int} (ha : zb4 c = A ++ (l ++ R)) (h : ¬ ((∀ x ∈ l,0 ≤ x ∧ x < (c.vars.length : Int)) ∧ (A ++ l).Nodup)) : ¬ BindP c:=by
 intro hp
 refine h ⟨fun x hx=>hp.range x (by rw [ha]; simp [hx]),?_⟩
 have:=hp.nodup
 rw [ha,← List.append_assoc] at this
 exact (List.nodup_append.1 this).1
theorem zdx {α : Type} (f : α → List Int) (m : Nat) : ∀ l : List α,(∀ x ∈ l,(f x).length ≤ m) → (l.flatMap f).length ≤ l.length * m
 | [],_=>by simp
 | x :: l,h=>by
  have h1:=zdx f m l (fun y hy=>h y (by simp [hy]))
  have h2:=h x (by simp)
  rw [List.flatMap_cons,List.length_append,List.length_cons,Nat.add_mul]; omega
@[simp] theorem zSZ (H : zaa) (c : Cor) (n : Nat) (S : List Int) : (zaH H c n S).length = H.length + 4:=by simp [zaH]
@[simp] theorem zSY (H : zaa) (c : Cor) (n : Nat) (S : List Int) (J : zaa) : (zaH H c n S ++ J)[H.length + 4]? = J[0]?:=by simp [zaH]
theorem zI1 (c : Cor) (hc : zaP c) (H : zaa) (K : AV → zaa → Prop) (hK : ∀ b,(b = true ↔ BindP c) → K (.bool b) H) : ACalls tP znw [.agg c.cs] H K:=by
 refine ACalls.out (zI0 fun hs=>?_)
 obtain ⟨k1,k2,k3,⟨k4,k5⟩,k6,k7⟩:=hc
 have hF : ¬ BindP c → ∀ J,Out H.length K (.bool false) (H ++ J):=fun h J=>Out.bool rfl (Nat.le_refl _) hs (hK _ (by simp [h]))
 have hT : ∀ b : Bool,(b = true ↔ BindP c) → ∀ J,Out H.length K (.bool b) (H ++ J):=fun b h J=>Out.bool rfl (Nat.le_refl _) hs (hK _ h)
 have hbad : ∀ {A l R : List Int},zb4 c = A ++ (l ++ R) → ¬ ((∀ x ∈ l,0 ≤ x ∧ x < (c.vars.length : Int)) ∧ (A ++ l).Nodup) → ¬ BindP c:=fun h1 h2=>zBD h1 h2
 generalize hn : c.vars.length = n at *
 have hle : ∀ S : List Int,S.Nodup → (∀ x ∈ S,0 ≤ x ∧ x < n) → S.length ≤ n:=ziW n
 simp [zwH,Cor.cs,hn]
 simp only [zaN,Int.toNat_natCast,zgI,ztt]
 refine ⟨⟨by omega,by omega,by omega,by omega⟩,?_⟩
 simp
 refine ⟨⟨rfl,rfl⟩,?_⟩
 refine zIX (Inv:=fun q t20 H'=>∃ i : Nat,i ≤ c.codes.length ∧ q = c.codes.length - i ∧ t20 = .int .i64 i ∧ (zaX c i).Nodup ∧ (∀ x ∈ zaX c i,0 ≤ x ∧ x < n) ∧ H' = zaH H c n (zaX c i)) c.codes.length ?_ ?_
 ·intro _; exact ⟨0,by omega,by omega,rfl,by simp [zaX],by simp [zaX],by simp [zaH,zbe,zaX]⟩
 ·rintro q t20 H' ⟨i,hi,rfl,rfl,hnd,hrg,rfl⟩ hsc hlen hsF Kb hKb
  have hSn:=hle _ hnd hrg
  by_cases hlt : i < c.codes.length
  ·obtain ⟨x,y,z,hv,hx,hy,hz,hat⟩:=zez hlt
   obtain ⟨R,hR⟩:=zzo hlt
   have hps:=ztZ hlt
   obtain ⟨_,kp,kc,_⟩:=k6 _ (List.getElem_mem hlt)
   generalize hf : c.codes[i] = f at *
   simp [zp2,hlt,hf,hat,hx,hy,hz]
   refine zmL (S:=zaX c i) hs (by omega) hnd _ (fun hr1 hn1=>?_) (fun hb S'=>?_)
   ·simp
    have hl1:=hle _ hn1 (fun x hx=>by
     rcases List.mem_append.1 hx with h | h
     ·exact hrg x h
     ·exact hr1 x h)
    refine zmL (S:=zaX c i ++ f.params) (l:=f.capt) hs (by omega) hn1 _ (fun hr2 hn2=>?_) (fun hb S'=>?_)
    ·simp
     rw [zaq (by omega) (by omega)]
     have he : zaX c i ++ (f.params ++ f.capt) = zaX c (i + 1):=by rw [hps]
     refine hKb _ _ ⟨c.codes.length - (i + 1),by omega,Back.at (J:=[_]) (H2:=zaH H c n (zaX c (i + 1))) (by rw [he]) (by simp [zaH]) (zfg hs _ _ _) ?_ ⟨_,rfl,i + 1,by omega,rfl,by simp,?_,?_,rfl⟩⟩
     ·simp [zkG,AV.sc,AV.scV,AV.scA,AV.scB,zaH]
     ·rw [hps,← List.append_assoc]; exact hn2
     ·rw [hps]; intro x hx
      rcases List.mem_append.1 hx with h | h
      ·exact hrg x h
      ·rcases List.mem_append.1 h with h | h
       ·exact hr1 x h
       ·exact hr2 x h
    ·simp [zaH]
     exact hF (hbad (by rw [hR,List.append_assoc]) hb) _
   ·simp [zaH]
    exact hF (hbad hR hb) _
  ·obtain rfl : i = c.codes.length:=by omega
   simp [zp2,zaH,zbe]
   refine zIV (Inv:=fun q t40 H'=>∃ i : Nat,i ≤ c.exprs.length ∧ q = c.exprs.length - i ∧ t40 = .int .i64 i ∧ (zaX c c.codes.length ++ zbI c i).Nodup ∧ (∀ x ∈ zaX c c.codes.length ++ zbI c i,0 ≤ x ∧ x < n) ∧ H' = zaH H c n (zaX c c.codes.length ++ zbI c i)) c.exprs.length ?_ ?_
   ·intro _; exact ⟨0,by omega,by omega,rfl,by simpa [zbI] using hnd,by simpa [zbI] using hrg,by simp [zaH,zbe,zbI]⟩
   ·rintro q t40 H' ⟨i,hi,rfl,rfl,hnd,hrg,rfl⟩ hsc1 hlen1 hsF1 Kb1 hKb1
    have hSn:=hle _ hnd hrg
    by_cases hlt : i < c.exprs.length
    ·obtain ⟨x,y,z,hv,hx,hy,hz,hat⟩:=zdw hlt
     have hal:=fun j hj=>zzn hlt (j:=j) hj
     have hbs:=zsn hlt
     obtain ⟨_,kb,_,_,kbl⟩:=k7 _ (List.getElem_mem hlt)
     generalize hE : c.exprs[i] = E at *
     simp [zp0,hlt,hE,hat,hx,hy,hz]
     refine zIW (Inv:=fun q t47 H'=>∃ j : Nat,j ≤ E.binds.length ∧ q = E.binds.length - j ∧ t47 = .int .i64 j ∧ (zaX c c.codes.length ++ zbI c i ++ (E.binds.take j).flatten).Nodup ∧ (∀ x ∈ zaX c c.codes.length ++ zbI c i ++ (E.binds.take j).flatten,0 ≤ x ∧ x < n) ∧ ∃ J,H' = zaH H c n (zaX c c.codes.length ++ zbI c i ++ (E.binds.take j).flatten) ++ J) E.binds.length ?_ ?_
     ·intro _; exact ⟨0,by omega,by omega,rfl,by simpa using hnd,by simpa using hrg,_,by simp; rfl⟩
     ·rintro q t47 H' ⟨j,hj,rfl,rfl,hnd3,hrg3,J,rfl⟩ hsc2 hlen2 hsF2 Kb2 hKb2
      by_cases hjl : j < E.binds.length
      ·obtain ⟨R,hR⟩:=hal j hjl
       have hkl:=kbl _ (List.getElem_mem hjl)
       have hS3:=hle _ hnd3 hrg3
       have hnx : zaX c c.codes.length ++ zbI c i ++ (E.binds.take (j + 1)).flatten = (zaX c c.codes.length ++ zbI c i ++ (E.binds.take j).flatten) ++ E.binds[j]:=by
        rw [zbX hjl,List.flatten_append]; simp
       generalize hSS : zaX c c.codes.length ++ zbI c i ++ (E.binds.take j).flatten = S3 at *
       simp [zp1,hjl,rows]
       refine zmL (S:=S3) hs (by omega) hnd3 _ (fun hr1 hn1=>?_) (fun hb S'=>?_)
       ·simp
        rw [zaq (by omega) (by omega)]
        refine hKb2 _ _ ⟨E.binds.length - (j + 1),by omega,Back.at (J:=[]) (H2:=zaH H c n (S3 ++ E.binds[j]) ++ J) (by simp) (by simpa [zaH] using hlen2) ?_ ?_ ⟨_,rfl,j + 1,by omega,rfl,by simp,?_,?_,J,by rw [hnx]⟩⟩
        ·exact HSc.swap hsc2 (zfg hs _ _ _) (by simp [zaH])
        ·simp [zkF,AV.sc,AV.scV,AV.scA,AV.scB,zaH]
        ·rw [hnx]; exact hn1
        ·rw [hnx]; intro x hx
         rcases List.mem_append.1 hx with h | h
         ·exact hrg3 x h
         ·exact hr1 x h
       ·simp [zaH]
        exact hF (hbad hR hb) _
      ·obtain rfl : j = E.binds.length:=by omega
       rw [List.take_length] at *
       simp [zp1]
       rw [zaq (by omega) (by omega)]
       refine hKb1 _ _ ⟨c.exprs.length - (i + 1),by omega,Back.at (J:=J) (H2:=zaH H c n (zaX c c.codes.length ++ zbI c (i + 1))) (by rw [hbs]) (by simp [zaH]) (zfg hs _ _ _) ?_ ⟨_,rfl,i + 1,by omega,rfl,by simp,?_,?_,rfl⟩⟩
       ·simp [zkE,AV.sc,AV.scV,AV.scA,AV.scB,zaH]
       ·rw [hbs,← List.append_assoc]; exact hnd3
       ·rw [hbs,← List.append_assoc]; exact hrg3
    ·obtain rfl : i = c.exprs.length:=by omega
     simp [zp0,zaH,zbe,hn]
     refine hT _ ?_ _
     have hal : zb4 c = zaX c c.codes.length ++ zbI c c.exprs.length:=zsd c
     have hlen' : (zb4 c).length = (zaX c c.codes.length).length + (zbI c c.exprs.length).length:=by rw [hal]; simp
     constructor
     ·intro h
      refine ⟨by rw [hal,hn]; exact hrg,by rw [hal]; exact hnd,?_⟩
      simp at h; omega
     ·intro hp
      have:=hp.len
      simp; omega
@[congr] theorem zPY {m : WM} {g : Bool} {H : zaa} {p : (AV → zaa → Prop) → Prop} {k : AV → zaa → Prop} : zbB m g H p k = zbB m g H p k:=rfl
theorem zdt {H : zaa} {p : (AV → zaa → Prop) → Prop} {k : AV → zaa → Prop} (r : AV) (H' : zaa) (h : p fun v H2=>v = r ∧ H2 = H') (hk : k r H') : zbB .w false H p k:=⟨r,H',h,(fun h=>by cases h),hk⟩
theorem zmt {H : zaa} {g : Bool} {p : (AV → zaa → Prop) → Prop} {k : AV → zaa → Prop} (r : AV) (H' : zaa) (h : p fun v H2=>v = r ∧ H2 = H') (hg : GrowA H H') (hk : k r H') : zbB .g g H p k:=⟨r,H',h,fun _=>hg,hk⟩
theorem ze0 {H : zaa} {g : Bool} {p : (AV → zaa → Prop) → Prop} {k : AV → zaa → Prop} (r : AV) (h : p fun v H2=>v = r ∧ H2 = H) (hk : k r H) : zbB .g g H p k:=⟨r,H,h,fun _=>.inl rfl,hk⟩
@[simp] theorem zSm {l : List Int} {i : Nat} (h : i < (ints l).length) : (ints l)[i] = [.int .i64 (l[i]'(by simpa using h))]:=by simp [ints]
@[simp] theorem zSG {l : List (List Int)} {i : Nat} (h : i < (rows l).length) : (rows l)[i] = [.sl (ints (l[i]'(by simpa using h))) .none]:=by simp [rows]
def zaG (st : List Bool) (l : List Int) (b : Bool) : List Bool:=l.foldl (fun st v=>st.set v.toNat b) st
@[simp] theorem zob (l : List Int) (b : Bool) : ∀ st : List Bool,(zaG st l b).length = st.length:=by
 induction l with
 | nil=>intro st; rfl
 | cons v l ih=>intro st; rw [zaG,List.foldl_cons,← zaG,ih]; simp
theorem zun (st : List Bool) (v : Int) (l : List Int) (b : Bool) : zaG st (v :: l) b = zaG (st.set v.toNat b) l b:=rfl
theorem zoc (st : List Bool) (v : Int) (l : List Int) (b : Bool) : zaG st (l ++ [v]) b = (zaG st l b).set v.toNat b:=by simp [zaG]
mutual
def zbh (c : Cor) : Nat → Nat → List Bool → Option (List Bool)
 | 0,_,_=>none
 | m + 1,i,st=>match c.exprs[i]? with
  | none=>none
  | some e=>if e.vars.all (fun v=>decide (0 ≤ v) && st.getD v.toNat false) = true then zbO c m e.binds e.kids st else none
termination_by m _ _=>(m,0)
def zbO (c : Cor) (m : Nat) : List (List Int) → List Int → List Bool → Option (List Bool)
 | b :: bs,k :: ks,st=>match zbh c m k.toNat (zaG st b true) with
  | none=>none
  | some st'=>zbO c m bs ks (zaG st' b false)
 | [],_,st=>some st
 | _ :: _,[],st=>some st
termination_by bs _ _=>(m,bs.length + 1)
end
def zaM (H : zaa) (c : Cor) (st : List Bool) : zaa:=H ++ [zbe c,.cells (zas st),.cells [.ms (H.length + 1) 0 c.vars.length c.vars.length],.cells [.fn zeG [.ptr (H.length + 2) 0]],
 .cells [.fn zeH [.ptr H.length 0,.ptr (H.length + 2) 0,.ptr (H.length + 3) 0,.ptr (H.length + 4) 0]]]
theorem zn7 {H : zaa} (hs : HSc H) (c : Cor) (st : List Bool) : HSc (zaM H c st):=hs.append (by simp [AB.sc,zbe,zck,AV.scA,AV.scB])
@[simp] theorem zSS (H : zaa) (c : Cor) (st : List Bool) : (zaM H c st).length = H.length + 5:=by simp [zaM]
theorem zzX : zcO tP zeG = true:=by kernel_rfl
theorem zzY : zcO tP zeH = true:=by kernel_rfl
theorem zf6 {H : zaa} {c : Cor} {l : List Int} {st : List Bool} {b : Bool} {J : zaa} (hsH : HSc H) (hst : st.length = c.vars.length) (hl : l.length ≤ 1000000) (hr : ∀ x ∈ l,0 ≤ x ∧ x < (c.vars.length : Int)) (K : AV → zaa → Prop)
  (hK : K (.tup []) (zaM H c (zaG st l b) ++ J)) :
  aCallV tP (.fn zeG [.ptr (H.length + 2) 0]) [.sl (ints l) .none,.bool b] (zaM H c st ++ J) K:=by
 simp only [aCallV,zzX]
 refine zMA fun hs=>?_
 simp [zyb]
 refine zMy (Inv:=fun q t9 H'=>∃ j : Nat,j ≤ l.length ∧ q = l.length - j ∧ t9 = .int .i64 j ∧ H' = zaM H c (zaG st (l.take j) b) ++ J) l.length ?_ ?_
 ·intro _; exact ⟨0,by omega,by omega,rfl,by simp [zaG]⟩
 ·rintro q t9 H' ⟨j,hj,rfl,rfl,rfl⟩ hsc hlen hsF Kb hKb
  by_cases hjl : j < l.length
  ·have hrr:=hr _ (List.getElem_mem hjl)
   obtain ⟨e,he⟩ : ∃ e : Nat,l[j] = e:=⟨(l[j]).toNat,by omega⟩
   have hen : e < c.vars.length:=by omega
   have hnx : zaG st (l.take (j + 1)) b = (zaG st (l.take j) b).set e b:=by rw [zbX hjl,zoc,he]; rfl
   have hsl : (zaG st (l.take j) b).length = c.vars.length:=by rw [zob,hst]
   generalize zaG st (l.take j) b = st1 at *
   simp [zq5,hjl,ints,he,zaM,hen,hsl]
   rw [zaq (by omega) (by omega),zcy (by omega)]
   refine ⟨by omega,hKb _ _ ⟨l.length - (j + 1),by omega,Back.at (J:=[]) (H2:=zaM H c (st1.set e b) ++ J) (by simp [zaM]) (by simp [zaM]) ?_ ?_ ⟨_,rfl,j + 1,by omega,rfl,by simp,by rw [hnx]⟩⟩⟩
   ·exact HSc.swap hs (zn7 hsH _ _) (by simp [zaM])
   ·simp [zlK,AV.sc,AV.scV,AV.scA,AV.scB,zaM]
  ·obtain rfl : j = l.length:=by omega
   rw [List.take_length] at *
   simp [zq5]
   simpa [za6] using hK
structure InP (c : Cor) : Prop where
 kcore : zaP c
 binds : ∀ i (h : i < c.exprs.length),(c.exprs[i]).binds.length = (c.exprs[i]).kids.length
 kids : ∀ i (h : i < c.exprs.length),∀ k ∈ (c.exprs[i]).kids,(i : Int) < k ∧ k < c.exprs.length
 brange : ∀ i (h : i < c.exprs.length),∀ l ∈ (c.exprs[i]).binds,∀ x ∈ l,0 ≤ x ∧ x < (c.vars.length : Int)
 crange : ∀ i (h : i < c.codes.length),(∀ x ∈ (c.codes[i]).params,0 ≤ x ∧ x < (c.vars.length : Int)) ∧ ∀ x ∈ (c.codes[i]).capt,0 ≤ x ∧ x < (c.vars.length : Int)
 body : ∀ i (h : i < c.codes.length),∃ b : Nat,(c.codes[i]).body = b ∧ b < c.exprs.length
theorem zDK (c : Cor) (m : Nat) {bs : List (List Int)} {ks : List Int} {j : Nat} (h1 : j < bs.length) (h2 : j < ks.length) (st : List Bool) : zbO c m (bs.drop j) (ks.drop j) st = match zbh c m (ks[j]).toNat (zaG st bs[j] true) with
  | none=>none
  | some st'=>zbO c m (bs.drop (j + 1)) (ks.drop (j + 1)) (zaG st' bs[j] false):=by
 rw [List.drop_eq_getElem_cons h1,List.drop_eq_getElem_cons h2,zbO]
theorem zDO {c : Cor} (hp : InP c) {H : zaa} (hsH : HSc H) : ∀ (m i : Nat),c.exprs.length - i ≤ m → i < c.exprs.length → ∀ (st : List Bool) (J : zaa),st.length = c.vars.length → ∀ (K : AV → zaa → Prop),
  (∀ st',zbh c m i st = some st' → st'.length = c.vars.length → K (.bool true) (zaM H c st' ++ J)) → (zbh c m i st = none → ∀ st',st'.length = c.vars.length → K (.bool false) (zaM H c st' ++ J)) →
  aCallV tP (.fn zeH [.ptr H.length 0,.ptr (H.length + 2) 0,.ptr (H.length + 3) 0,.ptr (H.length + 4) 0]) [.int .i64 i] (zaM H c st ++ J) K:=by
 intro m
 induction m with
 | zero=>intro i h1 h2; omega
 | succ m ih=>
 intro i hm hi st J hst K hK1 hK2
 simp only [aCallV,zzY]
 refine ACalls.out (zMK fun hs=>?_)
 obtain ⟨x,y,z,hv,hx,hy,hz,hat⟩:=zdw hi
 obtain ⟨k1,k2,k3,⟨k4,k5⟩,k6,k7⟩:=hp.kcore
 obtain ⟨kv,kb,kk,_,kbl⟩:=k7 _ (List.getElem_mem hi)
 have hbk:=hp.binds i hi
 have hkd:=hp.kids i hi
 have hbr:=hp.brange i hi
 have hvis : zbh c (m + 1) i st = if (c.exprs[i]).vars.all (fun v=>decide (0 ≤ v) && st.getD v.toNat false) = true then zbO c m (c.exprs[i]).binds (c.exprs[i]).kids st else none:=by
  rw [zbh,List.getElem?_eq_getElem hi]
 rw [hvis] at hK1 hK2
 have hC : zbe c = .cells [.sl (c.data.map Dat.cs) .none,.sl (c.codes.map Cod.cs) .none,.sl (VT.css c.vars) .none,.sl (c.exprs.map CEx.cs) .none]:=rfl
 have hg0 : ∀ st J,(zaM H c st ++ J)[H.length]? = some (zbe c):=by intro st J; simp [zaM]
 have hg1 : ∀ st J,(zaM H c st ++ J)[H.length + 1]? = some (.cells (zas st)):=by intro st J; simp [zaM]
 have hg2 : ∀ st J,(zaM H c st ++ J)[H.length + 2]? = some (.cells [.ms (H.length + 1) 0 c.vars.length c.vars.length]):=by intro st J; simp [zaM]
 have hg3 : ∀ st J,(zaM H c st ++ J)[H.length + 3]? = some (.cells [.fn zeG [.ptr (H.length + 2) 0]]):=by intro st J; simp [zaM]
 have hg4 : ∀ st J,(zaM H c st ++ J)[H.length + 4]? = some (.cells [.fn zeH [.ptr H.length 0,.ptr (H.length + 2) 0,.ptr (H.length + 3) 0,.ptr (H.length + 4) 0]]):=by intro st J; simp [zaM]
 have hg5 : ∀ st X,(zaM H c st ++ (J ++ [X]))[H.length + 5 + J.length]? = some X:=by
  intro st X
  have : H.length + 5 + J.length = (zaM H c st ++ J).length:=by simp
  rw [← List.append_assoc,this,zs9]; rfl
 have hlenJ : ∀ st',(zaM H c st' ++ J).length = (zaM H c st ++ J).length:=by intro st'; simp
 have hscJ : ∀ st',HSc (zaM H c st' ++ J):=fun st'=>HSc.swap hs (zn7 hsH _ _) (by simp)
 have hO : ∀ (b : Bool) st' J',K (.bool b) (zaM H c st' ++ J) → Out (zaM H c st ++ J).length K (.bool b) (zaM H c st' ++ J ++ J'):=fun b st' J' h=>Out.bool rfl (by simp) (hscJ st') h
 simp [zyd,hg0,hC,hi,hat,hx,hy,hz]
 have hOt : ∀ st' X,zbO c m (c.exprs[i]).binds (c.exprs[i]).kids st = some st' → (c.exprs[i]).vars.all (fun v=>decide (0 ≤ v) && st.getD v.toNat false) = true → st'.length = c.vars.length → Out (H.length + 5 + J.length) K (.bool true) (zaM H c st' ++ (J ++ [X])):=fun st' X h1 h2 h3=>by
  have:=hO true st' [X] (hK1 st' (by rw [if_pos h2]; exact h1) h3)
  simpa using this
 have hOf : ∀ st' X,(if (c.exprs[i]).vars.all (fun v=>decide (0 ≤ v) && st.getD v.toNat false) = true then zbO c m (c.exprs[i]).binds (c.exprs[i]).kids st else none) = none → st'.length = c.vars.length → Out (H.length + 5 + J.length) K (.bool false) (zaM H c st' ++ (J ++ [X])):=fun st' X h1 h3=>by
  have:=hO false st' [X] (hK2 h1 st' h3)
  simpa using this
 have hscX : ∀ st' X,X.sc (H.length + 5 + J.length + 1) = true → HSc (zaM H c st' ++ (J ++ [X])):=fun st' X h=>by
  rw [← List.append_assoc]; exact (hscJ st').snoc (by simpa using h)
 generalize hE : c.exprs[i] = E at *
 generalize hX : AB.cells [.int .i64 E.op,.int .i64 E.num,.sl (ints E.vars) .none,.sl (rows E.binds) .none,.sl (ints E.kids) .none,x,y,z] = X at *
 have hXs : X.sc (H.length + 5 + J.length + 1) = true:=by
  rw [← hX]
  have:=VT.cs_scA E.ty (H.length + 5 + J.length + 1)
  rw [hv] at this
  simp at this
  simp [AB.sc,this]
 refine zMG (Inv:=fun q t20 H'=>∃ j : Nat,j ≤ E.vars.length ∧ q = E.vars.length - j ∧ t20 = .int .i64 j ∧ (∀ v ∈ E.vars.take j,(decide (0 ≤ v) && st.getD v.toNat false) = true) ∧ H' = zaM H c st ++ (J ++ [X])) E.vars.length ?_ ?_
 ·intro _; exact ⟨0,by omega,by omega,rfl,by simp,rfl⟩
 ·rintro q t20 H' ⟨j,hj,rfl,rfl,hok,rfl⟩ hsc hlen hsF Kb hKb
  by_cases hjl : j < E.vars.length
  ·have hbad : (decide (0 ≤ E.vars[j]) && st.getD (E.vars[j]).toNat false) = false → Out (H.length + 5 + J.length) K (.bool false) (zaM H c st ++ (J ++ [X])):=fun h=>by
    refine hOf _ _ ?_ hst
    rw [if_neg]
    intro h'
    rw [List.all_eq_true] at h'
    have:=h' _ (List.getElem_mem hjl)
    rw [h] at this; cases this
   by_cases h0 : E.vars[j] < 0
   ·simp [zgu,hjl,ints,h0]
    exact hbad (by simp; omega)
   by_cases hge : (c.vars.length : Int) ≤ E.vars[j]
   ·simp [zgu,hjl,ints,h0,hg2,hge]
    exact hbad (by
     have : st.length ≤ (E.vars[j]).toNat:=by omega
     simp [List.getElem?_eq_none this])
   obtain ⟨e,he⟩ : ∃ e : Nat,E.vars[j] = e:=⟨(E.vars[j]).toNat,by omega⟩
   have hen : e < c.vars.length:=by omega
   have hen' : ¬ c.vars.length ≤ e:=by omega
   have he0 : ¬ (e : Int) < 0:=by omega
   have hes : e < st.length:=by omega
   cases hse : st[e] with
   | false=>
    simp [zgu,hjl,ints,he,he0,hg2,hen,hen',hg1,zaS,hes,hse]
    exact hbad (by rw [he]; simp [hes,hse])
   | true=>
    simp [zgu,hjl,ints,he,he0,hg2,hen,hen',hg1,zaS,hes,hse]
    rw [zaq (by omega) (by omega)]
    refine hKb _ _ ⟨E.vars.length - (j + 1),by omega,Back.here (by simp) (hscX _ _ hXs) ?_ ⟨_,rfl,j + 1,by omega,rfl,by simp,?_,rfl⟩⟩
    ·simp [zlL,AV.sc,AV.scV,AV.scA,AV.scB]; omega
    ·exact zcn hjl hok (by rw [he]; simp [hes,hse])
  ·obtain rfl : j = E.vars.length:=by omega
   rw [List.take_length] at hok
   have hall : E.vars.all (fun v=>decide (0 ≤ v) && st.getD v.toNat false) = true:=by rw [List.all_eq_true]; exact hok
   simp [zgu,hg5,← hX]
   rw [hX]
   have hXE : ∀ st,(zaM H c st ++ (J ++ [X]))[H.length + 5 + J.length]? = some (.cells [.int .i64 E.op,.int .i64 E.num,.sl (ints E.vars) .none,.sl (rows E.binds) .none,.sl (ints E.kids) .none,x,y,z]):=fun st=>by rw [hg5,hX]
   refine zMH (Inv:=fun q t43 H'=>∃ (j : Nat) (st1 : List Bool),j ≤ E.kids.length ∧ q = E.kids.length - j ∧ t43 = .int .i64 j ∧ st1.length = c.vars.length ∧ zbO c m (E.binds.drop j) (E.kids.drop j) st1 = zbO c m E.binds E.kids st ∧ H' = zaM H c st1 ++ (J ++ [X])) E.kids.length ?_ ?_
   ·intro _; exact ⟨0,st,by omega,by omega,rfl,hst,by simp,rfl⟩
   ·rintro q t43 H' ⟨j,st1,hj,rfl,rfl,hs1,hvk,rfl⟩ hsc1 hlen1 hsF1 Kb1 hKb1
    by_cases hjl : j < E.kids.length
    ·have hjb : j < E.binds.length:=by omega
     rw [zDK c m hjb hjl] at hvk
     have hkr:=hkd _ (List.getElem_mem hjl)
     obtain ⟨k,hk⟩ : ∃ k : Nat,E.kids[j] = k:=⟨(E.kids[j]).toNat,by omega⟩
     have hbl:=kbl _ (List.getElem_mem hjb)
     have hbr':=hbr _ (List.getElem_mem hjb)
     rw [hk,Int.toNat_natCast] at hvk
     simp [zq7,hjl,hk,hg3,← hX,hg5,hjb]
     rw [hX]
     refine zdt (.tup []) (zaM H c (zaG st1 E.binds[j] true) ++ (J ++ [X])) ?_ ?_
     ·exact zf6 hsH hs1 (by omega) hbr' _ ⟨rfl,rfl⟩
     simp [hg4]
     refine ih k (by omega) (by omega) (zaG st1 E.binds[j] true) (J ++ [X]) (by simpa using hs1) _ (fun st2 h2 hl2=>?_) (fun h2 st2 hl2=>?_)
     ·rw [h2] at hvk
      simp [hg3,← hX,hg5,hjb]
      rw [hX]
      refine zdt (.tup []) (zaM H c (zaG st2 E.binds[j] false) ++ (J ++ [X])) ?_ ?_
      ·exact zf6 hsH hl2 (by omega) hbr' _ ⟨rfl,rfl⟩
      rw [zaq (by omega) (by omega)]
      refine hKb1 _ _ ⟨E.kids.length - (j + 1),by omega,Back.here (by simp) (hscX _ _ hXs) ?_ ⟨_,rfl,j + 1,zaG st2 E.binds[j] false,by omega,rfl,by simp,by simpa using hl2,hvk,rfl⟩⟩
      simp [zlM,AV.sc,AV.scV,AV.scA,AV.scB]; omega
     ·rw [h2] at hvk
      simp
      exact hOf _ _ (by rw [if_pos hall]; exact hvk.symm) hl2
    ·obtain rfl : j = E.kids.length:=by omega
     rw [List.drop_length,← hbk,List.drop_length,zbO] at hvk
     simp [zq7]
     exact hOt _ _ hvk.symm hall hs1
def zcJ (c : Cor) : List Cod → List Bool → Bool
 | [],_=>true
 | f :: fs,st=>match zbh c c.exprs.length f.body.toNat (zaG (zaG st f.params true) f.capt true) with
  | none=>false
  | some st'=>zcJ c fs (zaG (zaG st' f.params false) f.capt false)
theorem zI8 (c : Cor) (hp : InP c) (H : zaa) (K : AV → zaa → Prop) (hK : K (.bool (zcJ c c.codes (List.replicate c.vars.length false))) H) : ACalls tP znx [.agg c.cs] H K:=by
 refine ACalls.out (zI6 fun hs=>?_)
 obtain ⟨k1,k2,k3,⟨k4,k5⟩,k6,k7⟩:=hp.kcore
 have hO : ∀ J,Out H.length K (.bool (zcJ c c.codes (List.replicate c.vars.length false))) (H ++ J):=fun J=>Out.bool rfl (Nat.le_refl _) hs hK
 have hg3 : ∀ st J,(zaM H c st ++ J)[H.length + 3]? = some (.cells [.fn zeG [.ptr (H.length + 2) 0]]):=by intro st J; simp [zaM]
 have hg4 : ∀ st J,(zaM H c st ++ J)[H.length + 4]? = some (.cells [.fn zeH [.ptr H.length 0,.ptr (H.length + 2) 0,.ptr (H.length + 3) 0,.ptr (H.length + 4) 0]]):=by intro st J; simp [zaM]
 have hg5 : ∀ st J,(zaM H c st ++ J)[H.length + 5]? = J[0]?:=by intro st J; simp [zaM]
 have hg3' : ∀ st (h : H.length + 3 < (zaM H c st).length),(zaM H c st)[H.length + 3] = .cells [.fn zeG [.ptr (H.length + 2) 0]]:=by
  intro st h
  have:=hg3 st []
  rw [List.append_nil,List.getElem?_eq_getElem h] at this
  exact Option.some.inj this
 have hg4' : ∀ st (h : H.length + 3 + 1 < (zaM H c st).length),(zaM H c st)[H.length + 3 + 1] = .cells [.fn zeH [.ptr H.length 0,.ptr (H.length + 2) 0,.ptr (H.length + 3) 0,.ptr (H.length + 4) 0]]:=by
  intro st h
  have:=hg4 st []
  rw [List.append_nil,List.getElem?_eq_getElem h] at this
  exact Option.some.inj this
 simp [zwO,Cor.cs]
 simp only [zaN,Int.toNat_natCast,zgI]
 refine ⟨⟨by omega,by omega,by omega,by omega⟩,?_⟩
 simp
 refine ⟨rfl,⟨rfl,rfl,rfl,rfl⟩,?_⟩
 refine zI4 (Inv:=fun q t17 H'=>∃ (i : Nat) (st : List Bool),i ≤ c.codes.length ∧ q = c.codes.length - i ∧ t17 = .int .i64 i ∧ st.length = c.vars.length ∧ zcJ c (c.codes.drop i) st = zcJ c c.codes (List.replicate c.vars.length false) ∧ H' = zaM H c st) c.codes.length ?_ ?_
 ·intro _; exact ⟨0,_,by omega,by omega,rfl,by simp,rfl,by simp [zaM,zbe]⟩
 ·rintro q t17 H' ⟨i,st,hi,rfl,rfl,hst,ho,rfl⟩ hsc hlen hsF Kb hKb
  by_cases hlt : i < c.codes.length
  ·obtain ⟨x,y,z,hv,hx,hy,hz,hat⟩:=zez hlt
   obtain ⟨_,kp,kc,_⟩:=k6 _ (List.getElem_mem hlt)
   obtain ⟨hr1,hr2⟩:=hp.crange i hlt
   obtain ⟨b,hb,hbl⟩:=hp.body i hlt
   rw [List.drop_eq_getElem_cons hlt,zcJ] at ho
   generalize hf : c.codes[i] = f at *
   rw [hb,Int.toNat_natCast] at ho
   simp [zp4,hlt,hf,hat,hx,hy,hz,hg3,hg3',hg4']
   refine zf6 hs hst (by omega) hr1 _ ?_
   simp [hg3,hg3',hg5]
   refine zf6 hs (by simpa using hst) (by omega) hr2 _ ?_
   simp [hg4,hg4',hg5,hb]
   refine zDO hp hs c.exprs.length b (by omega) hbl _ _ (by simpa using hst) _ (fun st1 h1 hl1=>?_) (fun h1 st1 hl1=>?_)
   ·rw [h1] at ho
    simp [hg3,hg3',hg5]
    refine zf6 hs hl1 (by omega) hr1 _ ?_
    simp [hg3,hg3',hg5]
    refine zf6 hs (by simpa using hl1) (by omega) hr2 _ ?_
    rw [zaq (by omega) (by omega)]
    refine hKb _ _ ⟨c.codes.length - (i + 1),by omega,Back.at (J:=[_]) (H2:=zaM H c _) rfl (by simp) (zn7 hs _ _) ?_ ⟨_,rfl,i + 1,_,by omega,rfl,by simp,by simpa using hl1,ho,rfl⟩⟩
    simp [zkI,AV.sc,AV.scV,AV.scA,AV.scB]
   ·rw [h1] at ho
    rw [← ho] at hO
    simp [zaM]
    exact hO _
  ·obtain rfl : i = c.codes.length:=by omega
   rw [List.drop_length,zcJ] at ho
   rw [← ho] at hO
   simp [zp4,zaM]
   exact hO _
end Go.Proofs.Ytkdmpbhbmmhijaa
