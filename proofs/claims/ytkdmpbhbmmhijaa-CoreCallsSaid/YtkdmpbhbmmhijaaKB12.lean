import Derived.Test.YtkdmpbhbmmhijaaKB6
set_option linter.unusedSimpArgs false
set_option linter.unusedVariables false
namespace Go.Proofs.Ytkdmpbhbmmhijaa
open Go Go.Abs
set_option maxRecDepth 8000
structure ExIn (c : Cor) (e : CEx) : Prop where
 kcore : zaP c
 kex : KEx e
 vars : inV c e.vars
 kids : inE c e.kids
 bk : e.binds.length = e.kids.length
 binds : ∀ l ∈ e.binds,inV c l
 codes : ∀ f ∈ c.codes,inV c f.params ∧ inV c f.capt
 vtys : ∀ v ∈ c.vars,zaz c.data 0 v = true
def sm (k : Int) : VT:=.mk k 0 []
def usB (us : List Int) : AB:=.cells (us.map fun n=>.int .i64 n)
def zcK (e : CEx) (us : List Int) : List Int:=if e.op = 11 then us.set e.num.toNat (us.getD e.num.toNat 0 + 1) else us
def numR (c : Cor) (e : CEx) : Bool:=
 if e.kids.length ≠ 0 ∨ e.num < 0 then false
 else if e.op = 6 then (if e.ty.kind ≠ 5 ∨ e.num ≥ 8 then false else match zbx c.data e.ty e.num with | some fs=>VT.sameL (zam c e.vars) fs | none=>false)
 else if e.op = 14 then (if e.num < 1 ∨ e.num > 8 then false else VT.sameL (zam c e.vars) [sm 1,sm 1] && (if e.num ≥ 6 then e.ty.same (sm 2) else e.ty.same (sm 1)))
 else match c.codes[e.num.toNat]? with
  | none=>false
  | some f=>if e.op = 12 then f.name != [] && VT.sameL (zam c e.vars) (zam c f.params) && e.ty.same f.res
   else f.name == [] && VT.sameL (zam c e.vars) (zam c f.capt) && e.ty.same (.mk 9 0 (zam c f.params ++ [f.res]))
theorem zgV {c : Cor} (hc : zaP c) : (∀ d ∈ c.data,∀ k ∈ d.cons,k.args.length ≤ 1000 ∧ ∀ x ∈ k.args,x.nodes ≤ 1000) ∧ ∀ d ∈ c.data,d.cons.length ≤ 1000000:=by
 obtain ⟨⟨k1,k2⟩,_⟩:=hc
 refine ⟨fun d hd k hk=>?_,fun d hd=>?_⟩
 ·obtain ⟨_,_,h3⟩:=k2 d hd
  obtain ⟨_,h5,h6⟩:=h3 k hk
  exact ⟨by omega,fun x hx=>by have:=h6 x hx; omega⟩
 ·obtain ⟨_,h3,_⟩:=k2 d hd; omega
theorem zrW {c : Cor} (hc : zaP c) {t : VT} (ht : t.nodes ≤ 1000) (k : Int) (H : zaa) (K : AV → zaa → Prop) (hK : K (zcA (zbx c.data t k)) H) : ACalls tP zgX [.sl (c.data.map Dat.cs) .none,.agg t.cs,.int .i64 k] H K:=
 zEg c.data (by obtain ⟨⟨k1,_⟩,_⟩:=hc; omega) (zgV hc).1 (zgV hc).2 t ht k H K hK
theorem zcq {v u : VT} (hv : v.nodes ≤ 1000) (H : zaa) (K : AV → zaa → Prop) (hK : K (.bool (v.same u)) H) : ACalls tP zbN [.agg v.cs,.agg u.cs] H K:=zlG _ v u (Nat.le_refl _) (by omega) H K hK
theorem zel {H : zaa} {u : Nat} {b : AB} (h : H[u]? = some b) : H.set u b = H:=by
 apply List.ext_getElem?
 intro i
 by_cases hi : u = i
 ·subst hi; rw [List.getElem?_set_self (zb0 h),h]
 ·rw [List.getElem?_set_ne hi]
theorem zeN {us : List Int} {i : Nat} (h : i < us.length) : (us.map fun n=>AV.int .i64 n)[i]? = some (.int .i64 us[i]):=by simp [h]
theorem zfj {us : List Int} {n : Nat} (h : n < us.length) (v : Int) : (us.map fun n=>AV.int .i64 n).take n ++ .int .i64 v :: (us.map fun n=>AV.int .i64 n).drop (n + 1) = (us.set n v).map fun n=>AV.int .i64 n:=by
 rw [List.map_set,List.set_eq_take_append_cons_drop,if_pos (by simpa using h)]
theorem zip {v : VT} {x y z : AV} (h : v.cs = [x,y,z]) : x = .int .i64 v.kind ∧ y = .int .i64 v.num ∧ z = .sl (VT.css v.kids) .none:=by
 obtain ⟨k,n,ks⟩:=v
 simp only [VT.cs,List.cons.injEq,and_true] at h
 exact ⟨h.1.symm,h.2.1.symm,h.2.2.symm⟩
theorem nb {a b : Int} (h : a ≠ b) : (a == b) = false:=by simpa using h
theorem nbt {a b : Int} (h : a ≠ b) : (a != b) = true:=by simpa using h
theorem ztd (H : zaa) (e s n : Nat) : GrowA H (H ++ zbu e s n):=by
 cases n with
 | zero=>left; simp [zbu]
 | succ n=>right; left; exact ⟨e,s,n + 1,rfl⟩
theorem zAI (H : zaa) (e s n : Nat) : GrowA (H ++ zbu e s n) (H ++ zbu e s (n + 1)):=by
 cases n with
 | zero=>right; left; exact ⟨e,s,1,by simp [zbu]⟩
 | succ n=>right; right; left; exact ⟨H.length,e,s,n + 1,n + 2,by simp [zbu],by simp [zbu]⟩
theorem zr6 {e s bytes id n : Nat} {es : List (List AV)} {y : List AV} {t : Tok} {H0 Hh : zaa} {k : AV → zaa → Prop} (he : Hh = H0 ++ zbu e s n) (hn : n = es.length) (hid : id = H0.length) (hy : y.length = s) (hb : (es.length + 1) * bytes ≤ 140737488355328) (hl : es.length + 1 ≤ 9223372036854775807)
  (hk : k (zbr (es ++ [y]) id) (H0 ++ zbu e s (n + 1))) : zbB .g false Hh (fun K=>zaC e s bytes (zbr es id) (.sl [y] t) Hh K) k:=by
 subst he
 exact zmt _ _ (zh8 hn rfl hid hy hb hl ⟨rfl,rfl⟩) (zAI _ _ _ _) hk
theorem zBg {c : Cor} {e : CEx} (hx : ExIn c e) {u kid : Nat} {us : List Int} {H : zaa} (hk : H[kid]? = some (ckB c u)) (hu : H[u]? = some (usB us)) (hne : u ≠ kid) (hlen : us.length = c.codes.length) (hus : ∀ x ∈ us,0 ≤ x ∧ x ≤ 1000000)
  (hop : e.op = 6 ∨ e.op = 11 ∨ e.op = 12 ∨ e.op = 14) (K : AV → zaa → Prop) (hT : numR c e = true → K (.bool true) (H.set u (usB (zcK e us)))) (hF : numR c e = false → ∀ us',us'.length = us.length → K (.bool false) (H.set u (usB us'))) :
  ACalls tP znN [.ptr kid 0,.agg e.cs] H K:=by
 refine ACalls.out (zOh fun hs=>?_)
 obtain ⟨hc,⟨kv,kb,kk,kt,kbl⟩,hvr,hkr,hbk,hbr,hcr,hvt⟩:=hx
 have hc':=hc
 obtain ⟨k1,k2,k3,⟨k4,k5⟩,k6,k7⟩:=hc'
 obtain ⟨x,y,z,hv,hx,hy,hz,hat⟩:=ex3 e
 have hul:=zb0 hu
 have hkl:=zb0 hk
 have scU : ∀ us : List Int,(usB us).sc H.length = true:=fun us=>by simp [usB,AB.sc,AV.scA,AV.scB]
 have oT : numR c e = true → ∀ J,Out H.length K (.bool true) (H.set u (usB (zcK e us)) ++ J):=fun h J=>Out.bool rfl (by simp) (hs.set (scU _)) (hT h)
 have oF : numR c e = false → ∀ us' J,us'.length = us.length → Out H.length K (.bool false) (H.set u (usB us') ++ J):=fun h us' J hl=>Out.bool rfl (by simp) (hs.set (scU _)) (hF h us' hl)
 have oF0 : numR c e = false → ∀ J,Out H.length K (.bool false) (H ++ J):=fun h J=>by
  have:=oF h us J rfl
  rwa [zel hu] at this
 have oB : e.op ≠ 11 → ∀ b,numR c e = b → ∀ J,Out H.length K (.bool b) (H ++ J):=fun hne b hb J=>by
  cases b with
  | false=>exact oF0 hb J
  | true=>
   have:=oT hb J
   rwa [zcK,if_neg hne,zel hu] at this
 have hg : ∀ J,(H ++ J)[kid]? = some (ckB c u):=fun J=>zaO hk
 have hgu : ∀ J,(H ++ J)[u]? = some (usB us):=fun J=>zaO hu
 simp [zyM,hat]
 rw [← hat]
 refine zcV e _ _ _ _ ?_
 by_cases hkz : e.kids.length ≠ 0
 ·have hsh : zaD e (-1) 0 = false:=by simp [zaD]; simpa using hkz
  simp [hsh]
  exact oF0 (by rw [numR,if_pos (.inl hkz)]) _
 have hsh : zaD e (-1) 0 = true:=by simp [zaD]; simpa using hkz
 by_cases hn0 : e.num < 0
 ·simp [hsh,hat,hn0]
  exact oF0 (by rw [numR,if_pos (.inr hn0)]) _
 obtain ⟨n,hn⟩ : ∃ n : Nat,e.num = n:=⟨e.num.toNat,by omega⟩
 have hR:=numR.eq_1 c e
 rw [if_neg (by rintro (h | h) <;> contradiction)] at hR
 obtain ⟨rfl,rfl,rfl⟩:=zip hv
 have hnn : ¬ (n : Int) < 0:=by omega
 by_cases h6 : e.op = 6
 ·rw [if_pos h6] at hR
  have hb:=oB (by omega)
  by_cases hkd : e.ty.kind ≠ 5
  ·rw [if_pos (.inl hkd)] at hR
   simp [hsh,hat,hn,hnn,h6,nbt hkd]
   exact hb _ hR _
  have hkd' : e.ty.kind = 5:=by simpa using hkd
  by_cases hn8 : e.num ≥ 8
  ·rw [if_pos (.inr hn8)] at hR
   have h8' : (8 : Int) ≤ n:=by omega
   simp [hsh,hat,hn,hnn,h6,hkd',h8']
   exact hb _ hR _
  rw [if_neg (by rintro (h | h) <;> contradiction)] at hR
  have h8' : ¬ (8 : Int) ≤ n:=by omega
  simp [hsh,hat,hn,hnn,h6,hkd',h8',hg,ckB]
  rw [← hkd',← hv]
  refine zay (zcA (zbx c.data e.ty n)) (fun J=>zrW hc (by omega) _ _ _ ⟨rfl,rfl⟩) ?_
  rw [hn] at hR
  cases hf : zbx c.data e.ty n with
  | none=>
   rw [hf] at hR
   simp [zcA]
   exact hb _ hR _
  | some fs=>
   rw [hf] at hR
   simp [zcA]
   refine zfS hc (hg _) (by omega) hvr _ _ ?_
   exact hb _ hR _
 rw [if_neg h6] at hR
 by_cases h14 : e.op = 14
 ·rw [if_pos h14] at hR
  have hb:=oB (by omega)
  by_cases hn1 : e.num < 1
  ·rw [if_pos (.inl hn1)] at hR
   have h1' : (n : Int) < 1:=by omega
   simp [hsh,hat,hn,hnn,h14,h1']
   exact hb _ hR _
  by_cases hn8 : e.num > 8
  ·rw [if_pos (.inr hn8)] at hR
   have h1' : ¬ (n : Int) < 1:=by omega
   have h8' : (8 : Int) < n:=by omega
   simp [hsh,hat,hn,hnn,h14,h1',h8']
   exact hb _ hR _
  rw [if_neg (by rintro (h | h) <;> contradiction)] at hR
  have h1' : ¬ (n : Int) < 1:=by omega
  have h8' : ¬ (8 : Int) < n:=by omega
  simp [hsh,hat,hn,hnn,h14,h1',h8']
  refine zay (.agg (sm 1).cs) (fun J=>zc9 _ _ _ ⟨rfl,rfl⟩) ?_
  refine zay (.agg (sm 1).cs) (fun J=>zc9 _ _ _ ⟨rfl,rfl⟩) ?_
  rw [zd9]
  refine zay (.bool (VT.sameL (zam c e.vars) [sm 1,sm 1])) (fun J=>zdM hc (zaO (hg _)) (by omega) hvr [sm 1,sm 1] rfl _ ⟨rfl,rfl⟩) ?_
  cases hsl : VT.sameL (zam c e.vars) [sm 1,sm 1] with
  | false=>
   rw [hsl,Bool.false_and] at hR
   simp
   exact hb _ hR _
  | true=>
   rw [hsl,Bool.true_and] at hR
   by_cases hn6 : e.num ≥ 6
   ·rw [if_pos hn6] at hR
    have h6' : (6 : Int) ≤ n:=by omega
    simp [h6',hn]
    refine zay (.agg (sm 2).cs) (fun J=>zc9 _ _ _ ⟨rfl,rfl⟩) ?_
    rw [← hv]
    refine zay (.bool (e.ty.same (sm 2))) (fun J=>zcq (by omega) _ _ ⟨rfl,rfl⟩) ?_
    exact hb _ hR _
   ·rw [if_neg hn6] at hR
    have h6' : ¬ (6 : Int) ≤ n:=by omega
    simp [h6',hn]
    refine zay (.agg (sm 1).cs) (fun J=>zc9 _ _ _ ⟨rfl,rfl⟩) ?_
    rw [← hv]
    refine zay (.bool (e.ty.same (sm 1))) (fun J=>zcq (by omega) _ _ ⟨rfl,rfl⟩) ?_
    exact hb _ hR _
 rw [if_neg h14,hn,Int.toNat_natCast] at hR
 by_cases hnc : c.codes.length ≤ n
 ·rw [List.getElem?_eq_none hnc] at hR
  have hnc' : (c.codes.length : Int) ≤ n:=by omega
  simp [hsh,hat,hn,hnn,nb h6,nb h14,hg,ckB,hnc']
  exact oF0 hR _
 have hnl : n < c.codes.length:=by omega
 have hnc' : ¬ (c.codes.length : Int) ≤ n:=by omega
 rw [List.getElem?_eq_getElem hnl] at hR
 simp only [] at hR
 obtain ⟨p,q,r,hw,hp,hq,hrr,hcat⟩:=zez hnl
 obtain ⟨hcp,hcc⟩:=hcr _ (List.getElem_mem hnl)
 obtain ⟨_,kp,kc,kr⟩:=k6 _ (List.getElem_mem hnl)
 by_cases h12 : e.op = 12
 ·rw [if_pos h12] at hR
  have hb:=oB (by omega)
  cases hnm : ((c.codes[n]).name == []) with
  | true=>
   have : ((c.codes[n]).name != []) = false:=by simp [bne,hnm]
   rw [this,Bool.false_and,Bool.false_and] at hR
   simp [hsh,hat,hn,hnn,h12,hg,ckB,hnc',hnl,hcat,hp,hq,hrr,hnm]
   exact hb _ hR _
  | false=>
   have : ((c.codes[n]).name != []) = true:=by simp [bne,hnm]
   rw [this,Bool.true_and] at hR
   simp [hsh,hat,hn,hnn,h12,hg,ckB,hnc',hnl,hcat,hp,hq,hrr,hnm]
   refine zay (.sl (VT.css (zam c (c.codes[n]).params)) .none) (fun J=>zjd (zaO (hg _)) (by omega) hcp _ fun _=>⟨rfl,rfl⟩) ?_
   refine zay (.bool (VT.sameL (zam c e.vars) (zam c (c.codes[n]).params))) (fun J=>zfS hc (zaO (hg _)) (by omega) hvr _ _ ⟨rfl,rfl⟩) ?_
   cases hsl : VT.sameL (zam c e.vars) (zam c (c.codes[n]).params) with
   | false=>
    rw [hsl,Bool.false_and] at hR
    simp
    exact hb _ hR _
   | true=>
    rw [hsl,Bool.true_and] at hR
    simp
    rw [← hv,← hw]
    refine zay (.bool (e.ty.same (c.codes[n]).res)) (fun J=>zcq (by omega) _ _ ⟨rfl,rfl⟩) ?_
    exact hb _ hR _
 ·rw [if_neg h12] at hR
  have h11 : e.op = 11:=by omega
  have hus' : zcK e us = us.set n (us[n]'(by omega) + 1):=by
   rw [zcK,if_pos h11,hn,Int.toNat_natCast,List.getD_eq_getElem?_getD,List.getElem?_eq_getElem (by omega)]; rfl
  rw [hus'] at oT
  have hub:=hus _ (List.getElem_mem (show n < us.length by omega))
  have hnu : n < us.length:=by omega
  have hset : ∀ v : Int,(us.map fun n=>AV.int .i64 n).set n (.int .i64 v) = (us.set n v).map fun n=>AV.int .i64 n:=fun v=>by rw [List.map_set]
  have hstep : ∀ J b,(H ++ J).set u b = H.set u b ++ J:=fun J b=>zdK b hu
  generalize hV : us.set n (us[n]'(by omega) + 1) = vs at *
  have hvl : vs.length = us.length:=by rw [← hV]; simp
  have hg2 : ∀ J,(H.set u (usB vs) ++ J)[kid]? = some (ckB c u):=fun J=>zaO (by rw [List.getElem?_set_ne hne]; exact hk)
  have hsl2 : ∀ J k,(H.set u (usB vs) ++ J)[H.length + k]? = J[k]?:=fun J k=>by
   have:=zij (H.set u (usB vs)) J k
   rwa [List.length_set] at this
  have hb : ∀ b,numR c e = b → ∀ J,Out H.length K (.bool b) (H.set u (usB vs) ++ J):=fun b hb J=>by
   cases b with
   | false=>exact oF hb vs J hvl
   | true=>exact oT hb J
  have hld : ∀ J,(H ++ J)[u]? = some (.cells (us.map fun n=>.int .i64 n)):=fun J=>hgu J
  have hu1 : ∀ k : AV → Prop,zaS false 1 n (us.map fun n=>AV.int .i64 n) k = k (.int .i64 us[n]):=fun k=>zaK 1 (zeN hnu)
  simp [hsh,hat,hn,hnn,nb h6,nb h14,nb h12,hg,ckB,hnc',hnl,hcat,hp,hq,hrr,hld,hu1,hstep]
  rw [zaq (by omega) (by omega),zfj hnu,hV,← usB]
  refine ⟨by omega,?_⟩
  cases hnm : (c.codes[n]).name.isEmpty with
  | false=>
   have h1 : ((c.codes[n]).name == []) = false:=by cases hh : (c.codes[n]).name <;> simp [hh] at hnm ⊢
   rw [h1,Bool.false_and,Bool.false_and] at hR
   simp
   exact hb _ hR _
  | true=>
   have h1 : ((c.codes[n]).name == []) = true:=by cases hh : (c.codes[n]).name <;> simp [hh] at hnm ⊢
   rw [h1,Bool.true_and] at hR
   simp [hsl2]
   refine ze0 (.sl (VT.css (zam c (c.codes[n]).capt)) .none) (zjd (hg2 _) (by omega) hcc _ fun _=>⟨rfl,rfl⟩) ?_
   refine ze0 (.bool (VT.sameL (zam c e.vars) (zam c (c.codes[n]).capt))) (zfS hc (hg2 _) (by omega) hvr _ _ ⟨rfl,rfl⟩) ?_
   cases hsl : VT.sameL (zam c e.vars) (zam c (c.codes[n]).capt) with
   | false=>
    rw [hsl,Bool.false_and] at hR
    simp
    exact hb _ hR _
   | true=>
    rw [hsl,Bool.true_and] at hR
    simp [hsl2]
    refine zmt _ _ (zos (hg2 _) (by omega) hcp _ fun _=>⟨rfl,rfl⟩) (ztd _ _ _ _) ?_
    simp [hsl2]
    rw [← hw,zbP]
    refine zr6 (List.append_assoc _ [_,_] _).symm (by simp [zam]) (by simp) (by simp) (by simp [zam]; omega) (by simp [zam]; omega) ?_
    refine ze0 (.agg (VT.mk 9 0 (zam c (c.codes[n]).params ++ [(c.codes[n]).res])).cs) (zs3 9 (zam c (c.codes[n]).params ++ [(c.codes[n]).res]) (by simp [VT.css_map]) _ _ ⟨rfl,rfl⟩) ?_
    rw [← hv]
    refine ze0 (.bool (e.ty.same (.mk 9 0 (zam c (c.codes[n]).params ++ [(c.codes[n]).res])))) (zcq (by omega) _ _ ⟨rfl,rfl⟩) ?_
    simp
    exact hb _ hR _
def zfP (c : Cor) (t : VT) : Nat:=match c.data[t.num.toNat]? with | some d=>d.cons.length | none=>0
def ze4 (c : Cor) (t : VT) (e : CEx) (k : Nat) : Bool:=match zbx c.data t k with | some fs=>VT.sameL (zam c (e.binds.getD k [])) fs | none=>false
def ze5 (c : Cor) (t : VT) (e : CEx) : Bool:=(List.range e.kids.length).all (ze4 c t e)
def parR (c : Cor) (e : CEx) : Bool:=
 if e.op = 7 then zaD e 0 2 && (zbW e.binds == [0,1] && (VT.sameL (zam c (e.binds.getD 1 [])) [ety c (e.kids.getD 0 0)] && zb3 c e.ty (e.kids.drop 1)))
 else if e.op = 24 then zaD e 0 2 && (zbW e.binds == [0,1] && (VT.sameL (zam c (e.binds.getD 1 [])) [sm 1] && zb3 c e.ty e.kids))
 else if e.op = 8 then zaD e 1 1 && ((vty c (e.vars.getD 0 0)).kind == 6 && (VT.sameL (zam c (e.binds.getD 0 [])) (vty c (e.vars.getD 0 0)).kids && zb3 c e.ty e.kids))
 else if e.op = 9 then zaD e 1 2 && (zbW e.binds == [0,0] && (VT.sameL (zam c e.vars) [sm 2] && zb3 c e.ty e.kids))
 else e.vars.length == 1 && ((vty c (e.vars.getD 0 0)).kind == 5 && (e.kids.length == zfP c (vty c (e.vars.getD 0 0)) && (ze5 c (vty c (e.vars.getD 0 0)) e && zb3 c e.ty e.kids)))
theorem zuV {c : Cor} {t : VT} (h : zaz c.data 0 t = true) (hk : t.kind = 5) : ∃ n : Nat,t.num = n ∧ n < c.data.length:=by
 obtain ⟨k,n,ks⟩:=t
 simp only [VT.kind] at hk
 subst hk
 simp only [zaz,zbz,Bool.and_eq_true] at h
 have h2:=h.2.1
 simp [zbd] at h2
 obtain ⟨h3,h4⟩:=h2
 refine ⟨n.toNat,by simp only [VT.num]; omega,?_⟩
 by_cases hh : n.toNat < c.data.length
 ·exact hh
 ·rw [List.getElem?_eq_none (by omega)] at h4; simp at h4
theorem zuX {c : Cor} {t : VT} (h : zaz c.data 0 t = true) (hk : t.kind = 7 ∨ t.kind = 8) : ∃ a,t.kids = [a] ∧ t.num = 0:=by
 obtain ⟨k,n,ks⟩:=t
 simp only [VT.kind] at hk
 simp only [zaz,zbz,Bool.and_eq_true] at h
 have h2:=h.2.1
 have : n = 0 ∧ ks.length = 1:=by rcases hk with rfl | rfl <;> simpa [zbd] using h2
 obtain ⟨rfl,h4⟩:=this
 match ks,h4 with
 | [a],_=>exact ⟨a,rfl,rfl⟩
theorem ziX {c : Cor} {l : List Int} (hr : inV c l) (hl : 0 < l.length) : ∃ v : Nat,l.getD 0 0 = v ∧ l[0] = v ∧ ∃ h : v < c.vars.length,vty c (l.getD 0 0) = c.vars[v]:=by
 have h:=hr _ (List.getElem_mem hl)
 have e0 : l.getD 0 0 = l[0]:=by rw [List.getD_eq_getElem?_getD,List.getElem?_eq_getElem hl]; rfl
 refine ⟨(l[0]).toNat,by rw [e0]; omega,by omega,by omega,?_⟩
 rw [e0]
 have : ((l[0]).toNat : Int) = l[0]:=by omega
 have h2:=zfl (c:=c) (v:=(l[0]).toNat) (by omega)
 rwa [this] at h2
theorem zBC {c : Cor} {e : CEx} (hx : ExIn c e) {u kid : Nat} {H : zaa} (hk : H[kid]? = some (ckB c u)) (K : AV → zaa → Prop) (hK : K (.bool (parR c e)) H) :
  ACalls tP znO [.ptr kid 0,.agg e.cs] H K:=by
 refine ACalls.out (zON fun hs=>?_)
 obtain ⟨hc,⟨kv,kb,kk,kt,kbl⟩,hvr,hkr,hbk,hbr,hcr,hvt⟩:=hx
 have hc':=hc
 obtain ⟨k1,k2,k3,⟨k4,k5⟩,k6,k7⟩:=hc'
 obtain ⟨x,y,z,hv,hx,hy,hz,hat⟩:=ex3 e
 have hkl:=zb0 hk
 have hO : ∀ J,Out H.length K (.bool (parR c e)) (H ++ J):=fun J=>Out.bool rfl (Nat.le_refl _) hs hK
 have hg : ∀ J,(H ++ J)[kid]? = some (ckB c u):=fun J=>zaO hk
 have hb : ∀ b,parR c e = b → ∀ J,Out H.length K (.bool b) (H ++ J):=fun b h J=>h ▸ hO J
 have hR:=parR.eq_1 c e
 have bl : ∀ i (h : i < e.binds.length),(e.binds[i]).length ≤ 1000 ∧ inV c e.binds[i] ∧ e.binds.getD i [] = e.binds[i]:=fun i h=>⟨by have:=kbl _ (List.getElem_mem h); omega,hbr _ (List.getElem_mem h),by rw [List.getD_eq_getElem?_getD,List.getElem?_eq_getElem h]; rfl⟩
 have hag0 : ∀ J,ACalls tP zdO [.ptr kid 0,.agg e.cs,.int .i64 0] (H ++ J) fun v H'=>v = .bool (zb3 c e.ty e.kids) ∧ H' = H ++ J:=fun J=>
  znb hc (hg J) e (by omega) hkr 0 _ ⟨rfl,rfl⟩
 have hag1 : ∀ J,ACalls tP zdO [.ptr kid 0,.agg e.cs,.int .i64 1] (H ++ J) fun v H'=>v = .bool (zb3 c e.ty (e.kids.drop 1)) ∧ H' = H ++ J:=fun J=>
  znb hc (hg J) e (by omega) hkr 1 _ ⟨rfl,rfl⟩
 have fin : ∀ (b : Bool) (X : AB),parR c e = zb3 c e.ty e.kids → zaw (H ++ [X]) (fun H' K'=>ACalls tP zdO [.ptr kid 0,.agg e.cs,.int .i64 0] H' K') fun t=>zah (.bool true) t (.bool false) fun t=>Out H.length K t (H ++ [X]):=fun b X h=>by
  refine zay (.bool (zb3 c e.ty e.kids)) (fun J=>by simpa using hag0 (X :: J)) ?_
  simp
  exact hb _ h _
 by_cases h7 : e.op = 7
 ·rw [if_pos h7] at hR
  simp [zmd,hat,h7]
  have hat7:=hat
  rw [h7] at hat7
  rw [← hat7]
  refine zay (.bool (zaD e 0 2)) (fun J=>zcV e _ _ _ _ ⟨rfl,rfl⟩) ?_
  cases hsh : zaD e 0 2 with
  | false=>
   rw [hsh,Bool.false_and] at hR
   simp
   exact hb _ hR _
  | true=>
  rw [hsh,Bool.true_and] at hR
  have hkl2 : e.kids.length = 2:=by simp [zaD] at hsh; omega
  simp [hat7]
  rw [zmD,← hat7]
  refine zay (.bool (zbW e.binds == [0,1])) (fun J=>zmB e (by omega) _ _ _ ⟨rfl,rfl⟩) ?_
  cases hln : (zbW e.binds == [0,1]) with
  | false=>
   rw [hln,Bool.false_and] at hR
   simp
   exact hb _ hR _
  | true=>
  rw [hln,Bool.true_and] at hR
  have hbl : 1 < e.binds.length:=by omega
  obtain ⟨b1,b2,b3⟩:=bl 1 hbl
  simp [hat7,hbl]
  refine ⟨by omega,?_⟩
  rw [← hat7]
  refine zay (.agg (ety c e.kids[0]).cs) (fun J=>ztk (zaO (hg _)) e hkr 0 (by omega) _ ⟨rfl,rfl⟩) ?_
  rw [zbP]
  have hk0 : e.kids.getD 0 0 = e.kids[0]:=by rw [List.getD_eq_getElem?_getD,List.getElem?_eq_getElem (by omega)]; rfl
  rw [b3,hk0] at hR
  refine zay (.bool (VT.sameL (zam c e.binds[1]) [ety c e.kids[0]])) (fun J=>zdM hc (zaO (hg _)) b1 b2 [ety c e.kids[0]] rfl _ ⟨rfl,rfl⟩) ?_
  cases hsl : VT.sameL (zam c e.binds[1]) [ety c e.kids[0]] with
  | false=>
   rw [hsl,Bool.false_and] at hR
   simp
   exact hb _ hR _
  | true=>
  rw [hsl,Bool.true_and] at hR
  simp [hat7]
  rw [← hat7]
  refine zay (.bool (zb3 c e.ty (e.kids.drop 1))) (fun J=>by rw [List.append_assoc]; exact hag1 _) ?_
  exact hb _ hR _
 rw [if_neg h7] at hR
 by_cases h24 : e.op = 24
 ·rw [if_pos h24] at hR
  have hat7:=hat
  rw [h24] at hat7
  simp [zmd,hat,h24]
  rw [← hat7]
  refine zay (.bool (zaD e 0 2)) (fun J=>zcV e _ _ _ _ ⟨rfl,rfl⟩) ?_
  cases hsh : zaD e 0 2 with
  | false=>
   rw [hsh,Bool.false_and] at hR
   simp
   exact hb _ hR _
  | true=>
  rw [hsh,Bool.true_and] at hR
  have hkl2 : e.kids.length = 2:=by simp [zaD] at hsh; omega
  simp [hat7]
  rw [zmD,← hat7]
  refine zay (.bool (zbW e.binds == [0,1])) (fun J=>zmB e (by omega) _ _ _ ⟨rfl,rfl⟩) ?_
  cases hln : (zbW e.binds == [0,1]) with
  | false=>
   rw [hln,Bool.false_and] at hR
   simp
   exact hb _ hR _
  | true=>
  rw [hln,Bool.true_and] at hR
  have hbl : 1 < e.binds.length:=by omega
  obtain ⟨b1,b2,b3⟩:=bl 1 hbl
  simp [hat7,hbl]
  refine ⟨by omega,?_⟩
  refine zay (.agg (sm 1).cs) (fun J=>zc9 _ _ _ ⟨rfl,rfl⟩) ?_
  rw [zbP]
  rw [b3] at hR
  refine zay (.bool (VT.sameL (zam c e.binds[1]) [sm 1])) (fun J=>zdM hc (zaO (hg _)) b1 b2 [sm 1] rfl _ ⟨rfl,rfl⟩) ?_
  cases hsl : VT.sameL (zam c e.binds[1]) [sm 1] with
  | false=>
   rw [hsl,Bool.false_and] at hR
   simp
   exact hb _ hR _
  | true=>
  rw [hsl,Bool.true_and] at hR
  simp [hat7]
  rw [← hat7]
  refine zay (.bool (zb3 c e.ty e.kids)) (fun J=>by rw [List.append_assoc]; exact hag0 _) ?_
  exact hb _ hR _
 rw [if_neg h24] at hR
 simp [zmd,hat,nb h7,nb h24]
 refine zOH fun hs1=>?_
 unfold zyT
 by_cases h8 : e.op = 8
 ·rw [if_pos h8] at hR
  have hat7:=hat
  rw [h8] at hat7
  simp [h8]
  rw [← hat7]
  refine zcV e _ _ _ _ ?_
  cases hsh : zaD e 1 1 with
  | false=>
   rw [hsh,Bool.false_and] at hR
   simp
   exact hb _ hR _
  | true=>
  rw [hsh,Bool.true_and] at hR
  have hkl1 : e.kids.length = 1 ∧ e.vars.length = 1:=by simp [zaD] at hsh; omega
  obtain ⟨v,hv0,hv1,hvl,hvt0⟩:=ziX hvr (by omega)
  rw [hvt0] at hR
  obtain ⟨x',y',z',hw,hx',hy',hz'⟩:=vt3 c.vars[v]
  have hvl1 : 0 < e.vars.length:=by omega
  have hbl : 0 < e.binds.length:=by omega
  obtain ⟨b1,b2,b3⟩:=bl 0 hbl
  rw [b3] at hR
  obtain ⟨rfl,rfl,rfl⟩:=zip hw
  cases hk6 : ((c.vars[v]).kind == 6) with
  | false=>
   rw [hk6,Bool.false_and] at hR
   simp [hat7,hg,ckB,hvl1,hv1,hvl,hw,hbl,hk6]
   exact hb _ hR _
  | true=>
  rw [hk6,Bool.true_and] at hR
  simp [hat7,hg,ckB,hvl1,hv1,hvl,hw,hbl,hk6]
  refine zay (.bool (VT.sameL (zam c e.binds[0]) (c.vars[v]).kids)) (fun J=>zfS hc (zaO (hg _)) b1 b2 _ _ ⟨rfl,rfl⟩) ?_
  cases hsl : VT.sameL (zam c e.binds[0]) (c.vars[v]).kids with
  | false=>
   rw [hsl,Bool.false_and] at hR
   simp
   exact hb _ hR _
  | true=>
  rw [hsl,Bool.true_and] at hR
  simp
  rw [← hat7]
  refine zay (.bool (zb3 c e.ty e.kids)) (fun J=>by rw [List.append_assoc]; exact hag0 _) ?_
  exact hb _ hR _
 rw [if_neg h8] at hR
 by_cases h9 : e.op = 9
 ·rw [if_pos h9] at hR
  have hat7:=hat
  rw [h9] at hat7
  simp [h9]
  rw [← hat7]
  refine zay (.bool (zaD e 1 2)) (fun J=>zcV e _ _ _ _ ⟨rfl,rfl⟩) ?_
  cases hsh : zaD e 1 2 with
  | false=>
   rw [hsh,Bool.false_and] at hR
   simp
   exact hb _ hR _
  | true=>
  rw [hsh,Bool.true_and] at hR
  simp [hat7]
  rw [zmD,← hat7]
  refine zay (.bool (zbW e.binds == [0,0])) (fun J=>zmB e (by omega) _ _ _ ⟨rfl,rfl⟩) ?_
  cases hln : (zbW e.binds == [0,0]) with
  | false=>
   rw [hln,Bool.false_and] at hR
   simp
   exact hb _ hR _
  | true=>
  rw [hln,Bool.true_and] at hR
  simp [hat7]
  refine zay (.agg (sm 2).cs) (fun J=>zc9 _ _ _ ⟨rfl,rfl⟩) ?_
  rw [zbP]
  refine zay (.bool (VT.sameL (zam c e.vars) [sm 2])) (fun J=>zdM hc (zaO (hg _)) (by omega) hvr [sm 2] rfl _ ⟨rfl,rfl⟩) ?_
  cases hsl : VT.sameL (zam c e.vars) [sm 2] with
  | false=>
   rw [hsl,Bool.false_and] at hR
   simp
   exact hb _ hR _
  | true=>
  rw [hsl,Bool.true_and] at hR
  simp [hat7]
  rw [← hat7]
  refine zay (.bool (zb3 c e.ty e.kids)) (fun J=>by rw [List.append_assoc]; exact hag0 _) ?_
  exact hb _ hR _
 rw [if_neg h9] at hR
 simp [nb h8,nb h9]
 refine zOK fun hs2=>?_
 unfold zyV
 by_cases hvn : e.vars.length ≠ 1
 ·have h1 : (e.vars.length == 1) = false:=by simpa using hvn
  have h2 : ((e.vars.length : Int) != 1) = true:=nbt (by omega)
  rw [h1,Bool.false_and] at hR
  simp [h2]
  exact hb _ hR _
 have hv1' : e.vars.length = 1:=by omega
 have h2 : ((e.vars.length : Int) != 1) = false:=by simp [hv1']
 have h1 : (e.vars.length == 1) = true:=by simp [hv1']
 rw [h1,Bool.true_and] at hR
 obtain ⟨v,hv0,hv1,hvl,hvt0⟩:=ziX hvr (by omega)
 rw [hvt0] at hR
 obtain ⟨x',y',z',hw,hx',hy',hz'⟩:=vt3 c.vars[v]
 obtain ⟨rfl,rfl,rfl⟩:=zip hw
 have hvl1 : 0 < e.vars.length:=by omega
 by_cases hk5 : (c.vars[v]).kind ≠ 5
 ·rw [nb hk5,Bool.false_and] at hR
  simp [h2,hg,ckB,hvl1,hv1,hvl,hw,nbt hk5]
  exact hb _ hR _
 have hk5' : (c.vars[v]).kind = 5:=by simpa using hk5
 rw [hk5'] at hR
 obtain ⟨d,hd,hdl⟩:=zuV (hvt _ (List.getElem_mem hvl)) hk5'
 have hcl : zfP c c.vars[v] = (c.data[d]).cons.length:=by simp [zfP,hd,hdl]
 rw [hcl] at hR
 simp [h2,hg,ckB,hvl1,hv1,hvl,hw,hk5',hd,hdl,Dat.cs]
 have hw5 : (c.vars[v]).cs = [.int .i64 5,.int .i64 d,.sl (VT.css (c.vars[v]).kids) .none]:=by rw [hw,hk5',hd]
 by_cases hkn : e.kids.length ≠ (c.data[d]).cons.length
 ·have h3 : (e.kids.length == (c.data[d]).cons.length) = false:=by simpa using hkn
  have h4 : ((e.kids.length : Int) != (c.data[d]).cons.length) = true:=nbt (by omega)
  rw [h3] at hR
  simp [h4]
  exact hb _ hR _
 have hkn' : e.kids.length = (c.data[d]).cons.length:=by omega
 have h4 : ((e.kids.length : Int) != (c.data[d]).cons.length) = false:=by simp [hkn']
 rw [hkn'] at hR
 simp only [beq_self_eq_true,Bool.true_and] at hR
 simp [h4]
 refine zOL (Inv:=fun q t156 H'=>∃ i : Nat,i ≤ e.kids.length ∧ q = e.kids.length - i ∧ t156 = .int .i64 i ∧ (∀ k,k < i → ze4 c c.vars[v] e k = true) ∧ H' = H ++ [.cells [.int .i64 e.op,.int .i64 e.num,.sl (ints e.vars) .none,.sl (rows e.binds) .none,.sl (ints e.kids) .none,x,y,z],.cells [.int .i64 5,.int .i64 d,.sl (VT.css (c.vars[v]).kids) .none]]) e.kids.length ?_ ?_
 ·intro _; exact ⟨0,by omega,by omega,rfl,by omega,rfl⟩
 ·rintro q t156 H' ⟨i,hi,rfl,rfl,hok,rfl⟩ hsc hlen hsF Kb hKb
  by_cases hlt : i < e.kids.length
  ·have hbl : i < e.binds.length:=by omega
   obtain ⟨b1,b2,b3⟩:=bl i hbl
   have hbad : ze4 c c.vars[v] e i = false → parR c e = false:=fun h=>by
    rw [hR]
    have : ze5 c c.vars[v] e = false:=by
     rw [ze5,List.all_eq_false]
     exact ⟨i,by simp; omega,by simp [h]⟩
    rw [this,Bool.false_and]
   have hco : ze4 c c.vars[v] e i = (match zbx c.data c.vars[v] i with | some fs=>VT.sameL (zam c e.binds[i]) fs | none=>false):=by rw [ze4,b3]
   simp [zrH,hlt,hg,ckB]
   rw [← hw5]
   refine zay (zcA (zbx c.data c.vars[v] i)) (fun J=>zrW hc (by have:=k5 _ (List.getElem_mem hvl); omega) _ _ _ ⟨rfl,rfl⟩) ?_
   cases hf : zbx c.data c.vars[v] i with
   | none=>
    rw [hf] at hco
    simp [zcA]
    exact hb _ (hbad hco) _
   | some fs=>
    rw [hf] at hco
    simp [zcA,hbl]
    refine zfS hc (hg _) b1 b2 _ _ ?_
    cases hsl : VT.sameL (zam c e.binds[i]) fs with
    | false=>
     simp only [] at hco
     rw [hsl] at hco
     simp
     exact hb _ (hbad hco) _
    | true=>
     simp only [] at hco
     rw [hsl] at hco
     simp
     rw [zaq (by omega) (by omega)]
     refine hKb _ _ ⟨e.kids.length - (i + 1),by omega,Back.here (by simp) (by rw [hw5]; exact hsc) ?_ ⟨_,rfl,i + 1,by omega,rfl,by simp,fun k hk=>?_,by rw [hw5]⟩⟩
     ·simp [zme,AV.sc,AV.scV,AV.scA,AV.scB]; omega
     ·by_cases hki : k = i
      ·subst hki; exact hco
      ·exact hok k (by omega)
  ·obtain rfl : i = e.kids.length:=by omega
   have hall : ze5 c c.vars[v] e = true:=by
    rw [ze5,List.all_eq_true]
    intro k hk
    exact hok k (by simpa using hk)
   rw [hall,Bool.true_and] at hR
   simp [zrH]
   rw [← hat]
   refine (znb hc (hg _) e (by omega) hkr 0 _ ?_)
   exact hb _ hR _
def stF (c : Cor) (e : CEx) (el : VT) : Bool:=
 if e.op = 15 then VT.sameL (zam c e.vars) [sm 1,el] && e.ty.same (.mk 7 0 [el])
 else if e.op = 16 then VT.sameL (zam c e.vars) [.mk 7 0 [el],sm 1] && e.ty.same el
 else if e.op = 17 then VT.sameL (zam c e.vars) [.mk 7 0 [el],sm 1,el] && e.ty.same (sm 3)
 else if e.op = 18 then e.ty.same (sm 1)
 else if e.op = 19 then e.ty.same (.mk 8 0 [el])
 else if e.op = 20 then e.ty.same el
 else VT.sameL (zam c e.vars) [.mk 8 0 [el],el] && e.ty.same (sm 3)
theorem zDi {c : Cor} {e : CEx} (hx : ExIn c e) {u kid : Nat} {H : zaa} (hk : H[kid]? = some (ckB c u)) (hs : HSc H) (el : VT) (X : AB) (K : AV → zaa → Prop) (hb : ∀ b,stF c e el = b → ∀ J,Out H.length K (.bool b) (H ++ J)) :
  zmf (.ptr kid 0) (.ptr H.length 0) (.ptr (H.length + 1) 0) (.ptr (H.length + 2) 0) (.ptr (H.length + 3) 0) (H ++ [.cells e.cs,.cells (sm 1).cs,.cells (sm 3).cs,.cells el.cs,X]) (Out H.length K):=by
 obtain ⟨hc,⟨kv,kb,kk,kt,kbl⟩,hvr,hkr,hbk,hbr,hcr,hvt⟩:=hx
 obtain ⟨x,y,z,hv,hx,hy,hz,hat⟩:=ex3 e
 obtain ⟨x1,y1,z1,hv1,hx1,hy1,hz1⟩:=vt3 el
 have hg : ∀ J,(H ++ J)[kid]? = some (ckB c u):=fun J=>zaO hk
 have hR:=stF.eq_1 c e el
 have h1 : (sm 1).cs = [.int .i64 1,.int .i64 0,.sl [] .none]:=rfl
 have h3 : (sm 3).cs = [.int .i64 3,.int .i64 0,.sl [] .none]:=rfl
 have ha : (VT.mk 7 0 [el]).cs = [.int .i64 7,.int .i64 0,.sl [el.cs] .none]:=rfl
 have hr : (VT.mk 8 0 [el]).cs = [.int .i64 8,.int .i64 0,.sl [el.cs] .none]:=rfl
 simp [zmf,hv1]
 rw [← hv1,zbP]
 refine zay (.agg (VT.mk 7 0 [el]).cs) (fun J=>zs4 7 [el] rfl _ _ ⟨rfl,rfl⟩) ?_
 rw [zbP]
 refine zay (.agg (VT.mk 8 0 [el]).cs) (fun J=>zs4 8 [el] rfl _ _ ⟨rfl,rfl⟩) ?_
 by_cases h15 : e.op = 15
 ·rw [if_pos h15] at hR
  simp [hat,ha,hr,h1,h3,h15,hv1]
  rw [← h1,← hv1,zd9]
  refine zdM hc (hg _) (by omega) hvr [sm 1,el] rfl _ ?_
  cases hsl : VT.sameL (zam c e.vars) [sm 1,el] with
  | false=>
   rw [hsl,Bool.false_and] at hR
   simp
   exact hb _ hR _
  | true=>
   rw [hsl,Bool.true_and] at hR
   simp [h1]
   rw [← hv,← ha]
   refine zcq (by omega) _ _ ?_
   exact hb _ hR _
 rw [if_neg h15] at hR
 by_cases h16 : e.op = 16
 ·rw [if_pos h16] at hR
  simp [nb h15,hat,ha,hr,h1,h3,h16,hv1]
  rw [← h1,← hv1,← ha,zd9]
  refine zdM hc (hg _) (by omega) hvr [.mk 7 0 [el],sm 1] rfl _ ?_
  cases hsl : VT.sameL (zam c e.vars) [.mk 7 0 [el],sm 1] with
  | false=>
   rw [hsl,Bool.false_and] at hR
   simp
   exact hb _ hR _
  | true=>
   rw [hsl,Bool.true_and] at hR
   simp [h1,hv1]
   rw [← hv,← hv1]
   refine zcq (by omega) _ _ ?_
   exact hb _ hR _
 rw [if_neg h16] at hR
 by_cases h17 : e.op = 17
 ·rw [if_pos h17] at hR
  simp [nb h15,nb h16,hat,ha,hr,h1,h3,h17,hv1]
  rw [← h1,← hv1,← ha,zzK]
  refine zdM hc (hg _) (by omega) hvr [.mk 7 0 [el],sm 1,el] rfl _ ?_
  cases hsl : VT.sameL (zam c e.vars) [.mk 7 0 [el],sm 1,el] with
  | false=>
   rw [hsl,Bool.false_and] at hR
   simp
   exact hb _ hR _
  | true=>
   rw [hsl,Bool.true_and] at hR
   simp [h1,h3]
   rw [← hv,← h3]
   refine zcq (by omega) _ _ ?_
   exact hb _ hR _
 rw [if_neg h17] at hR
 simp [hat,ha,hr,h1,h3,nb h15,nb h16,nb h17,hv1]
 refine zOT fun hs4=>?_
 unfold zy1
 by_cases h18 : e.op = 18
 ·rw [if_pos h18] at hR
  simp [h18]
  rw [← hv,← h1]
  refine zcq (by omega) _ _ ?_
  exact hb _ hR _
 rw [if_neg h18] at hR
 by_cases h19 : e.op = 19
 ·rw [if_pos h19] at hR
  simp [h19]
  rw [← hv,← hv1,← hr]
  refine zcq (by omega) _ _ ?_
  exact hb _ hR _
 rw [if_neg h19] at hR
 by_cases h20 : e.op = 20
 ·rw [if_pos h20] at hR
  simp [h20]
  rw [← hv,← hv1]
  refine zcq (by omega) _ _ ?_
  exact hb _ hR _
 rw [if_neg h20] at hR
 simp [nb h18,nb h19,nb h20]
 rw [← hv1,← hr,zd9]
 refine zdM hc (hg _) (by omega) hvr [.mk 8 0 [el],el] rfl _ ?_
 cases hsl : VT.sameL (zam c e.vars) [.mk 8 0 [el],el] with
 | false=>
  rw [hsl,Bool.false_and] at hR
  simp
  exact hb _ hR _
 | true=>
  rw [hsl,Bool.true_and] at hR
  simp
  rw [← hv,← h3]
  refine zcq (by omega) _ _ ?_
  exact hb _ hR _
def cntL : List Int:=[0,0,0,0,0,0,0,0,0,0,0,0,0,0,0,2,2,3,1,1,1,2]
theorem zzH {k : AV → Prop} : zav 1 [.int .i64 0] 22 [(15,.int .i64 2),(16,.int .i64 2),(17,.int .i64 3),(18,.int .i64 1),(19,.int .i64 1),(20,.int .i64 1),(21,.int .i64 2)] k = k (.sl (ints cntL) .full):=propext Iff.rfl
def zb9 (t : VT) : VT:=t.kids.getD 0 (.mk 0 0 [])
def stR (c : Cor) (e : CEx) : Bool:=
 if 15 ≤ e.op ∧ e.op ≤ 21 then zaD e (cntL.getD e.op.toNat 0) 0 && (
  if e.op = 15 then stF c e (vty c (e.vars.getD 1 0))
  else if e.op = 19 then stF c e (vty c (e.vars.getD 0 0))
  else if e.op = 16 ∨ e.op = 17 ∨ e.op = 18 then (vty c (e.vars.getD 0 0)).kind == 7 && stF c e (zb9 (vty c (e.vars.getD 0 0)))
  else (vty c (e.vars.getD 0 0)).kind == 8 && stF c e (zb9 (vty c (e.vars.getD 0 0))))
 else false
theorem zAj : ∀ n : Nat,n < 15 → ∀ h : n < cntL.length,cntL[n] = 0:=by decide
theorem zAi : ∀ n : Nat,n < 22 → 15 ≤ n → ∀ h : n < cntL.length,1 ≤ cntL[n] ∧ (n = 15 → cntL[n] = 2):=by decide
theorem zDj {c : Cor} {e : CEx} (hx : ExIn c e) {u kid : Nat} {H : zaa} (hk : H[kid]? = some (ckB c u)) (K : AV → zaa → Prop) (hK : K (.bool (stR c e)) H) :
  ACalls tP znP [.ptr kid 0,.agg e.cs] H K:=by
 refine ACalls.out (zOX fun hs=>?_)
 have hx0:=hx
 obtain ⟨hc,⟨kv,kb,kk,kt,kbl⟩,hvr,hkr,hbk,hbr,hcr,hvt⟩:=hx
 obtain ⟨x,y,z,hv,hx,hy,hz,hat⟩:=ex3 e
 have hO : ∀ J,Out H.length K (.bool (stR c e)) (H ++ J):=fun J=>Out.bool rfl (Nat.le_refl _) hs hK
 have hg : ∀ J,(H ++ J)[kid]? = some (ckB c u):=fun J=>zaO hk
 have hb : ∀ b,stR c e = b → ∀ J,Out H.length K (.bool b) (H ++ J):=fun b h J=>h ▸ hO J
 have hR:=stR.eq_1 c e
 have hcl : cntL.length = 22:=rfl
 simp [zyX,hat,zzH,hcl]
 by_cases h0 : e.op < 0
 ·rw [if_neg (by omega)] at hR
  simp [h0]
  exact hb _ hR _
 by_cases h22 : (22 : Int) ≤ e.op
 ·rw [if_neg (by omega)] at hR
  simp [h0,h22,hcl]
  exact hb _ hR _
 obtain ⟨n,hn⟩ : ∃ n : Nat,e.op = n:=⟨e.op.toNat,by omega⟩
 have hn22 : n < 22:=by omega
 have hn0 : ¬ (n : Int) < 0:=by omega
 have hnx : ¬ (22 : Int) ≤ n:=by omega
 have hcn : n < cntL.length:=by omega
 by_cases h15 : n < 15
 ·rw [if_neg (by omega)] at hR
  have hz:=zAj n h15 hcn
  simp [h0,h22,hn,hn0,hnx,hcn,hcl,hn22,hz]
  refine ⟨by omega,?_⟩
  exact hb _ hR _
 obtain ⟨hc1,hc2⟩:=zAi n hn22 (by omega) hcn
 rw [if_pos (by omega)] at hR
 have hcd : cntL.getD e.op.toNat 0 = cntL[n]:=by rw [hn,Int.toNat_natCast,List.getD_eq_getElem?_getD,List.getElem?_eq_getElem hcn]; rfl
 rw [hcd] at hR
 have hm0 : (cntL[n] == 0) = false:=nb (by omega)
 have hat':=hat
 rw [hn] at hat'
 simp [h0,h22,hn,hn0,hnx,hcn,hcl,hn22,hm0]
 refine ⟨by omega,?_⟩
 rw [← hat']
 generalize cntL[n] = m at *
 refine zay (.bool (zaD e m 0)) (fun J=>zcV e _ _ _ _ ⟨rfl,rfl⟩) ?_
 cases hsh : zaD e m 0 with
 | false=>
  rw [hsh,Bool.false_and] at hR
  simp
  exact hb _ hR _
 | true=>
 rw [hsh,Bool.true_and] at hR
 have hvn : (e.vars.length : Int) = m:=by simp [zaD] at hsh; omega
 have hvl1 : 0 < e.vars.length:=by omega
 obtain ⟨v,hv0,hv1,hvl,hvt0⟩:=ziX hvr hvl1
 obtain ⟨x1,y1,z1,hw,hx1,hy1,hz1⟩:=vt3 c.vars[v]
 obtain ⟨rfl,rfl,rfl⟩:=zip hw
 have h1 : (sm 1).cs = [.int .i64 1,.int .i64 0,.sl [] .none]:=rfl
 have h3 : (sm 3).cs = [.int .i64 3,.int .i64 0,.sl [] .none]:=rfl
 rw [hvt0] at hR
 simp
 refine zOQ fun hs1=>?_
 unfold zyZ
 refine zc9 _ _ _ ?_
 refine zc9 _ _ _ ?_
 have hH : ∀ el : VT,H ++ [.cells e.cs,.cells (sm 1).cs,.cells (sm 3).cs,.cells el.cs,.cells (c.vars[v]).cs] = H ++ [.cells [.int .i64 n,.int .i64 e.num,.sl (ints e.vars) .none,.sl (rows e.binds) .none,.sl (ints e.kids) .none,x,y,z],.cells [.int .i64 1,.int .i64 0,.sl [] .none],.cells [.int .i64 3,.int .i64 0,.sl [] .none],.cells el.cs,.cells [.int .i64 (c.vars[v]).kind,.int .i64 (c.vars[v]).num,.sl (VT.css (c.vars[v]).kids) .none]]:=fun el=>by rw [hat',hw]; rfl
 have j3 : ∀ el : VT,stR c e = stF c e el → zmf (.ptr kid 0) (.ptr H.length 0) (.ptr (H.length + 1) 0) (.ptr (H.length + 2) 0) (.ptr (H.length + 3) 0) (H ++ [.cells [.int .i64 n,.int .i64 e.num,.sl (ints e.vars) .none,.sl (rows e.binds) .none,.sl (ints e.kids) .none,x,y,z],.cells [.int .i64 1,.int .i64 0,.sl [] .none],.cells [.int .i64 3,.int .i64 0,.sl [] .none],.cells el.cs,.cells [.int .i64 (c.vars[v]).kind,.int .i64 (c.vars[v]).num,.sl (VT.css (c.vars[v]).kids) .none]]) (Out H.length K):=fun el h=>by
  rw [← hH el]
  exact zDi hx0 hk hs el _ K (fun b hbb J=>hb b (h.trans hbb) J)
 by_cases h15' : n = 15
 ·obtain ⟨v2,hv2⟩ : ∃ v2 : Nat,e.vars[1]'(by omega) = v2:=⟨(e.vars[1]'(by omega)).toNat,by have:=hvr _ (List.getElem_mem (show 1 < e.vars.length by omega)); omega⟩
  have hv2l : v2 < c.vars.length:=by have:=hvr _ (List.getElem_mem (show 1 < e.vars.length by omega)); omega
  have hvl2 : 1 < e.vars.length:=by omega
  have hv2t : vty c (e.vars.getD 1 0) = c.vars[v2]:=by
   rw [List.getD_eq_getElem?_getD,List.getElem?_eq_getElem hvl2,Option.getD_some,hv2,zfl hv2l]
  rw [if_pos (by omega),hv2t] at hR
  obtain ⟨x2,y2,z2,hw2,hx2,hy2,hz2⟩:=vt3 c.vars[v2]
  have:=j3 _ hR
  rw [hw2] at this
  subst h15'
  simp [hat',h1,h3,sm,VT.cs,VT.css,hg,ckB,hvl1,hv1,hvl,hw,hvl2,hv2,hv2l,hw2,hx2,hy2,hz2,zeT,Nat.add_assoc] at this ⊢
  exact ⟨by omega,this⟩
 rw [if_neg (by omega)] at hR
 have n15 : ((n : Int) == 15) = false:=nb (by omega)
 by_cases h19' : n = 19
 ·rw [if_pos (by omega)] at hR
  have:=j3 _ hR
  rw [hw] at this
  subst h19'
  simp [hat',h1,h3,sm,VT.cs,VT.css,hg,ckB,hvl1,hv1,hvl,hw,zeT,Nat.add_assoc] at this ⊢
  exact this
 rw [if_neg (by omega)] at hR
 have n19 : ((n : Int) == 19) = false:=nb (by omega)
 have el1 : (c.vars[v]).kind = 7 ∨ (c.vars[v]).kind = 8 → ∃ a,(c.vars[v]).kids = [a] ∧ zb9 c.vars[v] = a:=fun h=>by
  obtain ⟨a,ha,_⟩:=zuX (hvt _ (List.getElem_mem hvl)) h
  exact ⟨a,ha,by simp [zb9,ha]⟩
 have j5 : ∀ b : Bool,(b = true ↔ n = 16 ∨ n = 17 ∨ n = 18) → zh1 (.ptr kid 0) (.ptr H.length 0) (.ptr (H.length + 1) 0) (.ptr (H.length + 2) 0) (.ptr (H.length + 3) 0) (.ptr (H.length + 4) 0) (.bool b) (H ++ [.cells [.int .i64 n,.int .i64 e.num,.sl (ints e.vars) .none,.sl (rows e.binds) .none,.sl (ints e.kids) .none,x,y,z],.cells [.int .i64 1,.int .i64 0,.sl [] .none],.cells [.int .i64 3,.int .i64 0,.sl [] .none],.cells [.int .i64 0,.int .i64 0,.snil],.cells [.int .i64 (c.vars[v]).kind,.int .i64 (c.vars[v]).num,.sl (VT.css (c.vars[v]).kids) .none]]) (Out H.length K):=fun b hbb=>by
  refine zOW fun hs5=>?_
  unfold zy2
  cases b with
  | true=>
   rw [if_pos (by have:=hbb.1 rfl; omega)] at hR
   by_cases hk7 : (c.vars[v]).kind ≠ 7
   ·rw [nb hk7,Bool.false_and] at hR
    simp [nbt hk7]
    exact hb _ hR _
   have hk7' : (c.vars[v]).kind = 7:=by simpa using hk7
   obtain ⟨a,ha,ha0⟩:=el1 (.inl hk7')
   rw [hk7',ha0] at hR
   simp only [beq_self_eq_true,Bool.true_and] at hR
   have:=j3 _ hR
   obtain ⟨x2,y2,z2,hw2,hx2,hy2,hz2⟩:=vt3 a
   rw [hw2] at this
   simp [hk7',ha,VT.css,hw2,hx2,hy2,hz2,zeT] at this ⊢
   exact this
  | false=>
   rw [if_neg (by intro h; have:=hbb.2 (by omega); cases this)] at hR
   by_cases hk7 : (c.vars[v]).kind ≠ 8
   ·rw [nb hk7,Bool.false_and] at hR
    simp [nbt hk7]
    exact hb _ hR _
   have hk7' : (c.vars[v]).kind = 8:=by simpa using hk7
   obtain ⟨a,ha,ha0⟩:=el1 (.inr hk7')
   rw [hk7',ha0] at hR
   simp only [beq_self_eq_true,Bool.true_and] at hR
   have:=j3 _ hR
   obtain ⟨x2,y2,z2,hw2,hx2,hy2,hz2⟩:=vt3 a
   rw [hw2] at this
   simp [hk7',ha,VT.css,hw2,hx2,hy2,hz2,zeT] at this ⊢
   exact this
 simp [hat',h1,h3,sm,VT.cs,VT.css,hg,ckB,hvl1,hv1,hvl,hw,n15,n19,Nat.add_assoc]
 by_cases h16 : n = 16
 ·have:=j5 true (by simp [h16])
  subst h16
  simpa using this
 by_cases h17 : n = 17
 ·have:=j5 true (by simp [h17])
  subst h17
  simpa using this
 have n16 : ((n : Int) == 16) = false:=nb (by omega)
 have n17 : ((n : Int) == 17) = false:=nb (by omega)
 simp [n16,n17]
 refine j5 _ ?_
 simp
 omega
def zba (e : CEx) : Prop:=e.op = 6 ∨ e.op = 11 ∨ e.op = 12 ∨ e.op = 14
def zbg (e : CEx) : Prop:=e.op = 7 ∨ e.op = 24 ∨ e.op = 8 ∨ e.op = 9 ∨ e.op = 10
instance (e : CEx) : Decidable (zba e):=by unfold zba; infer_instance
instance (e : CEx) : Decidable (zbg e):=by unfold zbg; infer_instance
def restR (c : Cor) (e : CEx) : Bool:=
 if e.num ≠ 0 then false
 else if e.op = 1 then zaD e 0 0 && e.ty.same (sm 3)
 else if e.op = 4 then zaD e 1 0 && VT.sameL (zam c e.vars) [e.ty]
 else if e.op = 5 then zaD e (-1) 0 && (decide (2 ≤ e.vars.length) && (decide (e.vars.length ≤ 6) && e.ty.same (.mk 6 0 (zam c e.vars))))
 else if e.op = 13 then zaD e (-1) 0 && (decide (1 ≤ e.vars.length) && (vty c (e.vars.getD 0 0)).same (.mk 9 0 (zam c (e.vars.drop 1) ++ [e.ty])))
 else if e.op = 23 then zaD e 1 0 && (VT.sameL (zam c e.vars) [sm 1] && zaz c.data 0 e.ty)
 else if zbg e then parR c e
 else stR c e
def progRule (c : Cor) (e : CEx) : Bool:=
 if zba e then numR c e
 else if e.op = 2 then zaD e 0 0 && ((e.num == 0 || e.num == 1) && e.ty.same (sm 2))
 else if e.op = 3 then zaD e 0 0 && ((decide (-1000000 ≤ e.num) && decide (e.num ≤ 1000000)) && e.ty.same (sm 1))
 else if e.op = 22 then zaD e 0 0 && ((decide (-1000 ≤ e.num) && decide (e.num ≤ 1000)) && e.ty.same (sm 3))
 else restR c e
theorem zBX {c : Cor} {e : CEx} (hx : ExIn c e) {u kid : Nat} {H : zaa} (hk : H[kid]? = some (ckB c u)) (hs : HSc H) (K : AV → zaa → Prop) (hb : ∀ b,restR c e = b → ∀ J,Out H.length K (.bool b) (H ++ J)) :
  zq8 (.ptr kid 0) (.ptr H.length 0) (H ++ [.cells e.cs]) (Out H.length K):=by
 refine zMQ fun hs2=>?_
 unfold zyj
 have hx0:=hx
 obtain ⟨hc,⟨kv,kb,kk,kt,kbl⟩,hvr,hkr,hbk,hbr,hcr,hvt⟩:=hx
 obtain ⟨x,y,z,hv,hx,hy,hz,hat⟩:=ex3 e
 have hg : ∀ J,(H ++ J)[kid]? = some (ckB c u):=fun J=>zaO hk
 have hR:=restR.eq_1 c e
 by_cases hn0 : e.num ≠ 0
 ·rw [if_pos hn0] at hR
  simp [hat,nbt hn0]
  exact hb _ hR _
 rw [if_neg hn0] at hR
 have hn : e.num = 0:=by simpa using hn0
 have hatn:=hat
 rw [hn] at hatn
 by_cases h1 : e.op = 1
 ·rw [if_pos h1] at hR
  have hat7:=hatn
  rw [h1] at hat7
  simp [hat7]
  rw [← hat7]
  refine zay (.bool (zaD e 0 0)) (fun J=>zcV e _ _ _ _ ⟨rfl,rfl⟩) ?_
  cases hsh : zaD e 0 0 with
  | false=>
   rw [hsh,Bool.false_and] at hR
   simp
   exact hb _ hR _
  | true=>
  rw [hsh,Bool.true_and] at hR
  simp [hat7]
  refine zay (.agg (sm 3).cs) (fun J=>zc9 _ _ _ ⟨rfl,rfl⟩) ?_
  rw [← hv]
  refine zay (.bool (e.ty.same (sm 3))) (fun J=>zcq (by omega) _ _ ⟨rfl,rfl⟩) ?_
  exact hb _ hR _
 rw [if_neg h1] at hR
 simp [hatn,nb h1]
 refine zMT fun hs3=>?_
 unfold zyl
 by_cases h4 : e.op = 4
 ·rw [if_pos h4] at hR
  have hat7:=hatn
  rw [h4] at hat7
  simp [h4]
  rw [← hat7]
  refine zcV e _ _ _ _ ?_
  cases hsh : zaD e 1 0 with
  | false=>
   rw [hsh,Bool.false_and] at hR
   simp
   exact hb _ hR _
  | true=>
  rw [hsh,Bool.true_and] at hR
  simp [hat7]
  rw [← hv,zbP]
  refine zdM hc (hg _) (by omega) hvr [e.ty] rfl _ ?_
  exact hb _ hR _
 rw [if_neg h4] at hR
 by_cases h5 : e.op = 5
 ·rw [if_pos h5] at hR
  have hat7:=hatn
  rw [h5] at hat7
  simp [h5]
  rw [← hat7]
  refine zay (.bool (zaD e (-1) 0)) (fun J=>zcV e _ _ _ _ ⟨rfl,rfl⟩) ?_
  cases hsh : zaD e (-1) 0 with
  | false=>
   rw [hsh,Bool.false_and] at hR
   simp
   exact hb _ hR _
  | true=>
  rw [hsh,Bool.true_and] at hR
  by_cases h2 : 2 ≤ e.vars.length
  ·have h2' : (2 : Int) ≤ e.vars.length:=by omega
   by_cases h6 : e.vars.length ≤ 6
   ·have h6' : (e.vars.length : Int) ≤ 6:=by omega
    simp only [h2,h6,decide_true,Bool.true_and] at hR
    simp [hat7,h2',h6']
    refine zay (.sl (VT.css (zam c e.vars)) .none) (fun J=>zjd (zaO (hg _)) (by omega) hvr _ fun _=>⟨rfl,rfl⟩) ?_
    refine zay (.agg (VT.mk 6 0 (zam c e.vars)).cs) (fun J=>zm1 _ _ _ _ ⟨rfl,rfl⟩) ?_
    rw [← hv]
    refine zay (.bool (e.ty.same (.mk 6 0 (zam c e.vars)))) (fun J=>zcq (by omega) _ _ ⟨rfl,rfl⟩) ?_
    exact hb _ hR _
   ·have h6' : ¬ (e.vars.length : Int) ≤ 6:=by omega
    simp only [h2,h6,decide_true,decide_false,Bool.true_and,Bool.false_and] at hR
    simp [hat7,h2',h6']
    exact hb _ hR _
  ·have h2' : ¬ (2 : Int) ≤ e.vars.length:=by omega
   simp only [h2,decide_false,Bool.false_and] at hR
   simp [hat7,h2']
   exact hb _ hR _
 rw [if_neg h5] at hR
 by_cases h13 : e.op = 13
 ·rw [if_pos h13] at hR
  have hat7:=hatn
  rw [h13] at hat7
  simp [h13]
  rw [← hat7]
  refine ze0 (.bool (zaD e (-1) 0)) (zcV e _ _ _ _ ⟨rfl,rfl⟩) ?_
  cases hsh : zaD e (-1) 0 with
  | false=>
   rw [hsh,Bool.false_and] at hR
   simp
   exact hb _ hR _
  | true=>
  rw [hsh,Bool.true_and] at hR
  by_cases h1v : 1 ≤ e.vars.length
  ·have h1' : (1 : Int) ≤ e.vars.length:=by omega
   simp only [h1v,decide_true,Bool.true_and] at hR
   obtain ⟨v,hv0,hv1,hvl,hvt0⟩:=ziX hvr h1v
   rw [hvt0] at hR
   obtain ⟨x1,y1,z1,hw,hx1,hy1,hz1⟩:=vt3 c.vars[v]
   have hvl1 : 0 < e.vars.length:=by omega
   simp [hat7,h1',hg,ckB,hvl1,hv1,hvl,hw]
   have htl : ((ints e.vars).take e.vars.length).tail = ints (e.vars.drop 1):=by
    rw [List.take_of_length_le (by simp)]
    simp [ints,List.map_tail]
   have hvr1 : inV c (e.vars.drop 1):=fun q hq=>hvr q (List.mem_of_mem_drop hq)
   have hdl : (e.vars.drop 1).length ≤ 40:=by simp; omega
   rw [htl]
   refine ⟨⟨h1v,fun q hq=>?_⟩,?_⟩
   ·simp [ints] at hq
    obtain ⟨_,_,rfl⟩:=hq
    rfl
   generalize e.vars.drop 1 = l at *
   refine zmt _ _ (zos (hg _) (by omega) hvr1 _ fun _=>⟨rfl,rfl⟩) (ztd _ _ _ _) ?_
   simp
   rw [← hv,zbP]
   refine zr6 (List.append_assoc _ [_] _).symm (by simp [zam]) (by simp) (by simp) (by simp [zam]; omega) (by simp [zam]; omega) ?_
   refine ze0 (.agg (VT.mk 9 0 (zam c l ++ [e.ty])).cs) (zs3 9 (zam c l ++ [e.ty]) (by simp [VT.css_map]) _ _ ⟨rfl,rfl⟩) ?_
   rw [← hw]
   refine ze0 (.bool ((c.vars[v]).same (.mk 9 0 (zam c l ++ [e.ty])))) (zcq (by have:=hc.2.2.2.1.2 _ (List.getElem_mem hvl); omega) _ _ ⟨rfl,rfl⟩) ?_
   simp
   exact hb _ hR _
  ·have h1' : ¬ (1 : Int) ≤ e.vars.length:=by omega
   simp only [h1v,decide_false,Bool.false_and] at hR
   simp [hat7,h1']
   exact hb _ hR _
 rw [if_neg h13] at hR
 by_cases h23 : e.op = 23
 ·rw [if_pos h23] at hR
  have hat7:=hatn
  rw [h23] at hat7
  simp [h23]
  rw [← hat7]
  refine zay (.bool (zaD e 1 0)) (fun J=>zcV e _ _ _ _ ⟨rfl,rfl⟩) ?_
  cases hsh : zaD e 1 0 with
  | false=>
   rw [hsh,Bool.false_and] at hR
   simp
   exact hb _ hR _
  | true=>
  rw [hsh,Bool.true_and] at hR
  simp [hat7]
  refine zay (.agg (sm 1).cs) (fun J=>zc9 _ _ _ ⟨rfl,rfl⟩) ?_
  rw [zbP]
  refine zay (.bool (VT.sameL (zam c e.vars) [sm 1])) (fun J=>zdM hc (zaO (hg _)) (by omega) hvr [sm 1] rfl _ ⟨rfl,rfl⟩) ?_
  cases hsl : VT.sameL (zam c e.vars) [sm 1] with
  | false=>
   rw [hsl,Bool.false_and] at hR
   simp
   exact hb _ hR _
  | true=>
  rw [hsl,Bool.true_and] at hR
  simp [hg,ckB]
  rw [← hv]
  refine zay (.bool (zaz c.data 0 e.ty)) (fun J=>zlF c.data 0 _ (by omega) _ _ ⟨rfl,rfl⟩) ?_
  exact hb _ hR _
 rw [if_neg h23] at hR
 have j4 : ∀ b : Bool,(b = true ↔ zbg e) → zeQ (.ptr kid 0) (.ptr H.length 0) (.bool b) (H ++ [.cells e.cs]) (Out H.length K):=fun b hbb=>by
  cases b with
  | true=>
   rw [if_pos (hbb.1 rfl)] at hR
   simp [zeQ,hat]
   rw [← hat]
   refine zBC hx0 (hg _) _ ?_
   exact hb _ hR _
  | false=>
   rw [if_neg (fun h=>by have:=hbb.2 h; cases this)] at hR
   simp [zeQ,hat]
   rw [← hat]
   refine zDj hx0 (hg _) _ ?_
   exact hb _ hR _
 rw [← hatn]
 by_cases h7 : e.op = 7
 ·simp [h7]
  exact j4 true (by simp [zbg,h7])
 by_cases h24 : e.op = 24
 ·simp [h24]
  exact j4 true (by simp [zbg,h24])
 by_cases h8 : e.op = 8
 ·simp [h8]
  exact j4 true (by simp [zbg,h8])
 by_cases h9 : e.op = 9
 ·simp [h9]
  exact j4 true (by simp [zbg,h9])
 simp [nb h4,nb h5,nb h13,nb h23,nb h7,nb h24,nb h8,nb h9]
 exact j4 _ (by simp [zbg,h7,h24,h8,h9])
theorem zDC {c : Cor} {e : CEx} (hx : ExIn c e) {u kid : Nat} {us : List Int} {H : zaa} (hk : H[kid]? = some (ckB c u)) (hu : H[u]? = some (usB us)) (hne : u ≠ kid) (hlen : us.length = c.codes.length) (hus : ∀ x ∈ us,0 ≤ x ∧ x ≤ 1000000)
  (K : AV → zaa → Prop) (hT : progRule c e = true → K (.bool true) (H.set u (usB (zcK e us)))) (hF : progRule c e = false → ∀ us',us'.length = us.length → K (.bool false) (H.set u (usB us'))) :
  ACalls tP znI [.ptr kid 0,.agg e.cs] H K:=by
 refine ACalls.out (zMU fun hs=>?_)
 have hx0:=hx
 obtain ⟨hc,⟨kv,kb,kk,kt,kbl⟩,hvr,hkr,hbk,hbr,hcr,hvt⟩:=hx
 obtain ⟨x,y,z,hv,hx,hy,hz,hat⟩:=ex3 e
 have hul:=zb0 hu
 have scU : ∀ us : List Int,(usB us).sc H.length = true:=fun us=>by simp [usB,AB.sc,AV.scA,AV.scB]
 have hg : ∀ J,(H ++ J)[kid]? = some (ckB c u):=fun J=>zaO hk
 have hgu : ∀ J,(H ++ J)[u]? = some (usB us):=fun J=>zaO hu
 have hR:=progRule.eq_1 c e
 have oF : progRule c e = false → ∀ us' J,us'.length = us.length → Out H.length K (.bool false) (H.set u (usB us') ++ J):=fun h us' J hl=>Out.bool rfl (by simp) (hs.set (scU _)) (hF h us' hl)
 have hb : ¬ zba e → ∀ b,progRule c e = b → ∀ J,Out H.length K (.bool b) (H ++ J):=fun hno b h J=>by
  cases b with
  | false=>
   have:=oF h us J rfl
   rwa [zel hu] at this
  | true=>
   have h2:=hT h
   rw [zcK,if_neg (fun h=>hno (.inr (.inl h))),zel hu] at h2
   exact Out.bool rfl (Nat.le_refl _) hs h2
 have j1 : ∀ b : Bool,(b = true ↔ zba e) → zgv (.ptr kid 0) (.ptr H.length 0) (.int .i64 e.op) (.bool b) (H ++ [.cells e.cs]) (Out H.length K):=fun b hbb=>by
  refine zMN fun hs1=>?_
  unfold zyi
  cases b with
  | true=>
   have hno:=hbb.1 rfl
   rw [if_pos hno] at hR
   simp [hat]
   rw [← hat]
   refine zBg hx0 (hg _) (hgu _) hne hlen hus hno _ (fun h=>?_) (fun h us' hl=>?_)
   ·rw [zdK _ hu]
    exact Out.bool rfl (by simp) (hs.set (scU _)) (hT (hR.trans h))
   ·rw [zdK _ hu]
    exact oF (hR.trans h) us' _ hl
  | false=>
   have hno : ¬ zba e:=fun h=>by have:=hbb.2 h; cases this
   rw [if_neg hno] at hR
   have hb:=hb hno
   by_cases h2 : e.op = 2
   ·rw [if_pos h2] at hR
    have hat7:=hat
    rw [h2] at hat7
    simp [h2,hat7]
    rw [← hat7]
    refine zay (.bool (zaD e 0 0)) (fun J=>zcV e _ _ _ _ ⟨rfl,rfl⟩) ?_
    cases hsh : zaD e 0 0 with
    | false=>
     rw [hsh,Bool.false_and] at hR
     simp
     exact hb _ hR _
    | true=>
    rw [hsh,Bool.true_and] at hR
    have fin : (e.num == 0 || e.num == 1) = true → zaw (H ++ [.cells e.cs]) (fun H' K'=>ACalls tP zcG [.int .i64 2] H' K') fun t=>zaw (H ++ [.cells e.cs]) (fun H' K'=>ACalls tP zbN [.agg e.ty.cs,t] H' K') fun t=>Out H.length K t (H ++ [.cells e.cs]):=fun h=>by
     rw [h,Bool.true_and] at hR
     refine zay (.agg (sm 2).cs) (fun J=>zc9 _ _ _ ⟨rfl,rfl⟩) ?_
     refine zay (.bool (e.ty.same (sm 2))) (fun J=>zcq (by omega) _ _ ⟨rfl,rfl⟩) ?_
     exact hb _ hR _
    rw [hat7,hv] at fin
    cases hn0 : (e.num == 0) with
    | true=>simp [hat7,hn0] at fin ⊢; exact fin
    | false=>
    cases hn1 : (e.num == 1) with
    | true=>simp [hat7,hn0,hn1] at fin ⊢; exact fin
    | false=>
     rw [hn0,hn1,Bool.or_false,Bool.false_and] at hR
     simp [hat7,hn0,hn1]
     exact hb _ hR _
   rw [if_neg h2] at hR
   by_cases h3 : e.op = 3
   ·rw [if_pos h3] at hR
    have hat7:=hat
    rw [h3] at hat7
    simp [h3,hat7]
    rw [← hat7]
    refine zay (.bool (zaD e 0 0)) (fun J=>zcV e _ _ _ _ ⟨rfl,rfl⟩) ?_
    cases hsh : zaD e 0 0 with
    | false=>
     rw [hsh,Bool.false_and] at hR
     simp
     exact hb _ hR _
    | true=>
    rw [hsh,Bool.true_and] at hR
    simp [hat7]
    refine zay (.bool (decide (-1000000 ≤ e.num) && decide (e.num ≤ 1000000))) (fun J=>zuZ _ 1000000 (by omega) (by omega) _ _ ⟨rfl,rfl⟩) ?_
    cases hw : (decide (-1000000 ≤ e.num) && decide (e.num ≤ 1000000)) with
    | false=>
     rw [hw,Bool.false_and] at hR
     simp
     exact hb _ hR _
    | true=>
    rw [hw,Bool.true_and] at hR
    simp
    refine zay (.agg (sm 1).cs) (fun J=>zc9 _ _ _ ⟨rfl,rfl⟩) ?_
    rw [← hv]
    refine zay (.bool (e.ty.same (sm 1))) (fun J=>zcq (by omega) _ _ ⟨rfl,rfl⟩) ?_
    exact hb _ hR _
   rw [if_neg h3] at hR
   by_cases h22 : e.op = 22
   ·rw [if_pos h22] at hR
    have hat7:=hat
    rw [h22] at hat7
    simp [h22,hat7]
    rw [← hat7]
    refine zay (.bool (zaD e 0 0)) (fun J=>zcV e _ _ _ _ ⟨rfl,rfl⟩) ?_
    cases hsh : zaD e 0 0 with
    | false=>
     rw [hsh,Bool.false_and] at hR
     simp
     exact hb _ hR _
    | true=>
    rw [hsh,Bool.true_and] at hR
    simp [hat7]
    refine zay (.bool (decide (-1000 ≤ e.num) && decide (e.num ≤ 1000))) (fun J=>zuZ _ 1000 (by omega) (by omega) _ _ ⟨rfl,rfl⟩) ?_
    cases hw : (decide (-1000 ≤ e.num) && decide (e.num ≤ 1000)) with
    | false=>
     rw [hw,Bool.false_and] at hR
     simp
     exact hb _ hR _
    | true=>
    rw [hw,Bool.true_and] at hR
    simp
    refine zay (.agg (sm 3).cs) (fun J=>zc9 _ _ _ ⟨rfl,rfl⟩) ?_
    rw [← hv]
    refine zay (.bool (e.ty.same (sm 3))) (fun J=>zcq (by omega) _ _ ⟨rfl,rfl⟩) ?_
    exact hb _ hR _
   rw [if_neg h22] at hR
   simp [nb h2,nb h3,nb h22]
   exact zBX hx0 hk hs K fun b h J=>hb b (hR.trans h) J
 simp [zyh,hat]
 rw [← hat]
 by_cases h6 : e.op = 6
 ·have:=j1 true (by simp [zba,h6])
  rw [h6] at this
  simp [h6]
  exact this
 by_cases h11 : e.op = 11
 ·have:=j1 true (by simp [zba,h11])
  rw [h11] at this
  simp [h11]
  exact this
 by_cases h12 : e.op = 12
 ·have:=j1 true (by simp [zba,h12])
  rw [h12] at this
  simp [h12]
  exact this
 simp [nb h6,nb h11,nb h12]
 exact j1 _ (by simp [zba,h6,h11,h12])
def zcd (c : Cor) (i : Nat) : List Int:=(c.exprs.take i).foldl (fun us e=>zcK e us) (List.replicate c.codes.length 0)
theorem zDx (e : CEx) (us : List Int) : (zcK e us).length = us.length:=by unfold zcK; split <;> simp
theorem zDA (l : List CEx) : ∀ us : List Int,(l.foldl (fun us e=>zcK e us) us).length = us.length:=by
 induction l with
 | nil=>intro us; rfl
 | cons e l ih=>intro us; rw [List.foldl_cons,ih,zDx]
theorem zDz (c : Cor) (i : Nat) : (zcd c i).length = c.codes.length:=by rw [zcd,zDA]; simp
theorem zov {c : Cor} {i : Nat} (h : i < c.exprs.length) : zcd c (i + 1) = zcK c.exprs[i] (zcd c i):=by
 rw [zcd,zbX h,List.foldl_append]; rfl
theorem zDw {e : CEx} {us : List Int} {B : Int} (h : ∀ x ∈ us,0 ≤ x ∧ x ≤ B) (hB : 0 ≤ B) : ∀ x ∈ zcK e us,0 ≤ x ∧ x ≤ B + 1:=by
 intro x hx
 unfold zcK at hx
 split at hx
 ·rcases List.mem_or_eq_of_mem_set hx with h1 | h1
  ·have:=h x h1; omega
  ·have : 0 ≤ us.getD e.num.toNat 0 ∧ us.getD e.num.toNat 0 ≤ B:=by
    rw [List.getD_eq_getElem?_getD]
    by_cases hh : e.num.toNat < us.length
    ·rw [List.getElem?_eq_getElem hh]; exact h _ (List.getElem_mem hh)
    ·rw [List.getElem?_eq_none (by omega)]; simp; omega
   omega
 ·have:=h x hx; omega
theorem zDy (c : Cor) : ∀ i,i ≤ c.exprs.length → ∀ x ∈ zcd c i,0 ≤ x ∧ x ≤ (i : Int):=by
 intro i
 induction i with
 | zero=>intro _ x hx; simp [zcd] at hx; omega
 | succ i ih=>
  intro hi x hx
  rw [zov (by omega)] at hx
  have:=zDw (ih (by omega)) (by omega) x hx
  omega
structure ExprsP (c : Cor) : Prop where
 rule : ∀ i (h : i < c.exprs.length),progRule c c.exprs[i] = true
 uses : ∀ i (h : i < c.codes.length),(c.codes[i]).name = [] → (zcd c c.exprs.length).getD i 0 = 1
def zbK (H : zaa) (c : Cor) (us : List Int) : zaa:=H ++ [zbe c,usB us,ckB c (H.length + 1)]
theorem zsW {H : zaa} (hs : HSc H) (c : Cor) (us : List Int) : HSc (zbK H c us):=hs.append (by simp [AB.sc,zbe,usB,ckB,AV.scA,AV.scB])
@[simp] theorem zSj (H : zaa) (c : Cor) (us : List Int) : (zbK H c us).length = H.length + 3:=by simp [zbK]
theorem zhc (n : Nat) : (List.replicate n [AV.int .i64 0]).flatten = (List.replicate n (0 : Int)).map fun n=>AV.int .i64 n:=by
 induction n with
 | zero=>rfl
 | succ n ih=>rw [List.replicate_succ,List.flatten_cons,ih,List.replicate_succ,List.map_cons]; rfl
theorem zJi (c : Cor) (hc : zaP c) (hx : ∀ i (h : i < c.exprs.length),ExIn c c.exprs[i]) (H : zaa) (K : AV → zaa → Prop) (hK : ∀ b,(b = true ↔ ExprsP c) → K (.bool b) H) : ACalls tP zny [.agg c.cs] H K:=by
 refine ACalls.out (zJh fun hs=>?_)
 obtain ⟨k1,k2,k3,⟨k4,k5⟩,k6,k7⟩:=hc
 have hF : ¬ ExprsP c → ∀ J,Out H.length K (.bool false) (H ++ J):=fun h J=>Out.bool rfl (Nat.le_refl _) hs (hK _ (by simp [h]))
 have hT : ExprsP c → ∀ J,Out H.length K (.bool true) (H ++ J):=fun h J=>Out.bool rfl (Nat.le_refl _) hs (hK _ (by simp [h]))
 simp [zwQ,Cor.cs]
 simp only [zaN,Int.toNat_natCast]
 refine ⟨⟨by omega,by omega,by omega,by omega⟩,?_⟩
 rw [zhc]
 simp [zaL,zbD]
 refine zJd (Inv:=fun q t18 H'=>∃ i : Nat,i ≤ c.exprs.length ∧ q = c.exprs.length - i ∧ t18 = .int .i64 i ∧ (∀ j (h : j < c.exprs.length),j < i → progRule c c.exprs[j] = true) ∧ H' = zbK H c (zcd c i)) c.exprs.length ?_ ?_
 ·intro _; exact ⟨0,by omega,by omega,rfl,by omega,by simp [zbK,zbe,usB,ckB,zcd]⟩
 ·rintro q t18 H' ⟨i,hi,rfl,rfl,hok,rfl⟩ hsc hlen hsF Kb hKb
  have hul:=zDz c i
  have hub:=zDy c i hi
  by_cases hlt : i < c.exprs.length
  ·obtain ⟨x,y,z,hv,hx',hy,hz,hat⟩:=zdw hlt
   have hsu:=zov hlt
   have hxi:=hx i hlt
   have hbad : progRule c c.exprs[i] = false → ¬ ExprsP c:=fun h hp=>by rw [hp.rule i hlt] at h; cases h
   have hgood : progRule c c.exprs[i] = true → ∀ j (h : j < c.exprs.length),j < i + 1 → progRule c c.exprs[j] = true:=fun h j hj hji=>by
    by_cases e : j = i
    ·subst e; exact h
    ·exact hok j hj (by omega)
   simp [zp6,hlt,hat,hx',hy,hz]
   rw [← hat]
   have hset : ∀ us',(zbK H c (zcd c i)).set (H.length + 1) (usB us') = zbK H c us':=fun us'=>by simp [zbK]
   refine zDC (us:=zcd c i) (u:=H.length + 1) hxi (by simp [zbK]) (by simp [zbK]) (by omega) hul (fun x hx=>by have:=hub x hx; omega) _ (fun h=>?_) (fun h us' hl=>?_)
   ·simp
    rw [hset,zaq (by omega) (by omega),← hsu]
    refine hKb _ _ ⟨c.exprs.length - (i + 1),by omega,Back.at (J:=[_]) (H2:=zbK H c (zcd c (i + 1))) rfl (by simp) (zsW hs _ _) ?_ ⟨_,rfl,i + 1,by omega,rfl,by simp,hgood h,rfl⟩⟩
    simp [zkJ,AV.sc,AV.scV,AV.scA,AV.scB]
   ·simp
    rw [hset]
    simp [zbK]
    exact hF (hbad h) _
  ·obtain rfl : i = c.exprs.length:=by omega
   simp [zp6,zbK,zbe]
   refine zJe (Inv:=fun q t30 H'=>∃ i : Nat,i ≤ c.codes.length ∧ q = c.codes.length - i ∧ t30 = .int .i64 i ∧ (∀ j (h : j < c.codes.length),j < i → (c.codes[j]).name = [] → (zcd c c.exprs.length).getD j 0 = 1) ∧ H' = zbK H c (zcd c c.exprs.length)) c.codes.length ?_ ?_
   ·intro _; exact ⟨0,by omega,by omega,rfl,by omega,by simp [zbK,zbe]⟩
   ·rintro q t30 H' ⟨i,hi,rfl,rfl,hok2,rfl⟩ hsc1 hlen1 hsF1 Kb1 hKb1
    generalize hU : zcd c c.exprs.length = us at *
    by_cases hlt : i < c.codes.length
    ·obtain ⟨x,y,z,hv,hx',hy,hz,hat⟩:=zez hlt
     have hiu : i < us.length:=by omega
     have hgd : us.getD i 0 = us[i]:=by rw [List.getD_eq_getElem?_getD,List.getElem?_eq_getElem hiu]; rfl
     have hck : ∀ J,(zbK H c us ++ J)[H.length + 2]? = some (ckB c (H.length + 1)):=fun J=>by simp [zbK]
     have hcu : ∀ J,(zbK H c us ++ J)[H.length + 1]? = some (.cells (us.map fun n=>.int .i64 n)):=fun J=>by simp [zbK,usB]
     have hck' : ∀ h,(zbK H c us)[H.length + 2]'h = ckB c (H.length + 1):=fun h=>by simp [zbK]
     have hcu' : ∀ h,(zbK H c us)[H.length + 1]'h = .cells (us.map fun n=>.int .i64 n):=fun h=>by simp [zbK,usB]
     have hu1 : ∀ k : AV → Prop,zaS false 1 i (us.map fun n=>AV.int .i64 n) k = k (.int .i64 us[i]):=fun k=>zaK 1 (zeN hiu)
     have good : (¬ ((c.codes[i]).name = [] ∧ us[i] ≠ 1)) → Kb1 (zhF (.ptr (H.length + 2) 0) (.sl (c.codes.map Cod.cs) .none) (.int .i64 c.codes.length) (.int .i64 ((i : Int) + 1))) (zbK H c us ++ [.cells [.str (c.codes[i]).name,.sl (ints (c.codes[i]).params) .none,.sl (ints (c.codes[i]).capt) .none,x,y,z,.int .i64 (c.codes[i]).body]]):=fun h=>by
      refine hKb1 _ _ ⟨c.codes.length - (i + 1),by omega,Back.at (J:=[_]) (H2:=zbK H c us) rfl (by simp) (zsW hs _ _) ?_ ⟨_,rfl,i + 1,by omega,rfl,by simp,fun j hj hji hn=>?_,rfl⟩⟩
      ·simp [zhF,AV.sc,AV.scV,AV.scA,AV.scB]
      ·by_cases e : j = i
       ·subst e
        rw [hgd]
        by_cases h1 : us[j] = 1
        ·exact h1
        ·exact absurd ⟨hn,h1⟩ h
       ·exact hok2 j hj (by omega) hn
     cases hnm : (c.codes[i]).name.isEmpty with
     | false=>
      have hnm' : (c.codes[i]).name ≠ []:=by intro h; simp [h] at hnm
      simp [zhD,hlt,hat,hx',hy,hz,hnm]
      rw [zaq (by omega) (by omega)]
      exact good fun h=>hnm' h.1
     | true=>
      have hnm' : (c.codes[i]).name = []:=by simpa using hnm
      by_cases h1 : us[i] = 1
      ·simp [zhD,hlt,hat,hx',hy,hz,hnm,hck',ckB,hcu',hu1,h1]
       rw [zaq (by omega) (by omega)]
       exact good fun h=>h.2 h1
      ·simp [zhD,hlt,hat,hx',hy,hz,hnm,hck',ckB,hcu',hu1,nbt h1]
       simp [zbK]
       exact hF (fun hp=>h1 (by have:=hp.uses i hlt hnm'; rw [hU,hgd] at this; exact this)) _
    ·obtain rfl : i = c.codes.length:=by omega
     simp [zhD,zbK]
     exact hT ⟨fun j hj=>hok j hj hj,fun j hj hn=>by rw [hU]; exact hok2 j hj hj hn⟩ _
theorem ztH {n : Nat} {S : List Int} (hS : S.Nodup) (hr : ∀ x ∈ S,0 ≤ x ∧ x < n) (hl : S.length = n) (i : Nat) (hi : i < n) : (i : Int) ∈ S:=by
 by_cases hm : (i : Int) ∈ S
 ·exact hm
 ·have:=ziW n ((i : Int) :: S) (List.nodup_cons.2 ⟨hm,hS⟩) (fun x hx=>by
   rcases List.mem_cons.1 hx with rfl | hx
   ·omega
   ·exact hr x hx)
  rw [List.length_cons] at this
  omega
theorem zDN {c : Cor} {m : Nat} (ih : ∀ i st st',zbh c m i st = some st' → st'.length = st.length) : ∀ (bs : List (List Int)) (ks : List Int) (st st' : List Bool),zbO c m bs ks st = some st' → st'.length = st.length:=by
 intro bs
 induction bs with
 | nil=>intro ks st st' h; rw [zbO] at h; cases h; rfl
 | cons b bs ihb=>
  intro ks st st' h
  cases ks with
  | nil=>rw [zbO] at h; cases h; rfl
  | cons k ks=>
   rw [zbO] at h
   cases hv : zbh c m k.toNat (zaG st b true) with
   | none=>rw [hv] at h; cases h
   | some s2=>
    rw [hv] at h
    have h1:=ih _ _ _ hv
    have h2:=ihb _ _ _ h
    simp at h1 h2
    omega
theorem zow (c : Cor) : ∀ (m i : Nat) (st st' : List Bool),zbh c m i st = some st' → st'.length = st.length:=by
 intro m
 induction m with
 | zero=>intro i st st' h; rw [zbh] at h; cases h
 | succ m ih=>
  intro i st st' h
  rw [zbh] at h
  split at h
  ·cases h
  ·split at h
   ·exact zDN ih _ _ _ _ h
   ·cases h
theorem zDL {c : Cor} {m : Nat} {N : Nat} : ∀ (bs : List (List Int)) (ks : List Int) (st st' : List Bool),zbO c m bs ks st = some st' → bs.length = ks.length → st.length = N → ∀ k ∈ ks,∃ s1 s2,s1.length = N ∧ zbh c m k.toNat s1 = some s2:=by
 intro bs
 induction bs with
 | nil=>
  intro ks st st' h hl _ k hk
  cases ks with
  | nil=>cases hk
  | cons a ks=>simp at hl
 | cons b bs ihb=>
  intro ks st st' h hl hN k hk
  cases ks with
  | nil=>cases hk
  | cons a ks=>
   rw [zbO] at h
   cases hv : zbh c m a.toNat (zaG st b true) with
   | none=>rw [hv] at h; cases h
   | some s2=>
    rw [hv] at h
    rcases List.mem_cons.1 hk with rfl | hk
    ·exact ⟨_,_,by simpa using hN,hv⟩
    ·have:=zow c _ _ _ _ hv
     exact ihb ks _ _ h (by simpa using hl) (by simp at this ⊢; omega) k hk
theorem zCB {c : Cor} : ∀ (fs : List Cod) (st : List Bool),zcJ c fs st = true → st.length = c.vars.length → ∀ f ∈ fs,∃ s1 s2,s1.length = c.vars.length ∧ zbh c c.exprs.length f.body.toNat s1 = some s2:=by
 intro fs
 induction fs with
 | nil=>intro st _ _ f hf; cases hf
 | cons g fs ih=>
  intro st h hN f hf
  rw [zcJ] at h
  cases hv : zbh c c.exprs.length g.body.toNat (zaG (zaG st g.params true) g.capt true) with
  | none=>rw [hv] at h; cases h
  | some s2=>
   rw [hv] at h
   rcases List.mem_cons.1 hf with rfl | hf
   ·exact ⟨_,_,by simpa using hN,hv⟩
   ·have:=zow c _ _ _ _ hv
    exact ih _ h (by simp at this ⊢; omega) f hf
def Vis (c : Cor) (i : Nat) : Prop:=∃ m s1 s2,s1.length = c.vars.length ∧ zbh c m i s1 = some s2
theorem zuI {c : Cor} (hc : zds c) (ht : TreeP c) : ∀ x ∈ zcj c,0 ≤ x ∧ x < c.exprs.length:=by
 intro x hx
 rw [zcj] at hx
 rcases List.mem_append.1 hx with h | h
 ·obtain ⟨f,hf,rfl⟩:=List.mem_map.1 h
  obtain ⟨i,hi,rfl⟩:=List.getElem_of_mem hf
  obtain ⟨_,_,_,_,b,hb,hbl,_⟩:=hc i hi
  omega
 ·obtain ⟨e,he,hx⟩:=List.mem_flatMap.1 h
  obtain ⟨i,hi,rfl⟩:=List.getElem_of_mem he
  have:=ht.kids i hi x hx
  omega
theorem zuH {c : Cor} (hc : zds c) (ht : TreeP c) (i : Nat) (hi : i < c.exprs.length) : (∃ f ∈ c.codes,f.body = i) ∨ ∃ j,∃ h : j < c.exprs.length,j < i ∧ (i : Int) ∈ (c.exprs[j]).kids:=by
 have:=ztH ht.nodup (zuI hc ht) ht.len i hi
 rw [zcj] at this
 rcases List.mem_append.1 this with h | h
 ·obtain ⟨f,hf,h2⟩:=List.mem_map.1 h
  exact .inl ⟨f,hf,h2⟩
 ·obtain ⟨e,he,hx⟩:=List.mem_flatMap.1 h
  obtain ⟨j,hj,rfl⟩:=List.getElem_of_mem he
  have:=ht.kids j hj _ hx
  exact .inr ⟨j,hj,by omega,hx⟩
theorem zuS {c : Cor} (hc : zds c) (ht : TreeP c) (hs : zcJ c c.codes (List.replicate c.vars.length false) = true) : ∀ i,i < c.exprs.length → Vis c i:=by
 intro i
 induction i using Nat.strongRecOn with
 | _ i ih=>
  intro hi
  rcases zuH hc ht i hi with ⟨f,hf,h⟩ | ⟨j,hj,hji,hm⟩
  ·obtain ⟨s1,s2,h1,h2⟩:=zCB _ _ hs (by simp) f hf
   rw [h,Int.toNat_natCast] at h2
   exact ⟨_,s1,s2,h1,h2⟩
  ·obtain ⟨m,s1,s2,h1,h2⟩:=ih j hji hj
   cases m with
   | zero=>rw [zbh] at h2; cases h2
   | succ m=>
    rw [zbh,List.getElem?_eq_getElem hj] at h2
    simp only [] at h2
    split at h2
    ·obtain ⟨s3,s4,h3,h4⟩:=zDL _ _ _ _ h2 (ht.binds j hj) h1 _ hm
     exact ⟨m,s3,s4,h3,by simpa using h4⟩
    ·cases h2
theorem zuT {c : Cor} {i : Nat} (h : Vis c i) (hi : i < c.exprs.length) : inV c (c.exprs[i]).vars:=by
 obtain ⟨m,s1,s2,h1,h2⟩:=h
 cases m with
 | zero=>rw [zbh] at h2; cases h2
 | succ m=>
  rw [zbh,List.getElem?_eq_getElem hi] at h2
  simp only [] at h2
  split at h2
  ·rename_i hall
   intro x hx
   have:=List.all_eq_true.1 hall x hx
   simp only [Bool.and_eq_true,decide_eq_true_eq] at this
   obtain ⟨h3,h4⟩:=this
   refine ⟨h3,?_⟩
   by_cases hh : x.toNat < s1.length
   ·omega
   ·rw [List.getD_eq_getElem?_getD,List.getElem?_eq_none (by omega)] at h4
    simp at h4
  ·cases h2
theorem zmA {c : Cor} (hb : BindP c) : ∀ f ∈ c.codes,inV c f.params ∧ inV c f.capt:=by
 intro f hf
 refine ⟨fun x hx=>hb.range x ?_,fun x hx=>hb.range x ?_⟩ <;>
 ·rw [zb4]
  exact List.mem_append_left _ (List.mem_flatMap.2 ⟨f,hf,by simp [hx]⟩)
theorem zsm {c : Cor} (hb : BindP c) : ∀ e ∈ c.exprs,∀ l ∈ e.binds,inV c l:=by
 intro e he l hl x hx
 refine hb.range x ?_
 rw [zb4]
 exact List.mem_append_right _ (List.mem_flatMap.2 ⟨e,he,List.mem_flatten.2 ⟨l,hl,hx⟩⟩)
theorem zAO {c : Cor} (hk : zaP c) (hc : zds c) (ht : TreeP c) (hb : BindP c) : InP c where
 kcore:=hk
 binds:=ht.binds
 kids:=ht.kids
 brange:=fun i h l hl=>zsm hb _ (List.getElem_mem h) l hl
 crange:=fun i h=>zmA hb _ (List.getElem_mem h)
 body:=fun i h=>by
  obtain ⟨_,_,_,_,b,hb,hbl,_⟩:=hc i h
  exact ⟨b,hb,hbl⟩
theorem zmX {c : Cor} (hk : zaP c) (hv : zeO c = true) (hc : zds c) (ht : TreeP c) (hb : BindP c) (hr : ∀ i (h : i < c.exprs.length),inV c (c.exprs[i]).vars) (i : Nat) (h : i < c.exprs.length) : ExIn c c.exprs[i] where
 kcore:=hk
 kex:=hk.2.2.2.2.2 _ (List.getElem_mem h)
 vars:=hr i h
 kids:=fun x hx=>by have:=ht.kids i h x hx; omega
 bk:=ht.binds i h
 binds:=zsm hb _ (List.getElem_mem h)
 codes:=zmA hb
 vtys:=fun v hv'=>by
  unfold zeO at hv
  rw [Bool.and_eq_true] at hv
  exact List.all_eq_true.1 hv.2 v hv'
structure ProgV (c : Cor) : Prop where
 data : zcz c.data = true
 vars : zeO c = true
 codes : zds c
 tree : TreeP c
 bind : BindP c
 scopes : zcJ c c.codes (List.replicate c.vars.length false) = true
 exprs : ExprsP c
theorem zFA (c : Cor) (hc : zaP c) (H : zaa) (K : AV → zaa → Prop) (hK : ∀ b,(b = true ↔ ProgV c) → K (.bool b) H) : ACalls tP ziz [.agg c.cs] H K:=by
 refine ACalls.out (zFz fun hs=>?_)
 have hF : ¬ ProgV c → ∀ J,Out H.length K (.bool false) (H ++ J):=fun h J=>Out.bool rfl (Nat.le_refl _) hs (hK _ (by simp [h]))
 have hT : ProgV c → ∀ J,Out H.length K (.bool true) (H ++ J):=fun h J=>Out.bool rfl (Nat.le_refl _) hs (hK _ (by simp [h]))
 have hcs : ∀ v : AV,v = .agg c.cs → v = .agg c.cs:=fun _ h=>h
 have hd : zr0 c.data:=fun D hD=>by
  obtain ⟨k1,k2⟩:=zgV hc
  refine ⟨k2 D hD,fun k hk=>?_⟩
  obtain ⟨h1,h2⟩:=k1 D hD k hk
  exact ⟨by omega,fun x hx=>by have:=h2 x hx; omega⟩
 have hat : c.cs = [.sl (c.data.map Dat.cs) .none,.sl (c.codes.map Cod.cs) .none,.sl (VT.css c.vars) .none,.sl (c.exprs.map CEx.cs) .none]:=rfl
 simp [zvm,hat]
 refine zIu c.data hd (by obtain ⟨⟨k1,_⟩,_⟩:=hc; omega) _ _ ?_
 cases h1 : zcz c.data with
 | false=>simp; exact hF (fun h=>by have:=h.data; rw [h1] at this; cases this) _
 | true=>
 simp
 rw [← hat]
 refine zIy c hc _ _ ?_
 cases h2 : zeO c with
 | false=>simp; exact hF (fun h=>by have:=h.vars; rw [h2] at this; cases this) _
 | true=>
 simp [hat]
 rw [← hat]
 refine zIF c hc _ _ fun b hb=>?_
 cases b with
 | false=>simp; exact hF (fun h=>by have:=hb.2 h.codes; cases this) _
 | true=>
 have h3:=hb.1 rfl
 simp [hat]
 rw [← hat]
 refine zIQ c hc (fun i h=>by obtain ⟨_,_,_,_,b,hb,hbl,_⟩:=h3 i h; exact ⟨b,hb,hbl⟩) _ _ fun b hb=>?_
 cases b with
 | false=>simp; exact hF (fun h=>by have:=hb.2 h.tree; cases this) _
 | true=>
 have h4:=hb.1 rfl
 simp [hat]
 rw [← hat]
 refine zI1 c hc _ _ fun b hb=>?_
 cases b with
 | false=>simp; exact hF (fun h=>by have:=hb.2 h.bind; cases this) _
 | true=>
 have h5:=hb.1 rfl
 simp [hat]
 rw [← hat]
 refine zI8 c (zAO hc h3 h4 h5) _ _ ?_
 cases h6 : zcJ c c.codes (List.replicate c.vars.length false) with
 | false=>simp; exact hF (fun h=>by have:=h.scopes; rw [h6] at this; cases this) _
 | true=>
 simp [hat]
 rw [← hat]
 refine zJi c hc (zmX hc h2 h3 h4 h5 fun i h=>zuT (zuS h3 h4 h6 i h) h) _ _ fun b hb=>?_
 cases b with
 | false=>exact hF (fun h=>by have:=hb.2 h.exprs; cases this) _
 | true=>exact hT ⟨h1,h2,h3,h4,h5,h6,hb.1 rfl⟩ _
end Go.Proofs.Ytkdmpbhbmmhijaa
