import Derived.Test.YtjkkonpjecoieaaGreatCH
import Derived.Test.YtjkkonpjecoieaaGreatKUE
import Derived.Test.YtjkkonpjecoieaaGreatAbsO3
import Derived.Test.YtjkkonpjecoieaaGreatKNum
import Derived.Test.YtjkkonpjecoieaaGreatProg
import Derived.KernelRfl
import Derived.Test.YtjkkonpjecoieaaGreatKGN1
import Derived.Test.YtjkkonpjecoieaaGreatAbsQ1
set_option linter.unusedSimpArgs false
set_option linter.unusedVariables false
namespace Go.Proofs.YtjkkonpjecoieaaGreat
open Go Go.Abs
mutual
def atV (data:List Dat):IT→VT→VT→Nat
 | .mk n ks,t,v=>
  if t.kind=6 then atL data ks t.kids v.kids
  else if t.kind=7 then chs v.kids.length n.toNat
  else if t.kind=5 then zar (wtL data ks t) (zbq (zbm data t.num.toNat) v)
  else 1
def atL (data:List Dat):List IT→List VT→List VT→Nat
 | [],_,_=>1
 | i::l,ts,vs=>match ts,vs with
  | t::ts,v::vs=>atV data i t v*atL data l ts vs
  | _,_=>1
def wtL (data:List Dat):List IT→VT→List (VT→Nat)
 | [],_=>[]
 | e::es,t=>wtE data e t::wtL data es t
def wtE (data:List Dat):IT→VT→VT→Nat
 | .mk c ks,t,n=>if n.num=c then atL data ks ((za8 data t c).getD []) (pick n.kids ((zbm data t.num.toNat).getD c.toNat [])) else 0
end
theorem zfF (data:List Dat) (t:VT):∀ es:List IT,wtL data es t=es.map fun e=>wtE data e t
 | []=>by simp[wtL]
 | e::es=>by simp[wtL,zfF data t es]
mutual
theorem zve (data:List Dat):∀ (t v:VT),atV data (zbn t) t v=1
 | .mk k n ks,v=>by
  have:=zvc data ks v.kids
  unfold zbn
  rw[atV]
  by_cases h6:k=6
  ·simp[h6,VT.kind,VT.kids]
   simpa[VT.kids]using this
  ·by_cases h7:k=7
   ·simp[h6,h7,VT.kind,VT.kids]
   ·simp only[h6,VT.kind,if_false,h7]
    split <;> simp[wtL,zar]
theorem zvc (data:List Dat):∀ (ts vs:List VT),atL data (zbN ts) ts vs=1
 | [],vs=>by simp[zbN,atL]
 | t::ts,[]=>by simp[zbN,atL]
 | t::ts,v::vs=>by simp[zbN,atL,zve data t v,zvc data ts vs]
end
theorem zvd (data:List Dat) (tf vf:Nat→VT):∀ (P:List Nat) (xs:List IT),xs.length=P.length→(P.zip xs).foldr (fun e a=>atV data e.2 (tf e.1) (vf e.1)*a) 1=atL data xs (P.map tf) (P.map vf)
 | [],[],_=>by simp[atL]
 | [],_::_,h=>by simp at h
 | _::_,[],h=>by simp at h
 | p::P,x::xs,h=>by
  have:=zvd data tf vf P xs (by simpa using h)
  simp[atL,this]
theorem zwZ (rs:List (List Bool)):∀ (vs:List VT) (bs:List Bool),vs.length=bs.length→zbT rs vs bs=(pos true bs bs.length).flatMap fun j=>zbq rs (vs.getD j tz):=by
 have key:∀ (vs:List VT) (bs:List Bool),vs.length=bs.length→zbT rs vs bs=((List.range bs.length).flatMap fun j=>if bs.getD j false=true then zbq rs (vs.getD j tz) else []):=by
  intro vs
  induction vs with
  | nil=>intro bs h;cases bs <;> simp[zbT]at h ⊢
  | cons v vs ih=>
   intro bs h
   cases bs with
   | nil=>simp at h
   | cons b bs=>
    rw[zbT,ih bs (by simpa using h),List.length_cons,List.range_succ_eq_map,List.flatMap_cons,List.flatMap_map]
    simp
 intro vs bs h
 rw[key vs bs h]
 unfold pos
 generalize List.range bs.length=l
 induction l with
 | nil=>rfl
 | cons a l ih=>
  rw[List.flatMap_cons,ih]
  cases hb:bs.getD a false <;> simp[List.filter_cons,hb,List.getD_eq_getElem?_getD] <;> simp[List.getD_eq_getElem?_getD]at hb <;> simp[hb]
theorem zFy {data:List Dat} {n c:Int} {ks:List VT} {l vs:List VT} {bs:List Bool} {kids:List IT} (hlb:l.length=bs.length) (hvl:vs.length=l.length)
  (hbs:(zbm data n.toNat).getD c.toNat []=bs) (hpay:za8 data (.mk 5 n ks) c=some (pick l bs)) (hrt:∀ j,bs.getD j false=true→l.getD j tz=.mk 5 n ks)
  (hk:∀ ps rest,kids=.mk c ps::rest→ps.length=(pick l bs).length) :
  zba ((zcw l bs c kids).map (zaZ (fun k x=>atV data x (l.getD k tz) (vs.getD k tz)) 0))=atV data (.mk 0 kids) (.mk 5 n ks) (.mk 5 c vs):=by
 have hPn:(pos false bs bs.length).Nodup:=List.Pairwise.filter _ List.nodup_range
 have hRn:(pos true bs bs.length).Nodup:=List.Pairwise.filter _ List.nodup_range
 have hPl:∀ j∈pos false bs bs.length,j<l.length:=fun j hj=>by have:=zd1 hj;omega
 have hRl:∀ j∈pos true bs bs.length,j<l.length:=fun j hj=>by have:=zd1 hj;omega
 have hRb:∀ j∈pos true bs bs.length,bs.getD j false=true:=fun j hj=>by
  simp[pos]at hj;rw[List.getD_eq_getElem?_getD];exact hj.2
 have hPb:∀ j∈pos false bs bs.length,bs.getD j false=false:=fun j hj=>by
  simp[pos]at hj;rw[List.getD_eq_getElem?_getD];exact hj.2
 have hPR:∀ j∈pos true bs bs.length,j ∉ pos false bs bs.length:=fun j hj h=>by
  have h1:=hPb j h
  have h2:=hRb j hj
  rw[h1]at h2
  cases h2
 have hpk:=zdz hlb tz l.length (Nat.le_refl _)
 rw[List.take_length,hlb,List.take_length]at hpk
 have hpv:=zdz (l:=vs) (bs:=bs) (by omega) tz vs.length (Nat.le_refl _)
 rw[List.take_length,hvl,hlb,List.take_length]at hpv
 have hbl:∀ P,(zaP l P).length=l.length:=fun P=>by simp[zaP]
 let g:Nat→IT→Nat:=fun k x=>atV data x (l.getD k tz) (vs.getD k tz)
 -- the base row counts 1 at each place
 have hb1:∀ (p:Nat) (h:p<(zaP l (pos false bs bs.length)).length),g p (zaP l (pos false bs bs.length))[p]=1:=by
  intro p h
  have hp:p<l.length:=by rw[hbl]at h;exact h
  by_cases hm:p∈pos false bs bs.length
  ·obtain⟨j,hj,he⟩:=List.getElem_of_mem hm
   have:=zoG (pos false bs bs.length) (List.replicate l.length (.mk 0 [])) ((pos false bs bs.length).map fun j=>zbn (l.getD j (.mk 0 0 []))) hPn (by simp) (fun q hq=>by simpa using hPl q hq) j hj (by simpa using hj)
   rw[he]at this
   have e:(zaP l (pos false bs bs.length))[p]=zbn (l.getD p tz):=by
    have h2:(zaP l (pos false bs bs.length))[p]?=some (zbn (l.getD p tz)):=by
     rw[zaP,this];simp[he,tz]
    rw[List.getElem?_eq_getElem h]at h2
    exact Option.some.inj h2
   show atV data (zaP l (pos false bs bs.length))[p] (l.getD p tz) (vs.getD p tz)=1
   rw[e];exact zve _ _ _
  ·have e:(zaP l (pos false bs bs.length))[p]=.mk 0 []:=by
    have h2:(zaP l (pos false bs bs.length))[p]?=some (.mk 0 []):=by
     rw[zaP,zgc _ _ _ _ hm];simp[hp]
    rw[List.getElem?_eq_getElem h]at h2
    exact Option.some.inj h2
   have hbp:bs.getD p false=true:=by
    cases hb:bs.getD p false with
    | true=>rfl
    | false=>exact absurd (zp4 (by omega) hb) hm
   show atV data (zaP l (pos false bs bs.length))[p] (l.getD p tz) (vs.getD p tz)=1
   rw[e,hrt p hbp]
   simp[atV,VT.kind,wtL,zar]
 have hbase:zaZ g 0 (zaP l (pos false bs bs.length))=1:=zw4 g 0 _ fun p h=>by rw[Nat.zero_add];exact hb1 p h
 have hg:∀ p∈pos true bs bs.length,∀ s:List IT,g p (.mk 0 s)=zar (s.map fun e=>wtE data e (.mk 5 n ks)) (zbq (zbm data n.toNat) (vs.getD p tz)):=by
  intro p hp s
  show atV data (.mk 0 s) (l.getD p tz) (vs.getD p tz)=_
  rw[hrt p (hRb p hp)]
  simp[atV,VT.kind,VT.num,zfF]
 have hR0:∀ p∈pos true bs bs.length,∃ h:p<(zaP l (pos false bs bs.length)).length,(zaP l (pos false bs bs.length))[p]=.mk 0 []:=by
  intro p hp
  have h:p<(zaP l (pos false bs bs.length)).length:=by rw[hbl];exact hRl p hp
  refine⟨h,?_⟩
  have h2:(zaP l (pos false bs bs.length))[p]?=some (.mk 0 []):=by
   rw[zaP,zgc _ _ _ _ (hPR p hp)];simp[hRl p hp]
  rw[List.getElem?_eq_getElem h]at h2
  exact Option.some.inj h2
 have h1:=zoB g (fun e=>wtE data e (.mk 5 n ks)) (fun p=>zbq (zbm data n.toNat) (vs.getD p tz)) (pos true bs bs.length) (zaP l (pos false bs bs.length)) kids hRn hg hR0
 have hn:zbq (zbm data n.toNat) (.mk 5 c vs)=.mk 5 c vs::(pos true bs bs.length).flatMap fun p=>zbq (zbm data n.toNat) (vs.getD p tz):=by
  rw[zbq,hbs,zwZ _ _ _ (by omega)]
 show zba ((zcw l bs c kids).map (zaZ g 0))=_
 unfold zcw
 rw[List.map_append,zia,h1,hbase,Nat.one_mul]
 have hr:atV data (.mk 0 kids) (.mk 5 n ks) (.mk 5 c vs)=zar (kids.map fun e=>wtE data e (.mk 5 n ks)) (.mk 5 c vs::(pos true bs bs.length).flatMap fun p=>zbq (zbm data n.toNat) (vs.getD p tz)):=by
  rw[←hn];simp[atV,VT.kind,VT.num,zfF]
 rw[hr]
 cases kids with
 | nil=>simp[zcP,zar]
 | cons e rest=>
  obtain⟨c',ps⟩:=e
  simp only[zcP,List.map_cons,zar]
  by_cases hc:c'=c
  ·subst hc
   rw[if_pos rfl]
   have hps:=hk ps rest rfl
   have hpsl:ps.length=(pos false bs bs.length).length:=by rw[hps,hpk];simp
   have h2:=zoB g (fun e=>wtE data e (.mk 5 n ks)) (fun p=>zbq (zbm data n.toNat) (vs.getD p tz)) (pos true bs bs.length) (fill (zaP l (pos false bs bs.length)) (pos false bs bs.length) ps) rest hRn hg (by
    intro p hp
    obtain⟨h,h0⟩:=hR0 p hp
    refine⟨by simpa using h,?_⟩
    have h2:(fill (zaP l (pos false bs bs.length)) (pos false bs bs.length) ps)[p]?=some (.mk 0 []):=by
     rw[zgc _ _ _ _ (hPR p hp),List.getElem?_eq_getElem h,h0]
    rw[List.getElem?_eq_getElem (by simpa using h)]at h2
    exact Option.some.inj h2)
   have h3:=zw3 g (pos false bs bs.length) (zaP l (pos false bs bs.length)) ps hPn hpsl (fun p hp=>by
    have h:p<(zaP l (pos false bs bs.length)).length:=by rw[hbl];exact hPl p hp
    exact⟨h,hb1 p h⟩)
   have h4:=zvd data (fun k=>l.getD k tz) (fun k=>vs.getD k tz) (pos false bs bs.length) ps hpsl
   rw[←hpk,←hpv]at h4
   have hw:wtE data (.mk c' ps) (.mk 5 n ks) (.mk 5 c' vs)=zaZ g 0 (fill (zaP l (pos false bs bs.length)) (pos false bs bs.length) ps):=by
    rw[h3,hbase,Nat.one_mul]
    simp only[g]
    rw[h4]
    rw[wtE];simp only[VT.num,hpay,VT.kids,if_true,Option.getD_some,hbs]
   rw[h2,←hw]
   omega
  ·rw[if_neg hc]
   have hw:wtE data (.mk c' ps) (.mk 5 n ks) (.mk 5 c vs)=0:=by
    rw[wtE,if_neg];intro h;exact hc h.symm
   rw[hw];simp
end Go.Proofs.YtjkkonpjecoieaaGreat
namespace Go.Proofs.YtjkkonpjecoieaaGreat
open Go Go.Abs
set_option maxRecDepth 8000
theorem zzf (data:List Dat) (hk:za2 data) (v t:VT) (hv:v.nodes≤5000) (ht:t.nodes≤1000000) (H:zaa) (K:Kt) (hK:K (.bool (zc9 data v t)) H) :
  ACalls tP zjj [.sl (data.map Dat.cs) .none,.agg v.cs,.agg t.cs] H K:=by
 refine ACalls.out (zJv fun hs=>?_)
 have hO:∀ b J,zc9 data v t=b→Out H.length K (.bool b) (H++J):=fun b J h=>Out.bool rfl (Nat.le_refl _) hs (h ▸ hK)
 obtain⟨x,y,z,hvx,hx,hy,hz⟩:=zaO v
 obtain⟨x2,y2,z2,hvx2,hx2,hy2,hz2⟩:=zaO t
 have hkl:=hk.1
 simp[zze,hvx,hvx2,Nat.add_assoc]
 refine zBs data hk _ _ fun b hb=>?_
 have hbd:b=zbe data:=by
  rw[Bool.eq_iff_iff,hb,zvB]
 subst hbd
 cases hd:zbe data with
 | false=>
  simp
  exact hO _ _ (by simp[zc9,zbg,hd])
 | true=>
  simp[Nat.add_assoc]
  rw[←hvx2]
  refine zs6 data (by omega) 0 t (by omega) _ _ ?_
  cases hf:zaR data 0 t with
  | false=>
   simp
   exact hO _ _ (by simp[zc9,zbg,hf])
  | true=>
   simp[Nat.add_assoc]
   rw[←hvx]
   refine zPc _ v (Nat.le_refl _) 5000 (by omega) (by omega) _ (H.length+2) (by simp) _ ?_ (fun h=>absurd (by omega) h)
   intro _
   simp[Nat.add_assoc]
   refine zPp ⟨hd,hk⟩ _ v (Nat.le_refl _) (by omega) t hf _ _ ?_
   exact hO _ _ (by simp[zc9,zbg,hd,hf])
@[simp] theorem zWg (k:AV→Prop):zaI [] k=k (.tup []):=by simp[zaI]
def zFp (rs:List (List Bool)):List (List AV):=rs.map fun r=>[.sl (r.map fun b=>[.bool b]) .none]
def pw (H:zaa) (io iv:Nat) (l:List VT):zaa:=(H.set iv (.vec zb8 3 l.length (VT.css l).flatten)).set io (.cells [.ov iv l.length])
structure Pw (H:zaa) (io iv ir is:Nat) (rs:List (List Bool)) (l:List VT):Prop where
 ne:io≠iv
 nr:ir≠io∧ir≠iv
 ns:is≠io∧is≠iv
 h1:H[io]?=some (.cells [.ov iv l.length])
 h2:H[iv]?=some (.vec zb8 3 l.length (VT.css l).flatten)
 h3:∃ tok,H[ir]?=some (.cells [.sl (zFp rs) tok])
 h4:H[is]?=some (.cells [.fn zEL [.ptr io 0,.ptr ir 0,.ptr is 0]])
section
variable {H J:zaa} {io iv ir is:Nat} {rs:List (List Bool)} {l l':List VT}
@[simp] theorem zXe:(pw H io iv l).length=H.length:=by simp[pw]
theorem Pw.app (h:Pw H io iv ir is rs l):Pw (H++J) io iv ir is rs l:=by
 obtain⟨tok,h3⟩:=h.h3
 exact⟨h.ne,h.nr,h.ns,zbO h.h1,zbO h.h2,⟨tok,zbO h3⟩,zbO h.h4⟩
theorem Pw.next (h:Pw H io iv ir is rs l):Pw (pw H io iv l') io iv ir is rs l':=by
 have l1:=zcX h.h1
 have l2:=zcX h.h2
 obtain⟨tok,h3⟩:=h.h3
 refine⟨h.ne,h.nr,h.ns,?_,?_,⟨tok,?_⟩,?_⟩
 ·unfold pw;rw[List.getElem?_set_self (by simpa using l1)]
 ·unfold pw;rw[List.getElem?_set_ne h.ne,List.getElem?_set_self l2]
 ·unfold pw;rw[List.getElem?_set_ne (fun e=>h.nr.1 e.symm),List.getElem?_set_ne (fun e=>h.nr.2 e.symm)];exact h3
 ·unfold pw;rw[List.getElem?_set_ne (fun e=>h.ns.1 e.symm),List.getElem?_set_ne (fun e=>h.ns.2 e.symm)];exact h.h4
theorem Pw.hsc (h:Pw H io iv ir is rs l) (hs:HSc H):HSc (pw H io iv l'):=by
 have l1:=zcX h.h1
 have l2:=zcX h.h2
 refine HSc.set (HSc.set hs ?_) ?_
 ·simp only[AB.sc,List.all_eq_true]
  intro x hx
  obtain⟨c,hc,hx⟩:=List.mem_flatten.1 hx
  rw[VT.css_map]at hc
  obtain⟨v,_,rfl⟩:=List.mem_map.1 hc
  have:=VT.cs_scA v H.length
  rw[List.all_eq_true]at this
  exact this x hx
 ·simp[AB.sc,AV.scA,AV.scB]
  try omega
end
theorem zvu (l:List VT) (v:VT):VT.css (l++[v])=VT.css l++[v.cs]:=by rw[VT.css_map,VT.css_map,List.map_append];rfl
theorem zFe {rs:List (List Bool)} {ks:List VT} {bs:List Bool} {i:Nat} (h:i<ks.length) (h':i<bs.length):zbT rs (ks.drop i) (bs.drop i)=(if bs[i]=true then zbq rs ks[i] else [])++zbT rs (ks.drop (i+1)) (bs.drop (i+1)):=by
 rw[List.drop_eq_getElem_cons h,List.drop_eq_getElem_cons h',zbT]
theorem zoK {data:List Dat} {v t:VT} (h:zc9 data v t=true):zbe data=true∧zaR data 0 t=true∧zav data v t=true:=by
 simp only[zc9,zbg,Bool.and_eq_true]at h
 exact⟨h.1.1,h.1.2,h.2⟩
end Go.Proofs.YtjkkonpjecoieaaGreat
namespace Go.Proofs.YtjkkonpjecoieaaGreat
open Go Go.Abs
set_option maxRecDepth 100000
def zla:Nat→List Bool
 | 3=>rl false [3,1,3,3,9]
 | _=>[]
noncomputable def zrz:Code:=Tryz.f14.body.getD .skip
noncomputable def zJr:List ResultVar:=Tryz.f14.results.toList
def zlb (t3 t7 t8 t9:AV):List AV:=ux 3 (t3::ux 3 (t7::t8::t9::ux 9 []))
def zJp:List Bool:=zla 3
noncomputable def zJn:Code:=zap [1,1,0,1,0,0] zrz
def zJm (K:Kt):AExit→List AV→zaa→Prop:=zaq tP zla [1,1,0,1,0] zrz (zaA tP zJr K)
def zzd (t3 t7 t8 t9:AV) (H:zaa) (K:Kt):Prop:=ALoop tP zJn (zJm K) (zlb t3 t7 t8 t9) H
def zry (t3 t7 t8 t9:AV) (H:zaa) (K:Kt) (Kb3:Lt):Prop:=
 zac .lss false t9 t8 fun t10=>
 zag t10
 (zai 3 t7 t9 fun t11=>
 zae true 3 t11 H fun t12=>
 zaw [(.int .i64 0),(.int .i64 0),.snil] H fun t5 H=>
 zam 3 t5 t12 H fun H=>
 zae true 3 t5 H fun t14=>
 ACalls tP zjg [t14] H fun t15 H=>
 zac .add false t3 t15 fun t16=>
 zac .add false t9 (.int .i64 1) fun t17=>
 Kb3 (zlb t16 t7 t8 t17) H)
 (K t3 H)
def zy4 (t0:AV) (H:zaa) (K:Kt):Prop:=
 zao t0 H fun t1 H=>
 zaf 2 t1 fun t6=>
 zae false 1 t6 H fun t7=>
 zah 1 t7 fun t8=>
 zzd (.int .i64 1) t7 t8 (.int .i64 0) H K
theorem zJo {t3 t7 t8 t9:AV} {H:zaa} {K:Kt} (Inv:Nat→AV→AV→zaa→Prop) (n:Nat) (h0:HSc H→Inv n t3 t9 H)
  (round:Rd2 (fun t3=>fun t9=>zlb t3 t7 t8 t9) (fun t3=>fun t9=>fun H Kb3=>zry t3 t7 t8 t9 H K Kb3) H Inv):zzd t3 t7 t8 t9 H K:=
 lp2 (M:=zla) zJp t3 t9 (by kernel_rfl) Inv n h0 round
theorem zJq {t0:AV} {H:zaa} {K:Kt} (h:HSc H→zy4 t0 H K):ACalls tP zjg [t0] H K:=
 zan (M:=zla) Tryz.func14 (c:=zrz) (by kernel_rfl) (fun hs=>Eq.mpr (by kernel_rfl) (h hs))
def zLQ (_:Nat):List Bool:=[]
noncomputable def zLR:Code:=Tryz.f18.body.getD .skip
def zzT (t0 t1 t2 t3:AV) (H:zaa) (K:Kt):Prop:=
 zao t1 H fun t5 H=>
 zao t2 H fun t6 H=>
 zao t3 H fun t7 H=>
 zaw [(.bool false),.snil,.snil] H fun t8 H=>
 zae true 3 t5 H fun t11=>
 zae true 2 t6 H fun t12=>
 ACalls tP zpc [t0,t11,t12] H fun t13 H=>
 aUn .not t13 fun t14=>
 zag t14
 (zaz [(.bool false),.snil,.snil] [(0,1),(1,1),(2,1)] [] fun t15=>
 zam 3 t8 t15 H fun H=>
 zae true 3 t8 H fun r0=>
 zaI [r0,(.int .i64 1)] (K · H))
 (zae true 3 t7 H fun t17=>
 zae true 3 t5 H fun t18=>
 ACalls tP zjj [t0,t17,t18] H fun t19 H=>
 aUn .not t19 fun t20=>
 zag t20
 (zaz [(.bool false),.snil,.snil] [(0,1),(1,1),(2,1)] [] fun t21=>
 zam 3 t8 t21 H fun H=>
 zae true 3 t8 H fun r0=>
 zaI [r0,(.int .i64 11)] (K · H))
 (zae true 3 t5 H fun t23=>
 zae true 2 t6 H fun t24=>
 zae true 3 t7 H fun t25=>
 ACalls tP zgp [t0,t23,t24,t25] H fun t26 H=>
 zam 3 t8 t26 H fun H=>
 zae true 3 t8 H fun r0=>
 zaI [r0,(.int .i64 0)] (K · H)))
theorem zLS {t0 t1 t2 t3:AV} {H:zaa} {K:Kt} (h:HSc H→zzT t0 t1 t2 t3 H K):ACalls tP zpj [t0,t1,t2,t3] H K:=
 zan (M:=zLQ) Tryz.func18 (c:=zLR) (by kernel_rfl) (fun hs=>Eq.mpr (by kernel_rfl) (h hs))
def zdm:Nat→List Bool
 | 10=>rl false [0,1,4,6,139]
 | 14=>rl false [0,1,4,2,1,2,57,3,80]
 | 17=>rl false [0,1,4,2,1,2,2,2,53,3,80]
 | 25=>rl false [0,1,4,2,1,2,2,4,3,1,47,3,37,3,40]
 | _=>[]
noncomputable def zit:Code:=Tryz.f53.body.getD .skip
noncomputable def zBU:List ResultVar:=Tryz.f53.results.toList
def zmP (t0 t5 t6 t7 t8 t9 t10:AV):List AV:=t0::ux 4 (t5::t6::t7::t8::t9::t10::ux 139 [])
def zQo:List Bool:=zdm 10
noncomputable def zQi:Code:=zap [1,0,1,0,1,1,1,1,1,0,1,1,0,1,0,0] zit
def zQg (K:Kt):AExit→List AV→zaa→Prop:=zaq tP zdm [1,0,1,0,1,1,1,1,1,0,1,1,0,1,0] zit (zaA tP zBU K)
def ztz (t0 t5 t6 t7 t8 t9 t10:AV) (H:zaa) (K:Kt):Prop:=ALoop tP zQi (zQg K) (zmP t0 t5 t6 t7 t8 t9 t10) H
def zmQ (t0 t5 t6 t8 t9 t67 t68 t69:AV):List AV:=t0::ux 4 (t5::t6::ux 1 (t8::t9::ux 57 (t67::t68::t69::ux 80 [])))
def zBR:List Bool:=zdm 14
noncomputable def ztw:Code:=zap [1,0,1,0,1,1,1,1,1,0,1,1,1,0,1,0,0] zit
def zBO (K:Kt):AExit→List AV→zaa→Prop:=zaq tP zdm [1,0,1,0,1,1,1,1,1,0,1,1,1,0,1,0] zit (zaA tP zBU K)
def ztA (t0 t5 t6 t8 t9 t67 t68 t69:AV) (H:zaa) (K:Kt):Prop:=ALoop tP ztw (zBO K) (zmQ t0 t5 t6 t8 t9 t67 t68 t69) H
def ziu (t0 t5 t6 t8 t9 t12 t13 t67 t68 t69:AV):List AV:=t0::ux 4 (t5::t6::ux 1 (t8::t9::ux 2 (t12::t13::ux 53 (t67::t68::t69::ux 80 []))))
def zBS:List Bool:=zdm 17
noncomputable def ztx:Code:=zap [1,1,0,0,1,1,0,0] ztw
def zBP (K:Kt) (Kb14:Lt):AExit→List AV→zaa→Prop:=zaq tP zdm [1,1,0,0,1,1,0] ztw (zbD zBR Kb14 (zBO K))
def zBQ (t0 t5 t6 t8 t9 t12 t13 t67 t68 t69:AV) (H:zaa) (K:Kt) (Kb14:Lt):Prop:=ALoop tP ztx (zBP K Kb14) (ziu t0 t5 t6 t8 t9 t12 t13 t67 t68 t69) H
def zty (t0 t5 t6 t8 t9 t12 t13 t67 t68 t69:AV) (H:zaa) (K:Kt) (Kb14:Lt) (Kb17:Lt):Prop:=
 zac .sub false t13 (.int .i64 1) fun t79=>
 Kb17 (ziu t0 t5 t6 t8 t9 t12 t79 t67 t68 t69) H
def zmS (t0 t5 t6 t8 t9 t12 t13 t67 t68 t69:AV) (H:zaa) (K:Kt) (Kb14:Lt) (Kb17:Lt):Prop:=
 zty t0 t5 t6 t8 t9 t12 t13 t67 t68 t69 H K Kb14 Kb17
def zmR (t0 t5 t6 t8 t9 t12 t13 t14 t15 t19 t67 t68 t69 t107 t108 t109:AV):List AV:=t0::ux 4 (t5::t6::ux 1 (t8::t9::ux 2 (t12::t13::t14::t15::ux 3 (t19::ux 47 (t67::t68::t69::ux 37 (t107::t108::t109::ux 40 []))))))
def zQp:List Bool:=zdm 25
noncomputable def zQj:Code:=zap [1,0,0,1,1,1,1,1,0,1,0,0] ztx
def zQh (K:Kt) (Kb14:Lt) (Kb17:Lt):AExit→List AV→zaa→Prop:=zaq tP zdm [1,0,0,1,1,1,1,1,0,1,0] ztx (zbD zBS Kb17 (zBP K Kb14))
def zmT (t0 t5 t6 t8 t9 t12 t13 t14 t15 t19 t67 t68 t69 t107 t108 t109:AV) (H:zaa) (K:Kt) (Kb14:Lt) (Kb17:Lt):Prop:=ALoop tP zQj (zQh K Kb14 Kb17) (zmR t0 t5 t6 t8 t9 t12 t13 t14 t15 t19 t67 t68 t69 t107 t108 t109) H
def ztv (t0 t5 t6 t8 t9 t12 t13 t14 t15 t19 t67 t68 t69 t107 t108 t109:AV) (H:zaa) (K:Kt) (Kb14:Lt) (Kb17:Lt) (Kb25:Lt):Prop:=
 zac .lss false t109 t108 fun t110=>
 zag t110
 (zai 1 t107 t109 fun t111=>
 zae false 1 t111 H fun t112=>
 zaf 2 t12 fun t114=>
 zae false 1 t114 H fun t115=>
 zai 3 t115 t112 fun t117=>
 zae true 3 t117 H fun t118=>
 zaB 3 [(.int .i64 0),(.int .i64 0),.snil] 1 [(0,t118)] fun t119=>
 zax zb8 3 40 t19 t119 H fun t120 H=>
 zac .add false t109 (.int .i64 1) fun t121=>
 Kb25 (zmR t0 t5 t6 t8 t9 t12 t13 t14 t15 t120 t67 t68 t69 t107 t108 t121) H)
 (zad H (fun K'=>K' t9 H) fun t122=>
 zad H (fun K'=>K' t13 H) fun t123=>
 zad H (fun K'=>K' t9 H) fun t124=>
 zad H (fun K'=>K' t13 H) fun t125=>
 zad H (fun K'=>zai 3 t124 t125 (K' · H)) fun t126=>
 zad H (fun K'=>zal true 3 t126 H (K' · H)) fun t127=>
 zad H (fun K'=>K' t9 H) fun t128=>
 zad H (fun K'=>K' t13 H) fun t129=>
 zad H (fun K'=>zac .sub false t129 (.int .i64 1) (K' · H)) fun t130=>
 zad H (fun K'=>zai 3 t128 t130 (K' · H)) fun t131=>
 zad H (fun K'=>zal true 3 t131 H (K' · H)) fun t132=>
 zad H (fun K'=>K' t0 H) fun t133=>
 zad H (fun K'=>K' t15 H) fun t134=>
 zad H (fun K'=>zaf 1 t14 (K' · H)) fun t135=>
 zad H (fun K'=>zal false 1 t135 H (K' · H)) fun t136=>
 zad H (fun K'=>K' t19 H) fun t137=>
 zaE H (fun H K'=>ACalls tP zhS [t133,t134,t136,t137] H K') fun t138=>
 zaE H (fun H K'=>ACalls tP zdd [t132,t138] H K') fun t139=>
 zaE H (fun H K'=>ACalls tP zfs [t127,t139] H K') fun t140=>
 zad H (fun K'=>zai 3 t122 t123 (K' · H)) fun t141=>
 zam 3 t141 t140 H fun H=>
 zmS t0 t5 t6 t8 t9 t12 t13 t67 t68 t69 H K Kb14 Kb17)
def zmO (t0 t5 t6 t8 t9 t12 t13 t67 t68 t69:AV) (H:zaa) (K:Kt) (Kb14:Lt) (Kb17:Lt):Prop:=
 zac .gtr false t13 (.int .i64 0) fun t77=>
 zag t77
 (zaf 1 t6 fun t80=>
 zae false 1 t80 H fun t81=>
 zac .sub false t13 (.int .i64 1) fun t83=>
 zai 2 t81 t83 fun t84=>
 zae true 2 t84 H fun t85=>
 zaw [(.int .i64 0),.snil] H fun t14 H=>
 zam 2 t14 t85 H fun H=>
 zaf 0 t14 fun t86=>
 zae false 1 t86 H fun t87=>
 zaf 1 t12 fun t88=>
 zae false 1 t88 H fun t89=>
 zac .neq false t87 t89 fun t90=>
 zag t90
 (zmS t0 t5 t6 t8 t9 t12 t13 t67 t68 t69 H K Kb14 Kb17)
 (zae true 3 t5 H fun t93=>
 zaf 0 t14 fun t94=>
 zae false 1 t94 H fun t95=>
 ACalls tP zhT [t0,t93,t95] H fun t96 H=>
 zay t96 0 fun t97=>
 zay t96 1 fun t98=>
 zae true 3 t5 H fun t101=>
 zaf 0 t14 fun t102=>
 zae false 1 t102 H fun t103=>
 ACalls tP zpR [t0,t101,t103] H fun t104 H=>
 zay t104 0 fun t105=>
 zay t104 1 fun t106=>
 zah 1 t105 fun t108=>
 zmT t0 t5 t6 t8 t9 t12 t13 t14 t97 .snil t67 t68 t69 t105 t108 (.int .i64 0) H K Kb14 Kb17))
 (zac .add false t69 (.int .i64 1) fun t142=>
 Kb14 (zmQ t0 t5 t6 t8 t9 t67 t68 t142) H)
def ztu (t0 t5 t6 t8 t9 t67 t68 t69:AV) (H:zaa) (K:Kt) (Kb14:Lt):Prop:=
 zac .lss false t69 t68 fun t70=>
 zag t70
 (zai 3 t67 t69 fun t71=>
 zae true 3 t71 H fun t72=>
 zaw [(.int .i64 0),(.int .i64 0),.snil] H fun t12 H=>
 zam 3 t12 t72 H fun H=>
 zaf 1 t6 fun t73=>
 zae false 1 t73 H fun t74=>
 zah 1 t74 fun t75=>
 zBQ t0 t5 t6 t8 t9 t12 t75 t67 t68 t69 H K Kb14)
 (zaf 1 t6 fun t144=>
 zae false 1 t144 H fun t145=>
 zah 1 t145 fun t146=>
 zai 3 t9 t146 fun t147=>
 zae true 3 t147 H fun t148=>
 zam 3 t8 t148 H fun H=>
 zae true 3 t8 H fun r0=>
 K r0 H)
def ztt (t0 t5 t6 t7 t8 t9 t10:AV) (H:zaa) (K:Kt) (Kb10:Lt):Prop:=
 zah 1 t9 fun t55=>
 zac .lss false t10 t55 fun t56=>
 zag t56
 (ACalls tP zb3 [(.int .i64 0)] H fun t61 H=>
 zai 3 t9 t10 fun t62=>
 zam 3 t62 t61 H fun H=>
 zac .add false t10 (.int .i64 1) fun t58=>
 Kb10 (zmP t0 t5 t6 t7 t8 t9 t58) H)
 (zae true 3 t7 H fun t64=>
 zaf 1 t5 fun t65=>
 zae false 1 t65 H fun t66=>
 ACalls tP zpQ [t0,t64,t66] H fun t67 H=>
 zah 1 t67 fun t68=>
 ztA t0 t5 t6 t8 t9 t67 t68 (.int .i64 0) H K)
def zis (t0 t1 t2 t3:AV) (H:zaa) (K:Kt):Prop:=
 zao t1 H fun t5 H=>
 zao t2 H fun t6 H=>
 zao t3 H fun t7 H=>
 zaw [(.bool false),.snil,.snil] H fun t8 H=>
 zaf 0 t5 fun t22=>
 zae false 1 t22 H fun t23=>
 zac .eql false t23 (.int .i64 6) fun t25=>
 zag t25
 (zaf 2 t5 fun t27=>
 zae false 1 t27 H fun t28=>
 zaf 1 t6 fun t29=>
 zae false 1 t29 H fun t30=>
 zaf 2 t7 fun t31=>
 zae false 1 t31 H fun t32=>
 ACalls tP zhS [t0,t28,t30,t32] H fun t33 H=>
 zam 3 t8 t33 H fun H=>
 zae true 3 t8 H fun r0=>
 K r0 H)
 (zac .eql false t23 (.int .i64 7) fun t35=>
 zag t35
 (zad H (fun K'=>zaf 2 t7 (K' · H)) fun t36=>
 zad H (fun K'=>zal false 1 t36 H (K' · H)) fun t37=>
 zad H (fun K'=>zah 1 t37 (K' · H)) fun t38=>
 zaE H (fun H K'=>ACalls tP zb3 [t38] H K') fun t39=>
 zad H (fun K'=>zaf 0 t6 (K' · H)) fun t40=>
 zad H (fun K'=>zal false 1 t40 H (K' · H)) fun t41=>
 zaE H (fun H K'=>ACalls tP zpP [t39,t41] H K') fun t42=>
 zam 3 t8 t42 H fun H=>
 zae true 3 t8 H fun r0=>
 K r0 H)
 (zac .eql false t23 (.int .i64 5) fun t44=>
 zag t44
 (zaf 1 t6 fun t45=>
 zae false 1 t45 H fun t46=>
 zah 1 t46 fun t47=>
 zac .add false t47 (.int .i64 1) fun t48=>
 zbr 56 [(.bool false),.snil,.snil] t48 t48 H fun t49 H=>
 ACalls tP zb3 [(.int .i64 1)] H fun t51 H=>
 zai 3 t49 (.int .i64 0) fun t52=>
 zam 3 t52 t51 H fun H=>
 ztz t0 t5 t6 t7 t8 t49 (.int .i64 1) H K)
 (ACalls tP zb3 [(.int .i64 1)] H fun t149 H=>
 zam 3 t8 t149 H fun H=>
 zae true 3 t8 H fun r0=>
 K r0 H)))
theorem zQn {t0 t5 t6 t8 t9 t12 t13 t14 t15 t19 t67 t68 t69 t107 t108 t109:AV} {H:zaa} {K:Kt} {Kb14:Lt} {Kb17:Lt} (Inv:Nat→AV→AV→zaa→Prop) (n:Nat) (h0:HSc H→Inv n t19 t109 H)
  (round:Rd2 (fun t19=>fun t109=>zmR t0 t5 t6 t8 t9 t12 t13 t14 t15 t19 t67 t68 t69 t107 t108 t109) (fun t19=>fun t109=>fun H Kb25=>ztv t0 t5 t6 t8 t9 t12 t13 t14 t15 t19 t67 t68 t69 t107 t108 t109 H K Kb14 Kb17 Kb25) H Inv):zmT t0 t5 t6 t8 t9 t12 t13 t14 t15 t19 t67 t68 t69 t107 t108 t109 H K Kb14 Kb17:=
 lp2 (M:=zdm) zQp t19 t109 (by kernel_rfl) Inv n h0 round
theorem zQm {t0 t5 t6 t8 t9 t12 t13 t67 t68 t69:AV} {H:zaa} {K:Kt} {Kb14:Lt} (Inv:Nat→AV→zaa→Prop) (n:Nat) (h0:HSc H→Inv n t13 H)
  (round:Rd1 (fun t13=>ziu t0 t5 t6 t8 t9 t12 t13 t67 t68 t69) (fun t13=>fun H Kb17=>zmO t0 t5 t6 t8 t9 t12 t13 t67 t68 t69 H K Kb14 Kb17) H Inv):zBQ t0 t5 t6 t8 t9 t12 t13 t67 t68 t69 H K Kb14:=
 lp1 (M:=zdm) zBS t13 (by kernel_rfl) Inv n h0 round
theorem zQl {t0 t5 t6 t8 t9 t67 t68 t69:AV} {H:zaa} {K:Kt} (Inv:Nat→AV→zaa→Prop) (n:Nat) (h0:HSc H→Inv n t69 H)
  (round:Rd1 (fun t69=>zmQ t0 t5 t6 t8 t9 t67 t68 t69) (fun t69=>fun H Kb14=>ztu t0 t5 t6 t8 t9 t67 t68 t69 H K Kb14) H Inv):ztA t0 t5 t6 t8 t9 t67 t68 t69 H K:=
 lp1 (M:=zdm) zBR t69 (by kernel_rfl) Inv n h0 round
theorem zQk {t0 t5 t6 t7 t8 t9 t10:AV} {H:zaa} {K:Kt} (Inv:Nat→AV→zaa→Prop) (n:Nat) (h0:HSc H→Inv n t10 H)
  (round:Rd1 (fun t10=>zmP t0 t5 t6 t7 t8 t9 t10) (fun t10=>fun H Kb10=>ztt t0 t5 t6 t7 t8 t9 t10 H K Kb10) H Inv):ztz t0 t5 t6 t7 t8 t9 t10 H K:=
 lp1 (M:=zdm) zQo t10 (by kernel_rfl) Inv n h0 round
theorem zBT {t0 t1 t2 t3:AV} {H:zaa} {K:Kt} (h:HSc H→zis t0 t1 t2 t3 H K):ACalls tP zgp [t0,t1,t2,t3] H K:=
 zan (M:=zdm) Tryz.func53 (c:=zit) (by kernel_rfl) (fun hs=>Eq.mpr (by kernel_rfl) (h hs))
def znW:Nat→List Bool
 | 3=>rl false [0,4,4,2,3,2,20]
 | _=>[]
noncomputable def zuA:Code:=Tryz.f97.body.getD .skip
noncomputable def zTx:List ResultVar:=Tryz.f97.results.toList
def znX (t0 t1 t2 t3 t8 t9 t13 t14:AV):List AV:=t0::t1::t2::t3::ux 4 (t8::t9::ux 3 (t13::t14::ux 20 []))
def zTv:List Bool:=znW 3
noncomputable def zTt:Code:=zap [1,1,0,1,0,0] zuA
def zTs (K:Kt):AExit→List AV→zaa→Prop:=zaq tP znW [1,1,0,1,0] zuA (zaA tP zTx K)
def zCO (t0 t1 t2 t3 t8 t9 t13 t14:AV) (H:zaa) (K:Kt):Prop:=ALoop tP zTt (zTs K) (znX t0 t1 t2 t3 t8 t9 t13 t14) H
def zuz (t0 t1 t2 t3 t8 t9 t13 t14:AV) (H:zaa) (K:Kt) (Kb3:Lt):Prop:=
 zac .lss false t14 t13 fun t15=>
 zag t15
 (zad H (fun K'=>zal true 3 t9 H (K' · H)) fun t17=>
 zad H (fun K'=>K' t0 H) fun t18=>
 zad H (fun K'=>K' t1 H) fun t19=>
 zad H (fun K'=>K' t14 H) fun t20=>
 zad H (fun K'=>zai 3 t19 t20 (K' · H)) fun t21=>
 zad H (fun K'=>zal true 3 t21 H (K' · H)) fun t22=>
 zad H (fun K'=>K' t2 H) fun t23=>
 zad H (fun K'=>K' t14 H) fun t24=>
 zad H (fun K'=>zai 2 t23 t24 (K' · H)) fun t25=>
 zad H (fun K'=>zal true 2 t25 H (K' · H)) fun t26=>
 zad H (fun K'=>K' t3 H) fun t27=>
 zad H (fun K'=>K' t14 H) fun t28=>
 zad H (fun K'=>zai 3 t27 t28 (K' · H)) fun t29=>
 zad H (fun K'=>zal true 3 t29 H (K' · H)) fun t30=>
 zaE H (fun H K'=>ACalls tP zgp [t18,t22,t26,t30] H K') fun t31=>
 zaE H (fun H K'=>ACalls tP zdd [t17,t31] H K') fun t32=>
 zam 3 t9 t32 H fun H=>
 zac .add false t14 (.int .i64 1) fun t33=>
 Kb3 (znX t0 t1 t2 t3 t8 t9 t13 t33) H)
 (zae true 3 t9 H fun t34=>
 zam 3 t8 t34 H fun H=>
 zae true 3 t8 H fun r0=>
 K r0 H)
def zCN (t0 t1 t2 t3:AV) (H:zaa) (K:Kt):Prop:=
 zaw [(.bool false),.snil,.snil] H fun t8 H=>
 ACalls tP zb3 [(.int .i64 1)] H fun t11 H=>
 zaw [(.bool false),.snil,.snil] H fun t9 H=>
 zam 3 t9 t11 H fun H=>
 zah 1 t1 fun t13=>
 zCO t0 t1 t2 t3 t8 t9 t13 (.int .i64 0) H K
theorem zTu {t0 t1 t2 t3 t8 t9 t13 t14:AV} {H:zaa} {K:Kt} (Inv:Nat→AV→zaa→Prop) (n:Nat) (h0:HSc H→Inv n t14 H)
  (round:Rd1 (fun t14=>znX t0 t1 t2 t3 t8 t9 t13 t14) (fun t14=>fun H Kb3=>zuz t0 t1 t2 t3 t8 t9 t13 t14 H K Kb3) H Inv):zCO t0 t1 t2 t3 t8 t9 t13 t14 H K:=
 lp1 (M:=znW) zTv t14 (by kernel_rfl) Inv n h0 round
theorem zTw {t0 t1 t2 t3:AV} {H:zaa} {K:Kt} (h:HSc H→zCN t0 t1 t2 t3 H K):ACalls tP zhS [t0,t1,t2,t3] H K:=
 zan (M:=znW) Tryz.func97 (c:=zuA) (by kernel_rfl) (fun hs=>Eq.mpr (by kernel_rfl) (h hs))
def zTy (_:Nat):List Bool:=[]
noncomputable def zTz:Code:=Tryz.f98.body.getD .skip
def zuB (t1 t2 t4:AV) (H:zaa) (K:Kt):Prop:=
 zae true 3 t2 H fun t9=>
 ACalls tP zpd [t9,t1] H fun t11 H=>
 zam 3 t4 t11 H fun H=>
 zae true 3 t4 H fun r0=>
 K r0 H
def zCQ (t0 t1:AV) (H:zaa) (K:Kt):Prop:=
 zao t0 H fun t2 H=>
 zaw [(.bool false),.snil,.snil] H fun t4 H=>
 zae true 3 t2 H fun t5=>
 ACalls tP zfv [t5] H fun t6 H=>
 zac .lss false t6 (.int .i64 0) fun t7=>
 zag t7
 (ACalls tP zb3 [(.int .i64 0)] H fun t8 H=>
 zam 3 t2 t8 H fun H=>
 zuB t1 t2 t4 H K)
 (zuB t1 t2 t4 H K)
theorem zTA {t0 t1:AV} {H:zaa} {K:Kt} (h:HSc H→zCQ t0 t1 H K):ACalls tP zpP [t0,t1] H K:=
 zan (M:=zTy) Tryz.func98 (c:=zTz) (by kernel_rfl) (fun hs=>Eq.mpr (by kernel_rfl) (h hs))
def zlc:Nat→List Bool
 | 3=>rl false [1,2,1,3,21]
 | _=>[]
noncomputable def zrB:Code:=Tryz.f143.body.getD .skip
noncomputable def zJE:List ResultVar:=Tryz.f143.results.toList
def zld (t1 t2 t4 t5 t6:AV):List AV:=ux 1 (t1::t2::ux 1 (t4::t5::t6::ux 21 []))
def zJC:List Bool:=zlc 3
noncomputable def zJA:Code:=zap [1,1,0,1,0,0] zrB
def zJz (K:Kt):AExit→List AV→zaa→Prop:=zaq tP zlc [1,1,0,1,0] zrB (zaA tP zJE K)
def zzj (t1 t2 t4 t5 t6:AV) (H:zaa) (K:Kt):Prop:=ALoop tP zJA (zJz K) (zld t1 t2 t4 t5 t6) H
def zrA (t1 t2 t4 t5 t6:AV) (H:zaa) (K:Kt) (Kb3:Lt):Prop:=
 zac .lss false t6 t1 fun t10=>
 zag t10
 (zad H (fun K'=>zal true 3 t5 H (K' · H)) fun t13=>
 zad H (fun K'=>zal true 3 t2 H (K' · H)) fun t14=>
 zad H (fun K'=>K' t6 H) fun t15=>
 zaE H (fun H K'=>ACalls tP zb3 [t15] H K') fun t16=>
 zaE H (fun H K'=>ACalls tP zjI [t14,t16] H K') fun t17=>
 zaE H (fun H K'=>ACalls tP zdd [t13,t17] H K') fun t18=>
 zam 3 t5 t18 H fun H=>
 zad H (fun K'=>zal true 3 t5 H (K' · H)) fun t20=>
 zad H (fun K'=>K' t6 H) fun t21=>
 zad H (fun K'=>zac .add false t21 (.int .i64 1) (K' · H)) fun t22=>
 zaE H (fun H K'=>ACalls tP zb3 [t22] H K') fun t23=>
 zaE H (fun H K'=>ACalls tP zjm [t20,t23] H K') fun t24=>
 zad H (fun K'=>K' t24 H) fun t19=>
 zad H (fun K'=>zay t19 0 (K' · H)) fun t25=>
 zad H (fun K'=>zay t19 1 (K' · H)) fun t26=>
 zam 3 t5 t25 H fun H=>
 zac .add false t6 (.int .i64 1) fun t12=>
 Kb3 (zld t1 t2 t4 t5 t12) H)
 (zae true 3 t5 H fun t27=>
 zam 3 t4 t27 H fun H=>
 zae true 3 t4 H fun r0=>
 K r0 H)
def zzi (t0 t1:AV) (H:zaa) (K:Kt):Prop:=
 zao t0 H fun t2 H=>
 zaw [(.bool false),.snil,.snil] H fun t4 H=>
 ACalls tP zb3 [(.int .i64 1)] H fun t7 H=>
 zaw [(.bool false),.snil,.snil] H fun t5 H=>
 zam 3 t5 t7 H fun H=>
 zzj t1 t2 t4 t5 (.int .i64 0) H K
theorem zJB {t1 t2 t4 t5 t6:AV} {H:zaa} {K:Kt} (Inv:Nat→AV→zaa→Prop) (n:Nat) (h0:HSc H→Inv n t6 H)
  (round:Rd1 (fun t6=>zld t1 t2 t4 t5 t6) (fun t6=>fun H Kb3=>zrA t1 t2 t4 t5 t6 H K Kb3) H Inv):zzj t1 t2 t4 t5 t6 H K:=
 lp1 (M:=zlc) zJC t6 (by kernel_rfl) Inv n h0 round
theorem zJD {t0 t1:AV} {H:zaa} {K:Kt} (h:HSc H→zzi t0 t1 H K):ACalls tP zpd [t0,t1] H K:=
 zan (M:=zlc) Tryz.func143 (c:=zrB) (by kernel_rfl) (fun hs=>Eq.mpr (by kernel_rfl) (h hs))
def zTC (_:Nat):List Bool:=[]
noncomputable def zTD:Code:=Tryz.f99.body.getD .skip
def zCR (t0 t1 t2:AV) (H:zaa) (K:Kt):Prop:=
 zao t1 H fun t4 H=>
 zae true 3 t4 H fun t8=>
 ACalls tP zjL [t0,t8,t2,.snil] H fun t10 H=>
 K t10 H
theorem zTE {t0 t1 t2:AV} {H:zaa} {K:Kt} (h:HSc H→zCR t0 t1 t2 H K):ACalls tP zpQ [t0,t1,t2] H K:=
 zan (M:=zTC) Tryz.func99 (c:=zTD) (by kernel_rfl) (fun hs=>Eq.mpr (by kernel_rfl) (h hs))
def znz:Nat→List Bool
 | 4=>rl false [0,1,1,2,1,1,3,1,11,2,17]
 | _=>[]
noncomputable def zua:Code:=Tryz.f80.body.getD .skip
noncomputable def zSe:List ResultVar:=Tryz.f80.results.toList
def ziB (t0 t2 t3 t5 t9 t21 t22:AV):List AV:=t0::ux 1 (t2::t3::ux 1 (t5::ux 3 (t9::ux 11 (t21::t22::ux 17 []))))
def zSc:List Bool:=znz 4
noncomputable def zSa:Code:=zap [1,1,1,0,1,0,0] zua
def zR9 (K:Kt):AExit→List AV→zaa→Prop:=zaq tP znz [1,1,1,0,1,0] zua (zaA tP zSe K)
def zCt (t0 t2 t3 t5 t9 t21 t22:AV) (H:zaa) (K:Kt):Prop:=ALoop tP zSa (zR9 K) (ziB t0 t2 t3 t5 t9 t21 t22) H
def zub (t0 t2 t3 t5 t9 t21 t22:AV) (H:zaa) (K:Kt) (Kb4:Lt):Prop:=
 zac .add false t22 (.int .i64 1) fun t38=>
 Kb4 (ziB t0 t2 t3 t5 t9 t21 t38) H
def znA (t0 t2 t3 t5 t9 t21 t22:AV) (H:zaa) (K:Kt) (Kb4:Lt):Prop:=
 zub t0 t2 t3 t5 t9 t21 t22 H K Kb4
def zt9 (t0 t2 t3 t5 t9 t21 t22:AV) (H:zaa) (K:Kt) (Kb4:Lt):Prop:=
 zac .lss false t22 t21 fun t23=>
 zag t23
 (zai 1 t9 t22 fun t27=>
 zae false 1 t27 H fun t28=>
 zag t28
 (zaf 2 t5 fun t30=>
 zae false 1 t30 H fun t31=>
 zai 3 t31 t22 fun t33=>
 zae true 3 t33 H fun t34=>
 ACalls tP zjL [t0,t34,t2,t3] H fun t37 H=>
 znA t0 t2 t37 t5 t9 t21 t22 H K Kb4)
 (znA t0 t2 t3 t5 t9 t21 t22 H K Kb4))
 (K t3 H)
def zCs (t0 t1 t2 t3:AV) (H:zaa) (K:Kt):Prop:=
 zao t1 H fun t5 H=>
 zae true 3 t5 H fun t12=>
 zaB 3 [(.int .i64 0),(.int .i64 0),.snil] 1 [(0,t12)] fun t13=>
 zax zb8 3 40 t3 t13 H fun t14 H=>
 zaf 1 t5 fun t17=>
 zae false 1 t17 H fun t18=>
 ACalls tP zeQ [t0,t2,t18] H fun t19 H=>
 zah 1 t19 fun t21=>
 zCt t0 t2 t14 t5 t19 t21 (.int .i64 0) H K
theorem zSb {t0 t2 t3 t5 t9 t21 t22:AV} {H:zaa} {K:Kt} (Inv:Nat→AV→AV→zaa→Prop) (n:Nat) (h0:HSc H→Inv n t3 t22 H)
  (round:Rd2 (fun t3=>fun t22=>ziB t0 t2 t3 t5 t9 t21 t22) (fun t3=>fun t22=>fun H Kb4=>zt9 t0 t2 t3 t5 t9 t21 t22 H K Kb4) H Inv):zCt t0 t2 t3 t5 t9 t21 t22 H K:=
 lp2 (M:=znz) zSc t3 t22 (by kernel_rfl) Inv n h0 round
theorem zSd {t0 t1 t2 t3:AV} {H:zaa} {K:Kt} (h:HSc H→zCs t0 t1 t2 t3 H K):ACalls tP zjL [t0,t1,t2,t3] H K:=
 zan (M:=znz) Tryz.func80 (c:=zua) (by kernel_rfl) (fun hs=>Eq.mpr (by kernel_rfl) (h hs))
end Go.Proofs.YtjkkonpjecoieaaGreat
namespace Go.Proofs.YtjkkonpjecoieaaGreat
open Go Go.Abs Go.RowKit
set_option maxRecDepth 8000
theorem ACalls.ownA {P:Program} {f:FuncId} {us:List AV} {H:zaa} {K:AV→zaa→Prop} (e size:Nat) (h:ACalls P f (us++[.sl [] (.own H.length)]) (H++[.perm e size 0]) K):ACalls P f (us++[.snil]) H K:=by
 intro B w G vs hH hv
 obtain⟨hE,hH'⟩:=hH.newOwn e size
 have hv2:All2 (TRel w ⟨G.L,G.μ++[.own (.slice none 0 0) size 0]⟩) vs.toList (us++[.sl [] (.own H.length)]):=by
  refine All2.of_get (by simpa using hv.length) fun i x y hx hy=>?_
  by_cases hi:i<us.length
  ·rw[List.getElem?_append_left hi]at hy
   obtain⟨x',h1,h2⟩:=hv.get (i:=i) (b:=y) (by rw[List.getElem?_append_left hi];exact hy)
   rw[hx]at h1
   cases h1
   exact hE.trel h2
  ·have hlt:=(List.getElem?_eq_some_iff.1 hy).1
   simp at hlt
   obtain rfl:i=us.length:=by omega
   simp at hy
   subst hy
   obtain⟨x',h1,h2⟩:=hv.get (i:=us.length) (b:=.snil) (by simp)
   rw[hx]at h1
   cases h1
   have h2:x=.slice none 0 0:=h2
   subst h2
   refine⟨.slE _ _,.slice none 0 0,size,0,?_,Nat.le_refl _,fun _=>⟨rfl,by simp⟩⟩
   rw[←hH.len]
   simp
 refine (h B w _ vs hH' hv2).mono fun e' w' hp=>?_
 obtain⟨v,r,H',G'',h1,h2,h3⟩:=hp
 exact⟨v,r,H',G'',h1,hE.trans h2,h3⟩
theorem zw1 (rs:List (List Bool)) (b:Nat):∀ v:VT,v.nodes≤b→∀ x∈zbq rs v,x.nodes≤b:=by
 intro v
 induction hm:v.nodes using Nat.strongRecOn generalizing v with
 | _ m ih=>
  intro hb x hx
  obtain⟨k,n,ks⟩:=v
  have key:∀ (l:List VT) (bs:List Bool),(∀ y∈l,y.nodes<m)→∀ x∈zbT rs l bs,x.nodes≤b:=by
   intro l
   induction l with
   | nil=>intro bs _ x hx;simp[zbT]at hx
   | cons y l ihl=>
    intro bs hy x hx
    match bs with
    | []=>simp[zbT]at hx
    | c::bs=>
     simp only[zbT,List.mem_append]at hx
     rcases hx with hx | hx
     ·split at hx
      ·have h1:=hy y (by simp)
       exact ih _ h1 y rfl (by omega) x hx
      ·simp at hx
     ·exact ihl bs (fun z hz=>hy z (by simp[hz])) x hx
  simp only[zbq,List.mem_cons]at hx
  rcases hx with rfl | hx
  ·omega
  ·exact key ks _ (fun y hy=>by have:=zfm (k:=k) (n:=n) y hy;omega) x hx
theorem zSf {data:List Dat} (hk:za2 data) {n:Nat} {al:List VT} {rs:List (List Bool)} (hrs:rs=zbm data n):∀ (m:Nat) (v:VT),v.nodes≤m→v.nodes≤10000→zav data v (.mk 5 n al)=true→∀ (H:zaa) (io:Nat) (l:List VT),H[io]?=some (.perm zb8 3 l.length)→l.length+(zbq rs v).length≤1000000 →
  ∀ K:Kt,K (.sl (VT.css (l++zbq rs v)) (.own io)) (H.set io (.perm zb8 3 (l++zbq rs v).length))→ACalls tP zjL [.sl (data.map Dat.cs) .none,.agg v.cs,.int .i64 n,.sl (VT.css l) (.own io)] H K:=by
 intro m
 induction m with
 | zero=>intro v h;have:=v.nodes_pos;omega
 | succ m ih=>
  intro v hm hb hh H io l hP hlb K hK
  obtain⟨vk,c,ks⟩:=v
  obtain⟨rfl,n0,c0,c8,hn,hc,hkl,_,hrc,hrl,hkid⟩:=zfk hh
  simp only[Int.toNat_natCast]at hn hc hkl hrc hrl hkid
  rw[←hrs]at hrc hrl
  have hll:=VT.len_le ks
  have hnn:(VT.mk 5 c ks).nodes=VT.nodesL ks+1:=by simp[VT.nodes]
  have hlt0:=zcX hP
  obtain⟨f1,f2,f3⟩:=zdG hk
  have hdm:=List.getElem_mem hn
  have hcm:=List.getElem_mem hc
  obtain⟨g1,g2⟩:=f2 _ hdm _ hcm
  have hpre:zbq rs (.mk 5 c ks)=.mk 5 c ks::zbT rs ks (rs.getD c.toNat []):=by rw[zbq]
  generalize hbs:rs.getD c.toNat []=bs at *
  have hbl:bs.length=ks.length:=by rw[hrc,zbV,List.length_map];exact hkl.symm
  have hrec:∀ (i:Nat) (hi:i<ks.length) (hi2:i<bs.length),bs[i]=true→zav data ks[i] (.mk 5 n al)=true:=fun i hi hi2 hb=>by
   refine hkid i hi (by omega) ?_
   have:bs[i]=zbP n (data[n]).vars (((data[n]).cons[c.toNat]).args[i]'(by omega)):=by simp[hrc,zbV]
   rw[←this];exact hb
  rw[hpre]at hK hlb
  simp only[List.length_cons]at hlb
  have hpk:=zp5 rs ks bs
  refine ACalls.out (zSd fun hs=>?_)
  obtain⟨c,rfl⟩:∃ x:Nat,c=x:=⟨c.toNat,by omega⟩
  simp only[Int.toNat_natCast]at hc hkl hrc hcm g1 g2
  have hVc:(VT.mk 5 (c:Int) ks).cs=[.int .i64 5,.int .i64 c,.sl (VT.css ks) .none]:=rfl
  have hg:(H++[AB.cells (VT.mk 5 (c:Int) ks).cs])[io]?=some (.perm zb8 3 l.length):=zbO hP
  simp[zCs]
  rw[zeh]
  have hset0:∀ X:AB,(H++[AB.cells (VT.mk 5 (c:Int) ks).cs]).set io X=H.set io X++[AB.cells (VT.mk 5 (c:Int) ks).cs]:=fun X=>zct X hP
  simp only[zax,zaY,zaM,hg,hset0]
  refine⟨by simp,by simp,⟨by simp;omega,by simp;omega⟩,?_⟩
  simp[hVc,List.getElem?_append]
  refine zrl data n c hn hc f1 (f3 _ hdm) (by omega) (fun x hx=>by have:=g2 x hx;omega) _ _ ?_
  rw[←hrc]
  simp[zby]
  have hst:VT.css l++[(VT.mk 5 (c:Int) ks).cs]=VT.css (l++[.mk 5 c ks]):=by rw[zvu]
  rw[←hVc,hst]
  have hscp:∀ q,HSc (H.set io (.perm zb8 3 q)):=fun q=>hs.set rfl
  refine zSb (Inv:=fun q t3 t22 H'=>∃ (i:Nat) (acc:List VT),i≤ks.length∧q=ks.length-i∧t22=.int .i64 i∧t3=.sl (VT.css acc) (.own io)∧acc++zbT rs (ks.drop i) (bs.drop i)=l++.mk 5 c ks::zbT rs ks bs ∧
   H'=H.set io (.perm zb8 3 acc.length)++[.cells (VT.mk 5 c ks).cs]) ks.length ?_ ?_
  ·intro _;exact⟨0,l++[.mk 5 c ks],by omega,by omega,rfl,rfl,by simp,by simp⟩
  ·rintro q t3 t22 H' ⟨i,acc,hi,rfl,rfl,rfl,ho,rfl⟩ hsc' hlen hsF Kb hKb
   have hlo:=congrArg List.length ho
   simp only[List.length_append,List.length_cons]at hlo
   by_cases hlt:i<ks.length
   ·have hlt2:i<bs.length:=by omega
    obtain⟨x,y,z,hvx,hx,hy,hz⟩:=zaO ks[i]
    have hkn:=VT.kid_lt (k:=5) (n:=(c:Int)) hlt
    rw[zFe hlt hlt2]at ho hlo
    have hpa:(H.set io (.perm zb8 3 acc.length)++[AB.cells (VT.mk 5 (c:Int) ks).cs])[io]?=some (.perm zb8 3 acc.length):=zbO (zb5 _ hP)
    have hback:∀ acc' J,acc'++zbT rs (ks.drop (i+1)) (bs.drop (i+1))=l++.mk 5 c ks::zbT rs ks bs →
      Kb (ziB (.sl (data.map Dat.cs) .none) (.int .i64 n) (.sl (VT.css acc') (.own io)) (.ptr H.length 0) (.sl (bs.map fun b=>[.bool b]) .none) (.int .i64 bs.length) (.int .i64 (IntKind.i64.wrap (i+1)))) (H.set io (.perm zb8 3 acc'.length)++([.cells (VT.mk 5 c ks).cs]++J)):=by
     intro acc' J ha
     rw[zau (by omega) (by omega)]
     refine hKb _ _ ⟨ks.length-(i+1),by omega,Back.at (J:=J) (H2:=H.set io (.perm zb8 3 acc'.length)++[.cells (VT.mk 5 c ks).cs]) (by simp) (by simp) ((hscp _).append (by simp[AB.sc])) ?_ ⟨_,_,rfl,i+1,acc',by omega,rfl,by simp,rfl,ha,rfl⟩⟩
     simp[ziB,AV.sc,AV.scV,AV.scA,AV.scB]
     try omega
    simp[zt9,hlt,hlt2,hbl]
    cases hbi:bs[i] with
    | true=>
     rw[hbi,if_pos rfl]at ho hlo
     simp only[List.length_append]at hlo
     simp[hVc,hlt,hvx,List.getElem?_append]
     rw[←hVc,←hvx]
     refine ih ks[i] (by omega) (by omega) (hrec i hlt hlt2 hbi) _ io acc hpa (by omega) _ ?_
     rw[zct _ (zb5 _ hP),List.set_set]
     simp[znA,zub]
     have:=hback (acc++zbq rs ks[i]) [] (by simpa using ho)
     simpa[hbl]using this
    | false=>
     rw[hbi]at ho
     simp at ho
     simp[znA,zub]
     have:=hback acc [] ho
     simpa[hbl]using this
   ·obtain rfl:i=ks.length:=by omega
    rw[List.drop_length]at ho
    simp only[zbT,List.append_nil]at ho
    subst ho
    simp[zt9,hbl]
    exact Out.at rfl (by simp) (hscp _) .rfl' rfl (by simp[AV.scV,AV.scA,AV.scB];omega) (by simpa using hK)
theorem zTF {data:List Dat} (hk:za2 data) {n:Nat} {al:List VT} (v:VT) (hv:v.nodes≤10000) (hh:zav data v (.mk 5 n al)=true) (H:zaa) (K:Kt) (hK:K (.sl (VT.css (zbq (zbm data n) v)) .none) H) :
  ACalls tP zpQ [.sl (data.map Dat.cs) .none,.agg v.cs,.int .i64 n] H K:=by
 refine ACalls.out (zTE fun hs=>?_)
 obtain⟨x,y,z,hvx,hx,hy,hz⟩:=zaO v
 have hl:=zj5 (zbm data n) v
 simp[zCR,hvx]
 rw[←hvx]
 refine ACalls.ownA (us:=[.sl (data.map Dat.cs) .none,.agg v.cs,.int .i64 n]) zb8 3 ?_
 refine zSf hk rfl v.nodes v (Nat.le_refl _) hv hh _ _ [] (by simp) (by simp;omega) _ ?_
 rw[List.nil_append]
 exact Out.at (J:=[.cells v.cs,.perm zb8 3 (zbq (zbm data n) v).length]) (by simp[List.set_append]) (Nat.le_refl _) hs (.atom (.sl _ _)) rfl rfl hK
end Go.Proofs.YtjkkonpjecoieaaGreat
namespace Go.Proofs.YtjkkonpjecoieaaGreat
open Go Go.Abs
theorem zp7 {data:List Dat}:∀ (l:List IT) (ts:List VT) (a:Int),0≤a→0≤rdA data l ts a→a≤rdA data l ts a
 | [],ts,a,_,_=>by rw[rdA];exact Int.le_refl _
 | i::l,[],a,_,h=>by simp[rdA]at h
 | i::l,t::ts,a,ha,h=>by
  simp only[rdA]at h ⊢
  by_cases hc:rdV data i t<0∨a+rdV data i t>6
  ·rw[if_pos hc]at h;omega
  ·rw[if_neg hc]at h ⊢
   have:=zp7 l ts _ (by omega) h
   omega
theorem zw0 {data:List Dat} {n:Nat} {al:List VT}:∀ (m:Nat) (v:VT),v.nodes≤m→zav data v (.mk 5 n al)=true→∀ x∈zbq (zbm data n) v,zav data x (.mk 5 n al)=true:=by
 intro m
 induction m with
 | zero=>intro v h;have:=v.nodes_pos;omega
 | succ m ih=>
  intro v hm hh x hx
  obtain⟨vk,c,ks⟩:=v
  obtain⟨rfl,n0,c0,c8,hn,hc,hkl,_,hrc,hrl,hkid⟩:=zfk hh
  simp only[Int.toNat_natCast]at hn hc hkl hrc hrl hkid
  rw[zbq,List.mem_cons]at hx
  rcases hx with rfl | hx
  ·exact hh
  ·rw[hrc,zwZ _ _ _ (by simpa[zbV]using hkl)]at hx
   obtain⟨j,hj,hx⟩:=List.mem_flatMap.1 hx
   have hjl:=zd1 hj
   have hjl2:j<((data[n]).cons[c.toNat]).args.length:=by simpa[zbV]using hjl
   have hjk:j<ks.length:=by omega
   rw[List.getD_eq_getElem?_getD,List.getElem?_eq_getElem hjk,Option.getD_some]at hx
   have hnn:=VT.kid_lt (k:=5) (n:=c) hjk
   refine ih ks[j] (by omega) (hkid j hjk hjl2 ?_) x hx
   simp[pos,zbV,hjl2]at hj
   exact hj
mutual
theorem zom {data:List Dat} {N:Nat} (hN:1≤N):∀ (i:IT) (t v:VT),v.nodes≤N→0≤rdV data i t→atV data i t v≤N ^ (rdV data i t).toNat
 | .mk n ks,t,v,hv,hd=>by
  have hvk:∀ x∈v.kids,x.nodes≤N:=by
   obtain⟨a,b,c⟩:=v
   intro x hx
   simp only[VT.kids]at hx
   have:=zfm (k:=a) (n:=b) x hx
   omega
  rw[rdV]at hd ⊢
  rw[atV]
  by_cases h6:t.kind=6
  ·simp only[h6,if_true]at hd ⊢
   by_cases hn:n=0
   ·by_cases hl:t.kids.length=ks.length
    ·simp only[hn,hl,if_true]at hd ⊢
     have:=ziS hN ks t.kids v.kids 0 (by omega) hvk hd
     simpa using this
    ·simp[hn,hl]at hd
   ·simp[hn]at hd
  ·by_cases h7:t.kind=7
   ·simp only[h6,h7,if_false,if_true]at hd ⊢
    by_cases hc:0≤n∧n≤6∧ks.length=0
    ·simp only[hc,and_self,if_true]at hd ⊢
     simp
     refine Nat.le_trans (ziV _ _) (Nat.pow_le_pow_left ?_ _)
     obtain⟨a,b,c⟩:=v
     have:=VT.len_le c
     simp only[VT.kids,VT.nodes]at hv ⊢
     omega
    ·rw[if_neg hc]at hd;omega
   ·by_cases h5:t.kind=5
    ·simp only[h6,h7,h5,if_false,if_true]at hd ⊢
     by_cases hc:n=0∧ks.length≤6
     ·simp only[hc,and_self,if_true]at hd ⊢
      have hpl:=zj5 (zbm data t.num.toNat) v
      have:=zqo hN ks t (zbq (zbm data t.num.toNat) v) 0 (by omega) (by omega) (zw1 _ N v hv) hd
      simpa using this
     ·rw[if_neg hc]at hd;omega
    ·simp only[h6,h7,h5,if_false]at hd ⊢
     exact Nat.pow_pos hN
theorem ziS {data:List Dat} {N:Nat} (hN:1≤N):∀ (l:List IT) (ts vs:List VT) (a:Int),0≤a→(∀ x∈vs,x.nodes≤N)→0≤rdA data l ts a→atL data l ts vs≤N ^ (rdA data l ts a-a).toNat
 | [],ts,vs,a,_,_,_=>by rw[atL];exact Nat.pow_pos hN
 | i::l,[],vs,a,_,_,_=>by simp only[atL];exact Nat.pow_pos hN
 | i::l,t::ts,[],a,_,_,_=>by simp only[atL];exact Nat.pow_pos hN
 | i::l,t::ts,v::vs,a,ha,hv,hd=>by
  simp only[rdA]at hd ⊢
  by_cases hc:rdV data i t<0∨a+rdV data i t>6
  ·rw[if_pos hc]at hd;omega
  ·rw[if_neg hc]at hd ⊢
   have h1:=zom (data:=data) hN i t v (hv v (by simp)) (by omega)
   have h2:=ziS hN l ts vs (a+rdV data i t) (by omega) (fun x hx=>hv x (by simp[hx])) hd
   have hge:=(zp7 l ts (a+rdV data i t) (by omega) hd)
   simp only[atL]
   refine Nat.le_trans (Nat.mul_le_mul h1 h2) ?_
   rw[←Nat.pow_add]
   exact Nat.pow_le_pow_right hN (by omega)
theorem zqo {data:List Dat} {N:Nat} (hN:1≤N):∀ (es:List IT) (t:VT) (nodes:List VT) (a:Int),0≤a→nodes.length≤N→(∀ x∈nodes,x.nodes≤N)→0≤rdE data es t a→zar (wtL data es t) nodes≤N ^ (rdE data es t a-a).toNat
 | [],t,nodes,a,_,_,_,_=>by simp only[wtL,zar];exact Nat.pow_pos hN
 | .mk c ks::es,t,nodes,a,ha,hl,hv,hd=>by
  rw[zd3]at hd ⊢
  by_cases hc:c<0∨8≤c
  ·rw[if_pos hc]at hd;omega
  ·rw[if_neg hc]at hd ⊢
   cases hp:za8 data t c with
   | none=>rw[hp]at hd;simp at hd
   | some ps=>
    rw[hp]at hd
    simp only at hd ⊢
    by_cases hlen:ps.length=ks.length
    ·rw[if_pos hlen]at hd ⊢
     by_cases hx:rdA data ks ps 0<0∨a+1+rdA data ks ps 0>6
     ·rw[if_pos hx]at hd;omega
     ·rw[if_neg hx]at hd ⊢
      have h2:=zqo hN es t nodes (a+(1+rdA data ks ps 0)) (by omega) hl hv hd
      have hw:∀ x∈nodes,wtE data (.mk c ks) t x≤N ^ (rdA data ks ps 0).toNat:=by
       intro x hxm
       rw[wtE]
       split
       ·rw[hp]
        have hpk:∀ y∈pick x.kids ((zbm data t.num.toNat).getD c.toNat []),y.nodes≤N:=by
         intro y hy
         have h3:=hv x hxm
         obtain⟨p,q,r⟩:=x
         have hy':y∈r:=zeS hy
         have:=zfm (k:=p) (n:=q) y hy'
         omega
        have:=ziS (data:=data) hN ks ps (pick x.kids ((zbm data t.num.toNat).getD c.toNat [])) 0 (by omega) hpk (by omega)
        simpa using this
       ·exact Nat.zero_le _
      have h3:=zxx (wtE data (.mk c ks) t) (wtL data es t) nodes
      have h4:=zxX nodes hw
      have hge:rdE data es t (a+(1+rdA data ks ps 0))=-1∨(a+(1+rdA data ks ps 0))+es.length≤rdE data es t (a+(1+rdA data ks ps 0)):=zh1 es t _ (by omega)
      rw[wtL]
      refine Nat.le_trans h3 (Nat.le_trans (Nat.mul_le_mul (Nat.le_trans h4 (Nat.mul_le_mul_right _ hl)) h2) ?_)
      rw[show N*N ^ (rdA data ks ps 0).toNat=N ^ ((rdA data ks ps 0).toNat+1) by rw[Nat.pow_succ,Nat.mul_comm],←Nat.pow_add]
      exact Nat.pow_le_pow_right hN (by omega)
    ·rw[if_neg hlen]at hd;omega
end
def zaW:IT→Int
 | .mk n _=>n
def bef (e i:IT):IT:=.mk 0 (e::zaC i)
def fct:Nat→Nat
 | 0=>1
 | n+1=>(n+1)*fct n
def pcf (a b k:Nat):Nat:=if max a b≤k then fct k / (fct (k-a)*fct (k-b)*fct (a+b-k)) else 0
def zbJ (a b:Nat):List (IT × Nat):=(List.range (a+b+1)).map fun (k:Nat)=>(.mk (k:Int) [],pcf a b k)
def zbL (out:List (List IT × Nat)) (ws:List (IT × Nat)):List (List IT × Nat):=ws.flatMap fun w=>out.map fun r=>(r.1++[w.1],r.2*w.2)
mutual
def zbv (data:List Dat):Nat→VT→IT→IT→List (IT × Nat)
 | 0,_,_,_=>[]
 | f+1,t,i,j=>if t.kind=6 then zaD [] ((zcd data f t.kids (zaC i) (zaC j)).map fun r=>(.mk 0 r.1,r.2))
  else if t.kind=7 then zaD [] (zbJ (zaW i).toNat (zaW j).toNat)
  else if t.kind=5 then zaD [] (zaK data f t (zaC i) (zaC j)) else [(.mk 0 [],1)]
def zcd (data:List Dat):Nat→List VT→List IT→List IT→List (List IT × Nat)
 | 0,_,_,_=>[]
 | f+1,ts,l,m=>(List.range ts.length).foldl (fun out k=>zbL out (zbv data f (ts.getD k tz) (l.getD k d0) (m.getD k d0))) [([],1)]
def zaK (data:List Dat):Nat→VT→List IT→List IT→List (IT × Nat)
 | 0,_,_,_=>[]
 | f+1,t,[],m=>[(.mk 0 m,1)]
 | f+1,t,a::l,[]=>[(.mk 0 (a::l),1)]
 | f+1,t,a::l,b::m=>
  if zaW a≠zaW b then zaD (zaD [] ((zaK data f t l (b::m)).map fun w=>(bef a w.1,w.2))) ((zaK data f t (a::l) m).map fun w=>(bef b w.1,w.2))
  else zaD (zaD (zaD [] ((zaK data f t l (b::m)).map fun w=>(bef a w.1,w.2))) ((zaK data f t (a::l) m).map fun w=>(bef b w.1,w.2)))
   ((zcd data f ((za8 data t (zaW a)).getD []) (zaC a) (zaC b)).flatMap fun r=>(zaK data f t l m).map fun w=>(bef (.mk (zaW a) r.1) w.1,r.2*w.2))
end
def zbw (g:List IT→Nat) (s:List (List IT × Nat)):Nat:=(s.map fun r=>r.2*g r.1).foldr (·+·) 0
@[simp] theorem zXz (g:List IT→Nat):zbw g []=0:=rfl
@[simp] theorem zeX (g:List IT→Nat) (r:List IT × Nat) (s:List (List IT × Nat)):zbw g (r::s)=r.2*g r.1+zbw g s:=rfl
theorem zxZ (g:List IT→Nat):∀ a b,zbw g (a++b)=zbw g a+zbw g b
 | [],b=>by simp
 | p::a,b=>by simp[zxZ g a b];omega
theorem zfC {β:Type} (f:IT→Nat) (h:β→IT × Nat):∀ l:List β,zaG f (l.map h)=(l.map fun x=>(h x).2*f (h x).1).foldr (·+·) 0
 | []=>rfl
 | x::l=>by simp[zfC f h l]
theorem zdP (f g:IT→Nat) (h:IT→IT) (c:Nat) (he:∀ x,f (h x)=c*g x):∀ l:List (IT × Nat),zaG f (l.map fun w=>(h w.1,w.2))=c*zaG g l
 | []=>by simp
 | w::l=>by
  rw[List.map_cons,zcq,zcq,zdP f g h c he l,he,Nat.mul_add]
  simp only[Nat.mul_comm,Nat.mul_left_comm,Nat.mul_assoc]
theorem zkg (f g1 g2:IT→Nat) (h:IT→IT) (c:Nat) (he:∀ x,f (h x)=c*g1 x+g2 x):∀ l:List (IT × Nat),zaG f (l.map fun w=>(h w.1,w.2))=c*zaG g1 l+zaG g2 l
 | []=>by simp
 | w::l=>by
  rw[List.map_cons,zcq,zcq,zcq,zkg f g1 g2 h c he l,he]
  simp only[Nat.mul_add]
  grind
theorem zxj (g:List IT→Nat) (g':List IT→Nat) (u:IT→Nat) (ws:List (IT × Nat)) (out:List (List IT × Nat)) (h:∀ r∈out,∀ w∈ws,g (r.1++[w.1])=g' r.1*u w.1):zbw g (zbL out ws)=zbw g' out*zaG u ws:=by
 unfold zbL
 induction ws with
 | nil=>simp
 | cons w ws ih=>
  rw[List.flatMap_cons,zxZ,ih (fun r hr x hx=>h r hr x (by simp[hx])),zcq,Nat.mul_add]
  congr 1
  have:∀ out:List (List IT × Nat),(∀ r∈out,g (r.1++[w.1])=g' r.1*u w.1)→zbw g (out.map fun r=>(r.1++[w.1],r.2*w.2))=zbw g' out*(w.2*u w.1):=by
   intro out ho
   induction out with
   | nil=>simp
   | cons r out ih=>
    rw[List.map_cons,zeX,zeX,ih (fun x hx=>ho x (by simp[hx])),ho r (by simp),Nat.add_mul]
    grind
  exact this out (fun r hr=>h r hr w (by simp))
theorem zxi {out:List (List IT × Nat)} {ws:List (IT × Nat)} {x:List IT × Nat} (h:x∈zbL out ws):∃ r∈out,∃ w∈ws,x=(r.1++[w.1],r.2*w.2):=by
 unfold zbL at h
 obtain⟨w,hw,h⟩:=List.mem_flatMap.1 h
 obtain⟨r,hr,rfl⟩:=List.mem_map.1 h
 exact⟨r,hr,w,hw,rfl⟩
def zcb (data:List Dat) (f:Nat) (ts:List VT) (l m:List IT) (k:Nat):List (List IT × Nat):=(List.range k).foldl (fun out k=>zbL out (zbv data f (ts.getD k tz) (l.getD k d0) (m.getD k d0))) [([],1)]
theorem zgw (data:List Dat) (f:Nat) (ts:List VT) (l m:List IT):zcb data f ts l m 0=[([],1)]:=rfl
theorem zgv (data:List Dat) (f:Nat) (ts:List VT) (l m:List IT) (k:Nat):zcb data f ts l m (k+1)=zbL (zcb data f ts l m k) (zbv data f (ts.getD k tz) (l.getD k d0) (m.getD k d0)):=by
 rw[zcb,List.range_succ,List.foldl_append];rfl
theorem zjb (data:List Dat) (f:Nat) (ts:List VT) (l m:List IT):zcd data (f+1) ts l m=zcb data f ts l m ts.length:=by rw[zcd];rfl
theorem zqe {data:List Dat} {f:Nat} {ts:List VT} {l m:List IT}:∀ k,∀ r∈zcb data f ts l m k,r.1.length=k:=by
 intro k
 induction k with
 | zero=>intro r hr;simp[zgw]at hr;subst hr;rfl
 | succ k ih=>
  intro r hr
  rw[zgv]at hr
  obtain⟨q,hq,w,_,rfl⟩:=zxi hr
  simp[ih q hq]
theorem zvb (data:List Dat) (x:IT) (t v:VT):∀ (a:List IT) (ts vs:List VT),a.length=ts.length→vs.length=ts.length→atL data (a++[x]) (ts++[t]) (vs++[v])=atL data a ts vs*atV data x t v
 | [],[],[],_,_=>by simp[atL]
 | [],[],_::_,_,h=>by simp at h
 | [],_::_,_,h,_=>by simp at h
 | _::_,[],_,h,_=>by simp at h
 | _::_,_::_,[],_,h=>by simp at h
 | i::a,t'::ts,v'::vs,h,h'=>by
  simp only[List.cons_append,atL]
  rw[zvb data x t v a ts vs (by simpa using h) (by simpa using h'),Nat.mul_assoc]
theorem zFr {data:List Dat} {f:Nat} {ts vs:List VT} {l m:List IT} (hl:l.length=ts.length) (hm:m.length=ts.length) (hv:vs.length=ts.length)
  (hmul:∀ (j:Nat) (h:j<ts.length),zaG (fun x=>atV data x ts[j] (vs[j]'(by omega))) (zbv data f ts[j] (l[j]'(by omega)) (m[j]'(by omega)))=atV data (l[j]'(by omega)) ts[j] (vs[j]'(by omega))*atV data (m[j]'(by omega)) ts[j] (vs[j]'(by omega))) :
  ∀ k,k≤ts.length→zbw (fun r=>atL data r (ts.take k) (vs.take k)) (zcb data f ts l m k)=atL data (l.take k) (ts.take k) (vs.take k)*atL data (m.take k) (ts.take k) (vs.take k):=by
 intro k
 induction k with
 | zero=>intro _;simp[zgw,atL]
 | succ k ih=>
  intro hk
  have h1:k<ts.length:=by omega
  have h2:k<vs.length:=by omega
  have h3:k<l.length:=by omega
  have h4:k<m.length:=by omega
  have eg:zbv data f (ts.getD k tz) (l.getD k d0) (m.getD k d0)=zbv data f ts[k] l[k] m[k]:=by simp[List.getD_eq_getElem?_getD,h1,h3,h4]
  have et:∀ (a:List IT),a.length=k→∀ x,atL data (a++[x]) (ts.take (k+1)) (vs.take (k+1))=atL data a (ts.take k) (vs.take k)*atV data x ts[k] vs[k]:=fun a ha x=>by
   rw[List.take_succ_eq_append_getElem h1,List.take_succ_eq_append_getElem h2]
   exact zvb data x _ _ _ _ _ (by simp;omega) (by simp;omega)
  rw[zgv,eg,zxj _ (fun r=>atL data r (ts.take k) (vs.take k)) (fun x=>atV data x ts[k] vs[k]) _ _ (fun r hr w _=>et r.1 (zqe k r hr) w.1),ih (by omega),hmul k h1,
   List.take_succ_eq_append_getElem h3,List.take_succ_eq_append_getElem h4,et _ (by simp;omega),et _ (by simp;omega)]
  grind
def dl:Nat→Nat→Nat→Nat
 | 0,b,k=>if k=b then 1 else 0
 | a+1,0,k=>if k=a+1 then 1 else 0
 | a+1,b+1,0=>0
 | a+1,b+1,k+1=>dl a (b+1) k+dl (a+1) b k+dl a b k
def zbX (K:Nat) (f:Nat→Nat):Nat:=((List.range K).map f).foldr (·+·) 0
theorem zvT:∀ (a:List Nat) (x:Nat),(a++[x]).foldr (·+·) 0=a.foldr (·+·) 0+x
 | [],x=>by simp
 | y::a,x=>by simp[zvT a x];omega
theorem zd6 (K:Nat) (f:Nat→Nat):zbX (K+1) f=zbX K f+f K:=by
 rw[zbX,List.range_succ,List.map_append];exact zvT _ _
theorem zxV (f:Nat→Nat):zbX 0 f=0:=rfl
theorem zqs (f:Nat→Nat):∀ K,zbX (K+1) f=f 0+zbX K fun k=>f (k+1)
 | 0=>by simp[zd6,zxV]
 | K+1=>by rw[zd6,zqs f K,zd6 K fun k=>f (k+1)];omega
theorem zkh (f g:Nat→Nat):∀ K,zbX K (fun k=>f k+g k)=zbX K f+zbX K g
 | 0=>rfl
 | K+1=>by rw[zd6,zd6,zd6,zkh f g K];omega
theorem zqt (f:Nat→Nat) (b:Nat):∀ K,zbX K (fun k=>(if k=b then 1 else 0)*f k)=if b<K then f b else 0
 | 0=>by simp[zxV]
 | K+1=>by
  rw[zd6,zqt f b K]
  by_cases h:K=b
  ·subst h;simp
  ·rw[if_neg h]
   by_cases h2:b<K
   ·rw[if_pos h2,if_pos (by omega)];omega
   ·rw[if_neg h2,if_neg (by omega)];simp
theorem zxU {f g:Nat→Nat}:∀ {K:Nat},(∀ k,k<K→f k=g k)→zbX K f=zbX K g
 | 0,_=>rfl
 | K+1,h=>by rw[zd6,zd6,zxU (fun k hk=>h k (by omega)),h K (by omega)]
theorem zhi:∀ (n a b K:Nat),a+b<K→zbX K (fun k=>dl a b k*chs n k)=chs n a*chs n b
 | n,0,b,K,h=>by
  simp only[dl,zou,Nat.one_mul]
  rw[zqt,if_pos (by omega)]
 | n,a+1,0,K,h=>by
  simp only[dl,zou,Nat.mul_one]
  rw[zqt,if_pos (by omega)]
 | 0,a+1,b+1,K+1,h=>by
  rw[zqs]
  have:∀ k,chs 0 (k+1)=0:=fun k=>rfl
  simp only[dl,this,Nat.mul_zero,Nat.zero_mul,Nat.zero_add]
  induction K with
  | zero=>rfl
  | succ K ih=>
   clear ih
   have hz:∀ K,zbX K (fun _=>0)=0:=fun K=>by
    induction K with
    | zero=>rfl
    | succ K ih=>rw[zd6,ih]
   exact hz _
 | n+1,a+1,b+1,K+1,h=>by
  have h0:=zhi n (a+1) (b+1) (K+1) (by omega)
  have h1:=zhi n a (b+1) K (by omega)
  have h2:=zhi n (a+1) b K (by omega)
  have h3:=zhi n a b K (by omega)
  rw[zqs]at h0 ⊢
  simp only[dl,Nat.zero_mul,Nat.zero_add,chs]at h0 ⊢
  have e:zbX K (fun k=>(dl a (b+1) k+dl (a+1) b k+dl a b k)*(chs n k+chs n (k+1)))=(zbX K (fun k=>dl a (b+1) k*chs n k)+zbX K (fun k=>dl (a+1) b k*chs n k)+zbX K (fun k=>dl a b k*chs n k))+zbX K fun k=>(dl a (b+1) k+dl (a+1) b k+dl a b k)*chs n (k+1):=by
   rw[←zkh,←zkh,←zkh]
   refine zxU fun k _=>?_
   grind
  rw[e,h0,h1,h2,h3]
  grind
theorem zFa:∀ a,a<7→∀ b,b<7→∀ k,k<13→k≤a+b→pcf a b k=dl a b k:=by decide +kernel
theorem zDt (n a b:Nat) (f:IT→Nat) (hf:∀ k:Nat,f (.mk (k:Int) [])=chs n k) (ha:a≤6) (hb:b≤6):zaG f (zaD [] (zbJ a b))=chs n a*chs n b:=by
 rw[zcy,zcQ,Nat.zero_add,zbJ,zfC]
 rw[←zhi n a b (a+b+1) (by omega)]
 unfold zbX
 congr 1
 refine List.map_congr_left fun k hk=>?_
 rw[List.mem_range]at hk
 rw[hf,zFa a (by omega) b (by omega) k (by omega) (by omega)]
end Go.Proofs.YtjkkonpjecoieaaGreat
