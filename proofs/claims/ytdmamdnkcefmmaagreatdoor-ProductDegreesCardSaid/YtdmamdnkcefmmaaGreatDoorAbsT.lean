import Derived.Test.YtdmamdnkcefmmaaGreatDoorKOV
import Derived.Test.YtdmamdnkcefmmaaGreatDoorKNum
import Derived.Test.YtdmamdnkcefmmaaGreatDoorProg
import Derived.KernelRfl
import Derived.Test.YtdmamdnkcefmmaaGreatDoorKOD
import Derived.Test.YtdmamdnkcefmmaaGreatDoorKME
import Derived.Test.YtdmamdnkcefmmaaGreatDoorKMF
import Derived.Test.YtdmamdnkcefmmaaGreatDoorKUA
import Derived.Test.YtdmamdnkcefmmaaGreatDoorVT
import Derived.Deep.Slices
import Derived.DataReads
set_option linter.unusedSimpArgs false
set_option linter.unusedVariables false
set_option maxRecDepth 8000
namespace Go.Proofs.YtdmamdnkcefmmaaGreatDoor
open Go Go.Abs
def zdL (data:List Dat) (t:VT) (i j:IT):AV:=
 if zbv data t i<0∨zbv data t j<0 then .tup [.sl [] .none,.int .i64 1] else if 6<zbv data t i+zbv data t j then .tup [.sl [] .none,.int .i64 13]
 else .tup [.sl (zaT (zbQ data t (zbw data (i.nodes+j.nodes) t i j) 7)) .none,.int .i64 0]
theorem znU {data:List Dat} {t:VT} {i j:IT} (h:zbv data t i<0∨zbv data t j<0):zdL data t i j=.tup [.sl [] .none,.int .i64 1]:=if_pos h
theorem zdr {data:List Dat} {t:VT} (hf:zbZ data t=true) (i:IT):zbv data t i=rdV data i t:=by unfold zbv;rw[if_pos hf]
theorem zvi {data:List Dat} {t:VT} {i j:IT} (hf:zbZ data t=true) (h1:0≤rdV data i t) (h2:0≤rdV data j t) (h6:rdV data i t+rdV data j t>6):zdL data t i j=.tup [.sl [] .none,.int .i64 13]:=by
 unfold zdL
 rw[zdr hf,zdr hf,if_neg (by omega),if_pos (by omega)]
theorem zvh {data:List Dat} {t:VT} {i j:IT} (hf:zbZ data t=true) (h1:0≤rdV data i t) (h2:0≤rdV data j t) (h6:rdV data i t+rdV data j t≤6):zdL data t i j=.tup [.sl (zaT (zbQ data t (zbw data (i.nodes+j.nodes) t i j) 7)) .none,.int .i64 0]:=by
 unfold zdL
 rw[zdr hf,zdr hf,if_neg (by omega),if_neg (by omega)]
theorem zPj (data:List Dat) (T:VT) (H:zaa) (K:Kt) (hK:K (.ptr (H.length+2) 0) (H++[.cells T.cs,.map [],.cells (.sl (data.map Dat.cs) .none::T.cs++[.map (H.length+1),.snil])])) :
  ACalls tP zoF [.sl (data.map Dat.cs) .none,.agg T.cs] H K:=by
 refine zPi fun hs=>?_
 obtain⟨x,y,z,hvx,hx,hy,hz⟩:=zbt T
 simp[zAt,hvx,zdF,zas,zaH,AV.known,Nat.add_assoc]
 rw[hvx]at hK
 simpa using hK
theorem zxO {data:List Dat} (hk:zbG data) (t:VT) (ht:t.nodes≤250) (i j:IT) (hi:i.nodes≤100) (hj:j.nodes≤100) (H:zaa) (K:Kt) (hK:K (zdL data t i j) H) :
  ACalls tP zim [.sl (data.map Dat.cs) .none,.agg t.cs,.agg i.cs,.agg j.cs] H K:=by
 refine ACalls.out (zHA fun hs=>?_)
 have hO:∀ (e:Int) J,zdL data t i j=.tup [.sl [] .none,.int .i64 e]→Out H.length K (.tup [.snil,.int .i64 e]) (H++J):=fun e J he=>Out.tup (bs:=[.sl [] .none,.int .i64 e]) hs (by rw[←he];exact hK) ⟨zdy,za3 rfl rfl,trivial⟩
 obtain⟨x,y,z,hvx,hx,hy,hz⟩:=zbt t
 obtain⟨x2,y2,hvx2,hx2,hy2⟩:=zdJ i
 obtain⟨x3,y3,hvx3,hx3,hy3⟩:=zdJ j
 simp[zxB,hvx,hvx2,hvx3,Nat.add_assoc]
 rw[←hvx,←hvx2,←hvx3]
 refine zaE (.int .i64 (zbv data t i)) (fun J=>zsc data hk t (by omega) i (by omega) _ _ ⟨rfl,rfl⟩) ?_
 refine zaE (.int .i64 (zbv data t j)) (fun J=>zsc data hk t (by omega) j (by omega) _ _ ⟨rfl,rfl⟩) ?_
 by_cases h1:zbv data t i<0
 ·simp[h1]
  exact⟨⟨rfl,rfl⟩,hO 1 _ (znU (.inl h1))⟩
 ·by_cases h2:zbv data t j<0
  ·simp[h1,h2]
   exact⟨⟨rfl,rfl⟩,hO 1 _ (znU (.inr h2))⟩
  ·have hf:zbZ data t=true:=by
    unfold zbv at h1
    by_cases h:zbZ data t=true
    ·exact h
    ·rw[if_neg h]at h1;omega
   have e1:=zdr hf i
   have e2:=zdr hf j
   rw[e1]at h1 ⊢
   rw[e2]at h2 ⊢
   have h8:=zgG hf
   obtain⟨hD,htv⟩:zbq data=true∧zaZ data 0 t=true:=by
    unfold zbZ at hf;simpa using hf
   have r1:=zo6 (h8:=h8) i t
   have r2:=zo6 (h8:=h8) j t
   have w:IntKind.i64.wrap (rdV data i t+rdV data j t)=rdV data i t+rdV data j t:=zat (by omega) (by omega)
   by_cases h6:rdV data i t+rdV data j t>6
   ·have h6':6<rdV data i t+rdV data j t:=h6
    simp[h1,h2,w,h6']
    exact⟨⟨rfl,rfl⟩,hO 13 _ (zvi hf (by omega) (by omega) h6)⟩
   ·have h6':¬ (6<rdV data i t+rdV data j t):=h6
    simp[h1,h2,w,h6',hvx,hvx2,hvx3,Nat.add_assoc]
    rw[←hvx,←hvx2,←hvx3]
    rw[zvh hf (by omega) (by omega) (by omega)]at hK
    refine zPj data t _ _ ?_
    simp[hvx,hvx2,hvx3,Nat.add_assoc]
    rw[←hvx,←hvx2,←hvx3]
    refine (zvj hk h8 hD (i.nodes+j.nodes)).1 t i j (by omega) (by omega) htv (by omega) (by omega) (by omega) (by omega) _ _ ?_
    obtain⟨W,hW⟩:∃ W,W=za9 data (i.nodes+j.nodes) t i j:=⟨_,rfl⟩
    obtain⟨P1,P2,P3,P4⟩:=ztZ h8 (f:=i.nodes+j.nodes) (t:=t) (i:=i) (j:=j) (Nat.le_refl _) (by omega) (by omega) (by omega)
    have hWp:=zvl (data:=data) (t:=t) (i:=i) (j:=j) (Nat.le_refl _) (by omega) (by omega)
    have hWs:=(zfl data (i.nodes+j.nodes)).1 t i j
    obtain⟨L,hL⟩:∃ L,L=zbw data (i.nodes+j.nodes) t i j:=⟨_,rfl⟩
    obtain⟨R1,R2⟩:=(zd4 h8 (i.nodes+j.nodes)).1 t i j (by omega) (by omega) (by omega) (by omega)
    have hLa:=zDN data (i.nodes+j.nodes) t i j
    rw[←hW]at P1 P2 P3 P4 hWp hWs ⊢
    rw[←hL]at hK R1 R2 hWs hLa
    replace R2:=Nat.le_trans R2 (zeB (by omega))
    have Rl:=zuZ fun p hp=>(R1 p hp).1
    have hg5:(H++[AB.cells t.cs,.cells i.cs,.cells j.cs,.cells t.cs,.map [],.cells [.sl (data.map Dat.cs) .none,x,y,z,.map (H.length+4),.snil]])[H.length+5]?=some (.cells [.sl (data.map Dat.cs) .none,x,y,z,.map (H.length+4),.snil]):=by simp[List.getElem?_append]
    refine ACalls.ovC (id:=H.length+5) (j:=5) zaB 5 hg5 rfl ?_
    have hS0:Sw (H++[AB.cells t.cs,.cells i.cs,.cells j.cs,.cells t.cs,.map [],.cells [.sl (data.map Dat.cs) .none,x,y,z,.map (H.length+4),.ov (H.length+6) 0],.vec zaB 5 0 []]) (H.length+5) (H.length+4) (H.length+6) (.sl (data.map Dat.cs) .none::t.cs) []:=
     ⟨by rw[hvx];rfl,by omega,by omega,by omega,by rw[hvx];simp[List.getElem?_append],by simp[List.getElem?_append,kvS],by simp[List.getElem?_append,tms]⟩
    have hH0:(H++[AB.cells t.cs,.cells i.cs,.cells j.cs,.cells t.cs,.map [],.cells [.sl (data.map Dat.cs) .none,x,y,z,.map (H.length+4),.snil]]).set (H.length+5) (.cells ([AV.sl (data.map Dat.cs) .none,x,y,z,.map (H.length+4),.snil].set 5 (.ov (H++[AB.cells t.cs,.cells i.cs,.cells j.cs,.cells t.cs,.map [],.cells [.sl (data.map Dat.cs) .none,x,y,z,.map (H.length+4),.snil]]).length 0)))++[.vec zaB 5 0 []] =
     H++[AB.cells t.cs,.cells i.cs,.cells j.cs,.cells t.cs,.map [],.cells [.sl (data.map Dat.cs) .none,x,y,z,.map (H.length+4),.ov (H.length+6) 0],.vec zaB 5 0 []]:=by simp[List.set_append_right]
    rw[hH0]
    generalize hH1:H++[AB.cells t.cs,.cells i.cs,.cells j.cs,.cells t.cs,.map [],.cells [.sl (data.map Dat.cs) .none,x,y,z,.map (H.length+4),.ov (H.length+6) 0],.vec zaB 5 0 []]=H1 at *
    refine zF8 W (fun p hp=>?_) H1 _ _ _ _ [] hS0 (by simp) (by simp) ?_ (by simp;omega) _ ?_
    ·obtain⟨p1,p2,p3,p4,p5,p6,p7⟩:=P1 p hp
     exact⟨by omega,zCX h8 _ p.1 (Nat.le_refl _) t p3⟩
    ·have:zaJ (fun _=>1) W≤729:=P3
     refine Nat.lt_of_le_of_lt (show _≤729 by rw[zdz];omega) (by decide)
    ·have hcm:=zui W [] (by simp) (fun q hq=>(P1 q hq).1)
     have hcs:∀ g:IT→Nat,zaA g (zbo [] W)=zaA g L:=fun g=>by rw[znp,zpo,Nat.zero_add];exact hWs g
     have hcl:=znn W []
     refine zF9 hk t (by omega) hf _ _ _ _ (zbo [] W) L hS0.next (fun p hp=>?_) (zno _ _ (by simp)) ?_ (by simp at hcl;omega) hLa (by omega) (fun p hp=>(R1 p hp).1) hcs _ (fun hbad=>?_) (fun _=>?_)
     ·obtain⟨h1,h2⟩:=hcm p hp
      rcases h2 with ⟨q,hq,_⟩ | ⟨q,hq,he⟩
      ·simp at hq
      ·obtain⟨p1,p2,p3,p4,p5,p6,p7⟩:=P1 q hq
       have hm:=ze5 (fun _=>1) hp
       rw[hcs,Nat.mul_one]at hm
       have hR2:zaA (fun _=>1) L≤729:=R2
       rw[←he]
       exact⟨by omega,h1,Nat.lt_of_le_of_lt (Nat.le_trans hm hR2) (by decide),p3,by omega⟩
     ·have h1:=hcs (fun _=>1)
      have h2:zaA (fun _=>1) W=zaA (fun _=>1) L:=hWs (fun _=>1)
      cases hc:zbo [] W with
      | nil=>rw[hc,zpo]at h1;omega
      | cons p s=>simp
     ·simp at hcl;omega
     ·simp
      obtain⟨J,hJ⟩:∃ J,sw H1 (H.length+5) (H.length+4) (H.length+6) (.sl (data.map Dat.cs) .none::t.cs) (zbo [] W)=H++J:=⟨_,by
       rw[←hH1]
       simp only[sw]
       rw[List.set_append_right _ _ (by omega),List.set_append_right _ _ (by omega),List.set_append_right _ _ (by omega)]⟩
      rw[hJ]
      exact⟨⟨rfl,rfl⟩,Out.tup (bs:=[.sl (zaT (zbQ data t L 7)) .none,.int .i64 0]) hs hK ⟨za3 rfl rfl,za3 rfl rfl,trivial⟩⟩
end Go.Proofs.YtdmamdnkcefmmaaGreatDoor
namespace Go.Proofs.YtdmamdnkcefmmaaGreatDoor
open Go Go.Abs
set_option maxRecDepth 100000
end Go.Proofs.YtdmamdnkcefmmaaGreatDoor
namespace Go.Proofs.YtdmamdnkcefmmaaGreatDoor
open Go Go.Abs
theorem zRZ (data:List Dat) (hlen:data.length≤9223372036854775807) (t:VT) (H:zaa) (K:Kt) (hK:∀ b,(b=true→zbG data∧t.nodes≤250)→K (.bool b) H):ACalls tP zoN [.sl (data.map Dat.cs) .none,.agg t.cs] H K:=by
 refine ACalls.out (zRY fun hs=>?_)
 have hO:∀ b,(b=true→zbG data∧t.nodes≤250)→∀ J,Out H.length K (.bool b) (H++J):=fun b h J=>Out.bool rfl (Nat.le_refl _) hs (hK b h)
 obtain⟨x,y,z,hvx,hx,hy,hz⟩:=zbt t
 simp[zq8,hvx,Nat.add_assoc]
 refine zO1 data _ _ hlen fun b1 hb1=>?_
 cases b1 with
 | false=>
  simp
  exact hO _ (fun h=>by cases h) _
 | true=>
  simp[Nat.add_assoc]
  rw[←hvx]
  refine zO5 t _ _ fun b2 hb2=>?_
  try simp
  exact hO _ (fun h=>⟨hb1 rfl,hb2 h⟩) _
def t17:VT:=.mk 7 0 [.mk 1 0 []]
def i17:IT:=.mk 1 []
theorem zDM:zdL [] t17 i17 i17=.tup [.sl (zaT [(.mk 1 [],1),(.mk 2 [],2)]) .none,.int .i64 0]:=by kernel_rfl
theorem ztV (H:zaa) (K:Kt) (hK:K (.bool true) H):ACalls tP zir [] H K:=by
 refine ACalls.out (zI6 fun hs=>?_)
 simp[zx6,zas,zaH,zau,zaR,plain,AV.pd,AV.known,Nat.add_assoc]
 refine ACalls.wk (args':=[.sl [] .none,.agg t17.cs,.agg i17.cs,.agg i17.cs]) (zxO (data:=[]) ⟨by simp,by simp⟩ t17 (by decide) i17 i17 (by decide) (by decide) _ _ ?_) ⟨.atom .snil,.agg ⟨.refl _,.refl _,.sl _ _,trivial⟩,.agg ⟨.refl _,.snil,trivial⟩,.agg ⟨.refl _,.snil,trivial⟩,trivial⟩
 rw[zDM]
 have h0:(tmC (IT.mk 2 [],2))[0]?=some (.int .i64 2):=rfl
 simp[zdA,zc2,zfm,Nat.add_assoc,zc5 _ h0]
 refine zaE (.agg (zak 2)) (fun J=>zOS 2 (by omega) _ _ ⟨rfl,rfl⟩) ?_
 try simp[zdA,zc2,zfm]
 refine zaE (.bool true) (fun J=>zMY 2 (zdO (n:=2) (by decide)) _ _ ⟨rfl,rfl⟩) ?_
 exact Out.bool rfl (Nat.le_refl _) hs hK
theorem zDQ (data:List Dat) (hk:zbG data) (t:VT) (i j:IT):(∃ e:Int,e≠0∧zdL data t i j=.tup [.sl [] .none,.int .i64 e]) ∨
  (zbZ data t=true∧0≤rdV data i t∧0≤rdV data j t∧rdV data i t+rdV data j t≤6∧zdL data t i j=.tup [.sl (zaT (zbQ data t (zbw data (i.nodes+j.nodes) t i j) 7)) .none,.int .i64 0]):=by
 by_cases h1:zbv data t i<0∨zbv data t j<0
 ·exact .inl ⟨1,by omega,znU h1⟩
 ·have hf:zbZ data t=true:=by
   by_cases h:zbZ data t=true
   ·exact h
   ·exact absurd (by unfold zbv;rw[if_neg h];omega:zbv data t i<0) (fun h=>h1 (.inl h))
  rw[zdr hf,zdr hf]at h1
  by_cases h6:rdV data i t+rdV data j t>6
  ·exact .inl ⟨13,by omega,zvi hf (by omega) (by omega) h6⟩
  ·exact .inr ⟨hf,by omega,by omega,by omega,zvh hf (by omega) (by omega) (by omega)⟩
theorem zEh {data:List Dat} {t:VT} {i j:IT} (hf:zbZ data t=true) (hi:0≤rdV data i t) (hj:0≤rdV data j t) (h6:rdV data i t+rdV data j t≤6) :
  (∀ p∈zbQ data t (zbw data (i.nodes+j.nodes) t i j) 7,0<p.2∧p.2≤729∧rdV data p.1 t≤rdV data i t+rdV data j t∧rdV data i t≤rdV data p.1 t∧rdV data j t≤rdV data p.1 t∧p.1.nodes≤i.nodes+j.nodes)∧(zbQ data t (zbw data (i.nodes+j.nodes) t i j) 7).length≤7*729:=by
 have h8:=zgG hf
 obtain⟨R1,R2⟩:=(zd4 h8 (i.nodes+j.nodes)).1 t i j (by omega) hi hj h6
 replace R2:=Nat.le_trans R2 (zeB h6)
 have Rl:=zuZ fun p hp=>(R1 p hp).1
 refine⟨fun p hp=>?_,?_⟩
 ·have hm:=zEg p hp
  have h1:=R1 p hm
  have h2:=znS hm
  omega
 ·have:=zoR (data:=data) (t:=t) (s:=zbw data (i.nodes+j.nodes) t i j) 7
  omega
theorem zOa (z:Int) (hz:Sm z) (H:zaa) (K:Kt) (hK:K (.bool true) H):ACalls tP zov [.agg (zak z)] H K:=by
 refine ACalls.out (zN9 fun hs=>?_)
 simp[zz4,Nat.add_assoc,zeC]
 refine zAP z hz _ _ ?_
 simp[Nat.add_assoc,zeC]
 simp[zak]
 exact Out.bool rfl (Nat.le_refl _) hs hK
theorem zDO {data:List Dat} {t:VT} {i j:IT} (hf:zbZ data t=true) (hi:0≤rdV data i t) (hj:0≤rdV data j t) (h6:rdV data i t+rdV data j t≤6):0<(zbQ data t (zbw data (i.nodes+j.nodes) t i j) 7).length:=by
 have h8:=zgG hf
 obtain⟨R1,R2⟩:=(zd4 h8 (i.nodes+j.nodes)).1 t i j (by omega) hi hj h6
 have R3:∀ p∈zbw data (i.nodes+j.nodes) t i j,0≤rdV data p.1 t∧rdV data p.1 t≤6:=fun p hp=>by have:=R1 p hp;omega
 have h1:=zvJ R3 (fun _=>1)
 have h2:zaA (fun _=>1) (za9 data (i.nodes+j.nodes) t i j)=zaJ (fun _=>1) (zbw data (i.nodes+j.nodes) t i j):=(zfl data (i.nodes+j.nodes)).1 t i j (fun _=>1)
 have h3:=zvl (data:=data) (t:=t) (i:=i) (j:=j) (Nat.le_refl _) hi hj
 cases ho:zbQ data t (zbw data (i.nodes+j.nodes) t i j) 7 with
 | nil=>rw[ho,zdz]at h1;omega
 | cons p o=>simp
theorem zBO (data:List Dat) (hlen:data.length≤9223372036854775807) (t:VT) (i j:IT) (H:zaa) (K:Kt) (hK:K (.bool true) H) :
  ACalls tP zoB [.sl (data.map Dat.cs) .none,.agg t.cs,.agg i.cs,.agg j.cs] H K:=by
 refine ACalls.out (zPo fun hs=>?_)
 have hO:∀ J,Out H.length K (.bool true) (H++J):=fun J=>Out.bool rfl (Nat.le_refl _) hs hK
 obtain⟨x,y,z,hvx,hx,hy,hz⟩:=zbt t
 obtain⟨x2,y2,hvx2,hx2,hy2⟩:=zdJ i
 obtain⟨x3,y3,hvx3,hx3,hy3⟩:=zdJ j
 simp[zq3,hvx,hvx2,hvx3,Nat.add_assoc]
 rw[←hvx]
 refine zRZ data hlen t _ _ fun b0 hb0=>?_
 cases b0 with
 | false=>simp;exact hO _
 | true=>
 obtain⟨hk,ht⟩:=hb0 rfl
 simp[Nat.add_assoc]
 rw[←hvx2]
 refine zBE i _ _ fun b1 hb1=>?_
 cases b1 with
 | false=>simp;exact hO _
 | true=>
 have hi:=hb1 rfl
 simp[Nat.add_assoc]
 rw[←hvx3]
 refine zBE j _ _ fun b2 hb2=>?_
 cases b2 with
 | false=>simp;exact hO _
 | true=>
 have hj:=hb2 rfl
 simp[hvx,hvx2,hvx3,Nat.add_assoc]
 rw[←hvx,←hvx2,←hvx3]
 refine zxO hk t ht i j (by omega) (by omega) _ _ ?_
 rcases zDQ data hk t i j with ⟨e,he,hr⟩ | ⟨hf,d1,d2,d6,hr⟩
 ·rw[hr]
  have he':(e != 0)=true:=by simpa using he
  simp[he',Nat.add_assoc]
  refine ztV _ _ ?_
  exact hO _
 ·obtain⟨L1,L2⟩:=zEh hf d1 d2 d6
  have L0:=zDO hf d1 d2 d6
  rw[hr]
  obtain⟨L,hL⟩:∃ L,L=zbQ data t (zbw data (i.nodes+j.nodes) t i j) 7:=⟨_,rfl⟩
  rw[←hL]at L1 L2 L0 ⊢
  simp[hvx,hvx2,hvx3,Nat.add_assoc]
  rw[←hvx,←hvx2,←hvx3]
  refine zaE (.int .i64 (rdV data i t)) (fun J=>zrL data hk t (by omega) i (by omega) _ _ ⟨by rw[zdr hf],rfl⟩) ?_
  refine zaE (.int .i64 (rdV data j t)) (fun J=>zrL data hk t (by omega) j (by omega) _ _ ⟨by rw[zdr hf],rfl⟩) ?_
  try simp
  have hb0:HSc (H++[.cells t.cs,.cells i.cs,.cells j.cs]):=hs.append (by
   obtain⟨t1,t2,t3⟩:=t
   obtain⟨i1,i2⟩:=i
   obtain⟨j1,j2⟩:=j
   simp[AB.sc,AV.scA,AV.scB,VT.cs,IT.cs])
  refine zPm (Inv:=fun q t51 H'=>∃ k:Nat,k≤L.length∧L.length-k=q∧t51=.int .i64 k∧H'=H++[.cells t.cs,.cells i.cs,.cells j.cs]) L.length ?_ ?_
  ·intro _;exact⟨0,by omega,rfl,rfl,rfl⟩
  ·rintro q t51 H' ⟨k,hkl,rfl,rfl,rfl⟩ hsc8 hlen8 hsF8 Kb8 hKb8
   by_cases hlt:k<L.length
   ·obtain⟨l1,l2,l3,l4,l5,l6⟩:=L1 _ (List.getElem_mem hlt)
    have w:IntKind.i64.wrap (rdV data i t+rdV data j t)=rdV data i t+rdV data j t:=zat (by omega) (by omega)
    have g1:¬ (rdV data L[k].1 t<(if rdV data i t<rdV data j t then rdV data j t else rdV data i t)):=by split <;> omega
    have g2:¬ (rdV data i t+rdV data j t<rdV data L[k].1 t):=by omega
    have hsm:Sm (L[k].2:Int):=zdO (Nat.lt_of_le_of_lt l2 (by decide))
    have hsg:(L[k].2:Int).sign=1:=Int.sign_eq_one_of_pos (by omega)
    simp[zsd,hlt,zfm,zdA,zc2,zfn,hvx,Nat.add_assoc]
    rw[←hvx]
    refine⟨zfn _,?_⟩
    refine zrL data hk t (by omega) L[k].1 (by omega) _ _ ?_
    rw[zdr hf]
    simp[g1,g2,w,zc2,Nat.add_assoc]
    refine zN3 _ hsm _ _ ?_
    rw[hsg]
    simp[zc2,Nat.add_assoc]
    refine zOa _ hsm _ _ ?_
    simp[wi k (by omega)]
    exact hKb8 _ _ ⟨L.length-(k+1),by omega,Back.at (J:=[.cells (tmC L[k])]) (H2:=H++[.cells t.cs,.cells i.cs,.cells j.cs]) (by simp) (by simp) hb0 (by simp[zl0,ux,AV.sc,AV.scA,AV.scB,AV.scV]) ⟨_,rfl,k+1,by omega,rfl,rfl,rfl⟩⟩
   ·obtain rfl:k=L.length:=by omega
    simp[zsd,L0]
    refine ztV _ _ ?_
    exact hO _
end Go.Proofs.YtdmamdnkcefmmaaGreatDoor
namespace Go.Abs
open Go Go.RowKit

def zbA (P:Program):Nat→TypeId→List AV→Prop
 | 0,_,_=>False
 | n+1,t,asx=>match P.underlying t with
  | some .bool=>∃ b,asx=[.bool b]
  | some (.int k)=>∃ m,asx=[.int k m]∧(Lit.int k m).wf=true
  | some .string=>∃ s,asx=[.str s]∧s.length≤maxLen
  | some (.slice e)=>∃ es,asx=[.sl es .none]∧es.length≤maxLen∧∀ c∈es,zbA P n e c
  | some (.struct fs)=>asx.length=P.cellsOf t∧∀ f∈fs.toList,zbA P n f.type ((asx.drop f.offset).take (P.cellsOf f.type))
  | _=>False

def zeG (P:Program):List Field→Nat→Nat→Bool
 | [],at_,n=>at_ == n
 | f::fs,at_,n=>f.offset == at_ && zeG P fs (at_+P.cellsOf f.type) n
def zhj (P:Program) (S:List TypeId):Bool:=
 S.all fun t=>match P.underlying t with
  | some .bool | some (.int _) | some .string=>P.cellsOf t == 1
  | some (.slice e)=>S.contains e && decide (0<P.cellsOf e) && P.cellsOf t == 1
  | some (.struct fs)=>fs.toList.all (fun f=>S.contains f.type) && zeG P fs.toList 0 (P.cellsOf t)
  | _=>false

section
variable {Hh:Type} {enc:TypeId × Value→Hh} {P:Program} {w:World} {base:Nat} {spare:Nat→Bool} {held:Bool}

theorem zwX {R:Value→AV→Prop} {cs:List Value}:∀ (fs:List Field) (at_ n:Nat) (T:Field→List AV→Prop),zeG P fs at_ n=true→cs.length=n →
  (∀ f∈fs,∃ asx,All2 R ((cs.drop f.offset).take (P.cellsOf f.type)) asx∧T f asx)→at_≤n →
  ∃ asx,All2 R (cs.drop at_) asx∧∀ f∈fs,T f ((asx.drop (f.offset-at_)).take (P.cellsOf f.type))∧at_≤f.offset
 | [],at_,n,T,ht,hl,hf,hle=>by
  simp[zeG]at ht
  subst ht
  refine⟨[],?_,by simp⟩
  rw[List.drop_eq_nil_of_le (by omega)]
  trivial
 | f::fs,at_,n,T,ht,hl,hf,hle=>by
  simp only[zeG,Bool.and_eq_true,beq_iff_eq]at ht
  obtain⟨h1,h2⟩:=ht
  have hbound:∀ (fs:List Field) (k n:Nat),zeG P fs k n=true→k≤n:=by
   intro fs
   induction fs with
   | nil=>intro k n h;simp[zeG]at h;omega
   | cons g gs ih=>intro k n h;simp only[zeG,Bool.and_eq_true]at h;have:=ih _ _ h.2;omega
  have hb:=hbound fs _ _ h2
  obtain⟨as0,ha0,hT0⟩:=hf f (by simp)
  obtain⟨as1,ha1,hT1⟩:=zwX fs (at_+P.cellsOf f.type) n T h2 hl (fun g hg=>hf g (by simp[hg])) hb
  have hl0:as0.length=P.cellsOf f.type:=by
   have:=ha0.length
   rw[List.length_take,List.length_drop]at this
   omega
  refine⟨as0++as1,?_,?_⟩
  ·have:cs.drop at_=(cs.drop f.offset).take (P.cellsOf f.type)++cs.drop (at_+P.cellsOf f.type):=by
    rw[h1,←List.drop_drop,List.take_append_drop]
   rw[this]
   exact ha0.append ha1
  ·intro g hg
   rcases List.mem_cons.1 hg with rfl | hg
   ·rw[h1,Nat.sub_self,List.drop_zero,←hl0,List.take_left]
    exact⟨hT0,Nat.le_refl _⟩
   ·obtain⟨k1,k2⟩:=hT1 g hg
    refine⟨?_,by omega⟩
    have:(as0++as1).drop (g.offset-at_)=as1.drop (g.offset-(at_+P.cellsOf f.type)):=by
     rw[List.drop_append,List.drop_eq_nil_of_le (by omega),List.nil_append]
     congr 1
     omega
    rw[this]
    exact k1

theorem zib {a:Addr} {n:Nat} {cs:List Value} (h:w.cells? base a n=some cs):cs.length=n∧∀ j v,cs[j]?=some v→w.cell? (a.add j)=some v:=by
 unfold World.cells? at h
 split at h
 ·have h1:=mapM_some_length h
  refine⟨by simpa using h1,fun j v hj=>?_⟩
  have hjn:j<n:=by
   have:=(List.getElem?_eq_some_iff.1 hj).1
   simp at h1
   omega
  have:=mapM_some_get h j j (by simp[hjn])
  rw[this]
  exact hj
 ·cases h

theorem zDE {b o:Nat} {v:Value} (h:w.cell? ⟨b,o,none⟩=some v):o<zcj w b:=by
 unfold World.cell? at h
 unfold zcj
 split at h
 ·rename_i c t fr hb
  simp only[hb]
  simp at h
  exact (Array.getElem?_eq_some_iff.1 h).1
 ·cases h

theorem zw4 {S:List TypeId} (hS:zhj P S=true):∀ (n:Nat) (t:TypeId) (cs:List Value) (x:DataW Hh × List MemPlace),t∈S→DataW.trod enc P w base spare held n t cs=some x →
  ∃ asx,All2 (DRel w (zcj w)) cs asx∧zbA P n t asx:=by
 intro n
 induction n with
 | zero=>intro t cs x _ h;simp[DataW.trod]at h
 | succ n ih=>
  intro t cs x ht h
  have hp:=List.all_eq_true.1 hS t ht
  unfold zbA
  cases hu:P.underlying t with
  | none=>simp[hu]at hp
  | some d=>
   rw[hu]at hp
   cases d <;> simp only[]at hp <;> try (cases hp;done)
   case bool=>
    obtain⟨b,rfl,_⟩:=DataW.trod_bool hu h
    exact⟨[.bool b],⟨.bool b,trivial⟩,b,rfl⟩
   case int k=>
    obtain⟨m,rfl,_,hw⟩:=DataW.trod_int hu h
    exact⟨[.int k m],⟨.int k m,trivial⟩,m,rfl,hw⟩
   case string=>
    obtain⟨s,rfl,_,hw⟩:=DataW.trod_string hu h
    have hs:(⟨s.data.toList.toArray⟩:ByteArray)=s:=by simp
    refine⟨[.str s.data.toList],⟨?_,trivial⟩,s.data.toList,rfl,by rw[Array.length_toList];exact hw⟩
    have:=DRel.str (w:=w) (L:=zcj w) s.data.toList
    rwa [hs]at this
   case slice e=>
    simp only[Bool.and_eq_true,decide_eq_true_eq]at hp
    obtain⟨⟨he,hpos⟩,_⟩:=hp
    have he:e∈S:=by simpa using he
    rcases DataW.trod_slice hu h with ⟨rfl,_⟩ | ⟨a,len,cap,elems,rest,n',hn,rfl,_,hb,hl,hm,hlen,hel,_⟩
    ·exact⟨[.sl [] .none],⟨.slE _ _,trivial⟩,[],rfl,by simp,by simp⟩
    ·obtain rfl:n=n':=by omega
     have hat:∀ i,i<len→∃ cs asx,w.cells? base (a.add (i*P.cellsOf e)) (P.cellsOf e)=some cs∧All2 (DRel w (zcj w)) cs asx∧zbA P n e asx:=by
      intro i hi
      have h1:=hel i hi
      rw[List.getElem?_eq_getElem (by omega)]at h1
      cases hc:w.cells? base (a.add (i*P.cellsOf e)) (P.cellsOf e) with
      | none=>rw[hc]at h1;cases h1
      | some cs=>
       rw[hc]at h1
       obtain⟨asx,h2,h3⟩:=ih e cs _ he h1
       exact⟨cs,asx,rfl,h2,h3⟩
     by_cases h0:len=0
     ·subst h0
      exact⟨[.sl [] .none],⟨.slE _ _,trivial⟩,[],rfl,by simp,by simp⟩
     ·-- the address is a plain one
      have hspot:a.spot=none:=by
       obtain⟨cs,asx,h1,h2,_⟩:=hat 0 (by omega)
       obtain⟨h3,h4⟩:=zib h1
       have h5:=h4 0 cs[0] (by simp)
       have:=World.cell?_spot h5
       simpa[Addr.add]using this
      obtain⟨b,off,sp⟩:=a
      simp only at hspot
      subst hspot
      obtain⟨f,hf⟩:∃ f:Nat→List Value × List AV,∀ i,i<len→w.cells? base ((⟨b,off,none⟩:Addr).add (i*P.cellsOf e)) (P.cellsOf e)=some (f i).1∧All2 (DRel w (zcj w)) (f i).1 (f i).2∧zbA P n e (f i).2:=
       Deep.choose_lt (p:=fun i (y:List Value × List AV)=>w.cells? base ((⟨b,off,none⟩:Addr).add (i*P.cellsOf e)) (P.cellsOf e)=some y.1∧All2 (DRel w (zcj w)) y.1 y.2∧zbA P n e y.2)
        (fun i hi=>by obtain⟨cs,asx,h1,h2,h3⟩:=hat i hi;exact⟨(cs,asx),h1,h2,h3⟩)
      have hcell:∀ i,i<len→∀ j v,(f i).1[j]?=some v→w.cell? ⟨b,off+i*P.cellsOf e+j,none⟩=some v:=by
       intro i hi j v hj
       have:=(zib (hf i hi).1).2 j v hj
       rw[add_lit,add_lit]at this
       exact this
      have hlen2:∀ i,i<len→(f i).2.length=P.cellsOf e:=fun i hi=>by
       rw[←(hf i hi).2.1.length];exact (zib (hf i hi).1).1
      refine⟨[.sl ((List.range len).map fun i=>(f i).2) .none],⟨?_,trivial⟩,_,rfl,by simp;omega,?_⟩
      ·have:=DRel.sl (w:=w) (L:=zcj w) b off cap (P.cellsOf e) ((List.range len).map fun i=>(f i).2) (fun i j=>(f i).1.getD j undef) (by simp;exact h0) (by simpa using hl) ?_ ?_ ?_ ?_
       ·simpa using this
       ·-- the last cell is there
        have hi:len-1<len:=by omega
        have hj:P.cellsOf e-1<(f (len-1)).1.length:=by rw[(zib (hf _ hi).1).1];omega
        have:=zDE (hcell (len-1) hi (P.cellsOf e-1) _ (List.getElem?_eq_getElem hj))
        have hmul:(len-1)*P.cellsOf e+P.cellsOf e=len*P.cellsOf e:=by
         rw[←Nat.succ_mul];congr 1;omega
        simp
        omega
       ·intro i hi
        simp at hi
        simpa using hlen2 i hi
       ·intro i j hi hj
        simp at hi hj
        have hjl:j<(f i).1.length:=by rw[(hf i hi).2.1.length];exact hj
        simp only[List.getD_eq_getElem?_getD,List.getElem?_eq_getElem hjl,Option.getD_some]
        exact hcell i hi j _ (List.getElem?_eq_getElem hjl)
       ·intro i j hi hj
        simp at hi hj
        have hjl:j<(f i).1.length:=by rw[(hf i hi).2.1.length];exact hj
        obtain⟨c,h1,h2⟩:=(hf i hi).2.1.get' (List.getElem?_eq_getElem hjl)
        simp only[List.getD_eq_getElem?_getD,List.getElem?_eq_getElem hjl,Option.getD_some,List.getElem_map,List.getElem_range]
        have:(f i).2[j]=c:=by rw[List.getElem?_eq_getElem hj]at h1;exact Option.some.inj h1
        rw[this]
        exact h2
      ·intro c hc
       obtain⟨i,hi,rfl⟩:=List.mem_map.1 hc
       exact (hf i (by simpa using hi)).2.2
   case struct fs=>
    simp only[Bool.and_eq_true]at hp
    obtain⟨hfs,htile⟩:=hp
    obtain⟨xs,n',hn,_,hcl,hxl,hat⟩:=DataW.trod_struct hu h
    obtain rfl:n=n':=by omega
    obtain⟨asx,h1,h2⟩:=zwX (P:=P) (R:=DRel w (zcj w)) (cs:=cs) fs.toList 0 (P.cellsOf t) (fun f asx=>zbA P n f.type asx) htile hcl (fun f hf=>by
     obtain⟨i,hi⟩:=List.mem_iff_getElem?.1 hf
     have hi':fs[i]?=some f:=by simpa using hi
     have h3:=hat i f hi'
     have hlt:i<xs.length:=by rw[hxl];exact (Array.getElem?_eq_some_iff.1 hi').1
     rw[List.getElem?_eq_getElem hlt]at h3
     exact ih f.type _ _ (by simpa using List.all_eq_true.1 hfs f hf) h3) (Nat.zero_le _)
    rw[List.drop_zero]at h1
    refine⟨asx,h1,by rw[←h1.length];exact hcl,fun f hf=>?_⟩
    simpa using (h2 f hf).1
end

theorem zoV {Hh:Type} {enc:TypeId × Value→Hh} {P:Program} {w:World} {base:Nat} {spare:Nat→Bool} {held:Bool} {S:List TypeId} (hS:zhj P S=true) {t:TypeId} (ht:t∈S) {cs:Array Value} {d:DataW Hh} {p:List MemPlace}
  (h:DataW.Trod enc P w base spare held t (.agg cs) d p):∃ n asx,zbA P n t asx∧TRel w (G0 w) (.agg cs) (.agg asx):=by
 obtain⟨n,hn⟩:=h
 obtain⟨asx,h1,h2⟩:=zw4 hS n t _ _ ht hn
 exact⟨n,asx,h2,cs,rfl,h1.mono fun _ _ hd=>ARel.of_b (DRel.toB (G:=G0 w) hd)⟩
theorem zEq {Hh:Type} {enc:TypeId × Value→Hh} {P:Program} {w:World} {base:Nat} {spare:Nat→Bool} {held:Bool} {S:List TypeId} (hS:zhj P S=true) {t:TypeId} (ht:t∈S) {v:Value} {d:DataW Hh} {p:List MemPlace} (hv:v.cells=#[v])
  (h:DataW.Trod enc P w base spare held t v d p):∃ n a,zbA P n t [a]∧TRel w (G0 w) v a:=by
 obtain⟨n,hn⟩:=h
 obtain⟨asx,h1,h2⟩:=zw4 hS n t _ _ ht hn
 rw[hv]at h1
 match asx,h1,h2 with
 | [a],h1,h2=>exact⟨n,a,h2,TRel.of_v (VRel.of_a (ARel.of_b (DRel.toB (G:=G0 w) h1.1)))⟩
section
variable {P:Program} {n:Nat} {t:TypeId} {l:List AV}
theorem zjD {k:IntKind} (hu:P.underlying t=some (.int k)) (h:zbA P n t l):∃ m,l=[.int k m]∧(Lit.int k m).wf=true:=by
 cases n with
 | zero=>exact h.elim
 | succ n=>unfold zbA at h;rw[hu]at h;exact h
theorem zxf (hu:P.underlying t=some .string) (h:zbA P n t l):∃ s,l=[.str s]∧s.length≤maxLen:=by
 cases n with
 | zero=>exact h.elim
 | succ n=>unfold zbA at h;rw[hu]at h;exact h
theorem zhx {e:TypeId} (hu:P.underlying t=some (.slice e)) (h:zbA P n t l):∃ es n',n'<n∧l=[.sl es .none]∧es.length≤maxLen∧∀ c∈es,zbA P n' e c:=by
 cases n with
 | zero=>exact h.elim
 | succ n=>unfold zbA at h;rw[hu]at h;obtain⟨es,h1,h2,h3⟩:=h;exact⟨es,n,by omega,h1,h2,h3⟩
theorem zjE {fs:Array Field} (hu:P.underlying t=some (.struct fs)) (h:zbA P n t l):∃ n',n'<n∧l.length=P.cellsOf t∧∀ f∈fs.toList,zbA P n' f.type ((l.drop f.offset).take (P.cellsOf f.type)):=by
 cases n with
 | zero=>exact h.elim
 | succ n=>unfold zbA at h;rw[hu]at h;exact⟨n,by omega,h⟩
theorem zfN {α:Type} {cs:α→List AV}:∀ {es:List (List AV)},(∀ c∈es,∃ x,c=cs x)→∃ xs:List α,es=xs.map cs
 | [],_=>⟨[],rfl⟩
 | e::es,h=>by
  obtain⟨x,hx⟩:=h e (by simp)
  obtain⟨xs,hxs⟩:=zfN (es:=es) (fun c hc=>h c (by simp[hc]))
  exact⟨x::xs,by simp[hx,hxs]⟩
end
end Go.Abs
