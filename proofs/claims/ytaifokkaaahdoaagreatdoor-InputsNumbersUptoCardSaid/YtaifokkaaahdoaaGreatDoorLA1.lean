import Derived.Test.YtaifokkaaahdoaaGreatDoorKC1
import Derived.Test.YtaifokkaaahdoaaGreatDoorKNum
import Derived.Test.YtaifokkaaahdoaaGreatDoorProg
import Derived.KernelRfl
import Derived.Test.YtaifokkaaahdoaaGreatDoorKGT
set_option linter.unusedSimpArgs false
set_option linter.unusedVariables false
set_option linter.unusedSectionVars false
set_option maxRecDepth 100000
namespace Go.Proofs.YtaifokkaaahdoaaGreatDoor
mutual
theorem zk7:∀ v w:VT,v.same w=true↔v=w
 |.mk k n ks,.mk k' n' ks'=>by have h:=zy2 ks ks';simp only[VT.same,ac,aY,VT.mk.injEq,h,and_assoc]
theorem zy2:∀ v w:List VT,VT.sameL v w=true↔v=w
 |v::vs,w::ws=>by have h1:=zk7 v w;have h2:=zy2 vs ws;simp only[VT.sameL,ac,bk,h1,h2]
 |[],[]=>by simp[VT.sameL]
 |[],_::_=>by simp[VT.sameL]
 |_::_,[]=>by simp[VT.sameL]
end
theorem ziS{α:Type}(l:List α)(d n:Nat):(l.take d)[n]?=if n<d then l[n]? else none:=by
 by_cases h:n<d
 ·rw[aB h,List.getElem?_take_of_lt h]
 ·rw[ap h,List.getElem?_eq_none (by rw[aM];omega)]
theorem zI7{data:List Dat}{d:Nat}{vars k n:Int}{len:Nat}(h:(k == 5 && n == (d:Int))=false):zaK (data.take (d+1)) vars k n len=zaK (data.take d) vars k n len:=by
 unfold zaK;by_cases h5:k=5
 ·subst h5;have hn:n≠d:=by simpa using h
  simp only[ziS];by_cases h0:0≤n
  ·have:(n.toNat<d+1)=(n.toNat<d):=by apply propext;omega
   simp[this]
  ·simp[h0]
 ·have:(k == 5)=false:=by simpa using h5
  simp[this]
mutual
theorem zrS(data:List Dat)(d:Nat)(vars:Int):∀ t:VT,zcv d t=false→zaG (data.take (d+1)) vars t=zaG (data.take d) vars t
 |.mk k n ks=>by intro h;simp only[zcv,bw]at h;rw[zaG,zaG,zI7 h.1,zzT data d vars ks h.2]
theorem zzT(data:List Dat)(d:Nat)(vars:Int):∀ l:List VT,zfo d l=false→zaV (data.take (d+1)) vars l=zaV (data.take d) vars l
 |[]=>λ_=>rfl
 |t::ts=>by intro h;simp only[zfo,bw]at h;rw[zaV,zaV,zrS data d vars t h.1,zzT data d vars ts h.2]
end
mutual
theorem zxW(data:List Dat)(d:Nat)(vars:Int):∀ t:VT,zaG (data.take d) vars t=true→zcv d t=false
 |.mk k n ks=>by
  intro h;rw[zaG,ac]at h;rw[zcv,zxV data d vars ks h.2,cr];by_cases h5:k=5
  ·subst h5;have h1:=h.1;simp[zaK,ziS]at h1;obtain⟨h0,h2⟩:=h1;by_cases hn:n=d
   ·subst hn;simp at h2
   ·simpa using hn
  ·have:(k == 5)=false:=by simpa using h5
   simp[this]
theorem zxV(data:List Dat)(d:Nat)(vars:Int):∀ l:List VT,zaV (data.take d) vars l=true→zfo d l=false
 |[]=>λ_=>rfl
 |t::ts=>by intro h;rw[zaV,ac]at h;rw[zfo,zxW data d vars t h.1,zxV data d vars ts h.2];rfl
end
theorem zy5(data:List Dat)(vars:Int):∀ (l:List VT) (i:Nat),zcJ l i=true→((i+l.length:Nat):Int)≤vars→zaV data vars l=true∧VT.nodesL l=l.length
 |[],i,_,_=>⟨rfl,rfl⟩
 |.mk k n ks::l,i,h,hv=>by
  rw[zcJ,ac]at h;obtain⟨h1,h2⟩:=h;simp only[zie,ac,aY]at h1;obtain⟨⟨rfl,rfl⟩,h3⟩:=h1;have hk:ks=[]:=az h3;subst hk;obtain⟨h4,h5⟩:=zy5 data vars l (i+1) h2 (by simp at hv ⊢;omega);simp at hv;constructor
  ·simp[zaV,zaG,zaK,h4];omega
  ·simp[VT.nodesL,VT.nodes,h5];omega
theorem zwj(data:List Dat)(d:Nat)(hd:d<data.length)(h0:0≤(data[d]).vars)(h6:(data[d]).vars≤6)(t:VT):zc6 data d (data[d]).vars t=zeO data d (data[d]).vars t:=by
 unfold zc6 zeO;cases hs:zcb d (data[d]).vars t with
 |true=>
  obtain⟨k,n,ks⟩:=t;simp only[zcb,ac,aY]at hs;obtain⟨⟨⟨rfl,rfl⟩,hl⟩,hs⟩:=hs;obtain⟨h1,h2⟩:=zy5 (data.take (d+1)) (data[d]).vars ks 0 hs (by simp;omega);have hty:zaD (data.take (d+1)) (data[d]).vars (.mk 5 d ks)=true:=by simp[zaD,zaG,h1,VT.nodes,h2,zaK,ziS,hd,hl];omega
  simp[hty]
 |false=>
  simp only[bh];unfold zaD;cases hm:zcv d t with
  |false=>rw[zrS data d _ t hm];simp
  |true=>
   have:zaG (data.take d) (data[d]).vars t=false:=by
    cases h:zaG (data.take d) (data[d]).vars t with
    |false=>rfl
    |true=>rw[zxW data d _ t h]at hm;cases hm
   simp[this]
theorem zjN(data:List Dat):∀ (l:List Dat) (d:Nat),zck data l d=true↔∀ j (h:j<l.length),zca data (d+j) l[j]=true
 |[],d=>by simp[zck]
 |D::l,d=>by
  rw[zck,ac,zjN data l (d+1)];constructor
  ·rintro⟨h1,h2⟩ j hj;cases j with
   |zero=>exact h1
   |succ j=>have:=h2 j (by simpa using hj);rw[show d+(j+1)=d+1+j by omega];simpa using this
  ·intro h;refine⟨h 0 (by simp),λj hj=>?_⟩;have:=h (j+1) (by simpa using hj);rw[show d+(j+1)=d+1+j by omega]at this;simpa using this
theorem zGS(data:List Dat):zaB data=true↔RData data:=by
 unfold zaB;simp only[ac,aH,zjN,zcf,Bool.not_not,aF];constructor
 ·rintro⟨⟨⟨h1,h2⟩,h3⟩,h4⟩;refine⟨h1,λd hd=>?_,h3,h4⟩;have:=h2 d hd;simp only[zca,ac,aH,am]at this;obtain⟨⟨⟨⟨⟨q1,q2⟩,q3⟩,q4⟩,q5⟩,q6⟩:=this;refine⟨q2,q3,q4,q5,q1,λc hc=>?_⟩;have:=q6 c hc;simp only[zcU,ac,aH,am]at this;exact⟨this.1,this.2.1,λx hx=>by rw[←zwj data d hd q2 q3 x];exact this.2.2 x hx⟩
 ·rintro⟨h1,h2,h3,h4⟩;refine⟨⟨⟨h1,λd hd=>?_⟩,h3⟩,h4⟩;obtain⟨q2,q3,q4,q5,q1,q6⟩:=h2 d hd;simp only[zca,ac,aH,am];refine⟨⟨⟨⟨⟨q1,q2⟩,q3⟩,q4⟩,q5⟩,λc hc=>?_⟩;obtain⟨r1,r2,r3⟩:=q6 c hc;simp only[zcU,ac,aH,am];exact⟨r1,r2,λx hx=>by rw[zwj data d hd q2 q3 x];exact r3 x hx⟩
mutual
def zaE(data:List Dat):VT→VT→Bool
 |.mk vk vn vks,.mk k n al=>
  if k=1 then vk == 3 && decide (-1099511627776≤vn) && decide (vn≤1099511627776) && vks.length == 0
  else if k=2 then vk == 2 && (vn == 0 || vn == 1) && vks.length == 0
  else if k=3 then vk == 1 && vn == 0 && vks.length == 0
  else if k=6 then vk == 4 && vn == 0 && zcs data vks al
  else if k=5 then vk == 5 && decide (0≤vn) && decide (vn<8) && zfj data vks (za7 data (.mk k n al) vn)
  else if k=7 then vk == 6 && vn == 0 && decide (vks.length≤4096) && zcI data vks (al.getD 0 (.mk 0 0 []))
  else if k=8 then vk == 7 && vn == 0 && zcs data vks al
  else vk == 8 && decide (0≤vn) && decide (vn<64) && vks.length == 0
def zfj(data:List Dat):List VT→Option (List VT)→Bool
 |_,none=>false
 |[],some ts=>ts.isEmpty
 | v::vs,some ts=>match ts with
  |[]=>false
  |t::ts=>zaE data v t && zcs data vs ts
def zcs(data:List Dat):List VT→List VT→Bool
 |[],ts=>ts.isEmpty
 | v::vs,ts=>match ts with
  |[]=>false
  |t::ts=>zaE data v t && zcs data vs ts
def zcI(data:List Dat):List VT→VT→Bool
 |[],_=>true
 |v::vs,t=>zaE data v t && zcI data vs t
end
theorem zxi(data:List Dat)(vs ts:List VT):zfj data vs (some ts)=zcs data vs ts:=by
 cases vs with
 |nil=>cases ts <;> rw[zfj,zcs]
 |cons v vs=>cases ts <;> simp only[zfj,zcs]
theorem zxh(data:List Dat)(vs:List VT):zfj data vs none=false:=by cases vs <;> rw[zfj]
theorem zI8{data:List Dat}{m:Nat}{vars k n:Int}{len:Nat}(h:zaK (data.take m) vars k n len=true)(h4:k≠4):zaK data 0 k n len=true:=by
 unfold zaK at h ⊢;have h4':(k == 4)=false:=by simpa using h4
 rw[h4']at h ⊢;by_cases h5:k=5
 ·subst h5;simp only[ziS]at h;by_cases hm:n.toNat<m
  ·simpa[hm]using h
  ·simp[hm]at h
 ·have:(k == 5)=false:=by simpa using h5
  simpa[this]using h
theorem zzB(ks:List VT):∀ l:List VT,(zaR ks l).length=l.length
 |[]=>rfl
 |t::ts=>by simp[zaR,zzB ks ts]
mutual
theorem zzV{data:List Dat}{m:Nat}{vars:Int}{ks:List VT}(hk:∀ x∈ks,zaG data 0 x=true)(hl:(ks.length:Int)=vars):∀ a:VT,zaG (data.take m) vars a=true→zaG data 0 (subst ks a)=true
 |.mk k n al=>by
  intro h;rw[zaG,ac]at h;unfold subst;by_cases h4:k=4
  ·have h1:=h.1;subst h4;simp[zaK]at h1;rw[aB ⟨rfl,by omega,by omega⟩];have hn:n.toNat<ks.length:=by omega
   rw[List.getElem?_eq_getElem hn];exact hk _ (ae hn)
  ·rw[ap (λh=>h4 h.1),zaG,ac,zzB];exact⟨zI8 h.1 h4,zzU hk hl al h.2⟩
theorem zzU{data:List Dat}{m:Nat}{vars:Int}{ks:List VT}(hk:∀ x∈ks,zaG data 0 x=true)(hl:(ks.length:Int)=vars):∀ l:List VT,zaV (data.take m) vars l=true→zaV data 0 (zaR ks l)=true
 |[]=>by intro _;simp[zaR,zaV]
 |t::ts=>by intro h;rw[zaV,ac]at h;rw[zaR,zaV,ac];exact⟨zzV hk hl t h.1,zzU hk hl ts h.2⟩
end
theorem zzS{data:List Dat}{vars:Int}:∀ {l:List VT},zaV data vars l=true→∀ x∈l,zaG data vars x=true
 |[],_=>by simp
 |t::ts,h=>by
  rw[zaV,ac]at h;intro x hx;rcases aZ.1 hx with rfl|hx
  ·exact h.1
  ·exact zzS h.2 x hx
theorem zrR{data:List Dat}{vars:Int}{k n:Int}{ks:List VT}(h:zaG data vars (.mk k n ks)=true):∀x∈ks,zaG data vars x=true:=by rw[zaG,ac]at h;exact zzS h.2
theorem zfA{data:List Dat}{vars:Int}{k n:Int}{ks:List VT}(h:zaD data vars (.mk k n ks)=true):∀x∈ks,zaD data vars x=true:=by rw[zaD,ac,aH]at h;intro x hx;rw[zaD,ac,aH];exact⟨aC (zg3 x hx) h.1,zrR h.2 x hx⟩
theorem zGz{data:List Dat}(hD:zaB data=true){d c:Nat}(hd:d<data.length)(hc:c<data[d].cons.length):∀x∈(data[d].cons[c]).args,zaG (data.take (d+1)) data[d].vars x=true:=by simp only[zaB,ac,zjN,aF]at hD;have h1:=hD.1.1.2 d hd;simp only[zca,ac]at h1;have h2:=am.1 h1.2 _ (ae hc);simp only[zcU,ac]at h2;intro x hx;have h3:=am.1 h2.2.2 x hx;simp only[zc6,zaD,ac]at h3;exact h3.1.2
theorem zgY{data:List Dat}{k n:Int}{ks:List VT}{c:Int}{l:List VT}(h:za7 data (.mk k n ks) c=some l):
  k=5∧0≤n∧0≤c∧∃(hn:n.toNat<data.length) (hc:c.toNat<(data[n.toNat]).cons.length),(ks.length:Int)=(data[n.toNat]).vars∧l=((data[n.toNat]).cons[c.toNat]).args.map (subst ks)∧∀x∈l,x.nodes≤200:=by
 rw[zda]at h;split at h
 ·rename_i h5;split at h
  ·rename_i D hD;obtain⟨hn,rfl⟩:=List.getElem?_eq_some_iff.1 hD;split at h
   ·rename_i hv;split at h
    ·rename_i C hC;obtain⟨hc,rfl⟩:=List.getElem?_eq_some_iff.1 hC;split at h
     ·rename_i ha;simp only[bJ]at h;subst h;exact⟨h5.1,h5.2.1,h5.2.2,hn,hc,hv,rfl,λx hx=>ct (am.1 ha x hx)⟩
     ·cases h
    ·cases h
   ·cases h
  ·cases h
 ·cases h
theorem zjQ{data:List Dat}(hD:zaB data=true){t:VT}(ht:zaG data 0 t=true){c:Int}{l:List VT}(h:za7 data t c=some l):∀x∈l,zaD data 0 x=true:=by obtain⟨k,n,ks⟩:=t;obtain⟨rfl,h0,hc0,hn,hc,hv,rfl,hsz⟩:=zgY h;intro x hx;rw[zaD,ac,aH];refine⟨hsz x hx,?_⟩;obtain⟨a,ha,rfl⟩:=aV.1 hx;exact zzV (zrR ht) hv a (zGz hD hn hc a ha)
theorem zy6{ks:List VT}:∀ (l:List VT) (i:Nat),zcJ l i=true→i+l.length=ks.length→zaR ks l=ks.drop i
 |[],i,_,hl=>by simp at hl;subst hl;simp[zaR]
 |x::l,i,h,hl=>by
  rw[zcJ,ac]at h;obtain⟨k,n,al⟩:=x;simp only[zie,ac,aY]at h;obtain⟨⟨⟨rfl,rfl⟩,h3⟩,h4⟩:=h;simp at hl;have hi:i<ks.length:=by omega
  rw[af hi,zaR,zy6 l (i+1) h4 (by omega)];rw[subst,aB ⟨rfl,by omega,by omega⟩];simp[hi]
theorem zI0{ks:List VT}{d vars:Int}{a:VT}(h:zcb d vars a=true)(hl:(ks.length:Int)=vars):subst ks a=.mk 5 d ks:=by obtain⟨k,n,al⟩:=a;simp only[zcb,ac,aY]at h;obtain⟨⟨⟨rfl,rfl⟩,h3⟩,h4⟩:=h;rw[subst,ap (λh=>by have:=h.1;omega)];have:=zy6 (ks:=ks) al 0 h4 (by omega);rw[this,aU]
mutual
def zrg(rs:List (List Bool)):VT→List VT
 |.mk k n ks=>.mk k n ks::zhn rs ks (rs.getD n.toNat [])
def zhn(rs:List (List Bool)):List VT→List Bool→List VT
 |[],_=>[]
 | v::vs,bs=>match bs with
  |[]=>[]
  |b::bs=>(if b=true then zrg rs v else [])++zhn rs vs bs
end
mutual
theorem zII(rs:List (List Bool)):∀ v:VT,(zrg rs v).length≤v.nodes
 |.mk k n ks=>by have:=zyG rs ks (rs.getD n.toNat []);simp only[zrg,VT.nodes,List.length_cons];omega
theorem zyG(rs:List (List Bool)):∀ (vs:List VT) (bs:List Bool),(zhn rs vs bs).length≤VT.nodesL vs
 |[],_=>by simp[zhn,VT.nodesL]
 |v::vs,[]=>by simp[zhn]
 |v::vs,b::bs=>by
  have h1:=zII rs v;have h2:=zyG rs vs bs;simp only[zhn,VT.nodesL,ao];split
  ·omega
  ·simp;omega
end
section
variable (t0 t1 t3 t4 t5 t6 t8 t15 t16 t17 t18 t19 t20 t21 t31 t32 t33 t38 t39 t40 t45 t46 t47 t48:AV) (H:zaa) (K:Kt) (Kb5 Kb6 Kb11:Lt)
def zWX(_:Nat):List Bool:=[]
noncomputable def zWZ:=Tryz.f96.body.getD .skip
def zE3:=zaw t0 H λt1 H=>zaf 0 t1 λt3=>zae false 1 t3 H λt4=>ACalls tP zqk [t4] H λt5 H=>zac t5 true H (λK'=>zae true 4 t1 H (K' · H)) λt7 H=>zac t5 true H (λK'=>ACalls tP zqm [t7] H K') λt8 H=>zak t5 t8 (.bool false) λt9=>zac t9 true H (λK'=>zae true 4 t1 H (K' · H)) λt11 H=>zac t9 true H (λK'=>ACalls tP zqn [t11] H K') λt12 H=>zak t9 t12 (.bool false) λt13=>zac t13 true H (λK'=>zae true 4 t1 H (K' · H)) λt15 H=>zac t13 true H (λK'=>ACalls tP zqo [t15] H K') λt16 H=>zak t13 t16 (.bool false) λt17=>zac t17 true H (λK'=>zae true 4 t1 H (K' · H)) λt19 H=>zac t17 true H (λK'=>ACalls tP zqp [t19] H K') λt20 H=>zak t17 t20 (.bool false) λt21=>zac t21 true H (λK'=>zae true 4 t1 H (K' · H)) λt23 H=>zac t21 true H (λK'=>ACalls tP zqq [t23] H K') λt24 H=>zak t21 t24 (.bool false) λt25=>zac t25 true H (λK'=>zae true 4 t1 H (K' · H)) λt27 H=>zac t25 true H (λK'=>ACalls tP zqr [t27] H K') λt28 H=>zak t25 t28 (.bool false) λt29=>K t29 H
def zM9(_:Nat):List Bool:=[]
noncomputable def zNa:=Tryz.f132.body.getD .skip
def zBb:=zaw t0 H λt1 H=>zaf 2 t1 λt3=>zae false 1 t3 H λt4=>zah 1 t4 λt5=>zab .leq false t5 (.int .i64 3000) λt6=>zac t6 true H (λK'=>zaf 2 t1 (K' · H)) λt8 H=>zac t6 true H (λK'=>zae false 1 t8 H (K' · H)) λt9 H=>zac t6 true H (λK'=>zci zx3 [t1] (K' · H)) λt10 H=>zac t6 true H (λK'=>ACalls tP zed [t9,t10] H K') λt11 H=>zac t6 true H (λK'=>aUn .not t11 (K' · H)) λt12 H=>zak t6 t12 (.bool false) λt13=>K t13 H
def zmj:Nat→List Bool|6=>rl false [1,1,1,2,14,3,59]|_=>[]
noncomputable def zsR:=Tryz.f133.body.getD .skip
noncomputable def zNh:=Tryz.f133.results.toList
def zsS:=ux 1 (t1::ux 1 (t3::t4::ux 14 (t19::t20::t21::ux 59 [])))
def zNf:=zmj 6
noncomputable def zNd:=zas [1,1,1,1,0,1,0,0] zsR
def zNc:=zat tP zmj [1,1,1,1,0,1,0] zsR (zaA tP zNh K)
def zBf:=ALoop tP zNd (zNc K) (zsS t1 t3 t4 t19 t20 t21) H
def zBe:=zaf 0 t6 λt42=>zae false 1 t42 H λt43=>zcR t3 t43 (.bool true) H λH=>zaf 1 t6 λt44=>zae false 1 t44 H λt45=>zah 1 t45 λt46=>zab .gtr false t46 (.int .i64 6) λt47=>zac t47 false H (λK'=>zaf 0 t1 (K' · H)) λt49 H=>zac t47 false H (λK'=>zae false 1 t49 H (K' · H)) λt50 H=>zac t47 false H (λK'=>zaf 3 t6 (K' · H)) λt51 H=>zac t47 false H (λK'=>zae true 3 t51 H (K' · H)) λt52 H=>zac t47 false H (λK'=>ACalls tP zga [t50,t52,(.int .i64 0)] H K') λt53 H=>zac t47 false H (λK'=>aUn .not t53 (K' · H)) λt54 H=>zak t47 (.bool true) t54 λt55=>zag t55 (K (.bool false) H) (apu H (zaf 6 t6) λt56=>apu H (zan false 1 t56 H) λt57=>apu H (zab .lss false t57 (.int .i64 0)) λt58=>apm H t58 λt59=>zac t59 false H (λK'=>zad H (λK''=>zaf 6 t6 (K'' · H)) (K' · H)) λt60 H=>zac t59 false H (λK'=>zad H (λK''=>zan false 1 t60 H (K'' · H)) (K' · H)) λt61 H=>zac t59 false H (λK'=>zad H (λK''=>zaf 3 t1 (K'' · H)) (K' · H)) λt62 H=>zac t59 false H (λK'=>zad H (λK''=>zan false 1 t62 H (K'' · H)) (K' · H)) λt63 H=>zac t59 false H (λK'=>zad H (λK''=>zah 1 t63 (K'' · H)) (K' · H)) λt64 H=>zac t59 false H (λK'=>zad H (λK''=>zab .geq false t61 t64 (K'' · H)) (K' · H)) λt65 H=>apu H (zak t59 (.bool true) t65) λt66=>apm H t66 λt67=>zac t67 false H (λK'=>zad H (λK''=>zaf 3 t1 (K'' · H)) (K' · H)) λt68 H=>zac t67 false H (λK'=>zad H (λK''=>zan false 1 t68 H (K'' · H)) (K' · H)) λt69 H=>zac t67 false H (λK'=>zad H (λK''=>zaf 6 t6 (K'' · H)) (K' · H)) λt70 H=>zac t67 false H (λK'=>zad H (λK''=>zan false 1 t70 H (K'' · H)) (K' · H)) λt71 H=>zac t67 false H (λK'=>zad H (λK''=>zai 8 t69 t71 (K'' · H)) (K' · H)) λt72 H=>zac t67 false H (λK'=>zad H (λK''=>zaf 5 t72 (K'' · H)) (K' · H)) λt73 H=>zac t67 false H (λK'=>zad H (λK''=>zan true 3 t73 H (K'' · H)) (K' · H)) λt74 H=>zac t67 false H (λK'=>zad H (λK''=>zaf 3 t6 (K'' · H)) (K' · H)) λt75 H=>zac t67 false H (λK'=>zad H (λK''=>zan true 3 t75 H (K'' · H)) (K' · H)) λt76 H=>zac t67 false H (λK'=>zaF H (λH K''=>ACalls tP zH1 [t74,t76] H K'') (K' · H)) λt77 H=>zac t67 false H (λK'=>zad H (λK''=>aUn .not t77 (K'' · H)) (K' · H)) λt78 H=>apu H (zak t67 (.bool true) t78) λt79=>zag t79 (K (.bool false) H) (zab .add false t21 (.int .i64 1) λt80=>Kb6 (zsS t1 t3 t4 t19 t20 t80) H))
def zBd:=zab .lss false t21 t20 λt22=>zag t22 (zai 7 t19 t21 λt23=>zae true 7 t23 H λt24=>zay [(.str []),.snil,.snil,(.int .i64 0),(.int .i64 0),.snil,(.int .i64 0)] H λt6 H=>zam 7 t6 t24 H λH=>zaf 0 t6 λt25=>zae false 1 t25 H λt26=>zab .eql false t26 (.str []) λt27=>zag t27 (zBe t1 t3 (.bool true) t6 t19 t20 t21 H K Kb6) (zac t4 false H (λK'=>K' t3 H) λt30 H=>zac t4 false H (λK'=>zaf 0 t6 (K' · H)) λt31 H=>zac t4 false H (λK'=>zae false 1 t31 H (K' · H)) λt32 H=>zac t4 false H (λK'=>zdC (.bool false) false t30 t32 H (K' · H)) λt33 H=>zak t4 (.bool true) t33 λt34=>zac t34 false H (λK'=>zaf 2 t6 (K' · H)) λt36 H=>zac t34 false H (λK'=>zae false 1 t36 H (K' · H)) λt37 H=>zac t34 false H (λK'=>zah 1 t37 (K' · H)) λt38 H=>zac t34 false H (λK'=>zab .gtr false t38 (.int .i64 0) (K' · H)) λt39 H=>zak t34 (.bool true) t39 λt40=>zag t40 (K (.bool false) H) (zBe t1 t3 t4 t6 t19 t20 t21 H K Kb6))) (K (.bool true) H)
def zBc:=zaw t0 H λt1 H=>zaf 1 t1 λt7=>zae false 1 t7 H λt8=>zah 1 t8 λt9=>zab .gtr false t9 (.int .i64 64) λt10=>zac t10 false H (λK'=>zaf 3 t1 (K' · H)) λt12 H=>zac t10 false H (λK'=>zae false 1 t12 H (K' · H)) λt13 H=>zac t10 false H (λK'=>zah 1 t13 (K' · H)) λt14 H=>zac t10 false H (λK'=>zab .gtr false t14 (.int .i64 3000) (K' · H)) λt15 H=>zak t10 (.bool true) t15 λt16=>zag t16 (K (.bool false) H) (zd1 H λt17 H=>zaf 1 t1 λt18=>zae false 1 t18 H λt19=>zah 1 t19 λt20=>zBf t1 t17 (.bool false) t19 t20 (.int .i64 0) H K)
def zfH:Nat→List Bool|5=>rl false [1,1,2,2,12,3,54]|11=>rl false [1,1,2,2,25,3,41]|16=>rl false [1,1,2,2,2,1,22,3,12,3,26]|_=>[]
noncomputable def zi1:=Tryz.f134.body.getD .skip
noncomputable def zBo:=Tryz.f134.results.toList
def zsU:=ux 1 (t1::ux 2 (t4::t5::ux 12 (t18::t19::t20::ux 54 [])))
def zNq:=zfH 5
noncomputable def zNl:=zas [1,1,1,1,0,1,0,0] zi1
def zNj:=zat tP zfH [1,1,1,1,0,1,0] zi1 (zaA tP zBo K)
def zBm:=ALoop tP zNl (zNj K) (zsU t1 t4 t5 t18 t19 t20) H
def zBk:=ux 1 (t1::ux 2 (t4::t5::ux 25 (t31::t32::t33::ux 41 [])))
def zBn:=zfH 11
noncomputable def zsT:=zas [1,1,1,1,1,0,1,0,0] zi1
def zBh:=zat tP zfH [1,1,1,1,1,0,1,0] zi1 (zaA tP zBo K)
def zBl:=ALoop tP zsT (zBh K) (zBk t1 t4 t5 t31 t32 t33) H
def zNm:=ux 1 (t1::ux 2 (t4::t5::ux 2 (t8::ux 22 (t31::t32::t33::ux 12 (t46::t47::t48::ux 26 [])))))
noncomputable def zNk:=zas [1,1,0,0,1,1,1,0,0] zsT
def zNi:=zat tP zfH [1,1,0,0,1,1,1,0] zsT (zbp zBn Kb11 (zBh K))
def zNn:=ALoop tP zNk (zNi K Kb11) (zNm t1 t4 t5 t8 t31 t32 t33 t46 t47 t48) H
def zBi:=zab .lss false t33 t32 λt34=>zag t34 (zai 8 t31 t33 λt36=>zae true 8 t36 H λt37=>zay [(.int .i64 0),(.int .i64 0),.snil,.snil,.snil,(.int .i64 0),(.int .i64 0),.snil] H λt9 H=>zam 8 t9 t37 H λH=>zaf 3 t9 λt38=>zae false 1 t38 H λt39=>zah 1 t39 λt40=>zaf 4 t9 λt41=>zae false 1 t41 H λt42=>zah 1 t42 λt43=>zab .neq false t40 t43 λt44=>zag t44 (K (.bool false) H) (zaf 4 t9 λt45=>zae false 1 t45 H λt46=>zah 1 t46 λt47=>zNn t1 t4 t5 t33 t31 t32 t33 t46 t47 (.int .i64 0) H K Kb11)) (zae false 1 t4 H λt70=>zaf 3 t1 λt71=>zae false 1 t71 H λt72=>zah 1 t72 λt73=>zab .eql false t70 t73 λt74=>K t74 H)
def zBj:=zab .lss false t20 t19 λt21=>zag t21 (zai 7 t18 t20 λt22=>zae true 7 t22 H λt23=>zay [(.str []),.snil,.snil,(.int .i64 0),(.int .i64 0),.snil,(.int .i64 0)] H λt7 H=>zam 7 t7 t23 H λH=>zaf 6 t7 λt25=>zae false 1 t25 H λt26=>aCallV tP t5 [t26] H λt27 H=>aUn .not t27 λt28=>zag t28 (K (.bool false) H) (zab .add false t20 (.int .i64 1) λt29=>Kb5 (zsU t1 t4 t5 t18 t19 t29) H)) (zaf 3 t1 λt30=>zae false 1 t30 H λt31=>zah 1 t31 λt32=>zBl t1 t4 t5 t31 t32 (.int .i64 0) H K)
def zBg:=zaw t0 H λt1 H=>zaf 3 t1 λt12=>zae false 1 t12 H λt13=>zah 1 t13 λt14=>za9 1 [(.bool false)] t14 t14 H λt15 H=>zay [.snil] H λt3 H=>zam 1 t3 t15 H λH=>zay [(.int .i64 0)] H λt4 H=>zam 1 t4 (.int .i64 0) H λH=>zci zH2 [t3,t4] λt16=>zaf 1 t1 λt17=>zae false 1 t17 H λt18=>zah 1 t18 λt19=>zBm t1 t4 t16 t18 t19 (.int .i64 0) H K
def zfI:Nat→List Bool|5=>rl false [1,1,2,2,12,3,41]|11=>rl false [1,1,2,2,32,3,21]|14=>rl false [1,1,2,2,32,3,4,3,14]|_=>[]
noncomputable def zi2:=Tryz.f135.body.getD .skip
noncomputable def zBx:=Tryz.f135.results.toList
def zsW:=ux 1 (t1::ux 2 (t4::t5::ux 12 (t18::t19::t20::ux 41 [])))
def zNA:=zfI 5
noncomputable def zNv:=zas [1,1,1,1,0,1,0,0] zi2
def zNt:=zat tP zfI [1,1,1,1,0,1,0] zi2 (zaA tP zBx K)
def zBv:=ALoop tP zNv (zNt K) (zsW t1 t4 t5 t18 t19 t20) H
def zBt:=ux 1 (t1::ux 2 (t4::t5::ux 32 (t38::t39::t40::ux 21 [])))
def zBw:=zfI 11
noncomputable def zsV:=zas [1,1,1,1,1,0,1,0,0] zi2
def zBq:=zat tP zfI [1,1,1,1,1,0,1,0] zi2 (zaA tP zBx K)
def zBu:=ALoop tP zsV (zBq K) (zBt t1 t4 t5 t38 t39 t40) H
def zNw:=ux 1 (t1::ux 2 (t4::t5::ux 32 (t38::t39::t40::ux 4 (t45::t46::t47::ux 14 []))))
noncomputable def zNu:=zas [1,1,0,0,1,1,0,0] zsV
def zNs:=zat tP zfI [1,1,0,0,1,1,0] zsV (zbp zBw Kb11 (zBq K))
def zNx:=ALoop tP zNu (zNs K Kb11) (zNw t1 t4 t5 t38 t39 t40 t45 t46 t47) H
def zBr:=zab .lss false t40 t39 λt41=>zag t41 (zai 8 t38 t40 λt42=>zae true 8 t42 H λt43=>zay [(.int .i64 0),(.int .i64 0),.snil,.snil,.snil,(.int .i64 0),(.int .i64 0),.snil] H λt9 H=>zam 8 t9 t43 H λH=>zaf 3 t9 λt44=>zae false 1 t44 H λt45=>zah 1 t45 λt46=>zNx t1 t4 t5 t38 t39 t40 t45 t46 (.int .i64 0) H K Kb11) (zae false 1 t4 H λt57=>zaf 2 t1 λt58=>zae false 1 t58 H λt59=>zah 1 t59 λt60=>zab .eql false t57 t60 λt61=>K t61 H)
def zBs:=zab .lss false t20 t19 λt21=>zag t21 (zai 7 t18 t20 λt22=>zae true 7 t22 H λt23=>zay [(.str []),.snil,.snil,(.int .i64 0),(.int .i64 0),.snil,(.int .i64 0)] H λt7 H=>zam 7 t7 t23 H λH=>zaf 1 t7 λt25=>zae false 1 t25 H λt26=>aCallV tP t5 [t26] H λt27 H=>aUn .not t27 λt28=>zac t28 false H (λK'=>K' t5 H) λt30 H=>zac t28 false H (λK'=>zaf 2 t7 (K' · H)) λt31 H=>zac t28 false H (λK'=>zae false 1 t31 H (K' · H)) λt32 H=>zac t28 false H (λK'=>aCallV tP t30 [t32] H K') λt33 H=>zac t28 false H (λK'=>aUn .not t33 (K' · H)) λt34 H=>zak t28 (.bool true) t34 λt35=>zag t35 (K (.bool false) H) (zab .add false t20 (.int .i64 1) λt36=>Kb5 (zsW t1 t4 t5 t18 t19 t36) H)) (zaf 3 t1 λt37=>zae false 1 t37 H λt38=>zah 1 t38 λt39=>zBu t1 t4 t5 t38 t39 (.int .i64 0) H K)
def zBp:=zaw t0 H λt1 H=>zaf 2 t1 λt12=>zae false 1 t12 H λt13=>zah 1 t13 λt14=>za9 1 [(.bool false)] t14 t14 H λt15 H=>zay [.snil] H λt3 H=>zam 1 t3 t15 H λH=>zay [(.int .i64 0)] H λt4 H=>zam 1 t4 (.int .i64 0) H λH=>zci zH3 [t3,t4] λt16=>zaf 1 t1 λt17=>zae false 1 t17 H λt18=>zah 1 t18 λt19=>zBv t1 t4 t16 t18 t19 (.int .i64 0) H K
def zmk:Nat→List Bool|6=>rl false [4,2,9,3,25]|_=>[]
noncomputable def zsX:=Tryz.f136.body.getD .skip
noncomputable def zNH:=Tryz.f136.results.toList
def zsY:=ux 4 (t4::t5::ux 9 (t15::t16::t17::ux 25 []))
def zNF:=zmk 6
noncomputable def zND:=zas [1,1,1,1,1,0,1,0,0] zsX
def zNC:=zat tP zmk [1,1,1,1,1,0,1,0] zsX (zaA tP zNH K)
def zBA:=ALoop tP zND (zNC K) (zsY t4 t5 t15 t16 t17) H
def zBz:=zab .lss false t17 t16 λt18=>zag t18 (zai 7 t15 t17 λt19=>zae true 7 t19 H λt20=>zay [(.str []),.snil,.snil,(.int .i64 0),(.int .i64 0),.snil,(.int .i64 0)] H λt7 H=>zam 7 t7 t20 H λH=>zae false 1 t4 H λt21=>zaf 1 t7 λt22=>zae false 1 t22 H λt23=>aCallV tP t21 [t23,(.bool true)] H λt24 H=>zae false 1 t4 H λt25=>zaf 2 t7 λt26=>zae false 1 t26 H λt27=>aCallV tP t25 [t27,(.bool true)] H λt28 H=>zae false 1 t5 H λt29=>zaf 6 t7 λt30=>zae false 1 t30 H λt31=>aCallV tP t29 [t31] H λt32 H=>aUn .not t32 λt33=>zag t33 (K (.bool false) H) (zae false 1 t4 H λt34=>zaf 1 t7 λt35=>zae false 1 t35 H λt36=>aCallV tP t34 [t36,(.bool false)] H λt37 H=>zae false 1 t4 H λt38=>zaf 2 t7 λt39=>zae false 1 t39 H λt40=>aCallV tP t38 [t40,(.bool false)] H λt41 H=>zab .add false t17 (.int .i64 1) λt42=>Kb6 (zsY t4 t5 t15 t16 t42) H)) (K (.bool true) H)
def zBy:=zaw t0 H λt1 H=>zaf 2 t1 λt8=>zae false 1 t8 H λt9=>zah 1 t9 λt10=>za9 1 [(.bool false)] t10 t10 H λt11 H=>zay [.snil] H λt3 H=>zam 1 t3 t11 H λH=>zci zH4 [t3] λt12=>zay [.nilfn] H λt4 H=>zam 1 t4 t12 H λH=>zay [.nilfn] H λt5 H=>zci zH5 [t1,t3,t4,t5] λt13=>zam 1 t5 t13 H λH=>zaf 1 t1 λt14=>zae false 1 t14 H λt15=>zah 1 t15 λt16=>zBA t4 t5 t15 t16 (.int .i64 0) H K
variable {t0 t1 t3 t4 t5 t6 t8 t15 t16 t17 t18 t19 t20 t21 t31 t32 t33 t38 t39 t40 t45 t46 t47 t48} {H} {K} {Kb5 Kb6 Kb11}
theorem zW0(h:HSc H→zE3 t0 H K):ACalls tP zqZ [t0] H K:=
 acb zWX Tryz.func96 zWZ h
theorem zNb(h:HSc H→zBb t0 H K):ACalls tP zqm [t0] H K:=
 acb zM9 Tryz.func132 zNa h
theorem zNe:Lo2 (λt4 t21=>zsS t1 t3 t4 t19 t20 t21) (λt4 t21 H Kb6=>zBd t1 t3 t4 t19 t20 t21 H K Kb6) t4 t21 H (zBf t1 t3 t4 t19 t20 t21 H K):=lq2 zmj zNf
theorem zNg(h:HSc H→zBc t0 H K):ACalls tP zqn [t0] H K:=
 acb zmj Tryz.func133 zsR h
theorem zNo:Lo1 (λt33=>zBk t1 t4 t5 t31 t32 t33) (λt33 H Kb11=>zBi t1 t4 t5 t31 t32 t33 H K Kb11) t33 H (zBl t1 t4 t5 t31 t32 t33 H K):=lq1 zfH zBn
theorem zNp:Lo1 (λt20=>zsU t1 t4 t5 t18 t19 t20) (λt20 H Kb5=>zBj t1 t4 t5 t18 t19 t20 H K Kb5) t20 H (zBm t1 t4 t5 t18 t19 t20 H K):=lq1 zfH zNq
theorem zNr(h:HSc H→zBg t0 H K):ACalls tP zqo [t0] H K:=
 acb zfH Tryz.func134 zi1 h
theorem zNy:Lo1 (λt40=>zBt t1 t4 t5 t38 t39 t40) (λt40 H Kb11=>zBr t1 t4 t5 t38 t39 t40 H K Kb11) t40 H (zBu t1 t4 t5 t38 t39 t40 H K):=lq1 zfI zBw
theorem zNz:Lo1 (λt20=>zsW t1 t4 t5 t18 t19 t20) (λt20 H Kb5=>zBs t1 t4 t5 t18 t19 t20 H K Kb5) t20 H (zBv t1 t4 t5 t18 t19 t20 H K):=lq1 zfI zNA
theorem zNB(h:HSc H→zBp t0 H K):ACalls tP zqp [t0] H K:=
 acb zfI Tryz.func135 zi2 h
theorem zNE:Lo1 (λt17=>zsY t4 t5 t15 t16 t17) (λt17 H Kb6=>zBz t4 t5 t15 t16 t17 H K Kb6) t17 H (zBA t4 t5 t15 t16 t17 H K):=lq1 zmk zNF
theorem zNG(h:HSc H→zBy t0 H K):ACalls tP zqq [t0] H K:=
 acb zmk Tryz.func136 zsX h
end
section
variable (t0 t1 t3 t16 t17 t18 t28 t29 t30:AV) (H:zaa) (K:Kt) (Kb3 Kb9:Lt)
def zgn:Nat→List Bool|3=>rl false [1,1,1,1,12,3,30]|9=>rl false [3,1,24,3,18]|_=>[]
noncomputable def zi3:=Tryz.f137.body.getD .skip
noncomputable def zBG:=Tryz.f137.results.toList
def zsZ:=ux 1 (t1::ux 1 (t3::ux 12 (t16::t17::t18::ux 30 [])))
def zNO:=zgn 3
noncomputable def zNK:=zas [1,1,0,1,0,0] zi3
def zNI:=zat tP zgn [1,1,0,1,0] zi3 (zaA tP zBG K)
def zBE:=ALoop tP zNK (zNI K) (zsZ t1 t3 t16 t17 t18) H
def zs0:=ux 3 (t3::ux 24 (t28::t29::t30::ux 18 []))
def zNP:=zgn 9
noncomputable def zNL:=zas [1,1,1,0,1,0,0] zi3
def zNJ:=zat tP zgn [1,1,1,0,1,0] zi3 (zaA tP zBG K)
def zBF:=ALoop tP zNL (zNJ K) (zs0 t3 t28 t29 t30) H
def zBD:=zab .lss false t30 t29 λt31=>zag t31 (zai 7 t28 t30 λt33=>zae true 7 t33 H λt34=>zay [(.str []),.snil,.snil,(.int .i64 0),(.int .i64 0),.snil,(.int .i64 0)] H λt7 H=>zam 7 t7 t34 H λH=>zaf 0 t7 λt35=>zae false 1 t35 H λt36=>zab .eql false t36 (.str []) λt37=>zac t37 true H (λK'=>K' t3 H) λt39 H=>zac t37 true H (λK'=>zaM t39 (K' · H)) λt40 H=>zac t37 true H (λK'=>zaf 4 t40 (K' · H)) λt41 H=>zac t37 true H (λK'=>zae false 1 t41 H (K' · H)) λt42 H=>zac t37 true H (λK'=>K' t30 H) λt43 H=>zac t37 true H (λK'=>zai 1 t42 t43 (K' · H)) λt44 H=>zac t37 true H (λK'=>zae false 1 t44 H (K' · H)) λt45 H=>zac t37 true H (λK'=>zab .neq false t45 (.int .i64 1) (K' · H)) λt46 H=>zak t37 t46 (.bool false) λt47=>zag t47 (K (.bool false) H) (zab .add false t30 (.int .i64 1) λt48=>Kb9 (zs0 t3 t28 t29 t48) H)) (K (.bool true) H)
def zBC:=zab .lss false t18 t17 λt19=>zag t19 (zai 8 t16 t18 λt20=>zae true 8 t20 H λt21=>zay [(.int .i64 0),(.int .i64 0),.snil,.snil,.snil,(.int .i64 0),(.int .i64 0),.snil] H λt5 H=>zam 8 t5 t21 H λH=>zae true 8 t5 H λt23=>ACalls tP zH6 [t3,t23] H λt24 H=>aUn .not t24 λt25=>zag t25 (K (.bool false) H) (zab .add false t18 (.int .i64 1) λt26=>Kb3 (zsZ t1 t3 t16 t17 t26) H)) (zaf 1 t1 λt27=>zae false 1 t27 H λt28=>zah 1 t28 λt29=>zBF t3 t28 t29 (.int .i64 0) H K)
def zBB:=zaw t0 H λt1 H=>apu H (zan true 4 t1 H) λt8=>apu H (zaf 1 t1) λt9=>apu H (zan false 1 t9 H) λt10=>apu H (zah 1 t10) λt11=>za9 8 [(.int .i64 0)] t11 t11 H λt12 H=>apu H (zar [.snil,.snil,.snil,.snil,.snil] [(0,4),(4,1)] [(0,t8),(1,t12)]) λt13=>zaw t13 H λt14 H=>apm H t14 λt3=>zaf 3 t1 λt15=>zae false 1 t15 H λt16=>zah 1 t16 λt17=>zBE t1 t3 t16 t17 (.int .i64 0) H K
variable {t0 t1 t3 t16 t17 t18 t28 t29 t30} {H} {K} {Kb3 Kb9}
theorem zNN:Lo1 (λt30=>zs0 t3 t28 t29 t30) (λt30 H Kb9=>zBD t3 t28 t29 t30 H K Kb9) t30 H (zBF t3 t28 t29 t30 H K):=lq1 zgn zNP
theorem zNM:Lo1 (λt18=>zsZ t1 t3 t16 t17 t18) (λt18 H Kb3=>zBC t1 t3 t16 t17 t18 H K Kb3) t18 H (zBE t1 t3 t16 t17 t18 H K):=lq1 zgn zNO
theorem zNQ(h:HSc H→zBB t0 H K):ACalls tP zqr [t0] H K:=
 acb zgn Tryz.func137 zi3 h
end
section
variable (t0 t1 t2 t7 t8 t15 t16 t17:AV) (H:zaa) (K:Kt) (Kb2 Kb4:Lt)
def zTP(_:Nat):List Bool:=[]
noncomputable def zTR:=Tryz.f59.body.getD .skip
def zDR:=zaw t1 H λt3 H=>zar [.snil,.snil,.snil,.snil] [(0,1),(1,1),(2,1),(3,1)] [(0,t0)] λt6=>ACalls tP zqZ [t6] H λt7 H=>zac t7 true H (λK'=>K' t0 H) λt9 H=>zac t7 true H (λK'=>zae true 3 t3 H (K' · H)) λt10 H=>zac t7 true H (λK'=>ACalls tP zga [t9,t10,(.int .i64 0)] H K') λt11 H=>zak t7 t11 (.bool false) λt12=>K t12 H
def zW4(_:Nat):List Bool:=[]
noncomputable def zW5:=Tryz.f98.body.getD .skip
def zE6:=ACalls tP zqs [t0,t1] H λt7 H=>zab .geq false t7 (.int .i64 0) λt8=>K t8 H
def zmq:Nat→List Bool|2=>rl false [0,2,5,2,10]|_=>[]
noncomputable def zs4:=Tryz.f139.body.getD .skip
noncomputable def zN4:=Tryz.f139.results.toList
def zmr:=t0::t1::ux 5 (t7::t8::ux 10 [])
def zN2:=zmq 2
noncomputable def zN0:=zas [1,0,1,0,0] zs4
def zNZ:=zat tP zmq [1,0,1,0] zs4 (zaA tP zN4 K)
def zBM:=ALoop tP zN0 (zNZ K) (zmr t0 t1 t7 t8) H
def zs3:=zab .lss false t8 t7 λt9=>zag t9 (zai 3 t0 t8 λt14=>zae true 3 t14 H λt15=>aCallV tP t1 [t15] H λt16 H=>zag t16 (K t8 H) (zab .add false t8 (.int .i64 1) λt18=>Kb2 (zmr t0 t1 t7 t18) H)) (K (.int .i64 (-1)) H)
def zBL:=zah 1 t0 λt7=>zBM t0 t1 t7 (.int .i64 0) H K
def zTT(_:Nat):List Bool:=[]
noncomputable def zTU:=Tryz.f61.body.getD .skip
def ze2:=zaw t0 H λt3 H=>zaw t1 H λt4 H=>zaw t2 H λt5 H=>zaf 0 t5 λt9=>zae false 1 t9 H λt10=>zab .eql false t10 (.int .i64 1) λt12=>zag t12 (zaf 0 t4 λt13=>zae false 1 t13 H λt14=>zab .eql false t14 (.int .i64 3) λt15=>zac t15 true H (λK'=>zaf 1 t4 (K' · H)) λt17 H=>zac t15 true H (λK'=>zae false 1 t17 H (K' · H)) λt18 H=>zac t15 true H (λK'=>zab .leq false (.int .i64 (-1099511627776)) t18 (K' · H)) λt19 H=>zak t15 t19 (.bool false) λt20=>zac t20 true H (λK'=>zaf 1 t4 (K' · H)) λt22 H=>zac t20 true H (λK'=>zae false 1 t22 H (K' · H)) λt23 H=>zac t20 true H (λK'=>zab .leq false t23 (.int .i64 1099511627776) (K' · H)) λt24 H=>zak t20 t24 (.bool false) λt25=>zac t25 true H (λK'=>zaf 2 t4 (K' · H)) λt27 H=>zac t25 true H (λK'=>zae false 1 t27 H (K' · H)) λt28 H=>zac t25 true H (λK'=>zah 1 t28 (K' · H)) λt29 H=>zac t25 true H (λK'=>zab .eql false t29 (.int .i64 0) (K' · H)) λt30 H=>zak t25 t30 (.bool false) λt31=>K t31 H) (zab .eql false t10 (.int .i64 2) λt33=>zag t33 (zaf 0 t4 λt34=>zae false 1 t34 H λt35=>zab .eql false t35 (.int .i64 2) λt36=>zac t36 true H (λK'=>zaf 1 t4 (K' · H)) λt38 H=>zac t36 true H (λK'=>zae false 1 t38 H (K' · H)) λt39 H=>zac t36 true H (λK'=>zab .eql false t39 (.int .i64 0) (K' · H)) λt40 H=>zac t36 true H (λK'=>K' t40 H) λt41 H=>zac t41 false H (λK'=>zaf 1 t4 (K' · H)) λt42 H=>zac t41 false H (λK'=>zae false 1 t42 H (K' · H)) λt43 H=>zac t41 false H (λK'=>zab .eql false t43 (.int .i64 1) (K' · H)) λt44 H=>zac t36 true H (λK'=>zak t41 (.bool true) t44 (K' · H)) λt45 H=>zak t36 t45 (.bool false) λt46=>zac t46 true H (λK'=>zaf 2 t4 (K' · H)) λt48 H=>zac t46 true H (λK'=>zae false 1 t48 H (K' · H)) λt49 H=>zac t46 true H (λK'=>zah 1 t49 (K' · H)) λt50 H=>zac t46 true H (λK'=>zab .eql false t50 (.int .i64 0) (K' · H)) λt51 H=>zak t46 t51 (.bool false) λt52=>K t52 H) (zab .eql false t10 (.int .i64 3) λt54=>zag t54 (zaf 0 t4 λt55=>zae false 1 t55 H λt56=>zab .eql false t56 (.int .i64 1) λt57=>zac t57 true H (λK'=>zaf 1 t4 (K' · H)) λt59 H=>zac t57 true H (λK'=>zae false 1 t59 H (K' · H)) λt60 H=>zac t57 true H (λK'=>zab .eql false t60 (.int .i64 0) (K' · H)) λt61 H=>zak t57 t61 (.bool false) λt62=>zac t62 true H (λK'=>zaf 2 t4 (K' · H)) λt64 H=>zac t62 true H (λK'=>zae false 1 t64 H (K' · H)) λt65 H=>zac t62 true H (λK'=>zah 1 t65 (K' · H)) λt66 H=>zac t62 true H (λK'=>zab .eql false t66 (.int .i64 0) (K' · H)) λt67 H=>zak t62 t67 (.bool false) λt68=>K t68 H) (zab .eql false t10 (.int .i64 6) λt70=>zag t70 (zaf 0 t4 λt71=>zae false 1 t71 H λt72=>zab .eql false t72 (.int .i64 4) λt73=>zac t73 true H (λK'=>zaf 1 t4 (K' · H)) λt75 H=>zac t73 true H (λK'=>zae false 1 t75 H (K' · H)) λt76 H=>zac t73 true H (λK'=>zab .eql false t76 (.int .i64 0) (K' · H)) λt77 H=>zak t73 t77 (.bool false) λt78=>zac t78 true H (λK'=>zae false 1 t3 H (K' · H)) λt80 H=>zac t78 true H (λK'=>zaf 2 t4 (K' · H)) λt81 H=>zac t78 true H (λK'=>zae false 1 t81 H (K' · H)) λt82 H=>zac t78 true H (λK'=>zaf 2 t5 (K' · H)) λt83 H=>zac t78 true H (λK'=>zae false 1 t83 H (K' · H)) λt84 H=>zac t78 true H (λK'=>ACalls tP ziG [t80,t82,t84] H K') λt85 H=>zak t78 t85 (.bool false) λt86=>K t86 H) (zab .eql false t10 (.int .i64 5) λt88=>zag t88 (zaf 0 t4 λt89=>zae false 1 t89 H λt90=>zab .neq false t90 (.int .i64 5) λt91=>zac t91 false H (λK'=>zaf 1 t4 (K' · H)) λt93 H=>zac t91 false H (λK'=>zae false 1 t93 H (K' · H)) λt94 H=>zac t91 false H (λK'=>zab .lss false t94 (.int .i64 0) (K' · H)) λt95 H=>zak t91 (.bool true) t95 λt96=>zac t96 false H (λK'=>zaf 1 t4 (K' · H)) λt98 H=>zac t96 false H (λK'=>zae false 1 t98 H (K' · H)) λt99 H=>zac t96 false H (λK'=>zab .geq false t99 (.int .i64 8) (K' · H)) λt100 H=>zak t96 (.bool true) t100 λt101=>zag t101 (K (.bool false) H) (zae false 1 t3 H λt103=>zae true 3 t5 H λt104=>zaf 1 t4 λt105=>zae false 1 t105 H λt106=>ACalls tP zkU [t103,t104,t106] H λt107 H=>zaI t107 0 λt108=>zaI t107 1 λt109=>zac t109 true H (λK'=>zae false 1 t3 H (K' · H)) λt112 H=>zac t109 true H (λK'=>zaf 2 t4 (K' · H)) λt113 H=>zac t109 true H (λK'=>zae false 1 t113 H (K' · H)) λt114 H=>zac t109 true H (λK'=>K' t108 H) λt115 H=>zac t109 true H (λK'=>ACalls tP ziG [t112,t114,t115] H K') λt116 H=>zak t109 t116 (.bool false) λt117=>K t117 H)) (zab .eql false t10 (.int .i64 7) λt119=>zag t119 (zaf 0 t4 λt120=>zae false 1 t120 H λt121=>zab .eql false t121 (.int .i64 6) λt122=>zac t122 true H (λK'=>zaf 1 t4 (K' · H)) λt124 H=>zac t122 true H (λK'=>zae false 1 t124 H (K' · H)) λt125 H=>zac t122 true H (λK'=>zab .eql false t125 (.int .i64 0) (K' · H)) λt126 H=>zak t122 t126 (.bool false) λt127=>zac t127 true H (λK'=>zaf 2 t4 (K' · H)) λt129 H=>zac t127 true H (λK'=>zae false 1 t129 H (K' · H)) λt130 H=>zac t127 true H (λK'=>zah 1 t130 (K' · H)) λt131 H=>zac t127 true H (λK'=>zab .leq false t131 (.int .i64 4096) (K' · H)) λt132 H=>zak t127 t132 (.bool false) λt133=>zac t133 true H (λK'=>zaf 2 t4 (K' · H)) λt135 H=>zac t133 true H (λK'=>zae false 1 t135 H (K' · H)) λt136 H=>zac t133 true H (λK'=>zci zqa [t3,t5] (K' · H)) λt137 H=>zac t133 true H (λK'=>ACalls tP zq0 [t136,t137] H K') λt138 H=>zac t133 true H (λK'=>aUn .not t138 (K' · H)) λt139 H=>zak t133 t139 (.bool false) λt140=>K t140 H) (zab .eql false t10 (.int .i64 8) λt142=>zag t142 (zaf 0 t4 λt143=>zae false 1 t143 H λt144=>zab .eql false t144 (.int .i64 7) λt145=>zac t145 true H (λK'=>zaf 1 t4 (K' · H)) λt147 H=>zac t145 true H (λK'=>zae false 1 t147 H (K' · H)) λt148 H=>zac t145 true H (λK'=>zab .eql false t148 (.int .i64 0) (K' · H)) λt149 H=>zak t145 t149 (.bool false) λt150=>zac t150 true H (λK'=>zae false 1 t3 H (K' · H)) λt152 H=>zac t150 true H (λK'=>zaf 2 t4 (K' · H)) λt153 H=>zac t150 true H (λK'=>zae false 1 t153 H (K' · H)) λt154 H=>zac t150 true H (λK'=>zaf 2 t5 (K' · H)) λt155 H=>zac t150 true H (λK'=>zae false 1 t155 H (K' · H)) λt156 H=>zac t150 true H (λK'=>ACalls tP ziG [t152,t154,t156] H K') λt157 H=>zak t150 t157 (.bool false) λt158=>K t158 H) (zab .eql false t10 (.int .i64 9) λt160=>zag t160 (zaf 0 t4 λt161=>zae false 1 t161 H λt162=>zab .eql false t162 (.int .i64 8) λt163=>zac t163 true H (λK'=>zaf 1 t4 (K' · H)) λt165 H=>zac t163 true H (λK'=>zae false 1 t165 H (K' · H)) λt166 H=>zac t163 true H (λK'=>zab .leq false (.int .i64 0) t166 (K' · H)) λt167 H=>zak t163 t167 (.bool false) λt168=>zac t168 true H (λK'=>zaf 1 t4 (K' · H)) λt170 H=>zac t168 true H (λK'=>zae false 1 t170 H (K' · H)) λt171 H=>zac t168 true H (λK'=>zab .lss false t171 (.int .i64 64) (K' · H)) λt172 H=>zak t168 t172 (.bool false) λt173=>zac t173 true H (λK'=>zaf 2 t4 (K' · H)) λt175 H=>zac t173 true H (λK'=>zae false 1 t175 H (K' · H)) λt176 H=>zac t173 true H (λK'=>zah 1 t176 (K' · H)) λt177 H=>zac t173 true H (λK'=>zab .eql false t177 (.int .i64 0) (K' · H)) λt178 H=>zak t173 t178 (.bool false) λt179=>K t179 H) (K (.bool false) H))))))))
def zW7(_:Nat):List Bool:=[]
noncomputable def zW8:=Tryz.f100.body.getD .skip
def zE7:=zaw t0 H λt3 H=>zci zqu [t3] λt9=>ACalls tP zqt [t1,t2,t9] H λt10 H=>K t10 H
def zKW(_:Nat):List Bool:=[]
noncomputable def zKX:=Tryz.f102.body.getD .skip
def zAn:=zaw t0 H λt3 H=>apu H (zan false 1 t1 H) λt5=>apu H (zan true 3 t3 H) λt6=>apu H (zaf 2 t2) λt7=>apu H (zan false 1 t7 H) λt8=>apu H (zai 3 t8 (.int .i64 0)) λt9=>apu H (zan true 3 t9 H) λt10=>zaF H (λH K'=>ACalls tP zkI [t5,t6,t10] H K') λt11=>apu H (aUn .not t11) λt12=>apm H t12 λt4=>K t4 H
def zms:Nat→List Bool|4=>rl false [1,2,12,3,14]|_=>[]
noncomputable def zs7:=Tryz.f140.body.getD .skip
noncomputable def zOa:=Tryz.f140.results.toList
def zmt:=ux 1 (t1::t2::ux 12 (t15::t16::t17::ux 14 []))
def zN8:=zms 4
noncomputable def zN6:=zas [1,1,0,1,0,0] zs7
def zN5:=zat tP zms [1,1,0,1,0] zs7 (zaA tP zOa K)
def zBN:=ALoop tP zN6 (zN5 K) (zmt t1 t2 t15 t16 t17) H
def zs6:=zab .lss false t17 t16 λt18=>zag t18 (zai 3 t15 t17 λt20=>zae true 3 t20 H λt21=>zay [(.int .i64 0),(.int .i64 0),.snil] H λt8 H=>zam 3 t8 t21 H λH=>zai 3 t1 t17 λt24=>zae true 3 t24 H λt25=>zay [(.int .i64 0),(.int .i64 0),.snil] H λt9 H=>zam 3 t9 t25 H λH=>zae true 3 t8 H λt27=>zae true 3 t9 H λt28=>aCallV tP t2 [t27,t28] H λt29 H=>aUn .not t29 λt30=>zag t30 (K (.bool false) H) (zab .add false t17 (.int .i64 1) λt31=>Kb4 (zmt t1 t2 t15 t16 t31) H)) (K (.bool true) H)
def zs5:=zah 1 t0 λt11=>zah 1 t1 λt13=>zab .neq false t11 t13 λt14=>zag t14 (K (.bool false) H) (zah 1 t0 λt16=>zBN t1 t2 t0 t16 (.int .i64 0) H K)
def zOb(_:Nat):List Bool:=[]
noncomputable def zOc:=Tryz.f141.body.getD .skip
def zBO:=zaw t0 H λt3 H=>zaw t1 H λt4 H=>zae false 1 t2 H λt6=>zae true 3 t3 H λt7=>zae true 3 t4 H λt8=>ACalls tP zkI [t6,t7,t8] H λt9 H=>K t9 H
variable {t0 t1 t2 t7 t8 t15 t16 t17} {H} {K} {Kb2 Kb4}
theorem zTS(h:HSc H→zDR t0 t1 H K):ACalls tP zqT [t0,t1] H K:=
 acb zTP Tryz.func59 zTR h
theorem zW6(h:HSc H→zE6 t0 t1 H K):ACalls tP zq0 [t0,t1] H K:=
 acb zW4 Tryz.func98 zW5 h
theorem zN1:Lo1 (λt8=>zmr t0 t1 t7 t8) (λt8 H Kb2=>zs3 t0 t1 t7 t8 H K Kb2) t8 H (zBM t0 t1 t7 t8 H K):=lq1 zmq zN2
theorem zN3(h:HSc H→zBL t0 t1 H K):ACalls tP zqs [t0,t1] H K:=
 acb zmq Tryz.func139 zs4 h
theorem zTV(h:HSc H→ze2 t0 t1 t2 H K):ACalls tP zkI [t0,t1,t2] H K:=
 acb zTT Tryz.func61 zTU h
theorem zW9(h:HSc H→zE7 t0 t1 t2 H K):ACalls tP ziG [t0,t1,t2] H K:=
 acb zW7 Tryz.func100 zW8 h
theorem zKY(h:HSc H→zAn t0 t1 t2 H K):ACalls tP zqa [t0,t1,t2] H K:=
 acb zKW Tryz.func102 zKX h
theorem zN7:Lo1 (λt17=>zmt t1 t2 t15 t16 t17) (λt17 H Kb4=>zs6 t1 t2 t15 t16 t17 H K Kb4) t17 H (zBN t1 t2 t15 t16 t17 H K):=lq1 zms zN8
theorem zN9(h:HSc H→zs5 t0 t1 t2 H K):ACalls tP zqt [t0,t1,t2] H K:=
 acb zms Tryz.func140 zs7 h
theorem zOd(h:HSc H→zBO t0 t1 t2 H K):ACalls tP zqu [t0,t1,t2] H K:=
 acb zOb Tryz.func141 zOc h
end
section
variable (t0 t1 t2 t4 t5 t7 t10 t117:AV) (H:zaa) (K:Kt) (Kb4 Kb21:Lt)
def znm:Nat→List Bool|21=>rl false [0,1,3,2,1,1,2,1,174]|_=>[]
noncomputable def zt4:=Tryz.f29.body.getD .skip
noncomputable def zRK:=Tryz.f29.results.toList
def znn:=t0::ux 3 (t4::t5::ux 1 (t7::ux 2 (t10::ux 174 [])))
def zRI:=znm 21
noncomputable def zRG:=zas [1,1,0,1,0,1,1,1,1,1,1,1,1,1,1,1,0,1,0,1,0,0] zt4
def zRF:=zat tP znm [1,1,0,1,0,1,1,1,1,1,1,1,1,1,1,1,0,1,0,1,0] zt4 (zaA tP zRK K)
def zt5:=ALoop tP zRG (zRF K) (znn t0 t4 t5 t7 t10) H
def zt3:=zab .lss false t10 t7 λt153=>zag t153 (apm H t0 λt156=>apu H (zaf 2 t4) λt157=>apu H (zan false 1 t157 H) λt158=>apm H t10 λt159=>apu H (zai 3 t158 t159) λt160=>apu H (zan true 3 t160 H) λt161=>apu H (zaf 2 t5) λt162=>apu H (zan false 1 t162 H) λt163=>apu H (zai 3 t163 (.int .i64 0)) λt164=>apu H (zan true 3 t164 H) λt165=>zaF H (λH K'=>ACalls tP zkA [t156,t161,t165] H K') λt166=>apu H (aUn .not t166) λt167=>zag t167 (K (.bool false) H) (zab .add false t10 (.int .i64 1) λt155=>Kb21 (znn t0 t4 t5 t7 t155) H)) (K (.bool true) H)
def zje:=zag t117 (zaf 0 t5 λt120=>zae false 1 t120 H λt121=>zab .eql false t121 (.int .i64 7) λt122=>zac t122 true H (λK'=>zaf 0 t4 (K' · H)) λt124 H=>zac t122 true H (λK'=>zae false 1 t124 H (K' · H)) λt125 H=>zac t122 true H (λK'=>zab .neq false t125 (.int .i64 6) (K' · H)) λt126 H=>zac t122 true H (λK'=>K' t126 H) λt127 H=>zac t127 false H (λK'=>K' t7 H) λt128 H=>zac t127 false H (λK'=>zab .gtr false t128 (.int .i64 4096) (K' · H)) λt129 H=>zac t122 true H (λK'=>zak t127 (.bool true) t129 (K' · H)) λt130 H=>zak t122 t130 (.bool false) λt131=>zac t131 false H (λK'=>zaf 0 t5 (K' · H)) λt133 H=>zac t131 false H (λK'=>zae false 1 t133 H (K' · H)) λt134 H=>zac t131 false H (λK'=>zab .eql false t134 (.int .i64 8) (K' · H)) λt135 H=>zac t131 false H (λK'=>K' t135 H) λt136 H=>zac t136 true H (λK'=>zaf 0 t4 (K' · H)) λt137 H=>zac t136 true H (λK'=>zae false 1 t137 H (K' · H)) λt138 H=>zac t136 true H (λK'=>zab .neq false t138 (.int .i64 7) (K' · H)) λt139 H=>zac t136 true H (λK'=>K' t139 H) λt140 H=>zac t140 false H (λK'=>K' t7 H) λt141 H=>zac t140 false H (λK'=>zab .neq false t141 (.int .i64 1) (K' · H)) λt142 H=>zac t136 true H (λK'=>zak t140 (.bool true) t142 (K' · H)) λt143 H=>zac t131 false H (λK'=>zak t136 t143 (.bool false) (K' · H)) λt144 H=>zak t131 (.bool true) t144 λt145=>zac t145 false H (λK'=>zaf 1 t4 (K' · H)) λt147 H=>zac t145 false H (λK'=>zae false 1 t147 H (K' · H)) λt148 H=>zac t145 false H (λK'=>zab .neq false t148 (.int .i64 0) (K' · H)) λt149 H=>zak t145 (.bool true) t149 λt150=>zag t150 (K (.bool false) H) (zt5 t0 t4 t5 t7 (.int .i64 0) H K)) (zaf 0 t4 λt168=>zae false 1 t168 H λt169=>zab .eql false t169 (.int .i64 8) λt170=>zac t170 true H (λK'=>zaf 1 t4 (K' · H)) λt172 H=>zac t170 true H (λK'=>zae false 1 t172 H (K' · H)) λt173 H=>zac t170 true H (λK'=>zab .geq false t173 (.int .i64 0) (K' · H)) λt174 H=>zak t170 t174 (.bool false) λt175=>zac t175 true H (λK'=>zaf 1 t4 (K' · H)) λt177 H=>zac t175 true H (λK'=>zae false 1 t177 H (K' · H)) λt178 H=>zac t175 true H (λK'=>zab .lss false t178 (.int .i64 64) (K' · H)) λt179 H=>zak t175 t179 (.bool false) λt180=>zac t180 true H (λK'=>K' t7 H) λt182 H=>zac t180 true H (λK'=>zab .eql false t182 (.int .i64 0) (K' · H)) λt183 H=>zak t180 t183 (.bool false) λt184=>K t184 H)
def ze0:=zaw t1 H λt4 H=>zaw t2 H λt5 H=>zaf 2 t4 λt11=>zae false 1 t11 H λt12=>zah 1 t12 λt13=>zaf 0 t5 λt14=>zae false 1 t14 H λt15=>zab .eql false t15 (.int .i64 3) λt17=>zag t17 (zaf 0 t4 λt18=>zae false 1 t18 H λt19=>zab .eql false t19 (.int .i64 1) λt20=>zac t20 true H (λK'=>zaf 1 t4 (K' · H)) λt22 H=>zac t20 true H (λK'=>zae false 1 t22 H (K' · H)) λt23 H=>zac t20 true H (λK'=>zab .eql false t23 (.int .i64 0) (K' · H)) λt24 H=>zak t20 t24 (.bool false) λt25=>zac t25 true H (λK'=>K' t13 H) λt27 H=>zac t25 true H (λK'=>zab .eql false t27 (.int .i64 0) (K' · H)) λt28 H=>zak t25 t28 (.bool false) λt29=>K t29 H) (zab .eql false t15 (.int .i64 2) λt31=>zag t31 (zaf 0 t4 λt32=>zae false 1 t32 H λt33=>zab .eql false t33 (.int .i64 2) λt34=>zac t34 true H (λK'=>zaf 1 t4 (K' · H)) λt36 H=>zac t34 true H (λK'=>zae false 1 t36 H (K' · H)) λt37 H=>zac t34 true H (λK'=>zab .eql false t37 (.int .i64 0) (K' · H)) λt38 H=>zac t34 true H (λK'=>K' t38 H) λt39 H=>zac t39 false H (λK'=>zaf 1 t4 (K' · H)) λt40 H=>zac t39 false H (λK'=>zae false 1 t40 H (K' · H)) λt41 H=>zac t39 false H (λK'=>zab .eql false t41 (.int .i64 1) (K' · H)) λt42 H=>zac t34 true H (λK'=>zak t39 (.bool true) t42 (K' · H)) λt43 H=>zak t34 t43 (.bool false) λt44=>zac t44 true H (λK'=>K' t13 H) λt46 H=>zac t44 true H (λK'=>zab .eql false t46 (.int .i64 0) (K' · H)) λt47 H=>zak t44 t47 (.bool false) λt48=>K t48 H) (zab .eql false t15 (.int .i64 1) λt50=>zag t50 (zaf 0 t4 λt51=>zae false 1 t51 H λt52=>zab .eql false t52 (.int .i64 3) λt53=>zac t53 true H (λK'=>zaf 1 t4 (K' · H)) λt55 H=>zac t53 true H (λK'=>zae false 1 t55 H (K' · H)) λt56 H=>zac t53 true H (λK'=>zab .geq false t56 (.int .i64 (-1099511627776)) (K' · H)) λt57 H=>zak t53 t57 (.bool false) λt58=>zac t58 true H (λK'=>zaf 1 t4 (K' · H)) λt60 H=>zac t58 true H (λK'=>zae false 1 t60 H (K' · H)) λt61 H=>zac t58 true H (λK'=>zab .leq false t61 (.int .i64 1099511627776) (K' · H)) λt62 H=>zak t58 t62 (.bool false) λt63=>zac t63 true H (λK'=>K' t13 H) λt65 H=>zac t63 true H (λK'=>zab .eql false t65 (.int .i64 0) (K' · H)) λt66 H=>zak t63 t66 (.bool false) λt67=>K t67 H) (zab .eql false t15 (.int .i64 6) λt69=>zag t69 (zaf 0 t4 λt70=>zae false 1 t70 H λt71=>zab .eql false t71 (.int .i64 4) λt72=>zac t72 true H (λK'=>zaf 1 t4 (K' · H)) λt74 H=>zac t72 true H (λK'=>zae false 1 t74 H (K' · H)) λt75 H=>zac t72 true H (λK'=>zab .eql false t75 (.int .i64 0) (K' · H)) λt76 H=>zak t72 t76 (.bool false) λt77=>zac t77 true H (λK'=>K' t0 H) λt79 H=>zac t77 true H (λK'=>zaf 2 t4 (K' · H)) λt80 H=>zac t77 true H (λK'=>zae false 1 t80 H (K' · H)) λt81 H=>zac t77 true H (λK'=>zaf 2 t5 (K' · H)) λt82 H=>zac t77 true H (λK'=>zae false 1 t82 H (K' · H)) λt83 H=>zac t77 true H (λK'=>ACalls tP zkL [t79,t81,t83] H K') λt84 H=>zak t77 t84 (.bool false) λt85=>K t85 H) (zab .eql false t15 (.int .i64 5) λt87=>zag t87 (zaf 0 t4 λt88=>zae false 1 t88 H λt89=>zab .neq false t89 (.int .i64 5) λt90=>zac t90 false H (λK'=>zaf 1 t4 (K' · H)) λt92 H=>zac t90 false H (λK'=>zae false 1 t92 H (K' · H)) λt93 H=>zac t90 false H (λK'=>zab .lss false t93 (.int .i64 0) (K' · H)) λt94 H=>zak t90 (.bool true) t94 λt95=>zac t95 false H (λK'=>zaf 1 t4 (K' · H)) λt97 H=>zac t95 false H (λK'=>zae false 1 t97 H (K' · H)) λt98 H=>zac t95 false H (λK'=>zab .geq false t98 (.int .i64 8) (K' · H)) λt99 H=>zak t95 (.bool true) t99 λt100=>zag t100 (K (.bool false) H) (zae true 3 t5 H λt103=>zaf 1 t4 λt104=>zae false 1 t104 H λt105=>ACalls tP zkM [t0,t103,t105] H λt106 H=>zaI t106 0 λt107=>zaI t106 1 λt108=>zac t108 true H (λK'=>K' t0 H) λt111 H=>zac t108 true H (λK'=>zaf 2 t4 (K' · H)) λt112 H=>zac t108 true H (λK'=>zae false 1 t112 H (K' · H)) λt113 H=>zac t108 true H (λK'=>K' t107 H) λt114 H=>zac t108 true H (λK'=>ACalls tP zkL [t111,t113,t114] H K') λt115 H=>zak t108 t115 (.bool false) λt116=>K t116 H)) (zab .eql false t15 (.int .i64 7) λt118=>zag t118 (zje t0 t4 t5 t13 t118 H K) (zab .eql false t15 (.int .i64 8) λt119=>zje t0 t4 t5 t13 t119 H K))))))
def zn8:Nat→List Bool|4=>rl false [0,3,4,1,22]|_=>[]
noncomputable def zuN:=Tryz.f67.body.getD .skip
noncomputable def zUz:=Tryz.f67.results.toList
def zn9:=t0::t1::t2::ux 4 (t7::ux 22 [])
def zUx:=zn8 4
noncomputable def zUv:=zas [1,1,0,1,0,0] zuN
def zUu:=zat tP zn8 [1,1,0,1,0] zuN (zaA tP zUz K)
def zD4:=ALoop tP zUv (zUu K) (zn9 t0 t1 t2 t7) H
def zuM:=zah 1 t1 λt15=>zab .lss false t7 t15 λt16=>zag t16 (apm H t0 λt19=>apm H t1 λt20=>apm H t7 λt21=>apu H (zai 3 t20 t21) λt22=>apu H (zan true 3 t22 H) λt23=>apm H t2 λt24=>apm H t7 λt25=>apu H (zai 3 t24 t25) λt26=>apu H (zan true 3 t26 H) λt27=>zaF H (λH K'=>ACalls tP zkA [t19,t23,t27] H K') λt28=>apu H (aUn .not t28) λt29=>zag t29 (K (.bool false) H) (zab .add false t7 (.int .i64 1) λt18=>Kb4 (zn9 t0 t1 t2 t18) H)) (K (.bool true) H)
def zuL:=zah 1 t1 λt9=>zah 1 t2 λt11=>zab .neq false t9 t11 λt12=>zag t12 (K (.bool false) H) (zD4 t0 t1 t2 (.int .i64 0) H K)
variable {t0 t1 t2 t4 t5 t7 t10 t117} {H} {K} {Kb4 Kb21}
theorem zRH:Lo1 (λt10=>znn t0 t4 t5 t7 t10) (λt10 H Kb21=>zt3 t0 t4 t5 t7 t10 H K Kb21) t10 H (zt5 t0 t4 t5 t7 t10 H K):=lq1 znm zRI
theorem zRJ(h:HSc H→ze0 t0 t1 t2 H K):ACalls tP zkA [t0,t1,t2] H K:=
 acb znm Tryz.func29 zt4 h
theorem zUw:Lo1 (λt7=>zn9 t0 t1 t2 t7) (λt7 H Kb4=>zuM t0 t1 t2 t7 H K Kb4) t7 H (zD4 t0 t1 t2 t7 H K):=lq1 zn8 zUx
theorem zUy(h:HSc H→zuL t0 t1 t2 H K):ACalls tP zkL [t0,t1,t2] H K:=
 acb zn8 Tryz.func67 zuN h
end
def d4(data:List Dat):AV:=.agg [.sl (data.map Dat.cs) .none,.snil,.snil,.snil]
section
variable {H:zaa} {K:Kt} (data:List Dat)
theorem zKG(hK:K (.bool true) H):ACalls tP zqm [d4 data] H K:=by refine ACalls.out (zNb λhs=>?_);simp[zBb,d4];refine⟨rfl,ACalls.wk (args':=[.sl (VT.css []) .none,.fn zx3 [.ptr H.length 0]]) ?_ ⟨.atom .snil,.atom (.refl _),trivial⟩⟩;refine zjH [] (by simp) _ _ _ (by simp[AV.sc,AV.scV,AV.scA,AV.scB]) (λ_ H'=>H'=H++[.cells [.sl (data.map Dat.cs) .none,.snil,.snil,.snil]]) rfl (λi h=>by simp at h) ?_;rintro H' rfl;simp;exact Out.bool rfl (aa _) hs hK
theorem zGv(hK:K (.bool true) H):ACalls tP zqn [d4 data] H K:=by refine ACalls.out (zNg λhs=>?_);simp[zBc,d4];refine zNe (Inv:=λ_ _ t H'=>t=.int .i64 0∧H'=_) 0 (λ_=>⟨rfl,rfl⟩) ?_;rintro q t4 t H' ⟨rfl,rfl⟩ _ _ _ Kb hKb;simp[zBd];exact Out.bool rfl (aa _) hs hK
theorem zKh(hK:K (.bool true) H):ACalls tP zqo [d4 data] H K:=by refine ACalls.out (zNr λhs=>?_);simp[zBg,d4,za9];refine⟨⟨rfl,rfl⟩,zNp (Inv:=λ_ t H'=>t=.int .i64 0∧H'=_) 0 (λ_=>⟨rfl,rfl⟩) ?_⟩;rintro q t H' ⟨rfl,rfl⟩ _ _ _ Kb hKb;simp[zBj];refine zNo (Inv:=λ_ t H'=>t=.int .i64 0∧H'=_) 0 (λ_=>⟨rfl,rfl⟩) ?_;rintro q t H' ⟨rfl,rfl⟩ _ _ _ Kb2 hKb2;simp[zBi,ag];exact Out.bool rfl (aa _) hs hK
theorem zF6(hK:K (.bool true) H):ACalls tP zqp [d4 data] H K:=by refine ACalls.out (zNB λhs=>?_);simp[zBp,d4,za9];refine⟨⟨rfl,rfl⟩,zNz (Inv:=λ_ t H'=>t=.int .i64 0∧H'=_) 0 (λ_=>⟨rfl,rfl⟩) ?_⟩;rintro q t H' ⟨rfl,rfl⟩ _ _ _ Kb hKb;simp[zBs];refine zNy (Inv:=λ_ t H'=>t=.int .i64 0∧H'=_) 0 (λ_=>⟨rfl,rfl⟩) ?_;rintro q t H' ⟨rfl,rfl⟩ _ _ _ Kb2 hKb2;simp[zBr,ag];exact Out.bool rfl (aa _) hs hK
theorem zIY(hK:K (.bool true) H):ACalls tP zqq [d4 data] H K:=by refine ACalls.out (zNG λhs=>?_);simp[zBy,d4,za9];refine⟨rfl,⟨rfl,rfl,rfl,rfl⟩,zNE (Inv:=λ_ t H'=>t=.int .i64 0∧H'=_) 0 (λ_=>⟨rfl,rfl⟩) ?_⟩;rintro q t H' ⟨rfl,rfl⟩ _ _ _ Kb hKb;simp[zBz];exact Out.bool rfl (aa _) hs hK
theorem zG0(hK:K (.bool true) H):ACalls tP zqr [d4 data] H K:=by refine ACalls.out (zNQ λhs=>?_);simp[zBB,d4,za9,zar,zaL];refine zNM (Inv:=λ_ t H'=>t=.int .i64 0∧H'=_) 0 (λ_=>⟨rfl,rfl⟩) ?_;rintro q t H' ⟨rfl,rfl⟩ _ _ _ Kb hKb;simp[zBC];refine zNN (Inv:=λ_ t H'=>t=.int .i64 0∧H'=_) 0 (λ_=>⟨rfl,rfl⟩) ?_;rintro q t H' ⟨rfl,rfl⟩ _ _ _ Kb2 hKb2;simp[zBD];exact Out.bool rfl (aa _) hs hK
def zcW(data:List Dat)(t:VT):Bool:=zaB data && zaD data 0 t
end
theorem zHl(x:List VT)(hl:x.length≤1000000000)(fv:AV)(H:zaa)(K:AV→zaa→Prop)(hfv:fv.sc H.length=true)(Inv:Nat→zaa→Prop)(h0:Inv 0 H)(step:∀(i:Nat) (h:i<x.length) (H':zaa),H.length≤H'.length→Inv i H'→aCallV tP fv [.agg (x[i]).cs] H' λr H''=>(r=.bool false∧Inv (i+1) H'')∨(r=.bool true∧K (.int .i64 i) H''))(fin:∀H',Inv x.length H'→K (.int .i64 (-1)) H'):ACalls tP zqs [.sl (VT.css x) .none,fv] H K:=by
 refine zN3 λhs=>?_;simp[zBL];refine zN1 (Inv:=λq t8 H'=>∃i:Nat,i≤x.length∧q=x.length-i∧t8=.int .i64 i∧H.length≤H'.length∧Inv i H') x.length ?_ ?_
 ·intro _;exact⟨0,by omega,by omega,rfl,aa _,h0⟩
 ·rintro q t8 H' ⟨i,hi,rfl,rfl,hle,hI⟩ hsc hlen hsF Kb hKb;by_cases hlt:i<x.length
  ·simp[zs3,hlt];refine (step i hlt H' hle hI).mono' λr H'' hsc' hle' hr=>?_;rcases hr with ⟨rfl,hI'⟩ | ⟨rfl,hk⟩
   ·simp;rw[zaz (by omega) (by omega)];refine hKb _ _ ⟨x.length-(i+1),by omega,Back.here (by omega) hsc' ?_ ⟨_,rfl,i+1,by omega,rfl,by simp,by omega,hI'⟩⟩;simp[zmr,AV.sc,AV.scV,AV.scA,AV.scB];exact zb7 (by omega) hfv
   ·simpa using hk
  ·obtain rfl:i=x.length:=by omega
   simp[zs3];exact fin H' hI
theorem zGE(x:List VT)(hl:x.length≤1000000000)(fv:AV)(H:zaa)(K:AV→zaa→Prop)(hfv:fv.sc H.length=true)(Inv:Nat→zaa→Prop)(h0:Inv 0 H)(step:∀(i:Nat) (h:i<x.length) (H':zaa),H.length≤H'.length→Inv i H'→aCallV tP fv [.agg (x[i]).cs] H' λr H''=>(r=.bool false∧Inv (i+1) H'')∨(r=.bool true∧K (.bool true) H''))(fin:∀H',Inv x.length H'→K (.bool false) H'):ACalls tP zq0 [.sl (VT.css x) .none,fv] H K:=by
 refine zW6 λhs=>?_;unfold zE6;refine zHl x hl fv H _ hfv Inv h0 (λi h H' hle hI=>(step i h H' hle hI).mono' λr H'' _ _ hr=>?_) (λH' hI=>?_)
 ·rcases hr with hr | ⟨h1,h2⟩
  ·exact .inl hr
  ·refine .inr ⟨h1,?_⟩;have:decide ((0:Int)≤i)=true:=by simp
   simpa using h2
 ·simpa using fin H' hI
theorem zGZ(f:VT→VT→Bool)(fv:AV)(x y:List VT)(H:zaa)(hsc:fv.sc H.length=true)(hf:∀(i:Nat) (h1:i<x.length) (h2:i<y.length),x.length=y.length→∀(J:zaa) (K:AV→zaa→Prop),K (.bool (f x[i] y[i])) (H++J)→aCallV tP fv [.agg (x[i]).cs,.agg (y[i]).cs] (H++J) K)(hl:x.length≤1000000000)(K:AV→zaa→Prop)(hK:K (.bool (zbY f x y)) H):ACalls tP zqt [.sl (VT.css x) .none,.sl (VT.css y) .none,fv] H K:=by
 refine ACalls.out (zN9 λhs=>?_);have hO:∀J,Out H.length K (.bool (zbY f x y)) (H++J):=λJ=>Out.bool rfl (aa _) hs hK;by_cases hlen:x.length=y.length
 ·simp[zs5,hlen];refine zN7 (Inv:=λq t17 H'=>∃i:Nat,i≤x.length∧q=x.length-i∧t17=.int .i64 i∧zbY f (x.drop i) (y.drop i)=zbY f x y∧H=H') x.length ?_ ?_
  ·intro _;exact⟨0,by omega,by omega,rfl,by simp,rfl⟩
  ·rintro q t17 H' ⟨i,hi,rfl,rfl,ho,rfl⟩ hsc4 hlen2 hsF Kb hKb;by_cases hlt:i<x.length
   ·have hlt':i<y.length:=by omega
    have hltI:(i:Int)<y.length:=by omega
    rw[af hlt,af hlt',zbY]at ho;obtain⟨x1,x2,x3,hvx,hx1,hx2,hx3⟩:=zaO x[i];obtain⟨y1,y2,y3,hvy,hy1,hy2,hy3⟩:=zaO y[i];simp[zs6,hlt,hlt',hvx,hx1,hx2,hx3,hvy,hy1,hy2,hy3];rw[←hvx,←hvy];refine hf i hlt hlt' hlen _ _ ?_;cases hb:f x[i] y[i] with
    |false=>rw[hb,aL]at ho;rw[←ho]at hO;simp;exact hO _
    |true=>rw[hb,aR]at ho;simp;rw[zaz (by omega) (by omega)];refine hKb _ _ ⟨x.length-(i+1),by omega,Back.same (by simp) hs ?_ ⟨_,rfl,i+1,by omega,rfl,by simp,ho,rfl⟩⟩;simp[zmt,AV.sc,AV.scV,AV.scA,AV.scB];exact hsc
   ·have hlt':¬ i<y.length:=by omega
    obtain rfl:i=x.length:=by omega
    rw[au,hlen,au,zbY]at ho;rw[←ho]at hO;simp[zs6,hlt'];simpa using hO []
 ·have hl':((x.length:Int) != y.length)=true:=by simp;omega
  rw[zjP hlen]at hO;simp[zs5,hl'];simpa using hO []
mutual
def zbw:VT→Prop
 |.mk _ _ ks=>ks.length≤9223372036854775807∧zdS ks
def zdS:List VT→Prop
 |[]=>True
 |v::vs=>zbw v∧zdS vs
end
theorem zjT:∀ {ks:List VT},zdS ks→∀ x∈ks,zbw x
 |[],_,x,hx=>by simp at hx
 |v::vs,h,x,hx=>by
  rw[zdS]at h;rcases aZ.1 hx with e|hx
  ·rw[e];exact h.1
  ·exact zjT h.2 x hx
theorem zHm(x:List VT)(hl:x.length≤9223372036854775807)(fv:AV)(H:zaa)(K:AV→zaa→Prop)(hfv:fv.sc H.length=true)(Inv:Nat→zaa→Prop)(h0:Inv 0 H)(step:∀(i:Nat) (h:i<x.length) (H':zaa),H.length≤H'.length→Inv i H'→aCallV tP fv [.agg (x[i]).cs] H' λr H''=>(r=.bool false∧Inv (i+1) H'')∨(r=.bool true∧K (.int .i64 i) H''))(fin:∀H',Inv x.length H'→K (.int .i64 (-1)) H'):ACalls tP zko [.sl (VT.css x) .none,fv] H K:=by
 refine zB3 λhs=>?_;simp[ztr];refine zB2 (Inv:=λq t8 H'=>∃i:Nat,i≤x.length∧q=x.length-i∧t8=.int .i64 i∧H.length≤H'.length∧Inv i H') x.length ?_ ?_
 ·intro _;exact⟨0,by omega,by omega,rfl,aa _,h0⟩
 ·rintro q t8 H' ⟨i,hi,rfl,rfl,hle,hI⟩ hsc hlen hsF Kb hKb;by_cases hlt:i<x.length
  ·simp[zi7,hlt];refine (step i hlt H' hle hI).mono' λr H'' hsc' hle' hr=>?_;rcases hr with ⟨rfl,hI'⟩ | ⟨rfl,hk⟩
   ·simp;rw[zaz (by omega) (by omega)];refine hKb _ _ ⟨x.length-(i+1),by omega,Back.here (by omega) hsc' ?_ ⟨_,rfl,i+1,by omega,rfl,by simp,by omega,hI'⟩⟩;simp[zi8,AV.sc,AV.scV,AV.scA,AV.scB];exact zb7 (by omega) hfv
   ·simpa using hk
  ·obtain rfl:i=x.length:=by omega
   simp[zi7];exact fin H' hI
theorem zGF(x:List VT)(hl:x.length≤9223372036854775807)(fv:AV)(H:zaa)(K:AV→zaa→Prop)(hfv:fv.sc H.length=true)(Inv:Nat→zaa→Prop)(h0:Inv 0 H)(step:∀(i:Nat) (h:i<x.length) (H':zaa),H.length≤H'.length→Inv i H'→aCallV tP fv [.agg (x[i]).cs] H' λr H''=>(r=.bool false∧Inv (i+1) H'')∨(r=.bool true∧K (.bool true) H''))(fin:∀H',Inv x.length H'→K (.bool false) H'):ACalls tP zed [.sl (VT.css x) .none,fv] H K:=by
 refine zAp λhs=>?_;unfold zsg;refine zHm x hl fv H _ hfv Inv h0 (λi h H' hle hI=>(step i h H' hle hI).mono' λr H'' _ _ hr=>?_) (λH' hI=>?_)
 ·rcases hr with hr | ⟨h1,h2⟩
  ·exact .inl hr
  ·refine .inr ⟨h1,?_⟩;have:decide ((0:Int)≤i)=true:=by simp
   simpa using h2
 ·simpa using fin H' hI
section
variable (data:List Dat) (vars:Int)
theorem zKJ:∀ (m:Nat) (v:VT),v.nodes≤m→zbw v→∀ (left:Int),left≤1000000→-1≤left→∀ (H:zaa) (id:Nat),H[id]?=some (zaY data vars left)→∀ (K:AV→zaa→Prop),
  (zaG data vars v=true→(v.nodes:Int)≤left→K (.bool true) (H.set id (zaY data vars (left-v.nodes))))→(¬(zaG data vars v=true∧(v.nodes:Int)≤left)→∀l',K (.bool false) (H.set id (zaY data vars l'))) →
  ACalls tP zim [.ptr id 0,.agg v.cs] H K:=by
 intro m;induction m with
 |zero=>intro v h;have:=v.nodes_pos;omega
 |succ m ih=>
  intro v hv hb left hl1 hl0 H id hid K hK hF;obtain⟨k,n,ks⟩:=v;have hlt:=zf1 hid;have hnn:(VT.mk k n ks).nodes=VT.nodesL ks+1:=by simp[VT.nodes]
  have hfit:ks.length≤9223372036854775807∧zdS ks:=by rw[zbw]at hb;exact hb
  refine ACalls.out (zBK λhs=>?_)
  -- the heap within: the receiver's copy and the type's
  generalize hJ:([.cells [.ptr id 0],.cells [.int .i64 k,.int .i64 n,.sl (VT.css ks) .none]]:zaa)=J;have hJ0:J[0]?=some (.cells [.ptr id 0]):=by subst hJ;rfl
  have hJ1:J[1]?=some (.cells [.int .i64 k,.int .i64 n,.sl (VT.css ks) .none]):=by subst hJ;rfl
  have hget:∀l',(H.set id (zaY data vars l')++J)[id]?=some (zaY data vars l'):=λl'=>zcB (zem _ hid);have bad:(¬(zaG data vars (.mk k n ks)=true∧((VT.mk k n ks).nodes:Int)≤left))→∀l',Out H.length K (.bool false) (H.set id (zaY data vars l')++J):=λh l'=>
   Out.bool rfl (by simp) (hs.set rfl) (hF h l')
  have badS:zaK data vars k n ks.length=false→∀l',Out H.length K (.bool false) (H.set id (zaY data vars l')++J):=λh l'=>bad (λ⟨h1,_⟩=>by simp[zaG,h]at h1) l'
  -- the arguments
  have args:zaK data vars k n ks.length=true→1≤left→∀ KK:AV→zaa→Prop,(∀ H',Out H.length K (.bool true) H'→KK (.bool false) H')→(∀ H',Out H.length K (.bool false) H'→KK (.bool true) H') →
    ACalls tP zed [.sl (VT.css ks) .none,.fn ziq [.ptr H.length 0]] (H.set id (zaY data vars (left-1))++J) KK:=by
   intro hsh h1 KK hKf hKt;subst hJ;refine zGF ks hfit.1 _ _ _ (by simp[AV.sc,AV.scV,AV.scA,AV.scB]) (λi H'=>(VT.nodesL (ks.take i):Int)+1≤left∧zaV data vars (ks.take i)=true∧H'=H.set id (zaY data vars (left-1-VT.nodesL (ks.take i)))++[.cells [.ptr id 0],.cells [.int .i64 k,.int .i64 n,.sl (VT.css ks) .none]]) ⟨by simp[VT.nodesL];omega,by simp[zaV],by simp[VT.nodesL]⟩ ?_ ?_
   ·rintro i hi H' hle ⟨hb1,hb2,rfl⟩;have hki:=VT.kid_lt (k:=k) (n:=n) hi;have h1:=VT.nodesL_take hi;have h2:=VT.nodesL_take_le ks (i+1);have hokL:zaV data vars (ks.take (i+1))=(zaV data vars (ks.take i) && zaG data vars ks[i]):=by
     rw[aj hi];have:∀(l:List VT) (x:VT),zaV data vars (l++[x])=(zaV data vars l && zaG data vars x):=by
      intro l x;induction l with
      |nil=>simp[zaV]
      |cons a l ih=>simp[zaV,ih,Bool.and_assoc]
     exact this _ _
    simp only[aCallV,zww,List.singleton_append];refine ACalls.out (zCq λhs1=>?_);have hH1:∀l',HSc (H.set id (zaY data vars l')++[.cells [.ptr id 0],.cells [.int .i64 k,.int .i64 n,.sl (VT.css ks) .none]]):=λl'=>(hs.set rfl).append (by simp[AB.sc,AV.scA,AV.scB];omega);obtain⟨x1,x2,x3,hvx,hx1,hx2,hx3⟩:=zaO ks[i];have hll2:(H.set id (zaY data vars (left-1-VT.nodesL (ks.take i)))).length=H.length:=by simp
    have hg1:(H.set id (zaY data vars (left-1-VT.nodesL (ks.take i)))++[AB.cells [.ptr id 0],.cells [.int .i64 k,.int .i64 n,.sl (VT.css ks) .none],.cells [x1,x2,x3]])[H.length]?=some (.cells [.ptr id 0]):=by rw[List.getElem?_append_right (by simp)];simp
    have hg2:(H.set id (zaY data vars (left-1-VT.nodesL (ks.take i)))++[AB.cells [.ptr id 0],.cells [.int .i64 k,.int .i64 n,.sl (VT.css ks) .none],.cells [x1,x2,x3]])[H.length+2]?=some (.cells [x1,x2,x3]):=by rw[List.getElem?_append_right (by simp)];simp
    simp[ztG,hvx,hg1,hg2,hll2];rw[←hvx];refine ih ks[i] (by omega) (zjT hfit.2 _ (ae hi)) (left-1-VT.nodesL (ks.take i)) (by omega) (by omega) _ id (zcB (zem _ hid)) _ ?_ ?_
    ·intro ho hle2;rw[zgO _ (zem _ hid),cy,show left-1-(VT.nodesL (ks.take i):Int)-(ks[i]).nodes=left-1-VT.nodesL (ks.take (i+1)) by omega];simp;refine Out.bool (J:=[_]) (H2:=H.set id (zaY data vars (left-1-VT.nodesL (ks.take (i+1))))++[.cells [.ptr id 0],.cells [.int .i64 k,.int .i64 n,.sl (VT.css ks) .none]]) (by simp;rfl) (by simp) (hH1 _) (.inl ⟨rfl,by omega,by rw[hokL,hb2,ho];rfl,rfl⟩)
    ·intro ho l';rw[zgO _ (zem _ hid),cy];simp;have hno:¬(zaG data vars (.mk k n ks)=true∧((VT.mk k n ks).nodes:Int)≤left):=by
      rintro⟨g1,g2⟩;have hall:zaV data vars ks=true:=by simp[zaG]at g1;exact g1.2
      exact ho ⟨zzR data vars ks i hi hall,by omega⟩
     have hb3:=bad hno l';exact Out.bool (J:=[_]) (H2:=H.set id (zaY data vars l')++[.cells [.ptr id 0],.cells [.int .i64 k,.int .i64 n,.sl (VT.css ks) .none]]) (by simp;rfl) (by simp) (hH1 _) (.inr ⟨rfl,hKt _ hb3⟩)
   ·rintro H' ⟨hb1,hb2,rfl⟩;rw[aw]at *;refine hKf _ ?_;refine Out.bool rfl (by simp) (hs.set rfl) ?_;have:=hK (by simp[zaG,hsh,hb2]) (by omega);rw[hnn]at this;rw[show left-1-(VT.nodesL ks:Int)=left-((VT.nodesL ks+1:Nat):Int) by omega];exact this
  -- behind the shape
  have fin:∀ lo hi:Int,(k≠4→k≠5→n≠0→zaK data vars k n ks.length=false)→((ks.length:Int)<lo∨hi<(ks.length:Int)→zaK data vars k n ks.length=false)→1≤left →
    ((k=4∨k=5∨n=0)→lo≤(ks.length:Int)→(ks.length:Int)≤hi→zaK data vars k n ks.length=true) →
    zdT (.ptr H.length 0) (.ptr (H.length+1) 0) (.int .i64 lo) (.int .i64 hi) (H.set id (zaY data vars (left-1))++J) (Out H.length K):=by
   intro lo hi hz hr h1 hok;have hg3:(H.set id (zaY data vars (left-1))++J)[H.length+1]?=some (.cells [.int .i64 k,.int .i64 n,.sl (VT.css ks) .none]):=by rw[List.getElem?_append_right (by simp)];subst hJ;simp
   by_cases hcase:k=4∨k=5∨n=0
   ·have h3:(k != 4)=false∨((k != 4)=true∧(k != 5)=false)∨((k != 4)=true∧(k != 5)=true∧(n != 0)=false):=by
     by_cases g4:k=4
     ·left;simp[g4]
     ·by_cases g5:k=5
      ·right;left;simp[g5]
      ·right;right;simp[g4,g5];omega
    rcases h3 with g|⟨g,g'⟩|⟨g,g',g''⟩;case' inl=>simp[zdT,hg3,hJ1,g]
    case' inr.inl=>simp[zdT,hg3,hJ1,g,g']
    case' inr.inr=>simp[zdT,hg3,hJ1,g,g',g'']
    all_goals
     by_cases hlo:(ks.length:Int)<lo
     ·simp[hlo];exact badS (hr (.inl hlo)) _
     ·by_cases hhi:hi<(ks.length:Int)
      ·simp[hlo,hhi,hJ1];exact badS (hr (.inr hhi)) _
      ·simp[hlo,hhi,AV.isB,hJ1];refine args (hok hcase (by omega) (by omega)) h1 _ (λH' ho=>?_) (λH' ho=>?_) <;> simpa using ho
   ·have g:(k != 4)=true:=by simp;omega
    have g':(k != 5)=true:=by simp;omega
    have g'':(n != 0)=true:=by simp;omega
    simp[zdT,hg3,hJ1,g,g',g''];exact badS (hz (by omega) (by omega) (by omega)) _
  have start:(H++J)[id]?=some (zaY data vars left):=zcB hid;have hmain:zml (.ptr H.length 0) (.ptr (H.length+1) 0) (H.set id (zaY data vars (left-1))++J) (Out H.length K):=by
   refine zBH λhs1=>?_;have hgv:=hget (left-1);unfold zaY at hgv;by_cases h0:left-1<0
   ·simp[zi4,hJ0,zaY,hgv,h0];exact bad (λh=>by have:=h.2;rw[hnn]at this;omega) _
   have h1:1≤left:=by omega
   simp[zi4,hJ0,hJ1,zaY,hgv,h0];refine zBJ λ_=>?_;have hfin:=λlo hi a b c=>fin lo hi a b h1 c;unfold zaY at hfin badS
   -- the three without arguments
   by_cases h123:k=1∨k=2∨k=3
   ·have hsh:zaK data vars k n ks.length=(n == 0 && ks.length == 0):=by rcases h123 with rfl | rfl | rfl <;> rfl
    have:=hfin 0 0 (λ_ _ hn=>by rw[hsh];simp[hn]) (λh=>by rw[hsh];simp;intro _;rintro rfl;simp at h) (λh h2 h3=>by
     have hn:n=0:=by omega
     have hl:ks.length=0:=by omega
     rw[hsh,hn,hl];rfl)
    rcases h123 with rfl|rfl|rfl <;> simp[zi5] <;> refine zmn λ_=>?_ <;> simp[zb2,zcm] <;> exact this
   have b1:(k == 1)=false:=by simp;omega
   have b2:(k == 2)=false:=by simp;omega
   have b3:(k == 3)=false:=by simp;omega
   simp[zi5,b1,b2,b3];refine zmn λ_=>?_;by_cases h4:k=4
   ·subst h4;have hsh:zaK data vars 4 n ks.length=(decide (0≤n) && decide (n<vars) && ks.length == 0):=rfl;by_cases g1:n<0
    ·simp[zb2,hJ0,hJ1,hgv,g1];exact badS (by rw[hsh];simp;omega) _
    by_cases g2:vars≤n
    ·simp[zb2,hJ0,hJ1,hgv,g1,g2];exact badS (by rw[hsh];simp;omega) _
    have:=hfin 0 0 (λh=>(h rfl).elim) (λh=>by rw[hsh];simp;intro _ _;rintro rfl;simp at h) (λh h2 h3=>by
     have hl:ks.length=0:=by omega
     rw[hsh,hl];simp;omega)
    simp[zb2,hJ0,hJ1,hgv,g1,g2,zcm];exact this
   have b4:(k == 4)=false:=by simp;omega
   by_cases h5:k=5
   ·subst h5;have hsh:zaK data vars 5 n ks.length=(decide (0≤n) && (match data[n.toNat]? with | some d=>(ks.length:Int) == d.vars | none=>false)):=rfl;by_cases g1:n<0
    ·simp[zb2,hJ0,hJ1,hgv,g1];exact badS (by rw[hsh];simp;omega) _
    by_cases g2:(data.length:Int)≤n
    ·simp[zb2,hJ0,hJ1,hgv,g1,g2];exact badS (by rw[hsh,List.getElem?_eq_none (by omega)];simp) _
    have hnl:n.toNat<data.length:=by omega
    have g2':n<data.length:=by omega
    have g1':0≤n:=by omega
    rw[List.getElem?_eq_getElem hnl]at hsh;simp only[g1',dc,aR]at hsh;have:=hfin (data[n.toNat]).vars (data[n.toNat]).vars (λ_ h=>(h rfl).elim) (λh=>by rw[hsh];simp;omega) (λh h2 h3=>by rw[hsh];simp;omega);simp[zb2,hJ0,hJ1,hgv,g1,g2,g1',g2',hnl,Dat.cs,zcm];exact this
   have b5:(k == 5)=false:=by simp;omega
   by_cases h6:k=6
   ·subst h6;have hsh:zaK data vars 6 n ks.length=(n == 0 && decide (2≤ks.length) && decide (ks.length≤6)):=rfl;have:=hfin 2 6 (λ_ _ hn=>by rw[hsh];simp[hn]) (λh=>by rw[hsh];simp;intros;omega) (λh h2 h3=>by rw[hsh];simp;omega);simp[zb2,zcm];exact this
   have b6:(k == 6)=false:=by simp;omega
   by_cases h78:k=7∨k=8
   ·have hsh:zaK data vars k n ks.length=(n == 0 && ks.length == 1):=by rcases h78 with rfl | rfl <;> rfl
    have:=hfin 1 1 (λ_ _ hn=>by rw[hsh];simp[hn]) (λh=>by rw[hsh];simp;intros;omega) (λh h2 h3=>by rw[hsh];simp;omega);rcases h78 with rfl|rfl <;> simp[zb2] <;> refine zmo λ_=>?_ <;> simp[zgo,zcm] <;> exact this
   have b7:(k == 7)=false:=by simp;omega
   have b8:(k == 8)=false:=by simp;omega
   simp[zb2,b4,b5,b6,b7,b8];refine zmo λ_=>?_;by_cases h9:k=9
   ·subst h9;have hsh:zaK data vars 9 n ks.length=(n == 0 && decide (1≤ks.length) && decide (ks.length≤7)):=rfl;have:=hfin 1 7 (λ_ _ hn=>by rw[hsh];simp[hn]) (λh=>by rw[hsh];simp;intros;omega) (λh h2 h3=>by rw[hsh];simp;omega);simp[zgo,zcm];exact this
   ·have b9:(k == 9)=false:=by simp;omega
    simp[zgo,b9];exact badS (by unfold zaK;simp[b1,b2,b3,b4,b5,b6,b7,b8,b9]) _
  subst hJ;unfold zaY at start;simp[zs1,VT.cs,start];rw[zaz (by omega) (by omega),zgO _ hid];exact hmain
theorem zE4(v:VT)(hb:zbw v)(H:zaa)(K:AV→zaa→Prop)(hK:K (.bool (zaD data vars v)) H):ACalls tP zga [.sl (data.map Dat.cs) .none,.agg v.cs,.int .i64 vars] H K:=by
 refine ACalls.out (zE5 λhs=>?_);have hO:∀J,Out H.length K (.bool (zaD data vars v)) (H++J):=λJ=>Out.bool rfl (aa _) hs hK;obtain⟨x1,x2,x3,hvx,hx1,hx2,hx3⟩:=zaO v;simp[zvE,hvx,zar,zaL];rw[←hvx];refine zKJ data vars _ v (aa _) hb 200 (by omega) (by omega) _ (H.length+1) (by simp[zaY]) _ ?_ ?_
 ·intro ho hn;have:zaD data vars v=true:=by simp[zaD,ho];omega
  rw[this]at hO;simp;exact hO _
 ·intro hno l';have:zaD data vars v=false:=by
   cases h:zaD data vars v with
   |false=>rfl
   |true=>simp[zaD]at h;exact(hno ⟨h.2,by omega⟩).elim
  rw[this]at hO;simp;exact hO _
end
end Go.Proofs.YtaifokkaaahdoaaGreatDoor
