import Derived.Test.YtaifokkaaahdoaaGreatDoorKGL2
import Derived.Test.YtaifokkaaahdoaaGreatDoorLM7
import Derived.Test.YtaifokkaaahdoaaGreatDoorLM2
import Derived.Test.YtaifokkaaahdoaaGreatDoorLI9
import Derived.Test.YtaifokkaaahdoaaGreatDoorKNum
import Derived.Test.YtaifokkaaahdoaaGreatDoorProg
import Derived.KernelRfl
import Derived.Test.YtaifokkaaahdoaaGreatDoorAbsQ1
import Derived.Deep.Slices
import Derived.DataReads
set_option linter.unusedSectionVars false
set_option linter.unusedSimpArgs false
set_option linter.unusedVariables false
set_option maxRecDepth 100000
namespace Go.Proofs.YtaifokkaaahdoaaGreatDoor
section
variable {data:List Dat} (hD:DOk data)
def zoZ(data:List Dat)(v:VT):Prop:=∀(t:VT),zaD data 0 t=true→∀(H:zaa) (K:AV→zaa→Prop),K (.bool (zaE data v t)) H→ACalls tP zkA [.sl (data.map Dat.cs) .none,.agg v.cs,.agg t.cs] H K
theorem zGY{f:VT→VT→Bool}{x y:List VT}{i:Nat}(h:i<x.length)(h':i<y.length):zbY f (x.drop i) (y.drop i)=(f x[i] y[i] && zbY f (x.drop (i+1)) (y.drop (i+1))):=by rw[af h,af h',zbY]
theorem zD5(vs ts:List VT)(hl:vs.length≤1000000)(hv:∀ v∈vs,zoZ data v)(ht:∀ t∈ts,zaD data 0 t=true)(H:zaa)(K:AV→zaa→Prop)(hK:K (.bool (zcs data vs ts)) H):
  ACalls tP zkL [.sl (data.map Dat.cs) .none,.sl (VT.css vs) .none,.sl (VT.css ts) .none] H K:=by
 refine ACalls.out (zUy λhs=>?_);rw[zjX]at hK;have hO:∀b,zbY (zaE data) vs ts=b→Out H.length K (.bool b) H:=λb h=>by have:=Out.bool (J:=[]) rfl (aa _) hs (h ▸ hK);simpa using this
 by_cases hlen:vs.length=ts.length;case neg=>
  have hl':((vs.length:Int) != ts.length)=true:=by simp;omega
  simp[zuL,hl'];exact hO _ (zjP hlen)
 simp[zuL,hlen];refine zUw (Inv:=λq t H'=>∃i:Nat,i≤vs.length∧q=vs.length-i∧t=.int .i64 i∧zbY (zaE data) (vs.drop i) (ts.drop i)=zbY (zaE data) vs ts∧H=H') vs.length ?_ ?_
 ·intro _;exact⟨0,by omega,by omega,rfl,by simp,rfl⟩
 rintro q t H' ⟨i,hi,rfl,rfl,ho,rfl⟩ hsc hle hsF Kb hKb;by_cases hlt:i<vs.length
 ·have hlt':i<ts.length:=by omega
  have hlt2:(i:Int)<ts.length:=by omega
  rw[zGY hlt hlt']at ho;obtain⟨x,y,z,hvx,hx,hy,hz⟩:=zaO vs[i];obtain⟨x2,y2,z2,hvx2,hx2,hy2,hz2⟩:=zaO ts[i];simp[zuM,hlt,hlt',hlt2,hvx,hvx2];rw[←hvx,←hvx2];refine zaC (.bool (zaE data vs[i] ts[i])) (λJ=>hv _ (ae hlt) _ (ht _ (ae hlt')) _ _ ⟨rfl,rfl⟩) ?_;cases hb:zaE data vs[i] ts[i] with
  |false=>rw[hb,aL]at ho;simp;exact hO _ ho.symm
  |true=>rw[hb,aR]at ho;simp;rw[zaz (by omega) (by omega)];refine hKb _ _ ⟨vs.length-(i+1),by omega,Back.here (aa _) hs ?_ ⟨_,rfl,i+1,by omega,rfl,by simp,ho,rfl⟩⟩;simp[zn9,AV.sc,AV.scV,AV.scA,AV.scB]
 ·obtain rfl:i=vs.length:=by omega
  rw[au,hlen,au,zbY]at ho;simp[zuM,hlen];exact hO _ ho.symm
theorem zHg{data:List Dat}{vks ks:List VT}(h1:vks.length=1)(h2:ks.length=1):zcs data vks ks=zcI data vks (ks[0]'(by omega)):=by
 match vks,ks,h1,h2 with
 |[v],[k],_,_=>simp[zcs,zcI]
include hD in
theorem ya3:∀(m:Nat) (v:VT),v.nodes≤m→v.nodes≤1000000→zoZ data v:=by
 intro m;induction m with
 |zero=>intro v h;have:=v.nodes_pos;omega
 |succ m ih=>
  intro v hm hb t ht H K hK;obtain⟨vk,vn,vks⟩:=v;obtain⟨k,n,ks⟩:=t;refine ACalls.out (zRJ λhs=>?_);have hO:∀b J,zaE data (.mk vk vn vks) (.mk k n ks)=b→Out H.length K (.bool b) (H++J):=λb J h=>Out.bool rfl (aa _) hs (h ▸ hK);have hll:=VT.len_le vks;have hnn:(VT.mk vk vn vks).nodes=VT.nodesL vks+1:=by simp[VT.nodes]
  have hkids:∀x∈vks,zoZ data x:=λx hx=>ih x (by have:=zj5 (k:=vk) (n:=vn) x hx;omega) (by have:=zg3 (k:=vk) (n:=vn) x hx;omega);have htk:=zfA ht;have hto:zaG data 0 (.mk k n ks)=true:=by rw[zaD,ac]at ht;exact ht.2
  have htn:(VT.mk k n ks).nodes≤200:=by rw[zaD,ac]at ht;exact ct ht.1
  obtain⟨f1,f2,f3⟩:=zj4 hD.ok;have loop:∀ (hk:ks.length=1) ,zaE data (.mk vk vn vks) (.mk k n ks)=zcI data vks (ks[0]'(by omega)) →
    zt5 (.sl (data.map Dat.cs) .none) (.ptr H.length 0) (.ptr (H.length+1) 0) (.int .i64 vks.length) (.int .i64 0) (H++[.cells [.int .i64 vk,.int .i64 vn,.sl (VT.css vks) .none],.cells [.int .i64 k,.int .i64 n,.sl (VT.css ks) .none]]) (Out H.length K):=by
   intro hk e;have hk0:0<ks.length:=by omega
   refine zRH (Inv:=λq t10 H'=>∃i:Nat,i≤vks.length∧q=vks.length-i∧t10=.int .i64 i∧zcI data (vks.drop i) ks[0]=zcI data vks ks[0]∧H'=H++[.cells [.int .i64 vk,.int .i64 vn,.sl (VT.css vks) .none],.cells [.int .i64 k,.int .i64 n,.sl (VT.css ks) .none]]) vks.length ?_ ?_
   ·intro _;exact⟨0,by omega,by omega,rfl,by simp,rfl⟩
   rintro q t10 H' ⟨i,hi,rfl,rfl,ho,rfl⟩ hsc hle hsF Kb hKb;by_cases hlt:i<vks.length
   ·rw[zxg hlt]at ho;obtain⟨x,y,z,hvx,hx,hy,hz⟩:=zaO vks[i];obtain⟨x2,y2,z2,hvx2,hx2,hy2,hz2⟩:=zaO ks[0];simp[zt3,hlt,hvx,hk0,hvx2];rw[←hvx,←hvx2];refine zaC (.bool (zaE data vks[i] ks[0])) (λJ=>hkids _ (ae hlt) ks[0] (htk _ (ae hk0)) _ _ ⟨rfl,rfl⟩) ?_;cases hb2:zaE data vks[i] ks[0] with
    |false=>rw[hb2,aL]at ho;simp;exact hO _ _ (e.trans ho.symm)
    |true=>rw[hb2,aR]at ho;simp;rw[zaz (by omega) (by omega)];refine hKb _ _ ⟨vks.length-(i+1),by omega,Back.here (by simp) hsc ?_ ⟨_,rfl,i+1,by omega,rfl,by simp,ho,rfl⟩⟩;simp[znn,AV.sc,AV.scV,AV.scA,AV.scB]
   ·obtain rfl:i=vks.length:=by omega
    rw[au,zcI]at ho;simp[zt3];exact hO _ _ (e.trans ho.symm)
  rcases zzY hto with ⟨rfl,rfl⟩|⟨rfl,rfl⟩|⟨rfl,rfl⟩|rfl|⟨rfl,hk⟩|⟨rfl,hk⟩|⟨rfl,hk⟩|⟨rfl,hk⟩
  ·simp[ze0,VT.cs,ag];cases h1:(vk == 3) <;> simp
   ·exact hO _ _ (by simp[zaE,h1])
   by_cases h2:-1099511627776≤vn <;> simp[h2]
   ·by_cases h3:vn≤1099511627776 <;> simp[h3]
    ·exact hO _ _ (by simp[zaE,h1,h2,h3,i0])
    ·exact hO _ _ (by simp[zaE,h1,h2,h3])
   ·exact hO _ _ (by simp[zaE,h1,h2])
  ·simp[ze0,VT.cs,ag];cases h1:(vk == 2) <;> simp
   ·exact hO _ _ (by simp[zaE,h1])
   cases h2:(vn == 0) <;> simp
   ·cases h3:(vn == 1) <;> simp
    ·exact hO _ _ (by simp[zaE,h1,h2,h3])
    ·exact hO _ _ (by simp[zaE,h1,h2,h3,i0])
   ·exact hO _ _ (by simp[zaE,h1,h2,i0])
  ·simp[ze0,VT.cs,ag];cases h1:(vk == 1) <;> simp
   ·exact hO _ _ (by simp[zaE,h1])
   cases h2:(vn == 0) <;> simp
   ·exact hO _ _ (by simp[zaE,h1,h2])
   ·exact hO _ _ (by simp[zaE,h1,h2,i0])
  ·-- a data type
   simp[ze0,VT.cs,ag];cases h1:(vk == 5) with
   |false=>
    have:(vk != 5)=true:=by simp[bne,h1]
    simp[this];exact hO _ _ (by simp[zaE,h1])
   |true=>
   have h1':(vk != 5)=false:=by simp[bne,h1]
   by_cases h2:vn<0
   ·simp[h1',h2];exact hO _ _ (by simp[zaE,h1];omega)
   by_cases h3:8≤vn
   ·simp[h1',h2,h3];exact hO _ _ (by simp[zaE,h1];omega)
   simp[h1',h2,h3,ag];have e:∀o,za7 data (.mk 5 n ks) vn=o→zaE data (.mk vk vn vks) (.mk 5 n ks)=zfj data vks o:=λo ho=>by
    have q1:0≤vn:=by omega
    have q2:vn<8:=by omega
    simp[zaE,h1,q1,q2,ho]
   have hcs:(VT.mk 5 n ks).cs=[.int .i64 5,.int .i64 n,.sl (VT.css ks) .none]:=rfl;rw[←hcs];refine zD7 data f1 f2 f3 (.mk 5 n ks) (by omega) vn _ _ ?_;cases hf:za7 data (.mk 5 n ks) vn with
   |none=>simp[zcV];exact hO _ _ (by rw[e _ hf,zxh])
   |some l=>simp[zcV,hcs];refine zD5 vks l (by omega) hkids (zjQ hD.ok hto hf) _ _ ?_;exact hO _ _ (by rw[e _ hf,zxi])
  ·simp[ze0,VT.cs,ag];cases h1:(vk == 4) <;> simp
   ·exact hO _ _ (by simp[zaE,h1])
   cases h2:(vn == 0) <;> simp
   ·exact hO _ _ (by simp[zaE,h1,h2])
   refine zD5 vks ks (by omega) hkids htk _ _ ?_;exact hO _ _ (by simp[zaE,h1,h2])
  ·-- an array
   simp[ze0,zje,VT.cs,ag];have hk0:0<ks.length:=by omega
   cases h1:(vk == 6) with
   |false=>
    have:(vk != 6)=true:=by simp[bne,h1]
    simp[this];exact hO _ _ (by simp[zaE,h1])
   |true=>
   have h1':(vk != 6)=false:=by simp[bne,h1]
   by_cases h3:vks.length≤4096;case neg=>
    have h3':(4096:Int)<vks.length:=by omega
    simp[h1',h3'];exact hO _ _ (by simp[zaE,h1,h3])
   have h3':¬(4096:Int)<vks.length:=by omega
   cases h2:(vn == 0) with
   |false=>
    have:(vn != 0)=true:=by simp[bne,h2]
    simp[h1',h3',this];exact hO _ _ (by simp[zaE,h1,h2])
   |true=>
   have h2':(vn != 0)=false:=by simp[bne,h2]
   simp[h1',h3',h2'];exact loop hk (by have:=zxb hk0;simp[zaE,h1,h2,h3,this,hk0])
  ·simp[ze0,zje,VT.cs,ag];have hk0:0<ks.length:=by omega
   cases h1:(vk == 7) with
   |false=>
    have:(vk != 7)=true:=by simp[bne,h1]
    simp[this];exact hO _ _ (by simp[zaE,h1])
   |true=>
   have h1':(vk != 7)=false:=by simp[bne,h1]
   by_cases h3:vks.length=1;case neg=>
    have h3':((vks.length:Int) != 1)=true:=by simp;omega
    simp[h1',h3'];refine hO _ _ ?_;have:zcs data vks ks=false:=by rw[zjX];exact zjP (by omega)
    simp[zaE,h1,this]
   have h3':((vks.length:Int) != 1)=false:=by simp;omega
   cases h2:(vn == 0) with
   |false=>
    have:(vn != 0)=true:=by simp[bne,h2]
    simp[h1',h3',this];exact hO _ _ (by simp[zaE,h1,h2])
   |true=>
   have h2':(vn != 0)=false:=by simp[bne,h2]
   simp[h1',h3',h2'];exact loop hk (by rw[←zHg h3 hk];simp[zaE,h1,h2])
  ·simp[ze0,zje,VT.cs,ag];cases h1:(vk == 8) <;> simp
   ·exact hO _ _ (by simp[zaE,h1])
   by_cases h2:0≤vn <;> simp[h2]
   ·by_cases h3:vn<64 <;> simp[h3]
    ·exact hO _ _ (by simp[zaE,h1,h2,h3,i0])
    ·exact hO _ _ (by simp[zaE,h1,h2,h3])
   ·exact hO _ _ (by simp[zaE,h1,h2])
end
def zoV(data:List Dat):Prop:=∀D∈data,∀c∈D.cons,∀x∈c.args,x.nodes≤1000000
theorem zHu{data:List Dat}(h2:data.length≤2)(hk:Kpt data)(hN:zoV data):zjy data:=
 ⟨by omega,λD hD=>⟨trivial,by have:=(hk D hD).1;omega,λc hc=>⟨trivial,by have:=(hk D hD).2 c hc;omega,hN D hD c hc⟩⟩⟩
section
variable (t0 t1 t2 t3:AV) (H:zaa) (K:Kt)
def zRU(_:Nat):List Bool:=[]
noncomputable def zRV:=Tryz.f4.body.getD .skip
def zq2:=zaw t1 H λt5 H=>ACalls tP zqR [] H λt13 H=>aUn .not t13 λt14=>zag t14 (K (.bool false) H) (zae true 3 t5 H λt16=>zau 3 [(.int .i64 0),(.int .i64 0),.snil] 1 [(0,t16)] λt17=>zgL t2 (.int .i64 9) λt19=>ACalls tP zqV [t0,t17,t19,.snil] H λt20 H=>aUn .not t20 λt21=>zac t21 false H (λK'=>K' t2 H) λt23 H=>zac t21 false H (λK'=>zab .gtr false t23 (.int .i64 14) (K' · H)) λt24 H=>zac t21 false H (λK'=>K' t24 H) λt25 H=>zac t25 true H (λK'=>K' t2 H) λt26 H=>zac t25 true H (λK'=>zab .leq false t26 (.int .i64 24) (K' · H)) λt27 H=>zac t21 false H (λK'=>zak t25 t27 (.bool false) (K' · H)) λt28 H=>zak t21 (.bool true) t28 λt29=>zag t29 (K (.bool true) H) (zae true 3 t5 H λt32=>ACalls tP zqi [t0,t32,t2,t3] H λt35 H=>zaI t35 0 λt36=>zaI t35 1 λt37=>zay [(.bool false),.snil,.snil] H λt9 H=>zam 3 t9 t36 H λH=>zae true 3 t5 H λt40=>ACalls tP zql [t0,t40,t2,t3] H λt43 H=>zaI t43 0 λt44=>zaI t43 1 λt45=>zay [(.bool false),.snil,.snil] H λt11 H=>zam 3 t11 t44 H λH=>zab .eql false t37 t45 λt48=>zac t48 true H (λK'=>zae true 3 t9 H (K' · H)) λt50 H=>zac t48 true H (λK'=>zae true 3 t11 H (K' · H)) λt51 H=>zac t48 true H (λK'=>ACalls tP zin [t50,t51] H K') λt52 H=>zac t48 true H (λK'=>zab .eql false t52 (.int .i64 0) (K' · H)) λt53 H=>zak t48 t53 (.bool false) λt54=>K t54 H))
variable {t0 t1 t2 t3} {H} {K}
theorem zRW(h:HSc H→zq2 t0 t1 t2 t3 H K):ACalls tP zqD [t0,t1,t2,t3] H K:=
 acb zRU Tryz.func4 zRV h
end
theorem zDB(neg:Bool)(H:zaa)(K:Kt)(hK:K (.agg (zaq 0)) H):ACalls tP zde [.bool neg,.snil,.snil] H K:=by
 refine ACalls.wk (args':=[.bool neg,.sl (zal []) .none,.sl (zal []) .none]) ?_ ⟨.atom (.refl _),.atom .snil,.atom .snil,trivial⟩;refine ACalls.out (zDC λhs=>?_);simp[zup];refine zoL [] (by simp) (by simp) _ _ ?_;refine zoL [] (by simp) (by simp) _ _ ?_;have e2:lim (zao [])=[]:=by simp[zao]
 rw[e2];simp[zal,zau,za4,plain,AV.pd,zar,zaL,zdc];have e1:zaq 0=[.bool false,.sl [] .none,.sl [[.int .u32 1]] .none]:=by simp[zaq,zal]
 rw[e1]at hK;exact Out.one hs (WkV.agg (ds:=[.bool false,.sl [] .none,.sl [[.int .u32 1]] .none]) ⟨.refl _,.snil,.sl _ _,trivial⟩) rfl (by simp[AV.scV,AV.scA,AV.scB]) hK
theorem zTo(H:zaa)(K:Kt)(hK:K (.agg (zaq 0)) H):ACalls tP zfq [.agg (zaj none)] H K:=by refine ACalls.out (zDF λhs=>?_);simp[zus,zaj];refine zDB _ _ _ ?_;simp;exact zbV hs hK
theorem zVC(H:zaa)(K:Kt)(hK:K (.agg (zaq 0)) H):ACalls tP zkP [.agg (zaj none)] H K:=by refine ACalls.out (zEx λhs=>?_);simp[zva,zaj];refine zDB _ _ _ ?_;simp;exact zbV hs hK
theorem sm0:Sm 0:=by unfold Sm;decide
theorem zQj(b:Int)(hb:Sm b)(H:zaa)(K:Kt)(hK:K (.agg (zaq b)) H):ACalls tP zf5 [.agg (zaj none),.agg (zaq b)] H K:=by
 obtain⟨a,ha0⟩:∃a:Int,a=0:=⟨_,rfl⟩;have ha:Sm a:=by rw[ha0];exact sm0
 rw[show b=a+b from by omega]at hK;refine ACalls.out (zCr λhs=>?_);have la:=ha.len;have lb:=hb.len;simp[ztF,zaq,zaj,ag];refine zaC (.agg (zaq a)) (λJ=>zTo _ _ ⟨by rw[ha0],rfl⟩) ?_;refine zaC (.agg (zaq b)) (λJ=>zhL b hb _ _ ⟨rfl,rfl⟩) ?_;simp[zaq,AV.known,ag];refine zaC (.sl (zal (lim a.natAbs)) .none) (λJ=>zkd _ ha _ _ ⟨rfl,rfl⟩) ?_;refine zaC (.sl (zal (lim b.natAbs)) .none) (λJ=>zkd _ hb _ _ ⟨rfl,rfl⟩) ?_;refine zp7 _ _ ?_;simp[ag];have hbig:∀n:Nat,n≤a.natAbs+b.natAbs→n<1000000000 ^ 100:=by
  intro n hn;have h1:(1000000000:Nat) ^ 30+1000000000 ^ 30≤1000000000 ^ 100:=by decide
  unfold Sm at ha hb;omega
 have hsub:∀x y:Int,Sm x→Sm y→y.natAbs≤x.natAbs→∀(H:zaa) (K:Kt),K (.sl (zal (lim (x.natAbs-y.natAbs))) .none) H→ACalls tP zhe [.sl (zal (lim x.natAbs)) .none,.sl (zal (lim y.natAbs)) .none] H K:=by intro x y hx hy hxy H K hK;refine zDQ (lim x.natAbs) (lim y.natAbs) (zbD _) (zbD _) (by have:=hx.len;omega) ?_ (by rw[zbd,zbd];exact hxy) _ _ (by rw[zbd,zbd];exact hK);refine cx λh=>?_;have:=zg6 h;omega
 by_cases hsg:decide (a<0)=decide (b<0)
 ·have hsg':(decide (a<0) == decide (b<0))=true:=by simpa using hsg
  simp[hsg',ag];refine zaC (.sl (zal (lim (a.natAbs+b.natAbs))) .none) (λJ=>zDM _ _ (zbD _) (zbD _) (by omega) (by omega) _ _ (by rw[zbd]) (by rw[zbd]) (by rw[zbd,zbd];exact⟨rfl,rfl⟩)) ?_;refine zaC (.agg (zaq (a+b))) (λJ=>zd5 _ _ (hbig _ (aa _)) (by
   by_cases h1:a<0 <;> by_cases h2:b<0 <;> simp[h1,h2]at hsg ⊢ <;> omega) _ _ ⟨rfl,rfl⟩) ?_
  simp[ag];exact zbV hs hK
 ·have hsg':(decide (a<0) == decide (b<0))=false:=by simpa using hsg
  simp[hsg',ag];refine zuy _ _ (by omega) (by omega) _ _ ?_;have hcz:(0≤zbm a.natAbs b.natAbs)↔b.natAbs≤a.natAbs:=by
   unfold zbm;split
   ·simp;omega
   ·split <;> simp <;> omega
  by_cases hle:b.natAbs≤a.natAbs
  ·simp[hcz,hle,ag];refine zaC (.sl (zal (lim (a.natAbs-b.natAbs))) .none) (λJ=>hsub a b ha hb hle _ _ ⟨rfl,rfl⟩) ?_;refine zaC (.agg (zaq (a+b))) (λJ=>zd5 _ _ (hbig _ (by omega)) (by
    by_cases h1:a<0 <;> by_cases h2:b<0 <;> simp[h1,h2]at hsg ⊢ <;> omega) _ _ ⟨rfl,rfl⟩) ?_
   simp[ag];exact zbV hs hK
  ·simp[hcz,hle,ag];refine zaC (.sl (zal (lim (b.natAbs-a.natAbs))) .none) (λJ=>hsub b a hb ha (by omega) _ _ ⟨rfl,rfl⟩) ?_;refine zaC (.agg (zaq (a+b))) (λJ=>zd5 _ _ (hbig _ (by omega)) (by
    by_cases h1:a<0 <;> by_cases h2:b<0 <;> simp[h1,h2]at hsg ⊢ <;> omega) _ _ ⟨rfl,rfl⟩) ?_
   simp[ag];exact zbV hs hK
theorem zSB(H:zaa)(K:Kt)(hK:K (.agg (zaq 0)) H):ACalls tP zkF [.agg (zaj none),.agg (zaj none)] H K:=by refine ACalls.out (zDh λhs=>?_);simp[zua,zaj,ag];refine zaC (.agg (zaq 0)) (λJ=>zVC _ _ ⟨rfl,rfl⟩) ?_;refine zaC (.agg (zaq 0)) (λJ=>zQj 0 sm0 _ _ ⟨rfl,rfl⟩) ?_;simp[ag];exact zbV hs hK
theorem zPd(H:zaa)(K:Kt)(hK:K (.int .i64 0) H):ACalls tP zin [.agg (zaj none),.agg (zaj none)] H K:=by refine ACalls.out (zBZ λhs=>?_);simp only[zs8];simp[zaj];refine zSB _ _ ?_;refine znv 0 sm0 _ _ ?_;exact Out.int rfl (aa _) hs hK
theorem zSv{data:List Dat}(hD:zaB data=true)(hk:Kpt data){kk:Nat}(hkk:kk≤8)(t:VT)(ht:zaD data 0 t=true)(n:Nat)(hn:n≤14)(H:zaa)(K:Kt)(hK:K (.agg (zaq (cV data kk t n:Nat))) H):
  ACalls tP zqN [.sl (data.map Dat.cs) .none,.agg t.cs,.int .i64 n,.int .i64 kk] H K:=by
 refine ACalls.out (zSu λhs=>?_);have hv2:zaG data 0 t=true:=by rw[zaD,ac]at ht;exact ht.2
 obtain⟨x,y,z,hvx,hx,hy,hz⟩:=zaO t;simp only[zDf];simp[hvx];rw[←hvx];refine zGM hD hk hkk (zKm hD hv2) ht n hn _ _ ?_;obtain⟨tb,htb⟩:∃tb,tb=AV.sl (rtA (tab (cV data kk t) n)) .none:=⟨_,rfl⟩;have hr:∀J:zaa,RowAt J tb (tab (cV data kk t) n):=λJ=>.inl htb;rw[←htb];refine(hr _).at (by simp) ?_;rw[zdR _ (aa _)];simp[zaj,zaq];exact zbV hs hK
theorem zOi{data:List Dat}(hB:zjy data)(hk:Kpt data)(t:VT)(ht:t.nodes≤1000000)(n k:Int)(hn:n≤14∨24<n)(H:zaa)(K:Kt)(hK:K (.tup [.agg (zcw data t n k),.int .i64 (zbK data t n k)]) H):ACalls tP zql [.sl (data.map Dat.cs) .none,.agg t.cs,.int .i64 n,.int .i64 k] H K:=by
 refine ACalls.out (zOh λhs=>?_);obtain⟨x,y,z,hvx,hx,hy,hz⟩:=zaO t;have hout:∀(o:Option Nat) (e:Int) J,zaj o=zcw data t n k→e=zbK data t n k→Out H.length K (.tup [.agg (zaj o),.int .i64 e]) (H++J):=λo e J h1 h2=>by refine Out.tup hs (bs:=[.agg (zcw data t n k),.int .i64 (zbK data t n k)]) hK ⟨⟨by rw[h1];exact .rfl',rfl,?_⟩,⟨by rw[h2];exact .rfl',rfl,rfl⟩,trivial⟩;rw[←h1];simpa[AV.scV]using zc0 _ _
 simp only[zBa,zrO];simp[hvx,hx,hy,hz];rw[←hvx];refine zSr hB t ht _ _ ?_;cases hf:zb4 data t with
 |false=>
  simp[zar,zaL,AV.known,zrO,ai];have he:zbK data t n k=6:=by simp[zbK,hf]
  exact⟨⟨rfl,rfl⟩,hout none 6 _ (by simp[zcw,he]) he.symm⟩
 |true=>
  simp;have bad:(n<0∨24<n∨k<0∨8<k)→zbK data t n k=8:=λh=>by simp[zbK,hf,h]
  have hr8 : (n < 0 ∨ 24 < n ∨ k < 0 ∨ 8 < k) → zar (zaj none) [(0, 1), (1, 1), (2, 1)] [] λt30 =>
                      zcH 3 0 (List.length H+1) t30.cs? (some (AB.cells (zaj none))) (H++[AB.cells t.cs,AB.cells (zaj none)]) λH_7=>
                       ze7 true 3 0 H_7[List.length H+1]? λr0=>
                        (r0.isV=true∧(AV.int IntKind.i64 8).isV=true) ∧
                         Out (List.length H) K (AV.tup [r0,AV.int IntKind.i64 8]) H_7:=λh=>by
   rw[←zrO];simp[zar,zaL,AV.known,zrO,ai];exact⟨⟨rfl,rfl⟩,hout none 8 _ (by simp[zcw,bad h]) (bad h).symm⟩
  by_cases h1:n<0
  ·simp[h1];exact hr8 (.inl h1)
  by_cases h2:24<n
  ·simp[h1,h2];exact hr8 (.inr (.inl h2))
  by_cases h3:k<0
  ·simp[h1,h2,h3];exact hr8 (.inr (.inr (.inl h3)))
  by_cases h4:8<k
  ·simp[h1,h2,h3,h4];exact hr8 (.inr (.inr (.inr h4)))
  simp[h1,h2,h3,h4];obtain⟨N,rfl⟩:∃N:Nat,n=N:=⟨n.toNat,by omega⟩;obtain⟨kk,rfl⟩:∃kk:Nat,k=kk:=⟨k.toNat,by omega⟩;obtain⟨hD,htv⟩:=zjS hf;refine zSv hD hk (by omega) t htv N (by omega) _ _ ?_;have he0:zbK data t N kk=0:=by simp[zbK,hf];omega
  have hr:zaj (some (cV data kk t N))=zcw data t N kk:=by simp[zcw,he0];rfl
  have gr:(H++[AB.cells t.cs,AB.cells (zaj none)])[H.length+1]?=some (.cells (zaj none)):=by simp[List.getElem?_append]
  have e1:(H++[AB.cells t.cs,AB.cells (zaj none)]).set (H.length+1) (.cells (zaj (some (cV data kk t N))))=H++[AB.cells t.cs,.cells (zaj (some (cV data kk t N)))]:=by rw[ai _ _ (by omega)];simp
  have g2:(H++[AB.cells t.cs,AB.cells (zaj (some (cV data kk t N)))])[H.length+1]?=some (.cells (zaj (some (cV data kk t N)))):=by simp[List.getElem?_append]
  change zcH 3 0 (H.length+1) (some (zaj (some (cV data kk t N)))) _ _ _;rw[gr,zo7,e1];simp only[g2,zvV];exact⟨⟨rfl,rfl⟩,hout _ 0 _ hr he0.symm⟩
theorem zFh(data:List Dat)(hl:data.length≤9223372036854775807)(hT:∀ D∈data,∀ c∈D.cons,∀ x∈c.args,zbw x)(hN:zoV data)(t:VT)(ht:zbw t)(htn:t.nodes≤1000000)(n k:Int)(H:zaa)(h0:H[0]?=some .nodr)(K:Kt)(hK:K (.bool true) H):
  ACalls tP zqD [.sl (data.map Dat.cs) .none,.agg t.cs,.int .i64 n,.int .i64 k] H K:=by
 refine ACalls.out (zRW λhs=>?_);have hlt0:0<H.length:=(List.getElem?_eq_some_iff.1 h0).1;have hO:∀J,Out H.length K (.bool true) (H++J):=λJ=>Out.bool rfl (aa _) hs hK;obtain⟨x,y,z,hvx,hx,hy,hz⟩:=zaO t;simp only[zq2,zrO];simp[hvx];obtain⟨A,hA⟩:∃A,A=H++[AB.cells t.cs]:=⟨_,rfl⟩;have hAl:A.length=H.length+1:=by rw[hA];simp
 have hAs:HSc A:=by rw[hA];exact hs.append (by simp[AB.sc])
 have g0:∀J:zaa,(A++J)[0]?=some .nodr:=λJ=>by rw[hA,ah,List.getElem?_append_left hlt0];exact h0
 have g0':A[0]?=some .nodr:=by have:=g0 [];rwa [aE]at this
 have gt:∀J:zaa,(A++J)[H.length]?=some (.cells t.cs):=λJ=>by rw[hA];simp
 have gt':A[H.length]?=some (.cells t.cs):=by have:=gt [];rwa [aE]at this
 rw[←hvx,←hA];have hOA:∀J,Out H.length K (.bool true) (A++J):=λJ=>by rw[hA,ah];exact hO _
 have hOA0:Out H.length K (.bool true) A:=by have:=hOA [];rwa [aE]at this
 refine zTZ _ g0' _ ?_;simp[gt'];rw[zd4];refine ACalls.wk (args':=[.sl (data.map Dat.cs) .none,.sl (VT.css [t]) .none,.int .i64 (if 9<n then 9 else n),.sl (ints []) .none]) ?_ ⟨.atom (.refl _),.atom (.sl _ _),.atom (.refl _),.atom .snil,trivial⟩;refine zVO data hl [t] (by simp) (by simp[ht]) _ [] _ _ λb hb=>?_;cases b with
 |false=>simp;exact hOA0
 |true=>
  obtain⟨hd2,hn9,hx9,hk⟩:=hb rfl;have hF:=zG4 hT hk;simp[gt'];by_cases hmid:14<n∧n≤24
  ·simp[hmid.1,hmid.2];exact hOA0
  have hn:n≤14∨24<n:=by omega
  have h2:(14<n∧¬n≤24)∨¬ 14<n:=by omega
  obtain⟨o,ho,ho1,ho2⟩:∃o,zcw data t n k=zaj o∧(zbK data t n k=0→o=some (cV data k.toNat t n.toNat)∧n.toNat≤14∧k.toNat≤8)∧(zbK data t n k≠0→o=none):=by
   by_cases he:zbK data t n k=0
   ·refine⟨some (cV data k.toNat t n.toNat),by unfold zcw;rw[aB he];rfl,λ_=>⟨rfl,?_⟩,λh=>absurd he h⟩;unfold zbK at he;split at he
    ·cases he
    ·split at he
     ·cases he
     ·omega
   ·exact⟨none,by unfold zcw;rw[ap he],λh=>absurd h he,λ_=>rfl⟩
  have hcmp:∀(J:zaa) (K':Kt),K' (.int .i64 0) J→ACalls tP zin [.agg (zaj o),.agg (zaj o)] J K':=λJ K' hK'=>by
   by_cases he:zbK data t n k=0
   ·obtain⟨h1,h2,h3⟩:=ho1 he;rw[h1];have hb:=zdD hk h3 t h2;refine zPe _ _ hb hb _ _ ?_;rw[Int.sub_self];exact hK'
   ·rw[ho2 he];exact zPd _ _ hK'
  have hB:=zHu hd2 hk hN;rcases h2 with h2|h2 <;> simp[h2,gt']
  all_goals
   refine zM8 hF (by omega) hk t ht n k hn _ g0' _ ?_;rw[ho];simp[gt];refine zOi hB hk t htn n k hn _ _ ?_;rw[ho];simp;refine hcmp _ _ ?_;simp;exact hOA _
section
open Go.RowKit

def zdA(P:Program):Nat→TypeId→List AV→Prop
 |0,_,_=>False
 | n+1,t,asx=>match P.underlying t with
  |some .bool=>∃b,asx=[.bool b]
  |some (.int k)=>∃m,asx=[.int k m]∧(Lit.int k m).wf=true
  |some .string=>∃s,asx=[.str s]∧s.length≤maxLen
  |some (.slice e)=>∃es,asx=[.sl es .none]∧es.length≤maxLen∧∀c∈es,zdA P n e c
  |some (.struct fs)=>asx.length=P.cellsOf t∧∀f∈fs.toList,zdA P n f.type ((asx.drop f.offset).take (P.cellsOf f.type))
  |_=>False

def zfz(P:Program):List Field→Nat→Nat→Bool
 |[],at_,n=>at_ == n
 |f::fs,at_,n=>f.offset == at_ && zfz P fs (at_+P.cellsOf f.type) n
def zhm(P:Program)(S:List TypeId):Bool:=
 S.all λt=>match P.underlying t with
  |some .bool|some (.int _)|some .string=>P.cellsOf t == 1
  |some (.slice e)=>S.contains e && decide (0<P.cellsOf e) && P.cellsOf t == 1
  |some (.struct fs)=>fs.toList.all (λf=>S.contains f.type) && zfz P fs.toList 0 (P.cellsOf t)
  |_=>false

section
variable {Hh:Type} {enc:TypeId×Value→Hh} {P:Program} {w:World} {base:Nat} {spare:Nat→Bool} {held:Bool}

theorem zrI{R:Value→AV→Prop}{cs:List Value}:∀ (fs:List Field) (at_ n:Nat) (T:Field→List AV→Prop),zfz P fs at_ n=true→cs.length=n →
  (∀f∈fs,∃asx,All2 R ((cs.drop f.offset).take (P.cellsOf f.type)) asx∧T f asx)→at_≤n →
  ∃asx,All2 R (cs.drop at_) asx∧∀f∈fs,T f ((asx.drop (f.offset-at_)).take (P.cellsOf f.type))∧at_≤f.offset
 |[],at_,n,T,ht,hl,hf,hle=>by simp[zfz]at ht;subst ht;refine⟨[],?_,by simp⟩;rw[aK (by omega)];trivial
 |f::fs,at_,n,T,ht,hl,hf,hle=>by
  simp only[zfz,ac,aY]at ht;obtain⟨h1,h2⟩:=ht;have hbound:∀(fs:List Field) (k n:Nat),zfz P fs k n=true→k≤n:=by
   intro fs;induction fs with
   |nil=>intro k n h;simp[zfz]at h;omega
   |cons g gs ih=>intro k n h;simp only[zfz,ac]at h;have:=ih _ _ h.2;omega
  have hb:=hbound fs _ _ h2;obtain⟨as0,ha0,hT0⟩:=hf f (by simp);obtain⟨as1,ha1,hT1⟩:=zrI fs (at_+P.cellsOf f.type) n T h2 hl (λg hg=>hf g (by simp[hg])) hb;have hl0:as0.length=P.cellsOf f.type:=by have:=ha0.length;rw[aM,List.length_drop]at this;omega
  refine⟨as0++as1,?_,?_⟩
  ·have:cs.drop at_=(cs.drop f.offset).take (P.cellsOf f.type)++cs.drop (at_+P.cellsOf f.type):=by rw[h1,←cZ,aN]
   rw[this];exact ha0.append ha1
  ·intro g hg;rcases aZ.1 hg with rfl | hg
   ·rw[h1,bU,aU,←hl0,c6];exact⟨hT0,aa _⟩
   ·obtain⟨k1,k2⟩:=hT1 g hg;refine⟨?_,by omega⟩;have:(as0++as1).drop (g.offset-at_)=as1.drop (g.offset-(at_+P.cellsOf f.type)):=by rw[ch,aK (by omega),List.nil_append];congr 1;omega
    rw[this];exact k1

theorem zfb{a:Addr}{n:Nat}{cs:List Value}(h:w.cells? base a n=some cs):cs.length=n∧∀j v,cs[j]?=some v→w.cell? (a.add j)=some v:=by
 unfold World.cells? at h;split at h
 ·have h1:=mapM_some_length h;refine⟨by simpa using h1,λj v hj=>?_⟩;have hjn:j<n:=by have:=(List.getElem?_eq_some_iff.1 hj).1;simp at h1;omega
  have:=mapM_some_get h j j (by simp[hjn]);rw[this];exact hj
 ·cases h

theorem zxG{b o:Nat}{v:Value}(h:w.cell? ⟨b,o,none⟩=some v):o<zbO w b:=by
 unfold World.cell? at h;unfold zbO;split at h
 ·rename_i c t fr hb;simp only[hb];simp at h;exact(Array.getElem?_eq_some_iff.1 h).1
 ·cases h

theorem zKn{S:List TypeId}(hS:zhm P S=true):∀ (n:Nat) (t:TypeId) (cs:List Value) (x:DataW Hh × List MemPlace),t∈S→DataW.trod enc P w base spare held n t cs=some x →
  ∃asx,All2 (DRel w (zbO w)) cs asx∧zdA P n t asx:=by
 intro n;induction n with
 |zero=>intro t cs x _ h;simp[DataW.trod]at h
 |succ n ih=>
  intro t cs x ht h;have hp:=am.1 hS t ht;unfold zdA;cases hu:P.underlying t with
  |none=>simp[hu]at hp
  |some d=>
   rw[hu]at hp;cases d <;> simp only[]at hp <;> try (cases hp;done)
   case bool=>obtain⟨b,rfl,_⟩:=DataW.trod_bool hu h;exact⟨[.bool b],⟨.bool b,trivial⟩,b,rfl⟩
   case int k=>obtain⟨m,rfl,_,hw⟩:=DataW.trod_int hu h;exact⟨[.int k m],⟨.int k m,trivial⟩,m,rfl,hw⟩
   case string=>
    obtain⟨s,rfl,_,hw⟩:=DataW.trod_string hu h;have hs:(⟨s.data.toList.toArray⟩:ByteArray)=s:=by simp
    refine⟨[.str s.data.toList],⟨?_,trivial⟩,s.data.toList,rfl,by rw[Array.length_toList];exact hw⟩;have:=DRel.str (w:=w) (L:=zbO w) s.data.toList;rwa [hs]at this
   case slice e=>
    simp only[ac,aH]at hp;obtain⟨⟨he,hpos⟩,_⟩:=hp;have he:e∈S:=by simpa using he
    rcases DataW.trod_slice hu h with ⟨rfl,_⟩|⟨a,len,cap,elems,rest,n',hn,rfl,_,hb,hl,hm,hlen,hel,_⟩
    ·exact⟨[.sl [] .none],⟨.slE _ _,trivial⟩,[],rfl,by simp,by simp⟩
    ·obtain rfl:n=n':=by omega
     have hat:∀i,i<len→∃cs asx,w.cells? base (a.add (i*P.cellsOf e)) (P.cellsOf e)=some cs∧All2 (DRel w (zbO w)) cs asx∧zdA P n e asx:=by
      intro i hi;have h1:=hel i hi;rw[List.getElem?_eq_getElem (by omega)]at h1;cases hc:w.cells? base (a.add (i*P.cellsOf e)) (P.cellsOf e) with
      |none=>rw[hc]at h1;cases h1
      |some cs=>rw[hc]at h1;obtain⟨asx,h2,h3⟩:=ih e cs _ he h1;exact⟨cs,asx,rfl,h2,h3⟩
     by_cases h0:len=0
     ·subst h0;exact⟨[.sl [] .none],⟨.slE _ _,trivial⟩,[],rfl,by simp,by simp⟩
     ·-- the address is a plain one
      have hspot:a.spot=none:=by obtain⟨cs,asx,h1,h2,_⟩:=hat 0 (by omega);obtain⟨h3,h4⟩:=zfb h1;have h5:=h4 0 cs[0] (by simp);have:=World.cell?_spot h5;simpa[Addr.add]using this
      obtain⟨b,off,sp⟩:=a;simp only at hspot;subst hspot;obtain⟨f,hf⟩:∃f:Nat→List Value×List AV,∀i,i<len→w.cells? base ((⟨b,off,none⟩:Addr).add (i*P.cellsOf e)) (P.cellsOf e)=some (f i).1∧All2 (DRel w (zbO w)) (f i).1 (f i).2∧zdA P n e (f i).2:=
       Deep.choose_lt (p:=λi (y:List Value × List AV)=>w.cells? base ((⟨b,off,none⟩:Addr).add (i*P.cellsOf e)) (P.cellsOf e)=some y.1∧All2 (DRel w (zbO w)) y.1 y.2∧zdA P n e y.2)
        (λi hi=>by obtain⟨cs,asx,h1,h2,h3⟩:=hat i hi;exact⟨(cs,asx),h1,h2,h3⟩)
      have hcell:∀i,i<len→∀j v,(f i).1[j]?=some v→w.cell? ⟨b,off+i*P.cellsOf e+j,none⟩=some v:=by intro i hi j v hj;have:=(zfb (hf i hi).1).2 j v hj;rw[add_lit,add_lit]at this;exact this
      have hlen2:∀i,i<len→(f i).2.length=P.cellsOf e:=λi hi=>by rw[←(hf i hi).2.1.length];exact(zfb (hf i hi).1).1
      refine⟨[.sl ((List.range len).map λi=>(f i).2) .none],⟨?_,trivial⟩,_,rfl,by simp;omega,?_⟩
      ·have:=DRel.sl (w:=w) (L:=zbO w) b off cap (P.cellsOf e) ((List.range len).map λi=>(f i).2) (λi j=>(f i).1.getD j undef) (by simp;exact h0) (by simpa using hl) ?_ ?_ ?_ ?_
       ·simpa using this
       ·-- the last cell is there
        have hi:len-1<len:=by omega
        have hj:P.cellsOf e-1<(f (len-1)).1.length:=by rw[(zfb (hf _ hi).1).1];omega
        have:=zxG (hcell (len-1) hi (P.cellsOf e-1) _ (List.getElem?_eq_getElem hj));have hmul:(len-1)*P.cellsOf e+P.cellsOf e=len*P.cellsOf e:=by rw[←cp];congr 1;omega
        simp;omega
       ·intro i hi;simp at hi;simpa using hlen2 i hi
       ·intro i j hi hj;simp at hi hj;have hjl:j<(f i).1.length:=by rw[(hf i hi).2.1.length];exact hj
        simp only[List.getD_eq_getElem?_getD,List.getElem?_eq_getElem hjl,Option.getD_some];exact hcell i hi j _ (List.getElem?_eq_getElem hjl)
       ·intro i j hi hj;simp at hi hj;have hjl:j<(f i).1.length:=by rw[(hf i hi).2.1.length];exact hj
        obtain⟨c,h1,h2⟩:=(hf i hi).2.1.get' (List.getElem?_eq_getElem hjl);simp only[List.getD_eq_getElem?_getD,List.getElem?_eq_getElem hjl,Option.getD_some,di,List.getElem_range];have:(f i).2[j]=c:=by rw[List.getElem?_eq_getElem hj]at h1;exact bM h1
        rw[this];exact h2
      ·intro c hc;obtain⟨i,hi,rfl⟩:=aV.1 hc;exact(hf i (by simpa using hi)).2.2
   case struct fs=>
    simp only[ac]at hp;obtain⟨hfs,htile⟩:=hp;obtain⟨xs,n',hn,_,hcl,hxl,hat⟩:=DataW.trod_struct hu h;obtain rfl:n=n':=by omega
    obtain⟨asx,h1,h2⟩:=zrI (P:=P) (R:=DRel w (zbO w)) (cs:=cs) fs.toList 0 (P.cellsOf t) (λf asx=>zdA P n f.type asx) htile hcl (λf hf=>by
     obtain⟨i,hi⟩:=aJ.1 hf;have hi':fs[i]?=some f:=by simpa using hi
     have h3:=hat i f hi';have hlt:i<xs.length:=by rw[hxl];exact(Array.getElem?_eq_some_iff.1 hi').1
     rw[List.getElem?_eq_getElem hlt]at h3;exact ih f.type _ _ (by simpa using List.all_eq_true.1 hfs f hf) h3) (bz _)
    rw[aU]at h1;refine⟨asx,h1,by rw[←h1.length];exact hcl,λf hf=>?_⟩;simpa using(h2 f hf).1
end

theorem zyw{Hh:Type}{enc:TypeId×Value→Hh}{P:Program}{w:World}{base:Nat}{spare:Nat→Bool}{held:Bool}{S:List TypeId}(hS:zhm P S=true){t:TypeId}(ht:t∈S){v:Value}{d:DataW Hh}{p:List MemPlace}(hv:v.cells=#[v])(h:DataW.Trod enc P w base spare held t v d p):∃n a,zdA P n t [a]∧TRel w (G0 w) v a:=by
 obtain⟨n,hn⟩:=h;obtain⟨asx,h1,h2⟩:=zKn hS n t _ _ ht hn;rw[hv]at h1
 match asx,h1,h2 with
 |[a],h1,h2=>exact⟨n,a,h2,TRel.of_v (VRel.of_a (ARel.of_b (DRel.toB (G:=G0 w) h1.1)))⟩
section
variable {P:Program} {n:Nat} {t:TypeId} {l:List AV}
theorem zzX{k:IntKind}(hu:P.underlying t=some (.int k))(h:zdA P n t l):∃m,l=[.int k m]∧(Lit.int k m).wf=true:=by
 cases n with
 |zero=>exact h.elim
 |succ n=>unfold zdA at h;rw[hu]at h;exact h
end
end
end Go.Proofs.YtaifokkaaahdoaaGreatDoor
