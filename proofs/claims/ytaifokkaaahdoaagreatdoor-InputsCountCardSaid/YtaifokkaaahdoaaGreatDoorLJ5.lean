import Derived.Test.YtaifokkaaahdoaaGreatDoorLC4
import Derived.Test.YtaifokkaaahdoaaGreatDoorKGL5
import Derived.Test.YtaifokkaaahdoaaGreatDoorAbsT
set_option linter.unusedSectionVars false
set_option linter.unusedSimpArgs false
set_option linter.unusedVariables false
set_option maxRecDepth 8000
namespace Go.Proofs.YtaifokkaaahdoaaGreatDoor
open Go Go.Abs
theorem zCS(x:List VT)(hl:x.length≤1000000000)(fv:AV)(H:zaa)(K:AV→zaa→Prop)(hfv:fv.sc H.length=true)(Inv:Nat→zaa→Prop)(h0:Inv 0 H)(step:∀(i:Nat) (h:i<x.length) (H':zaa),H.length≤H'.length→Inv i H'→aCallV tP fv [.agg (x[i]).cs] H' λr H''=>(r=.bool false∧Inv (i+1) H'')∨(r=.bool true∧K (.int .i64 i) H''))(fin:∀H',Inv x.length H'→K (.int .i64 (-1)) H'):ACalls tP zom [.sl (VT.css x) .none,fv] H K:=by
 refine zIr λhs=>?_;simp[zx1];refine zIp (Inv:=λq t8 H'=>∃i:Nat,i≤x.length∧q=x.length-i∧t8=.int .i64 i∧H.length≤H'.length∧Inv i H') x.length ?_ ?_
 ·intro _;exact⟨0,by omega,by omega,rfl,Nat.le_refl _,h0⟩
 ·rintro q t8 H' ⟨i,hi,rfl,rfl,hle,hI⟩ hsc hlen hsF Kb hKb;by_cases hlt:i<x.length
  ·simp[zqo,hlt];refine (step i hlt H' hle hI).mono' λr H'' hsc' hle' hr=>?_;rcases hr with ⟨rfl,hI'⟩ | ⟨rfl,hk⟩
   ·simp;rw[zaB (by omega) (by omega)];refine hKb _ _ ⟨x.length-(i+1),by omega,Back.here (by omega) hsc' ?_ ⟨_,rfl,i+1,by omega,rfl,by simp,by omega,hI'⟩⟩;simp[zkW,AV.sc,AV.scV,AV.scA,AV.scB];exact zbU (by omega) hfv
   ·simpa using hk
  ·obtain rfl:i=x.length:=by omega
   simp[zqo];exact fin H' hI
theorem ztw(x:List VT)(hl:x.length≤1000000000)(fv:AV)(H:zaa)(K:AV→zaa→Prop)(hfv:fv.sc H.length=true)(Inv:Nat→zaa→Prop)(h0:Inv 0 H)(step:∀(i:Nat) (h:i<x.length) (H':zaa),H.length≤H'.length→Inv i H'→aCallV tP fv [.agg (x[i]).cs] H' λr H''=>(r=.bool false∧Inv (i+1) H'')∨(r=.bool true∧K (.bool true) H''))(fin:∀H',Inv x.length H'→K (.bool false) H'):ACalls tP zjQ [.sl (VT.css x) .none,fv] H K:=by
 refine zQo λhs=>?_;unfold zAT;refine zCS x hl fv H _ hfv Inv h0 (λi h H' hle hI=>(step i h H' hle hI).mono' λr H'' _ _ hr=>?_) (λH' hI=>?_)
 ·rcases hr with hr | ⟨h1,h2⟩
  ·exact .inl hr
  ·refine .inr ⟨h1,?_⟩;have:decide ((0:Int)≤i)=true:=by simp
   simpa using h2
 ·simpa using fin H' hI
theorem zCx(f:VT→VT→Bool)(fv:AV)(x y:List VT)(H:zaa)(hsc:fv.sc H.length=true)(hf:∀(i:Nat) (h1:i<x.length) (h2:i<y.length),x.length=y.length→∀(J:zaa) (K:AV→zaa→Prop),K (.bool (f x[i] y[i])) (H++J)→aCallV tP fv [.agg (x[i]).cs,.agg (y[i]).cs] (H++J) K)(hl:x.length≤1000000000)(K:AV→zaa→Prop)(hK:K (.bool (zbN f x y)) H):ACalls tP zon [.sl (VT.css x) .none,.sl (VT.css y) .none,fv] H K:=by
 refine ACalls.out (zIx λhs=>?_);have hO:∀J,Out H.length K (.bool (zbN f x y)) (H++J):=λJ=>Out.bool rfl (Nat.le_refl _) hs hK;by_cases hlen:x.length=y.length
 ·simp[zqq,hlen];refine zIv (Inv:=λq t17 H'=>∃i:Nat,i≤x.length∧q=x.length-i∧t17=.int .i64 i∧zbN f (x.drop i) (y.drop i)=zbN f x y∧H=H') x.length ?_ ?_
  ·intro _;exact⟨0,by omega,by omega,rfl,by simp,rfl⟩
  ·rintro q t17 H' ⟨i,hi,rfl,rfl,ho,rfl⟩ hsc4 hlen2 hsF Kb hKb;by_cases hlt:i<x.length
   ·have hlt':i<y.length:=by omega
    have hltI:(i:Int)<y.length:=by omega
    rw[List.drop_eq_getElem_cons hlt,List.drop_eq_getElem_cons hlt',zbN]at ho;obtain⟨x1,x2,x3,hvx,hx1,hx2,hx3⟩:=zaO x[i];obtain⟨y1,y2,y3,hvy,hy1,hy2,hy3⟩:=zaO y[i];simp[zqr,hlt,hlt',hvx,hx1,hx2,hx3,hvy,hy1,hy2,hy3];rw[←hvx,←hvy];refine hf i hlt hlt' hlen _ _ ?_;cases hb:f x[i] y[i] with
    |false=>rw[hb,Bool.false_and]at ho;rw[←ho]at hO;simp;exact hO _
    |true=>rw[hb,Bool.true_and]at ho;simp;rw[zaB (by omega) (by omega)];refine hKb _ _ ⟨x.length-(i+1),by omega,Back.same (by simp) hs ?_ ⟨_,rfl,i+1,by omega,rfl,by simp,ho,rfl⟩⟩;simp[zkY,AV.sc,AV.scV,AV.scA,AV.scB];exact hsc
   ·have hlt':¬ i<y.length:=by omega
    obtain rfl:i=x.length:=by omega
    rw[List.drop_length,hlen,List.drop_length,zbN]at ho;rw[←ho]at hO;simp[zqr,hlt'];simpa using hO []
 ·have hl':((x.length:Int) != y.length)=true:=by simp;omega
  rw[ziV hlen]at hO;simp[zqq,hl'];simpa using hO []
theorem zB0:zc5 tP zoS=true:=by kernel_rfl
theorem zNK:∀ (m:Nat) (v:VT),v.nodes≤m→∀ (left:Int),(v.nodes:Int)≤left→left≤1000000→∀ (H:zaa) (id:Nat),H[id]?=some (.cells [.int .i64 left])→∀ (K:AV→zaa→Prop),
  K (.bool true) (H.set id (.cells [.int .i64 (left-v.nodes)]))→ACalls tP zjG [.agg v.cs,.ptr id 0] H K:=by
 intro m;induction m with
 |zero=>intro v h;have:=v.nodes_pos;omega
 |succ m ih=>
  intro v hv left hl0 hl1 H id hid K hK;obtain⟨k,n,ks⟩:=v;have hlt:=zfu hid;have hnn:(VT.mk k n ks).nodes=VT.nodesL ks+1:=by simp[VT.nodes]
  have hll:=VT.len_le ks;refine ACalls.out (zNJ λhs=>?_);have hget:(H++[AB.cells [.int .i64 k,.int .i64 n,.sl (VT.css ks) .none],.cells [.ptr id 0]])[id]?=some (.cells [.int .i64 left]):=zck hid;have hset:∀(J:zaa) (x:AB),(H++J).set id x=H.set id x++J:=λJ x=>zeF x hid;have hg:∀(l:zaa) (x:AB) (j:Nat),(H.set id x++l)[H.length+j]?=l[j]?:=λl x j=>by have:=zt7 (H.set id x) l j;rwa [List.length_set]at this
  have hgi:∀(l:zaa) (x:AB),(H.set id x++l)[id]?=some x:=λl x=>zck (zdx x hid);have hl0':¬left-1<0:=by omega
  simp[zzT,VT.cs,hget,AV.known,hset,hg,hgi];rw[zaB (by omega) (by omega)];simp[hl0'];refine⟨rfl,?_⟩;refine ztw ks (by omega) _ _ _ (by simp[AV.sc,AV.scV,AV.scA,AV.scB]) (λi H'=>H'=H.set id (.cells [.int .i64 (left-1-VT.nodesL (ks.take i))])++[.cells [.int .i64 k,.int .i64 n,.sl (VT.css ks) .none],.cells [.ptr id 0]]) (by simp[VT.nodesL]) ?_ ?_
  ·rintro i hi H' hle rfl;have hki:=VT.kid_lt (k:=k) (n:=n) hi;have h1:=VT.nodesL_take hi;have h2:=VT.nodesL_take_le ks (i+1);simp[aCallV,zB0];refine ACalls.out (zQr λhs1=>?_);obtain⟨x,y,z,hvx,hx,hy,hz⟩:=zaO ks[i];simp[zAU,hvx,hg];rw[←hvx];refine ih ks[i] (by omega) (left-1-VT.nodesL (ks.take i)) (by omega) (by omega) _ id (hgi _ _) _ ?_;rw[zeF _ (zdx _ hid),List.set_set];simp;refine Out.bool (H2:=H.set id (.cells [.int .i64 (left-1-VT.nodesL (ks.take (i+1)))])++[.cells [.int .i64 k,.int .i64 n,.sl (VT.css ks) .none],.cells [.ptr id 0]]) (J:=[.cells (ks[i]).cs]) ?_ (by simp) ?_ (.inl ⟨rfl,rfl⟩)
   ·have e:left-1-(VT.nodesL (ks.take i):Int)-(ks[i]).nodes=left-1-VT.nodesL (ks.take (i+1)):=by omega
    rw[e];simp
   ·exact(hs.set rfl).append (by simp[AB.sc];omega)
  ·rintro H' rfl;simp;refine Out.bool rfl (by simp) (hs.set rfl) ?_;rw[hnn]at hK;have e:left-1-(VT.nodesL ks:Int)=left-((VT.nodesL ks+1:Nat):Int):=by omega
   rw[e];exact hK
theorem ziY(data:List Dat):∀ vs ts:List VT,zbX data vs ts=zbN (zax data) vs ts
 |[],[]=>by simp[zbX,zbN]
 |[],_::_=>by simp[zbX,zbN]
 |_::_,[]=>by simp[zbX,zbN]
 |v::vs,t::ts=>by simp[zbX,zbN,ziY data vs ts]
theorem zB3:zc5 tP zoo=true:=by kernel_rfl
theorem zB2:zc5 tP zoa=true:=by kernel_rfl
theorem zwH{data:List Dat}{k n:Int}{ks:List VT}(h:zaH data 0 (.mk k n ks)=true):(k=1∧ks=[])∨(k=2∧ks=[])∨(k=3∧ks=[])∨k=5∨(k=6∧2≤ks.length)∨(k=7∧ks.length=1)∨(k=8∧ks.length=1)∨(k=9∧1≤ks.length):=by
 rw[zaH,Bool.and_eq_true]at h;have h:=h.1;unfold zaR at h;by_cases h1:k=1
 ·subst h1;simp at h;simp[h.2]
 by_cases h2:k=2
 ·subst h2;simp at h;simp[h.2]
 by_cases h3:k=3
 ·subst h3;simp at h;simp[h.2]
 by_cases h4:k=4
 ·subst h4;simp at h;omega
 by_cases h5:k=5
 ·subst h5;simp
 by_cases h6:k=6
 ·subst h6;simp at h;simp;omega
 by_cases h7:k=7
 ·subst h7;simp at h;simp;omega
 by_cases h8:k=8
 ·subst h8;simp at h;simp;omega
 by_cases h9:k=9
 ·subst h9;simp at h;simp;omega
 simp[h1,h2,h3,h4,h5,h6,h7,h8,h9]at h
structure DOk (data:List Dat):Prop where
 ok:zaE data=true
theorem zuC{data:List Dat}(h:zaE data=true):data.length≤1000000∧(∀d∈data,∀c∈d.cons,c.args.length≤1000∧∀x∈c.args,x.nodes≤1000)∧∀d∈data,d.cons.length≤1000000:=by
 refine⟨by have:=ziS h;omega,λD hD c hc=>?_,λD hD=>?_⟩
 ·obtain⟨i,hi,rfl⟩:=List.mem_iff_getElem.1 hD;obtain⟨h1,h2⟩:=ziM h hi c hc;exact⟨by omega,λx hx=>by have:=(h2 x hx).1;omega⟩
 ·obtain⟨i,hi,rfl⟩:=List.mem_iff_getElem.1 hD;have:=zg1 h hi;omega
section
variable {data:List Dat} (hD:DOk data)
def zm8(data:List Dat)(v:VT):Prop:=∀(t:VT),zaD data 0 t=true→∀(H:zaa) (K:AV→zaa→Prop),K (.bool (zax data v t)) H→ACalls tP zhE [.sl (data.map Dat.cs) .none,.agg v.cs,.agg t.cs] H K
theorem zsH(vs ts:List VT)(hl:vs.length≤1000000)(hv:∀ v∈vs,zm8 data v)(ht:∀ t∈ts,zaD data 0 t=true)(H:zaa)(K:AV→zaa→Prop)(hK:K (.bool (zbX data vs ts)) H):
  ACalls tP zhL [.sl (data.map Dat.cs) .none,.sl (VT.css vs) .none,.sl (VT.css ts) .none] H K:=by
 refine ACalls.out (zQu λhs=>?_);simp[zAV];refine⟨rfl,zCx (zax data) _ vs ts _ (by simp[AV.sc,AV.scV,AV.scA,AV.scB]) ?_ (by omega) _ ?_⟩
 ·intro i h1 h2 hle J K' hK';simp[aCallV,zB3];refine ACalls.out (zIB λhs1=>?_);obtain⟨x,y,z,hvx,hx,hy,hz⟩:=zaO vs[i];obtain⟨x2,y2,z2,hvx2,hx2,hy2,hz2⟩:=zaO ts[i];simp[zx4,hvx,hvx2];rw[←hvx,←hvx2];refine hv _ (List.getElem_mem h1) _ (ht _ (List.getElem_mem h2)) _ _ ?_;refine Out.bool (H2:=H++[.cells [.sl (data.map Dat.cs) .none]]++J) (J:=[.cells (vs[i]).cs,.cells (ts[i]).cs]) (by simp) (by simp) (by simpa using hs1) (by simpa using hK')
 ·rw[←ziY];exact Out.bool rfl (Nat.le_refl _) hs hK
theorem i0(n:Nat):((n:Int) == 0)=(n == 0):=by rw[Bool.eq_iff_iff];simp
theorem zt4{ks:List VT}(h:0<ks.length):ks.getD 0 (.mk 0 0 [])=ks[0]:=by simp[List.getD_eq_getElem?_getD,h]
theorem zua{data:List Dat}{t:VT}{vs:List VT}{i:Nat}(h:i<vs.length):zcc data (vs.drop i) t=(zax data vs[i] t && zcc data (vs.drop (i+1)) t):=by rw[List.drop_eq_getElem_cons h,zcc]
include hD in
theorem zNO:∀(m:Nat) (v:VT),v.nodes≤m→v.nodes≤1000000→zm8 data v:=by
 intro m;induction m with
 |zero=>intro v h;have:=v.nodes_pos;omega
 |succ m ih=>
  intro v hm hb t ht H K hK;obtain⟨vk,vn,vks⟩:=v;obtain⟨k,n,ks⟩:=t;refine ACalls.out (zNN λhs=>?_);have hO:∀b J,zax data (.mk vk vn vks) (.mk k n ks)=b→Out H.length K (.bool b) (H++J):=λb J h=>Out.bool rfl (Nat.le_refl _) hs (h ▸ hK);have hll:=VT.len_le vks;have hnn:(VT.mk vk vn vks).nodes=VT.nodesL vks+1:=by simp[VT.nodes]
  have hkids:∀x∈vks,zm8 data x:=λx hx=>ih x (by have:=zuD (k:=vk) (n:=vn) x hx;omega) (by have:=zgg (k:=vk) (n:=vn) x hx;omega);have htk:=ze7 ht;have hto:zaH data 0 (.mk k n ks)=true:=by rw[zaD,Bool.and_eq_true]at ht;exact ht.2
  have htn:(VT.mk k n ks).nodes≤200:=by rw[zaD,Bool.and_eq_true]at ht;exact of_decide_eq_true ht.1
  obtain⟨f1,f2,f3⟩:=zuC hD.ok;rcases zwH hto with ⟨rfl,rfl⟩|⟨rfl,rfl⟩|⟨rfl,rfl⟩|rfl|⟨rfl,hk⟩|⟨rfl,hk⟩|⟨rfl,hk⟩|⟨rfl,hk⟩
  ·simp[zex,VT.cs,Nat.add_assoc];cases h1:(vk == 3) <;> simp
   ·exact hO _ _ (by simp[zax,h1])
   by_cases h2:-1099511627776≤vn <;> simp[h2]
   ·by_cases h3:vn≤1099511627776 <;> simp[h3]
    ·exact hO _ _ (by simp[zax,h1,h2,h3,i0])
    ·exact hO _ _ (by simp[zax,h1,h2,h3])
   ·exact hO _ _ (by simp[zax,h1,h2])
  ·simp[zex,VT.cs,Nat.add_assoc];cases h1:(vk == 2) <;> simp
   ·exact hO _ _ (by simp[zax,h1])
   cases h2:(vn == 0) <;> simp[Nat.add_assoc]
   ·cases h3:(vn == 1) <;> simp
    ·exact hO _ _ (by simp[zax,h1,h2,h3])
    ·exact hO _ _ (by simp[zax,h1,h2,h3,i0])
   ·exact hO _ _ (by simp[zax,h1,h2,i0])
  ·simp[zex,VT.cs,Nat.add_assoc];cases h1:(vk == 1) <;> simp
   ·exact hO _ _ (by simp[zax,h1])
   cases h2:(vn == 0) <;> simp[Nat.add_assoc]
   ·exact hO _ _ (by simp[zax,h1,h2])
   ·exact hO _ _ (by simp[zax,h1,h2,i0])
  ·-- a data type
   simp[zex,VT.cs,Nat.add_assoc];cases h1:(vk == 5) with
   |false=>
    have:(vk != 5)=true:=by simp[bne,h1]
    simp[this];exact hO _ _ (by simp[zax,h1])
   |true=>
   have h1':(vk != 5)=false:=by simp[bne,h1]
   by_cases h2:vn<0
   ·simp[h1',h2];exact hO _ _ (by simp[zax,h1];omega)
   by_cases h3:8≤vn
   ·simp[h1',h2,h3];exact hO _ _ (by simp[zax,h1];omega)
   simp[h1',h2,h3,Nat.add_assoc];have e:∀o,zbi data (.mk 5 n ks) vn=o→zax data (.mk vk vn vks) (.mk 5 n ks)=zeO data vks o:=λo ho=>by
    have q1:0≤vn:=by omega
    have q2:vn<8:=by omega
    simp[zax,h1,q1,q2,ho]
   have hcs:(VT.mk 5 n ks).cs=[.int .i64 5,.int .i64 n,.sl (VT.css ks) .none]:=rfl;rw[←hcs];refine zAZ data f1 f2 f3 (.mk 5 n ks) (by omega) vn _ _ ?_;cases hf:zbi data (.mk 5 n ks) vn with
   |none=>simp[zeg];exact hO _ _ (by rw[e _ hf,zub])
   |some l=>simp[zeg,hcs];refine zsH vks l (by omega) hkids (znF hD.ok hto hf) _ _ ?_;exact hO _ _ (by rw[e _ hf,znM])
  ·simp[zex,VT.cs,Nat.add_assoc];cases h1:(vk == 4) <;> simp
   ·exact hO _ _ (by simp[zax,h1])
   cases h2:(vn == 0) <;> simp[Nat.add_assoc]
   ·exact hO _ _ (by simp[zax,h1,h2])
   refine zsH vks ks (by omega) hkids htk _ _ ?_;exact hO _ _ (by simp[zax,h1,h2])
  ·-- an array
   simp[zex,VT.cs,Nat.add_assoc];cases h1:(vk == 6) <;> simp
   ·exact hO _ _ (by simp[zax,h1])
   cases h2:(vn == 0) <;> simp[Nat.add_assoc]
   ·exact hO _ _ (by simp[zax,h1,h2])
   by_cases h3:vks.length≤4096;case neg=>
    have h3':¬(vks.length:Int)≤4096:=by omega
    simp[h3,h3'];exact hO _ _ (by simp[zax,h1,h2,h3])
   have h3':(vks.length:Int)≤4096:=by omega
   simp[h3,h3'];refine⟨⟨rfl,rfl⟩,?_⟩;have hk0:0<ks.length:=by omega
   have e:zax data (.mk vk vn vks) (.mk 7 n ks)=zcc data vks ks[0]:=by have:=zt4 hk0;simp[zax,h1,h2,h3,this,hk0]
   refine ztw vks (by omega) _ _ _ (by simp[AV.sc,AV.scV,AV.scA,AV.scB]) (λi H'=>H'=H++[.cells [.sl (data.map Dat.cs) .none],.cells [.int .i64 vk,.int .i64 vn,.sl (VT.css vks) .none],.cells [.int .i64 7,.int .i64 n,.sl (VT.css ks) .none]]∧zcc data (vks.drop i) ks[0]=zcc data vks ks[0]) ⟨rfl,by simp⟩ ?_ ?_
   ·rintro i hi H' hle ⟨rfl,ho⟩;rw[zua hi]at ho;simp[aCallV,zB2];refine ACalls.out (zGc λhs1=>?_);obtain⟨x,y,z,hvx,hx,hy,hz⟩:=zaO vks[i];obtain⟨x2,y2,z2,hvx2,hx2,hy2,hz2⟩:=zaO ks[0];simp[zw4,hvx,hk0,hvx2,Nat.add_assoc];rw[←hvx,←hvx2];refine zaC (.bool (zax data vks[i] ks[0])) (λJ=>hkids _ (List.getElem_mem hi) ks[0] (htk _ (List.getElem_mem hk0)) _ _ ⟨rfl,rfl⟩) ?_;simp;cases hb:zax data vks[i] ks[0] with
    |true=>rw[hb,Bool.true_and]at ho;exact Out.bool (H2:=H++[.cells [.sl (data.map Dat.cs) .none],.cells [.int .i64 vk,.int .i64 vn,.sl (VT.css vks) .none],.cells [.int .i64 7,.int .i64 n,.sl (VT.css ks) .none]]) (J:=[_]) (by simp;rfl) (by simp) hs1 (.inl ⟨rfl,rfl,ho⟩)
    |false=>rw[hb,Bool.false_and]at ho;refine Out.bool (H2:=H++[.cells [.sl (data.map Dat.cs) .none],.cells [.int .i64 vk,.int .i64 vn,.sl (VT.css vks) .none],.cells [.int .i64 7,.int .i64 n,.sl (VT.css ks) .none]]) (J:=[_]) (by simp;rfl) (by simp) hs1 (.inr ⟨rfl,?_⟩);exact hO _ _ (by rw[e,←ho])
   ·rintro H' ⟨rfl,ho⟩;rw[List.drop_length,zcc]at ho;simp;exact hO _ _ (by rw[e,←ho])
  ·simp[zex,VT.cs,Nat.add_assoc];cases h1:(vk == 7) <;> simp
   ·exact hO _ _ (by simp[zax,h1])
   cases h2:(vn == 0) <;> simp[Nat.add_assoc]
   ·exact hO _ _ (by simp[zax,h1,h2])
   refine zsH vks ks (by omega) hkids htk _ _ ?_;exact hO _ _ (by simp[zax,h1,h2])
  ·simp[zex,VT.cs,Nat.add_assoc];cases h1:(vk == 8) <;> simp
   ·exact hO _ _ (by simp[zax,h1])
   by_cases h2:0≤vn <;> simp[h2]
   ·by_cases h3:vn<64 <;> simp[h3]
    ·exact hO _ _ (by simp[zax,h1,h2,h3,i0])
    ·exact hO _ _ (by simp[zax,h1,h2,h3])
   ·exact hO _ _ (by simp[zax,h1,h2])
end
section
variable {data:List Dat} (hD:DOk data)
def zm7(data:List Dat)(v:VT):Prop:=∀(t:VT),zaD data 0 t=true→∀(H:zaa) (K:AV→zaa→Prop),K (.bool (zax data v t)) H→ACalls tP zjx [.sl (data.map Dat.cs) .none,.agg v.cs,.agg t.cs] H K
theorem zCw{f:VT→VT→Bool}{x y:List VT}{i:Nat}(h:i<x.length)(h':i<y.length):zbN f (x.drop i) (y.drop i)=(f x[i] y[i] && zbN f (x.drop (i+1)) (y.drop (i+1))):=by rw[List.drop_eq_getElem_cons h,List.drop_eq_getElem_cons h',zbN]
theorem zzY(vs ts:List VT)(hl:vs.length≤1000000)(hv:∀ v∈vs,zm7 data v)(ht:∀ t∈ts,zaD data 0 t=true)(H:zaa)(K:AV→zaa→Prop)(hK:K (.bool (zbX data vs ts)) H):
  ACalls tP zjI [.sl (data.map Dat.cs) .none,.sl (VT.css vs) .none,.sl (VT.css ts) .none] H K:=by
 refine ACalls.out (zN3 λhs=>?_);rw[ziY]at hK;have hO:∀b,zbN (zax data) vs ts=b→Out H.length K (.bool b) H:=λb h=>by have:=Out.bool (J:=[]) rfl (Nat.le_refl _) hs (h ▸ hK);simpa using this
 by_cases hlen:vs.length=ts.length;case neg=>
  have hl':((vs.length:Int) != ts.length)=true:=by simp;omega
  simp[zrS,hl'];exact hO _ (ziV hlen)
 simp[zrS,hlen];refine zN1 (Inv:=λq t H'=>∃i:Nat,i≤vs.length∧q=vs.length-i∧t=.int .i64 i∧zbN (zax data) (vs.drop i) (ts.drop i)=zbN (zax data) vs ts∧H=H') vs.length ?_ ?_
 ·intro _;exact⟨0,by omega,by omega,rfl,by simp,rfl⟩
 rintro q t H' ⟨i,hi,rfl,rfl,ho,rfl⟩ hsc hle hsF Kb hKb;by_cases hlt:i<vs.length
 ·have hlt':i<ts.length:=by omega
  have hlt2:(i:Int)<ts.length:=by omega
  rw[zCw hlt hlt']at ho;obtain⟨x,y,z,hvx,hx,hy,hz⟩:=zaO vs[i];obtain⟨x2,y2,z2,hvx2,hx2,hy2,hz2⟩:=zaO ts[i];simp[zrT,hlt,hlt',hlt2,hvx,hvx2];rw[←hvx,←hvx2];refine zaC (.bool (zax data vs[i] ts[i])) (λJ=>hv _ (List.getElem_mem hlt) _ (ht _ (List.getElem_mem hlt')) _ _ ⟨rfl,rfl⟩) ?_;cases hb:zax data vs[i] ts[i] with
  |false=>rw[hb,Bool.false_and]at ho;simp;exact hO _ ho.symm
  |true=>rw[hb,Bool.true_and]at ho;simp;rw[zaB (by omega) (by omega)];refine hKb _ _ ⟨vs.length-(i+1),by omega,Back.here (Nat.le_refl _) hs ?_ ⟨_,rfl,i+1,by omega,rfl,by simp,ho,rfl⟩⟩;simp[zmo,AV.sc,AV.scV,AV.scA,AV.scB]
 ·obtain rfl:i=vs.length:=by omega
  rw[List.drop_length,hlen,List.drop_length,zbN]at ho;simp[zrT,hlen];exact hO _ ho.symm
theorem zCN{data:List Dat}{vks ks:List VT}(h1:vks.length=1)(h2:ks.length=1):zbX data vks ks=zcc data vks (ks[0]'(by omega)):=by
 match vks,ks,h1,h2 with
 |[v],[k],_,_=>simp[zbX,zcc]
include hD in
theorem zUl:∀(m:Nat) (v:VT),v.nodes≤m→v.nodes≤1000000→zm7 data v:=by
 intro m;induction m with
 |zero=>intro v h;have:=v.nodes_pos;omega
 |succ m ih=>
  intro v hm hb t ht H K hK;obtain⟨vk,vn,vks⟩:=v;obtain⟨k,n,ks⟩:=t;refine ACalls.out (zLp λhs=>?_);have hO:∀b J,zax data (.mk vk vn vks) (.mk k n ks)=b→Out H.length K (.bool b) (H++J):=λb J h=>Out.bool rfl (Nat.le_refl _) hs (h ▸ hK);have hll:=VT.len_le vks;have hnn:(VT.mk vk vn vks).nodes=VT.nodesL vks+1:=by simp[VT.nodes]
  have hkids:∀x∈vks,zm7 data x:=λx hx=>ih x (by have:=zuD (k:=vk) (n:=vn) x hx;omega) (by have:=zgg (k:=vk) (n:=vn) x hx;omega);have htk:=ze7 ht;have hto:zaH data 0 (.mk k n ks)=true:=by rw[zaD,Bool.and_eq_true]at ht;exact ht.2
  have htn:(VT.mk k n ks).nodes≤200:=by rw[zaD,Bool.and_eq_true]at ht;exact of_decide_eq_true ht.1
  obtain⟨f1,f2,f3⟩:=zuC hD.ok;have loop:∀ (hk:ks.length=1) ,zax data (.mk vk vn vks) (.mk k n ks)=zcc data vks (ks[0]'(by omega)) →
    zrg (.sl (data.map Dat.cs) .none) (.ptr H.length 0) (.ptr (H.length+1) 0) (.int .i64 vks.length) (.int .i64 0) (H++[.cells [.int .i64 vk,.int .i64 vn,.sl (VT.css vks) .none],.cells [.int .i64 k,.int .i64 n,.sl (VT.css ks) .none]]) (Out H.length K):=by
   intro hk e;have hk0:0<ks.length:=by omega
   refine zLn (Inv:=λq t10 H'=>∃i:Nat,i≤vks.length∧q=vks.length-i∧t10=.int .i64 i∧zcc data (vks.drop i) ks[0]=zcc data vks ks[0]∧H'=H++[.cells [.int .i64 vk,.int .i64 vn,.sl (VT.css vks) .none],.cells [.int .i64 k,.int .i64 n,.sl (VT.css ks) .none]]) vks.length ?_ ?_
   ·intro _;exact⟨0,by omega,by omega,rfl,by simp,rfl⟩
   rintro q t10 H' ⟨i,hi,rfl,rfl,ho,rfl⟩ hsc hle hsF Kb hKb;by_cases hlt:i<vks.length
   ·rw[zua hlt]at ho;obtain⟨x,y,z,hvx,hx,hy,hz⟩:=zaO vks[i];obtain⟨x2,y2,z2,hvx2,hx2,hy2,hz2⟩:=zaO ks[0];simp[zre,hlt,hvx,hk0,hvx2];rw[←hvx,←hvx2];refine zaC (.bool (zax data vks[i] ks[0])) (λJ=>hkids _ (List.getElem_mem hlt) ks[0] (htk _ (List.getElem_mem hk0)) _ _ ⟨rfl,rfl⟩) ?_;cases hb2:zax data vks[i] ks[0] with
    |false=>rw[hb2,Bool.false_and]at ho;simp;exact hO _ _ (e.trans ho.symm)
    |true=>rw[hb2,Bool.true_and]at ho;simp;rw[zaB (by omega) (by omega)];refine hKb _ _ ⟨vks.length-(i+1),by omega,Back.here (by simp) hsc ?_ ⟨_,rfl,i+1,by omega,rfl,by simp,ho,rfl⟩⟩;simp[zlF,AV.sc,AV.scV,AV.scA,AV.scB]
   ·obtain rfl:i=vks.length:=by omega
    rw[List.drop_length,zcc]at ho;simp[zre];exact hO _ _ (e.trans ho.symm)
  rcases zwH hto with ⟨rfl,rfl⟩|⟨rfl,rfl⟩|⟨rfl,rfl⟩|rfl|⟨rfl,hk⟩|⟨rfl,hk⟩|⟨rfl,hk⟩|⟨rfl,hk⟩
  ·simp[zev,VT.cs,Nat.add_assoc];cases h1:(vk == 3) <;> simp
   ·exact hO _ _ (by simp[zax,h1])
   by_cases h2:-1099511627776≤vn <;> simp[h2]
   ·by_cases h3:vn≤1099511627776 <;> simp[h3]
    ·exact hO _ _ (by simp[zax,h1,h2,h3,i0])
    ·exact hO _ _ (by simp[zax,h1,h2,h3])
   ·exact hO _ _ (by simp[zax,h1,h2])
  ·simp[zev,VT.cs,Nat.add_assoc];cases h1:(vk == 2) <;> simp
   ·exact hO _ _ (by simp[zax,h1])
   cases h2:(vn == 0) <;> simp
   ·cases h3:(vn == 1) <;> simp
    ·exact hO _ _ (by simp[zax,h1,h2,h3])
    ·exact hO _ _ (by simp[zax,h1,h2,h3,i0])
   ·exact hO _ _ (by simp[zax,h1,h2,i0])
  ·simp[zev,VT.cs,Nat.add_assoc];cases h1:(vk == 1) <;> simp
   ·exact hO _ _ (by simp[zax,h1])
   cases h2:(vn == 0) <;> simp
   ·exact hO _ _ (by simp[zax,h1,h2])
   ·exact hO _ _ (by simp[zax,h1,h2,i0])
  ·-- a data type
   simp[zev,VT.cs,Nat.add_assoc];cases h1:(vk == 5) with
   |false=>
    have:(vk != 5)=true:=by simp[bne,h1]
    simp[this];exact hO _ _ (by simp[zax,h1])
   |true=>
   have h1':(vk != 5)=false:=by simp[bne,h1]
   by_cases h2:vn<0
   ·simp[h1',h2];exact hO _ _ (by simp[zax,h1];omega)
   by_cases h3:8≤vn
   ·simp[h1',h2,h3];exact hO _ _ (by simp[zax,h1];omega)
   simp[h1',h2,h3,Nat.add_assoc];have e:∀o,zbi data (.mk 5 n ks) vn=o→zax data (.mk vk vn vks) (.mk 5 n ks)=zeO data vks o:=λo ho=>by
    have q1:0≤vn:=by omega
    have q2:vn<8:=by omega
    simp[zax,h1,q1,q2,ho]
   have hcs:(VT.mk 5 n ks).cs=[.int .i64 5,.int .i64 n,.sl (VT.css ks) .none]:=rfl;rw[←hcs];refine zOb data f1 f2 f3 (.mk 5 n ks) (by omega) vn _ _ ?_;cases hf:zbi data (.mk 5 n ks) vn with
   |none=>simp[zeg];exact hO _ _ (by rw[e _ hf,zub])
   |some l=>simp[zeg,hcs];refine zzY vks l (by omega) hkids (znF hD.ok hto hf) _ _ ?_;exact hO _ _ (by rw[e _ hf,znM])
  ·simp[zev,VT.cs,Nat.add_assoc];cases h1:(vk == 4) <;> simp
   ·exact hO _ _ (by simp[zax,h1])
   cases h2:(vn == 0) <;> simp
   ·exact hO _ _ (by simp[zax,h1,h2])
   refine zzY vks ks (by omega) hkids htk _ _ ?_;exact hO _ _ (by simp[zax,h1,h2])
  ·-- an array
   simp[zev,zii,VT.cs,Nat.add_assoc];have hk0:0<ks.length:=by omega
   cases h1:(vk == 6) with
   |false=>
    have:(vk != 6)=true:=by simp[bne,h1]
    simp[this];exact hO _ _ (by simp[zax,h1])
   |true=>
   have h1':(vk != 6)=false:=by simp[bne,h1]
   by_cases h3:vks.length≤4096;case neg=>
    have h3':(4096:Int)<vks.length:=by omega
    simp[h1',h3'];exact hO _ _ (by simp[zax,h1,h3])
   have h3':¬(4096:Int)<vks.length:=by omega
   cases h2:(vn == 0) with
   |false=>
    have:(vn != 0)=true:=by simp[bne,h2]
    simp[h1',h3',this];exact hO _ _ (by simp[zax,h1,h2])
   |true=>
   have h2':(vn != 0)=false:=by simp[bne,h2]
   simp[h1',h3',h2'];exact loop hk (by have:=zt4 hk0;simp[zax,h1,h2,h3,this,hk0])
  ·simp[zev,zii,VT.cs,Nat.add_assoc];have hk0:0<ks.length:=by omega
   cases h1:(vk == 7) with
   |false=>
    have:(vk != 7)=true:=by simp[bne,h1]
    simp[this];exact hO _ _ (by simp[zax,h1])
   |true=>
   have h1':(vk != 7)=false:=by simp[bne,h1]
   by_cases h3:vks.length=1;case neg=>
    have h3':((vks.length:Int) != 1)=true:=by simp;omega
    simp[h1',h3'];refine hO _ _ ?_;have:zbX data vks ks=false:=by rw[ziY];exact ziV (by omega)
    simp[zax,h1,this]
   have h3':((vks.length:Int) != 1)=false:=by simp;omega
   cases h2:(vn == 0) with
   |false=>
    have:(vn != 0)=true:=by simp[bne,h2]
    simp[h1',h3',this];exact hO _ _ (by simp[zax,h1,h2])
   |true=>
   have h2':(vn != 0)=false:=by simp[bne,h2]
   simp[h1',h3',h2'];exact loop hk (by rw[←zCN h3 hk];simp[zax,h1,h2])
  ·simp[zev,zii,VT.cs,Nat.add_assoc];cases h1:(vk == 8) <;> simp
   ·exact hO _ _ (by simp[zax,h1])
   by_cases h2:0≤vn <;> simp[h2]
   ·by_cases h3:vn<64 <;> simp[h3]
    ·exact hO _ _ (by simp[zax,h1,h2,h3,i0])
    ·exact hO _ _ (by simp[zax,h1,h2,h3])
   ·exact hO _ _ (by simp[zax,h1,h2])
end
def zgd(data:List Dat)(v t:VT):Bool:=zc6 data t && zax data v t
theorem zKz(data:List Dat)(hF:zcY data)(hl:data.length≤1000000)(v t:VT)(hv:v.nodes≤5000)(ht:za1 t)(H:zaa)(K:Kt)(hK:K (.bool (zgd data v t)) H):
  ACalls tP zow [.sl (data.map Dat.cs) .none,.agg v.cs,.agg t.cs] H K:=by
 refine ACalls.out (zKy λhs=>?_);have hO:∀b J,zgd data v t=b→Out H.length K (.bool b) (H++J):=λb J h=>Out.bool rfl (Nat.le_refl _) hs (h ▸ hK);obtain⟨x,y,z,hvx,hx,hy,hz⟩:=zaO v;obtain⟨x2,y2,z2,hvx2,hx2,hy2,hz2⟩:=zaO t;simp[zyI,hvx,hvx2,Nat.add_assoc];rw[←hvx,←hvx2];refine zzS data hF hl t ht ?_;cases hf:zc6 data t with
 |false=>simp;exact hO _ _ (by simp[zgd,hf])
 |true=>have hf':=hf;rw[zc6,Bool.and_eq_true]at hf';simp[Nat.add_assoc];refine zNK _ v (Nat.le_refl _) 5000 (by omega) (by omega) _ (H.length+2) (by simp) _ ?_;simp[Nat.add_assoc];refine zNO ⟨hf'.1⟩ _ v (Nat.le_refl _) (by omega) t hf'.2 _ _ ?_;exact hO _ _ (by simp[zgd,hf])
theorem zLa:∀(m:Nat) (v:VT),v.nodes≤m→v.nodes≤100000→∀(H:zaa) (K:Kt),K (.int .i64 v.nodes) H→ACalls tP zjt [.agg v.cs] H K:=by
 intro m;induction m with
 |zero=>intro v h;have:=v.nodes_pos;omega
 |succ m ih=>
  intro v hm hb H K hK;obtain⟨k,n,ks⟩:=v;have hnn:(VT.mk k n ks).nodes=VT.nodesL ks+1:=by simp[VT.nodes]
  have hll:=VT.len_le ks;refine ACalls.out (zK8 λhs=>?_);simp[zyM,VT.cs,Nat.add_assoc];refine zK6 (Inv:=λq t3 t9 H'=>∃i:Nat,i≤ks.length∧ks.length-i=q∧t9=.int .i64 i∧t3=.int .i64 ((VT.nodesL (ks.take i)+1:Nat):Int)∧H'=H++[.cells [.int .i64 k,.int .i64 n,.sl (VT.css ks) .none]]) ks.length ?_ ?_
  ·intro _;exact⟨0,by omega,rfl,rfl,by simp[VT.nodesL],rfl⟩
  ·rintro q t3 t9 H' ⟨i,hi,rfl,rfl,rfl,rfl⟩ hsc' hlen hsF Kb hKb;have htk:=VT.nodesL_take_le ks i;by_cases hlt:i<ks.length
   ·obtain⟨x,y,z,hvx,hx,hy,hz⟩:=zaO ks[i];have hkn:=VT.kid_lt (k:=k) (n:=n) hlt;have hts:=VT.nodesL_take hlt;have hts2:=VT.nodesL_take_le ks (i+1);simp[zra,hlt,hvx,hx,hy,hz,wr (n:=i) (by omega),Nat.add_assoc];rw[←hvx];refine ih ks[i] (by omega) (by omega) _ _ ?_;have hw:IntKind.i64.wrap ((VT.nodesL (ks.take i):Int)+(1+(ks[i]).nodes))=((VT.nodesL (ks.take (i+1))+1:Nat):Int):=by rw[zaB (by omega) (by omega)];omega
    have hw2:IntKind.i64.wrap ((VT.nodesL (ks.take i):Int)+1+(ks[i]).nodes)=((VT.nodesL (ks.take (i+1))+1:Nat):Int):=by rw[zaB (by omega) (by omega)];omega
    simp[hw,hw2];exact hKb _ _ ⟨ks.length-(i+1),by omega,Back.at (J:=[.cells (ks[i]).cs]) (H2:=H++[.cells [.int .i64 k,.int .i64 n,.sl (VT.css ks) .none]]) (by simp) (by simp) (hs.append (by simp[AB.sc,AV.scA,AV.scB])) (by simp[zlA,ux,AV.sc,AV.scA,AV.scB,AV.scV]) ⟨_,_,rfl,i+1,by omega,rfl,rfl,rfl,rfl⟩⟩
   ·obtain rfl:i=ks.length:=by omega
    simp[zra];refine Out.int (J:=_) rfl (Nat.le_refl _) hs ?_;rw[hnn]at hK;simpa using hK
theorem zBO(xs:List Int)(h:zey xs):xs.Pairwise (· < ·):=by
 rw[List.pairwise_iff_getElem];have step:∀(j i:Nat),i<j→j<xs.length→xs.getD i 0<xs.getD j 0:=by
  intro j;induction j with
  |zero=>intro i h1;omega
  |succ j ih=>
   intro i h1 h2;have h3:=(h.2 (j+1) h2).2.2 (by omega);have h4:j+1-1=j:=by omega
   rw[h4]at h3;by_cases e:i=j
   ·subst e;exact h3
   ·have:=ih i (by omega) (by omega);omega
 intro i j hi hj hij;have:=step j i hij hj;simpa[List.getD_eq_getElem?_getD,hi,hj]using this
theorem zEa(xs:List Int)(h:zey xs):∀x∈xs,-1099511627776≤x∧x≤1099511627776:=λx hx=>by
 obtain⟨i,hi,rfl⟩:=List.mem_iff_getElem.1 hx;have:=h.2 i hi;have e:xs.getD i 0=xs[i]:=by simp[List.getD_eq_getElem?_getD,hi]
 unfold zgQ at this;rw[e]at this;exact⟨this.1,this.2.1⟩
theorem zCC{data:List Dat}{t:VT}(h:zbW data t=true):zc6 data t=true:=by unfold zbW at h;rw[Bool.and_eq_true]at h;exact h.1
theorem zA4(data:List Dat)(hl:data.length≤9223372036854775807)(hT:∀ D∈data,∀ c∈D.cons,∀ x∈c.args,za1 x)(t:VT)(ht:za1 t)(n:Int)(xs:List Int)(H:zaa)(h0:H[0]?=some .nodr)(K:Kt)(hK:K (.bool true) H):
  ACalls tP zoG [.sl (data.map Dat.cs) .none,.agg t.cs,.int .i64 n,.sl (ints xs) .none] H K:=by
 refine ACalls.out (zMX λhs=>?_);have hlt0:0<H.length:=(List.getElem?_eq_some_iff.1 h0).1;have hO:∀J,Out H.length K (.bool true) (H++J):=λJ=>Out.bool rfl (Nat.le_refl _) hs hK;obtain⟨x,y,z,hvx,hx,hy,hz⟩:=zaO t;simp only[zq4];simp[hvx];obtain⟨A,hA⟩:∃A,A=H++[AB.cells t.cs]:=⟨_,rfl⟩;have hAl:A.length=H.length+1:=by rw[hA];simp
 have hAs:HSc A:=by rw[hA];exact hs.append (by simp[AB.sc])
 have g0:∀J:zaa,(A++J)[0]?=some .nodr:=λJ=>by rw[hA,List.append_assoc,List.getElem?_append_left hlt0];exact h0
 have g0':A[0]?=some .nodr:=by have:=g0 [];rwa [List.append_nil]at this
 have gt:∀J:zaa,(A++J)[H.length]?=some (.cells t.cs):=λJ=>by rw[hA];simp
 have gt':A[H.length]?=some (.cells t.cs):=by have:=gt [];rwa [List.append_nil]at this
 rw[←hvx,←hA];have hOA:∀J,Out H.length K (.bool true) (A++J):=λJ=>by rw[hA,List.append_assoc];exact hO _
 have hOA0:Out H.length K (.bool true) A:=by have:=hOA [];rwa [List.append_nil]at this
 refine zzU _ g0' _ ?_;simp[gt'];rw[zdl];refine ACalls.wk (args':=[.sl (data.map Dat.cs) .none,.sl (VT.css [t]) .none,.int .i64 n,.sl (ints xs) .none]) ?_ ⟨.atom (.refl _),.atom (.sl _ _),.atom (.refl _),.atom (.refl _),trivial⟩;refine zAp data hl [t] (by simp) (by simp[ht]) n xs _ _ λb hb=>?_;cases b with
 |false=>simp;exact hOA0
 |true=>
  obtain⟨hd2,hn9,hx9,hk⟩:=hb rfl;have hF:=ztT hT hk;simp[gt'];rw[zdl];refine ACalls.wk (args':=[.sl (data.map Dat.cs) .none,.sl (VT.css [t]) .none,.int .i64 n,.sl (ints xs) .none]) ?_ ⟨.atom (.refl _),.atom (.sl _ _),.atom (.refl _),.atom (.refl _),trivial⟩;refine zKm data hF (by omega) [t] (by simp) ⟨ht,trivial⟩ n (by omega) xs (by omega) _ _ λb2=>?_;cases b2 with
  |false=>simp;exact hOA0
  |true=>
   simp[gt'];refine zxc hF (by omega) hk t ht xs (by omega) n (by omega) _ g0' _ (λhe=>?_) (λhe=>?_)
   ·have hb:(zbA data [t] n xs != 0)=true:=by simpa using he
    simp[hb];exact hOA0
   ·obtain⟨_,hff,hn0,_,hix,hcl⟩:=zn0 he;have hft:=hff t (by simp);obtain⟨N,rfl⟩:∃ N:Nat,n=N:=⟨n.toNat,by omega⟩;have htn:((N:Int)).toNat=N:=by omega
    have hVl:=ziD data t N xs;have hVp:(zdI data t N xs).Perm (vV data xs t N):=zpm _;have hVs:(zdI data t N xs).Pairwise vle:=zwd _;obtain⟨V,hV⟩:∃V,V=zdI data t N xs:=⟨_,rfl⟩;rw[←hV]at hVl hVp hVs ⊢;rw[htn,znu _ _ _ (zbF data xs.length t)]at hcl;have hx8:=hix.1;have nt:=zoV (k:=(xs.length:Nat)) hft (show (0:Int)≤N by omega) (by omega) (by omega) (by omega);have rt:zcQ data t (N:Int) (xs.length:Nat)=zal (some (cV data xs.length t N)):=by unfold zcQ;rw[if_pos nt];rfl
    have big:(1000000:Nat)<1000000000 ^ 30:=by decide
    simp[gt',zdp];refine zqb hF (by omega) hk t ht N xs.length (by omega) _ g0' _ ?_;rw[nt,rt];simp only[zrO];simp;refine zaC _ (λJ=>zqO V.length (by omega) _ _ ⟨rfl,rfl⟩) ?_;refine zaC _ (λJ=>zya (cV data xs.length t N) V.length (by omega) (by omega) _ _ ⟨rfl,rfl⟩) ?_;rw[hVl];simp;obtain⟨A2,hA2⟩:∃A2,A2=A++[AB.cells (zal (some (cV data xs.length t N)))]:=⟨_,rfl⟩;have hA2l:A2.length=H.length+2:=by rw[hA2];simp[hAl]
    have hA2s:HSc A2:=by rw[hA2];exact hAs.snoc (by simp[AB.sc,zal,zav,AV.scA,AV.scB])
    have gt2:∀J:zaa,(A2++J)[H.length]?=some (.cells t.cs):=λJ=>by rw[hA2,List.append_assoc];exact gt _
    have hO2:∀J,Out H.length K (.bool true) (A2++J):=λJ=>by rw[hA2,List.append_assoc];exact hOA _
    rw[←hA2,←hVl];refine zMV (Inv:=λq t67 H'=>∃i:Nat,i≤V.length∧V.length-i=q∧t67=.int .i64 i∧H'=A2) V.length ?_ ?_
    ·intro _;exact⟨0,by omega,rfl,rfl,rfl⟩
    ·rintro q t67 H' ⟨i,hi,rfl,rfl,rfl⟩ hsc hlen hsF Kb hKb;by_cases hlt:i<V.length
     ·obtain⟨x2,y2,z2,hvx2,hx2,hy2,hz2⟩:=zaO V[i];have hmem:V[i]∈vV data xs t N:=hVp.subset (List.getElem_mem hlt);have hnod:(V[i]).nodes=N:=zh0 data xs N t _ hmem;have hhas:zgd data V[i] t=true:=by unfold zgd;rw[zCC hft,zFO (zha hft).1 (zEa xs hix) N (by omega) t (zha hft).2 _ hmem];rfl
      have hgc:∀C,(H'++[AB.cells C])[H'.length]?=some (.cells C):=λC=>by simp
      simp only[zrB];simp[hlt,hvx2,hx2,hy2,hz2,gt2];rw[←hvx2];refine zaC _ (λJ=>zKz data hF (by omega) V[i] t (by omega) ht _ _ ⟨rfl,rfl⟩) ?_;rw[hhas];simp;refine zaC _ (λJ=>zLa _ V[i] (Nat.le_refl _) (by omega) _ _ ⟨rfl,rfl⟩) ?_;rw[hnod];simp;have next:Kb (zim (.sl (data.map Dat.cs) .none) (.int .i64 N) (.ptr H.length 0) (.sl (VT.css V) .none) (.sl (VT.css V) .none) (.int .i64 V.length) (.int .i64 (IntKind.i64.wrap ((i:Int)+1)))) (H'++[.cells (V[i]).cs]):=by rw[wr (by omega)];refine hKb _ _ ⟨V.length-(i+1),by omega,Back.at (J:=[.cells (V[i]).cs]) (H2:=H') rfl (Nat.le_refl _) hA2s ?_ ⟨_,rfl,i+1,by omega,rfl,rfl,rfl⟩⟩;simp[zim,ux,AV.sc,AV.scA,AV.scB,AV.scV,hA2l]
      by_cases hi0:0<i
      ·have hlt1:i-1<V.length:=by omega
       have hw:IntKind.i64.wrap ((i:Int)-1)=((i-1:Nat):Int):=by rw[zaB (by omega) (by omega)];omega
       obtain⟨x3,y3,z3,hvx3,hx3,hy3,hz3⟩:=zaO V[i-1];have hn1:(V[i-1]).nodes=N:=zh0 data xs N t _ (hVp.subset (List.getElem_mem hlt1));have hcmp:VT.cmp V[i-1] V[i]<0:=by
        have h1:vle V[i-1] V[i]:=List.pairwise_iff_getElem.1 hVs (i-1) i hlt1 hlt (by omega);have h2:V[i-1]≠V[i]:=by have hnd:V.Nodup:=hVp.nodup_iff.2 (zFP data (zBN (zBO xs hix)) N t);exact List.pairwise_iff_getElem.1 hnd (i-1) i hlt1 hlt (by omega)
        have h3:=VT.cmp_anti V[i-1] V[i];unfold vle at h1;by_cases h4:VT.cmp V[i-1] V[i]=0
        ·exact absurd (ztu h4) h2
        ·omega
       have hng:¬ 0≤VT.cmp V[i-1] V[i]:=by omega
       simp[hi0,hw,hlt1,hvx3,hvx2];rw[←hvx3,←hvx2];refine zaC _ (λJ=>zxj _ V[i-1] V[i] (Nat.le_refl _) (by omega) _ _ ⟨rfl,rfl⟩) ?_;simp[hng];exact next
      ·simp[hi0];exact next
     ·obtain rfl:i=V.length:=by omega
      simp[zrB];have:=hO2 [];rwa [List.append_nil]at this
end Go.Proofs.YtaifokkaaahdoaaGreatDoor
