import Derived.Test.YtaifokkaaahdoaaGreatDoorKY9
import Derived.Test.YtaifokkaaahdoaaGreatDoorAbsU
import Derived.Test.YtaifokkaaahdoaaGreatDoorKNum
import Derived.Test.YtaifokkaaahdoaaGreatDoorProg
import Derived.KernelRfl
set_option linter.unusedSimpArgs false
set_option linter.unusedVariables false
set_option linter.unusedSectionVars false
set_option maxRecDepth 8000
namespace Go.Proofs.YtaifokkaaahdoaaGreatDoor
open Go Go.Abs
mutual
def zaW:VT→Prop
 |.mk _ _ ks=>ks.length≤9223372036854775807∧zci ks
def zci:List VT→Prop
 |[]=>True
 |v::vs=>zaW v∧zci vs
end
theorem zfC:∀ {ks:List VT},zci ks→∀ x∈ks,zaW x
 |[],_,x,hx=>by simp at hx
 |v::vs,h,x,hx=>by
  rw[zci]at h;rcases List.mem_cons.1 hx with e|hx
  ·rw[e];exact h.1
  ·exact zfC h.2 x hx
theorem zuu:∀ {ks:List VT},(∀ x∈ks,zaW x)→zci ks
 |[],_=>by rw[zci];trivial
 |v::vs,h=>by rw[zci];exact⟨h v (by simp),zuu λx hx=>h x (by simp[hx])⟩
theorem zDu(x:List VT)(hl:x.length≤9223372036854775807)(fv:AV)(H:zaa)(K:AV→zaa→Prop)(hfv:fv.sc H.length=true)(Inv:Nat→zaa→Prop)(h0:Inv 0 H)(step:∀(i:Nat) (h:i<x.length) (H':zaa),H.length≤H'.length→Inv i H'→aCallV tP fv [.agg (x[i]).cs] H' λr H''=>(r=.bool false∧Inv (i+1) H'')∨(r=.bool true∧K (.int .i64 i) H''))(fin:∀H',Inv x.length H'→K (.int .i64 (-1)) H'):ACalls tP zjW [.sl (VT.css x) .none,fv] H K:=by
 refine zyL λhs=>?_;simp[zry];refine zyK (Inv:=λq t8 H'=>∃i:Nat,i≤x.length∧q=x.length-i∧t8=.int .i64 i∧H.length≤H'.length∧Inv i H') x.length ?_ ?_
 ·intro _;exact⟨0,by omega,by omega,rfl,Nat.le_refl _,h0⟩
 ·rintro q t8 H' ⟨i,hi,rfl,rfl,hle,hI⟩ hsc hlen hsF Kb hKb;by_cases hlt:i<x.length
  ·simp[ziB,hlt];refine (step i hlt H' hle hI).mono' λr H'' hsc' hle' hr=>?_;rcases hr with ⟨rfl,hI'⟩ | ⟨rfl,hk⟩
   ·simp;rw[zav (by omega) (by omega)];refine hKb _ _ ⟨x.length-(i+1),by omega,Back.here (by omega) hsc' ?_ ⟨_,rfl,i+1,by omega,rfl,by simp,by omega,hI'⟩⟩;simp[ziC,AV.sc,AV.scV,AV.scA,AV.scB];exact zb6 (by omega) hfv
   ·simpa using hk
  ·obtain rfl:i=x.length:=by omega
   simp[ziB];exact fin H' hI
theorem zCH(x:List VT)(hl:x.length≤9223372036854775807)(fv:AV)(H:zaa)(K:AV→zaa→Prop)(hfv:fv.sc H.length=true)(Inv:Nat→zaa→Prop)(h0:Inv 0 H)(step:∀(i:Nat) (h:i<x.length) (H':zaa),H.length≤H'.length→Inv i H'→aCallV tP fv [.agg (x[i]).cs] H' λr H''=>(r=.bool false∧Inv (i+1) H'')∨(r=.bool true∧K (.bool true) H''))(fin:∀H',Inv x.length H'→K (.bool false) H'):ACalls tP zd5 [.sl (VT.css x) .none,fv] H K:=by
 refine zxB λhs=>?_;unfold zqv;refine zDu x hl fv H _ hfv Inv h0 (λi h H' hle hI=>(step i h H' hle hI).mono' λr H'' _ _ hr=>?_) (λH' hI=>?_)
 ·rcases hr with hr | ⟨h1,h2⟩
  ·exact .inl hr
  ·refine .inr ⟨h1,?_⟩;have:decide ((0:Int)≤i)=true:=by simp
   simpa using h2
 ·simpa using fin H' hI
section
variable (data:List Dat) (vars:Int)
theorem zGO:∀ (m:Nat) (v:VT),v.nodes≤m→zaW v→∀ (left:Int),left≤1000000→-1≤left→∀ (H:zaa) (id:Nat),H[id]?=some (zaX data vars left)→∀ (K:AV→zaa→Prop),
  (zaz data vars v=true→(v.nodes:Int)≤left→K (.bool true) (H.set id (zaX data vars (left-v.nodes))))→(¬(zaz data vars v=true∧(v.nodes:Int)≤left)→∀l',K (.bool false) (H.set id (zaX data vars l'))) →
  ACalls tP zhQ [.ptr id 0,.agg v.cs] H K:=by
 intro m;induction m with
 |zero=>intro v h;have:=v.nodes_pos;omega
 |succ m ih=>
  intro v hv hb left hl1 hl0 H id hid K hK hF;obtain⟨k,n,ks⟩:=v;have hlt:=zfL hid;have hnn:(VT.mk k n ks).nodes=VT.nodesL ks+1:=by simp[VT.nodes]
  have hfit:ks.length≤9223372036854775807∧zci ks:=by rw[zaW]at hb;exact hb
  refine ACalls.out (zys λhs=>?_)
  -- the heap within: the receiver's copy and the type's
  generalize hJ:([.cells [.ptr id 0],.cells [.int .i64 k,.int .i64 n,.sl (VT.css ks) .none]]:zaa)=J;have hJ0:J[0]?=some (.cells [.ptr id 0]):=by subst hJ;rfl
  have hJ1:J[1]?=some (.cells [.int .i64 k,.int .i64 n,.sl (VT.css ks) .none]):=by subst hJ;rfl
  have hget:∀l',(H.set id (zaX data vars l')++J)[id]?=some (zaX data vars l'):=λl'=>zcm (zc7 _ hid);have bad:(¬(zaz data vars (.mk k n ks)=true∧((VT.mk k n ks).nodes:Int)≤left))→∀l',Out H.length K (.bool false) (H.set id (zaX data vars l')++J):=λh l'=>
   Out.bool rfl (by simp) (hs.set rfl) (hF h l')
  have badS:zaC data vars k n ks.length=false→∀l',Out H.length K (.bool false) (H.set id (zaX data vars l')++J):=λh l'=>bad (λ⟨h1,_⟩=>by simp[zaz,h]at h1) l'
  -- the arguments
  have args:zaC data vars k n ks.length=true→1≤left→∀ KK:AV→zaa→Prop,(∀ H',Out H.length K (.bool true) H'→KK (.bool false) H')→(∀ H',Out H.length K (.bool false) H'→KK (.bool true) H') →
    ACalls tP zd5 [.sl (VT.css ks) .none,.fn zhU [.ptr H.length 0]] (H.set id (zaX data vars (left-1))++J) KK:=by
   intro hsh h1 KK hKf hKt;subst hJ;refine zCH ks hfit.1 _ _ _ (by simp[AV.sc,AV.scV,AV.scA,AV.scB]) (λi H'=>(VT.nodesL (ks.take i):Int)+1≤left∧zaI data vars (ks.take i)=true∧H'=H.set id (zaX data vars (left-1-VT.nodesL (ks.take i)))++[.cells [.ptr id 0],.cells [.int .i64 k,.int .i64 n,.sl (VT.css ks) .none]]) ⟨by simp[VT.nodesL];omega,by simp[zaI],by simp[VT.nodesL]⟩ ?_ ?_
   ·rintro i hi H' hle ⟨hb1,hb2,rfl⟩;have hki:=VT.kid_lt (k:=k) (n:=n) hi;have h1:=VT.nodesL_take hi;have h2:=VT.nodesL_take_le ks (i+1);have hokL:zaI data vars (ks.take (i+1))=(zaI data vars (ks.take i) && zaz data vars ks[i]):=by
     rw[List.take_succ_eq_append_getElem hi];have:∀(l:List VT) (x:VT),zaI data vars (l++[x])=(zaI data vars l && zaz data vars x):=by
      intro l x;induction l with
      |nil=>simp[zaI]
      |cons a l ih=>simp[zaI,ih,Bool.and_assoc]
     exact this _ _
    simp only[aCallV,zt2,List.singleton_append];refine ACalls.out (zyT λhs1=>?_);have hH1:∀l',HSc (H.set id (zaX data vars l')++[.cells [.ptr id 0],.cells [.int .i64 k,.int .i64 n,.sl (VT.css ks) .none]]):=λl'=>(hs.set rfl).append (by simp[AB.sc,AV.scA,AV.scB];omega);obtain⟨x1,x2,x3,hvx,hx1,hx2,hx3⟩:=zaL ks[i];have hll2:(H.set id (zaX data vars (left-1-VT.nodesL (ks.take i)))).length=H.length:=by simp
    have hg1:(H.set id (zaX data vars (left-1-VT.nodesL (ks.take i)))++[AB.cells [.ptr id 0],.cells [.int .i64 k,.int .i64 n,.sl (VT.css ks) .none],.cells [x1,x2,x3]])[H.length]?=some (.cells [.ptr id 0]):=by rw[List.getElem?_append_right (by simp)];simp
    have hg2:(H.set id (zaX data vars (left-1-VT.nodesL (ks.take i)))++[AB.cells [.ptr id 0],.cells [.int .i64 k,.int .i64 n,.sl (VT.css ks) .none],.cells [x1,x2,x3]])[H.length+2]?=some (.cells [x1,x2,x3]):=by rw[List.getElem?_append_right (by simp)];simp
    simp[zrH,hvx,hg1,hg2,hll2];rw[←hvx];refine ih ks[i] (by omega) (zfC hfit.2 _ (List.getElem_mem hi)) (left-1-VT.nodesL (ks.take i)) (by omega) (by omega) _ id (zcm (zc7 _ hid)) _ ?_ ?_
    ·intro ho hle2;rw[zet _ (zc7 _ hid),List.set_set,show left-1-(VT.nodesL (ks.take i):Int)-(ks[i]).nodes=left-1-VT.nodesL (ks.take (i+1)) by omega];simp;refine Out.bool (J:=[_]) (H2:=H.set id (zaX data vars (left-1-VT.nodesL (ks.take (i+1))))++[.cells [.ptr id 0],.cells [.int .i64 k,.int .i64 n,.sl (VT.css ks) .none]]) (by simp;rfl) (by simp) (hH1 _) (.inl ⟨rfl,by omega,by rw[hokL,hb2,ho];rfl,rfl⟩)
    ·intro ho l';rw[zet _ (zc7 _ hid),List.set_set];simp;have hno:¬(zaz data vars (.mk k n ks)=true∧((VT.mk k n ks).nodes:Int)≤left):=by
      rintro⟨g1,g2⟩;have hall:zaI data vars ks=true:=by simp[zaz]at g1;exact g1.2
      exact ho ⟨zw4 data vars ks i hi hall,by omega⟩
     have hb3:=bad hno l';exact Out.bool (J:=[_]) (H2:=H.set id (zaX data vars l')++[.cells [.ptr id 0],.cells [.int .i64 k,.int .i64 n,.sl (VT.css ks) .none]]) (by simp;rfl) (by simp) (hH1 _) (.inr ⟨rfl,hKt _ hb3⟩)
   ·rintro H' ⟨hb1,hb2,rfl⟩;rw[List.take_length]at *;refine hKf _ ?_;refine Out.bool rfl (by simp) (hs.set rfl) ?_;have:=hK (by simp[zaz,hsh,hb2]) (by omega);rw[hnn]at this;rw[show left-1-(VT.nodesL ks:Int)=left-((VT.nodesL ks+1:Nat):Int) by omega];exact this
  -- behind the shape
  have fin:∀ lo hi:Int,(k≠4→k≠5→n≠0→zaC data vars k n ks.length=false)→((ks.length:Int)<lo∨hi<(ks.length:Int)→zaC data vars k n ks.length=false)→1≤left →
    ((k=4∨k=5∨n=0)→lo≤(ks.length:Int)→(ks.length:Int)≤hi→zaC data vars k n ks.length=true) →
    zdO (.ptr H.length 0) (.ptr (H.length+1) 0) (.int .i64 lo) (.int .i64 hi) (H.set id (zaX data vars (left-1))++J) (Out H.length K):=by
   intro lo hi hz hr h1 hok;have hg3:(H.set id (zaX data vars (left-1))++J)[H.length+1]?=some (.cells [.int .i64 k,.int .i64 n,.sl (VT.css ks) .none]):=by rw[List.getElem?_append_right (by simp)];subst hJ;simp
   by_cases hcase:k=4∨k=5∨n=0
   ·have h3:(k != 4)=false∨((k != 4)=true∧(k != 5)=false)∨((k != 4)=true∧(k != 5)=true∧(n != 0)=false):=by
     by_cases g4:k=4
     ·left;simp[g4]
     ·by_cases g5:k=5
      ·right;left;simp[g5]
      ·right;right;simp[g4,g5];omega
    rcases h3 with g|⟨g,g'⟩|⟨g,g',g''⟩;case' inl=>simp[zdO,hg3,hJ1,g]
    case' inr.inl=>simp[zdO,hg3,hJ1,g,g']
    case' inr.inr=>simp[zdO,hg3,hJ1,g,g',g'']
    all_goals
     by_cases hlo:(ks.length:Int)<lo
     ·simp[hlo];exact badS (hr (.inl hlo)) _
     ·by_cases hhi:hi<(ks.length:Int)
      ·simp[hlo,hhi,hJ1];exact badS (hr (.inr hhi)) _
      ·simp[hlo,hhi,AV.isB,hJ1];refine args (hok hcase (by omega) (by omega)) h1 _ (λH' ho=>?_) (λH' ho=>?_) <;> simpa using ho
   ·have g:(k != 4)=true:=by simp;omega
    have g':(k != 5)=true:=by simp;omega
    have g'':(n != 0)=true:=by simp;omega
    simp[zdO,hg3,hJ1,g,g',g''];exact badS (hz (by omega) (by omega) (by omega)) _
  have start:(H++J)[id]?=some (zaX data vars left):=zcm hid;have hmain:zlA (.ptr H.length 0) (.ptr (H.length+1) 0) (H.set id (zaX data vars (left-1))++J) (Out H.length K):=by
   refine zyp λhs1=>?_;have hgv:=hget (left-1);unfold zaX at hgv;by_cases h0:left-1<0
   ·simp[ziw,hJ0,zaX,hgv,h0];exact bad (λh=>by have:=h.2;rw[hnn]at this;omega) _
   have h1:1≤left:=by omega
   simp[ziw,hJ0,hJ1,zaX,hgv,h0];refine zyr λ_=>?_;have hfin:=λlo hi a b c=>fin lo hi a b h1 c;unfold zaX at hfin badS
   -- the three without arguments
   by_cases h123:k=1∨k=2∨k=3
   ·have hsh:zaC data vars k n ks.length=(n == 0 && ks.length == 0):=by rcases h123 with rfl | rfl | rfl <;> rfl
    have:=hfin 0 0 (λ_ _ hn=>by rw[hsh];simp[hn]) (λh=>by rw[hsh];simp;intro _;rintro rfl;simp at h) (λh h2 h3=>by
     have hn:n=0:=by omega
     have hl:ks.length=0:=by omega
     rw[hsh,hn,hl];rfl)
    rcases h123 with rfl|rfl|rfl <;> simp[zix] <;> refine zlC λ_=>?_ <;> simp[zb1,zcj] <;> exact this
   have b1:(k == 1)=false:=by simp;omega
   have b2:(k == 2)=false:=by simp;omega
   have b3:(k == 3)=false:=by simp;omega
   simp[zix,b1,b2,b3];refine zlC λ_=>?_;by_cases h4:k=4
   ·subst h4;have hsh:zaC data vars 4 n ks.length=(decide (0≤n) && decide (n<vars) && ks.length == 0):=rfl;by_cases g1:n<0
    ·simp[zb1,hJ0,hJ1,hgv,g1];exact badS (by rw[hsh];simp;omega) _
    by_cases g2:vars≤n
    ·simp[zb1,hJ0,hJ1,hgv,g1,g2];exact badS (by rw[hsh];simp;omega) _
    have:=hfin 0 0 (λh=>(h rfl).elim) (λh=>by rw[hsh];simp;intro _ _;rintro rfl;simp at h) (λh h2 h3=>by
     have hl:ks.length=0:=by omega
     rw[hsh,hl];simp;omega)
    simp[zb1,hJ0,hJ1,hgv,g1,g2,zcj];exact this
   have b4:(k == 4)=false:=by simp;omega
   by_cases h5:k=5
   ·subst h5;have hsh:zaC data vars 5 n ks.length=(decide (0≤n) && (match data[n.toNat]? with | some d=>(ks.length:Int) == d.vars | none=>false)):=rfl;by_cases g1:n<0
    ·simp[zb1,hJ0,hJ1,hgv,g1];exact badS (by rw[hsh];simp;omega) _
    by_cases g2:(data.length:Int)≤n
    ·simp[zb1,hJ0,hJ1,hgv,g1,g2];exact badS (by rw[hsh,List.getElem?_eq_none (by omega)];simp) _
    have hnl:n.toNat<data.length:=by omega
    have g2':n<data.length:=by omega
    have g1':0≤n:=by omega
    rw[List.getElem?_eq_getElem hnl]at hsh;simp only[g1',decide_true,Bool.true_and]at hsh;have:=hfin (data[n.toNat]).vars (data[n.toNat]).vars (λ_ h=>(h rfl).elim) (λh=>by rw[hsh];simp;omega) (λh h2 h3=>by rw[hsh];simp;omega);simp[zb1,hJ0,hJ1,hgv,g1,g2,g1',g2',hnl,Dat.cs,zcj];exact this
   have b5:(k == 5)=false:=by simp;omega
   by_cases h6:k=6
   ·subst h6;have hsh:zaC data vars 6 n ks.length=(n == 0 && decide (2≤ks.length) && decide (ks.length≤6)):=rfl;have:=hfin 2 6 (λ_ _ hn=>by rw[hsh];simp[hn]) (λh=>by rw[hsh];simp;intros;omega) (λh h2 h3=>by rw[hsh];simp;omega);simp[zb1,zcj];exact this
   have b6:(k == 6)=false:=by simp;omega
   by_cases h78:k=7∨k=8
   ·have hsh:zaC data vars k n ks.length=(n == 0 && ks.length == 1):=by rcases h78 with rfl | rfl <;> rfl
    have:=hfin 1 1 (λ_ _ hn=>by rw[hsh];simp[hn]) (λh=>by rw[hsh];simp;intros;omega) (λh h2 h3=>by rw[hsh];simp;omega);rcases h78 with rfl|rfl <;> simp[zb1] <;> refine zlD λ_=>?_ <;> simp[zfZ,zcj] <;> exact this
   have b7:(k == 7)=false:=by simp;omega
   have b8:(k == 8)=false:=by simp;omega
   simp[zb1,b4,b5,b6,b7,b8];refine zlD λ_=>?_;by_cases h9:k=9
   ·subst h9;have hsh:zaC data vars 9 n ks.length=(n == 0 && decide (1≤ks.length) && decide (ks.length≤7)):=rfl;have:=hfin 1 7 (λ_ _ hn=>by rw[hsh];simp[hn]) (λh=>by rw[hsh];simp;intros;omega) (λh h2 h3=>by rw[hsh];simp;omega);simp[zfZ,zcj];exact this
   ·have b9:(k == 9)=false:=by simp;omega
    simp[zfZ,b9];exact badS (by unfold zaC;simp[b1,b2,b3,b4,b5,b6,b7,b8,b9]) _
  subst hJ;unfold zaX at start;simp[zq4,VT.cs,start];rw[zav (by omega) (by omega),zet _ hid];exact hmain
theorem zBd(v:VT)(hb:zaW v)(H:zaa)(K:AV→zaa→Prop)(hK:K (.bool (zaA data vars v)) H):ACalls tP zfP [.sl (data.map Dat.cs) .none,.agg v.cs,.int .i64 vars] H K:=by
 refine ACalls.out (zBe λhs=>?_);have hO:∀J,Out H.length K (.bool (zaA data vars v)) (H++J):=λJ=>Out.bool rfl (Nat.le_refl _) hs hK;obtain⟨x1,x2,x3,hvx,hx1,hx2,hx3⟩:=zaL v;simp[ztg,hvx,zao,zaM];rw[←hvx];refine zGO data vars _ v (Nat.le_refl _) hb 200 (by omega) (by omega) _ (H.length+1) (by simp[zaX]) _ ?_ ?_
 ·intro ho hn;have:zaA data vars v=true:=by simp[zaA,ho];omega
  rw[this]at hO;simp;exact hO _
 ·intro hno l';have:zaA data vars v=false:=by
   cases h:zaA data vars v with
   |false=>rfl
   |true=>simp[zaA]at h;exact(hno ⟨h.2,by omega⟩).elim
  rw[this]at hO;simp;exact hO _
end
mutual
theorem zwR:∀ v:VT,subst [] v=v
 |.mk k n ks=>by rw[subst,if_neg (by rintro⟨_,h1,h2⟩;simp at h2;omega),zwP ks]
theorem zwP:∀ l:List VT,zaH [] l=l
 |[]=>rfl
 |t::ts=>by rw[zaH,zwR t,zwP ts]
end
theorem zJP:∀(m:Nat) (args:List VT),(∀x∈args,x.nodes≤1000000)→args.length≤1000000→∀(v:VT),(if args=[] then v.nodes else v.nodes+1000001)≤m→v.nodes≤1000000→∀(H:zaa) (K:AV→zaa→Prop),K (.agg (subst args v).cs) H→ACalls tP zhR [.agg v.cs,.sl (VT.css args) .none] H K:=by
 intro m;induction m with
 |zero=>intro args _ _ v h;have:=v.nodes_pos;split at h <;> omega
 |succ m ih=>
  intro args ha hal v hv hb H K hK;obtain⟨k,n,ks⟩:=v;have hnl:VT.nodesL ks+1≤1000000:=by simpa[VT.nodes]using hb
  have hll:=VT.len_le ks;refine ACalls.out (zJN λhs=>?_);by_cases hvar:k=4∧0≤n∧n<args.length
  ·obtain⟨rfl,h0,h1⟩:=hvar;have hn:n.toNat<args.length:=by omega
   have hne:args≠[]:=by rintro rfl;simp at hn
   have hK':K (.agg (args[n.toNat]).cs) H:=by rw[subst,if_pos ⟨rfl,h0,h1⟩,List.getElem?_eq_getElem hn]at hK;exact hK
   have hle:=ha _ (List.getElem_mem hn);simp[VT.cs,zrn,h0,h1,hn];rw[if_neg hne]at hv;refine ACalls.wk (args':=[.agg (args[n.toNat]).cs,.sl (VT.css []) .none]) ?_ ⟨.rfl',.atom .snil,trivial⟩;refine ih [] (by simp) (by simp) _ (by simp;omega) hle _ _ ?_;rw[zwR];generalize args[n.toNat]=x at *;obtain⟨k',n',ks'⟩:=x;simp[VT.cs];exact Out.at rfl (Nat.le_refl _) hs .rfl' rfl rfl hK'
  ·have hK':K (.agg (VT.mk k n (zaH args ks)).cs) H:=by rw[subst,if_neg hvar]at hK;exact hK
   have go:∀H1,H1=H++[.cells [.int .i64 k,.int .i64 n,.sl (VT.css ks) .none],.cells [.int .i64 0,.int .i64 0,.snil],.cells [.int .i64 k,.int .i64 n,.snil]]→ziy (.sl (VT.css args) .none) (.ptr (H.length+1) 0) (.ptr (H.length+2) 0) (.sl (VT.css ks) .none) (.int .i64 ks.length) (.int .i64 0) H1 (Out H.length K):=by
    rintro _ rfl;unfold ziy;refine ALoop.ownC (cs:=[.int .i64 k,.int .i64 n,.snil]) (H.length+2) 2 za9 3 (by simp) rfl ?_;have e0:(H++[AB.cells [.int .i64 k,.int .i64 n,.sl (VT.css ks) .none],.cells [.int .i64 0,.int .i64 0,.snil],.cells [.int .i64 k,.int .i64 n,.snil]]).length=H.length+3:=by simp
    rw[e0,zwu,List.append_assoc];have hJ:∀i X,HSc (H++[.cells [.int .i64 k,.int .i64 n,.sl (VT.css ks) .none],.cells [.int .i64 0,.int .i64 0,.snil],.cells [.int .i64 k,.int .i64 n,.sl X (.own (H.length+3))],.perm za9 3 i]):=λi X=>hs.append (by simp[AB.sc,AV.scA,AV.scB]);show ziy (.sl (VT.css args) .none) (.ptr (H.length+1) 0) (.ptr (H.length+2) 0) (.sl (VT.css ks) .none) (.int .i64 ks.length) (.int .i64 0) (H++[.cells [.int .i64 k,.int .i64 n,.sl (VT.css ks) .none],.cells [.int .i64 0,.int .i64 0,.snil],.cells [.int .i64 k,.int .i64 n,.sl [] (.own (H.length+3))],.perm za9 3 0]) (Out H.length K);refine zJL (Inv:=λq t37 H'=>∃i:Nat,i≤ks.length∧q=ks.length-i∧t37=.int .i64 i∧H'=H++[.cells [.int .i64 k,.int .i64 n,.sl (VT.css ks) .none],.cells [.int .i64 0,.int .i64 0,.snil],.cells [.int .i64 k,.int .i64 n,.sl (VT.css ((zaH args ks).take i)) (.own (H.length+3))],.perm za9 3 i]) ks.length ?_ ?_
    ·intro _;exact⟨0,by omega,by omega,rfl,by simp[VT.css]⟩
    ·rintro q t37 H' ⟨i,hi,rfl,rfl,rfl⟩ hsc hlen hsF Kb hKb;by_cases hlt:i<ks.length
     ·have hki:=VT.kid_lt (k:=k) (n:=n) hlt;have hsl:(zaH args ks).length=ks.length:=by rw[zdw];simp
      have hlt':i<(zaH args ks).length:=by omega
      have hsi:(zaH args ks)[i]=subst args ks[i]:=by simp[zdw]
      obtain⟨x1,x2,x3,hvx,hx1,hx2,hx3⟩:=zaL ks[i];simp[zro,hlt,hvx,hx1,hx2,hx3];rw[←hvx];refine zaV (.agg (subst args ks[i]).cs) (λJ=>ih args ha hal ks[i] (by by_cases he:args=[] <;> simp only[he,if_true,if_false]at hv ⊢ <;> omega) (by omega) _ _ ⟨rfl,rfl⟩) ?_;rw[zcX,←hsi];simp[zax,zbc,za2,hsl];refine⟨by omega,⟨by omega,by omega⟩,?_⟩;rw[zav (by omega) (by omega),show min i ks.length=i by omega];refine hKb _ _ ⟨ks.length-(i+1),by omega,Back.at (J:=[_]) (H2:=H++[.cells [.int .i64 k,.int .i64 n,.sl (VT.css ks) .none],.cells [.int .i64 0,.int .i64 0,.snil],.cells [.int .i64 k,.int .i64 n,.sl (VT.css ((zaH args ks).take (i+1))) (.own (H.length+3))],.perm za9 3 (i+1)]) (by rw[zeY hlt'];simp;rfl) (by simp) (hJ _ _) ?_ ⟨_,rfl,i+1,by omega,rfl,by simp,rfl⟩⟩;simp[zlP,AV.sc,AV.scV,AV.scA,AV.scB]
     ·obtain rfl:i=ks.length:=by omega
      have e:(zaH args ks).take ks.length=zaH args ks:=List.take_of_length_le (by rw[zdw];simp);rw[e];simp[zro];exact Out.at rfl (Nat.le_refl _) hs (WkV.agg (ds:=[.int .i64 k,.int .i64 n,.sl (VT.css (zaH args ks)) .none]) ⟨.refl _,.refl _,.sl _ _,trivial⟩) rfl (by simp[AV.scV,AV.scA,AV.scB]) (by simpa[VT.cs]using hK')
   simp only[VT.cs,zrn];by_cases h4:k=4
   ·subst h4;by_cases h0:0≤n
    ·have h1:¬n<args.length:=λh=>hvar ⟨rfl,h0,h⟩;simp[h0,h1,zao,zaM,Nat.add_assoc];exact go _ rfl
    ·simp[h0,zao,zaM,Nat.add_assoc];exact go _ rfl
   ·have h4':(k == 4)=false:=by simpa using h4
    simp[h4',zao,zaM,Nat.add_assoc];exact go _ rfl
def zkE(args:List VT):AB:=.cells (args.map λx=>.int .i64 x.nodes)
theorem zJI(args:List VT)(ha:∀ x∈args,x.nodes≤1000000)(hal:args.length≤1000000):∀ (m:Nat) (v:VT),v.nodes≤m→v.nodes≤1000000→∀ (H:zaa) (id:Nat),H[id]?=some (zkE args)→∀ (K:AV→zaa→Prop),
  (∀r:Nat,(r≤200↔(subst args v).nodes≤200)→(r≤200→r=(subst args v).nodes)→r≤1000000+200*v.nodes→K (.int .i64 r) H)→ACalls tP zjT [.agg v.cs,.ms id 0 args.length args.length] H K:=by
 intro m;induction m with
 |zero=>intro v h;have:=v.nodes_pos;omega
 |succ m ih=>
  intro v hv hb H id hid K hK;obtain⟨k,n,ks⟩:=v;have hnl:VT.nodesL ks+1≤1000000:=by simpa[VT.nodes]using hb
  have hll:=VT.len_le ks;have hidl:=zfL hid;refine ACalls.out (zJG λhs=>?_);by_cases hvar:k=4∧0≤n∧n<args.length
  ·obtain⟨rfl,h0,h1⟩:=hvar;have hn:n.toNat<args.length:=by omega
   have hsub:subst args (.mk 4 n ks)=args[n.toNat]:=by rw[subst,if_pos ⟨rfl,h0,h1⟩,List.getElem?_eq_getElem hn];rfl
   rw[hsub]at hK;have hg:(H++[AB.cells [.int .i64 4,.int .i64 n,.sl (VT.css ks) .none]])[id]?=some (zkE args):=zcm hid;have hle:=ha _ (List.getElem_mem hn);unfold zkE at hg;simp[VT.cs,zri,h0,h1,hn,hg,zbp];exact Out.int rfl (Nat.le_refl _) hs (hK _ Iff.rfl (λ_=>rfl) (by omega))
  ·have hsub:subst args (.mk k n ks)=.mk k n (zaH args ks):=by rw[subst,if_neg hvar]
   have hnodes:(subst args (.mk k n ks)).nodes=VT.nodesL (zaH args ks)+1:=by rw[hsub];rfl
   rw[hnodes]at hK;have hO:∀r:Nat,(r≤200↔VT.nodesL (zaH args ks)+1≤200)→(r≤200→r=VT.nodesL (zaH args ks)+1)→r≤1000000+200*(VT.mk k n ks).nodes→∀J,Out H.length K (.int .i64 r) (H++J):=λr h1 h2 h3 J=>Out.int rfl (Nat.le_refl _) hs (hK r h1 h2 h3);have hsl:(zaH args ks).length=ks.length:=by rw[zdw];simp
   have go:zrm (.ms id 0 args.length args.length) (.int .i64 1) (.sl (VT.css ks) .none) (.int .i64 ks.length) (.int .i64 0) (H++[.cells [.int .i64 k,.int .i64 n,.sl (VT.css ks) .none]]) (Out H.length K):=by
    refine zJE (Inv:=λq t5 t31 H'=>∃i:Nat,i≤ks.length∧q=ks.length-i∧t31=.int .i64 i∧t5=.int .i64 (1+VT.nodesL ((zaH args ks).take i):Nat)∧1+VT.nodesL ((zaH args ks).take i)≤200∧H'=H++[.cells [.int .i64 k,.int .i64 n,.sl (VT.css ks) .none]]) ks.length ?_ ?_
    ·intro _;exact⟨0,by omega,by omega,rfl,by simp[VT.nodesL],by simp[VT.nodesL],rfl⟩
    ·rintro q t5 t31 H' ⟨i,hi,rfl,rfl,rfl,hb2,rfl⟩ hsc hlen hsF Kb hKb;by_cases hlt:i<ks.length
     ·have hki:=VT.kid_lt (k:=k) (n:=n) hlt;have hlt':i<(zaH args ks).length:=by omega
      have hsi:(zaH args ks)[i]=subst args ks[i]:=by simp[zdw]
      have h1:=VT.nodesL_take hlt';have h2:=VT.nodesL_take_le (zaH args ks) (i+1);rw[hsi]at h1;obtain⟨x1,x2,x3,hvx,hx1,hx2,hx3⟩:=zaL ks[i];simp[zrj,hlt,hvx,hx1,hx2,hx3];rw[←hvx];refine ih ks[i] (by omega) (by omega) _ id (zcm hid) _ λr hr1 hr2 hr3=>?_;simp;rw[zav (by omega) (by omega)];by_cases hbig:(200:Int)<1+VT.nodesL ((zaH args ks).take i)+r
      ·simp[hbig,zlN,zrl];have:=hO (1+VT.nodesL ((zaH args ks).take i)+r) (by constructor <;> intro h <;> omega) (by omega) (by omega);have e:((1+VT.nodesL ((zaH args ks).take i)+r:Nat):Int)=1+(VT.nodesL ((zaH args ks).take i):Int)+r:=by omega
       rw[e]at this;exact this _
      ·have hr:r=(subst args ks[i]).nodes:=hr2 (by omega);simp[hbig];rw[zav (by omega) (by omega),zw1];refine hKb _ _ ⟨ks.length-(i+1),by omega,Back.same (by simp) hsc ?_ ⟨_,_,rfl,i+1,by omega,rfl,by simp,?_,by omega,rfl⟩⟩
       ·simp[zlM,AV.sc,AV.scV,AV.scA,AV.scB];omega
       ·congr 1;omega
     ·obtain rfl:i=ks.length:=by omega
      rw[List.take_of_length_le (by omega)]at *;simp[zrj,zlN,zrl];have:=hO (1+VT.nodesL (zaH args ks)) (by omega) (by omega) (by omega);have e:((1+VT.nodesL (zaH args ks):Nat):Int)=1+(VT.nodesL (zaH args ks):Int):=by omega
      rw[e]at this;exact this _
   simp only[VT.cs,zri];by_cases h4:k=4
   ·subst h4;by_cases h0:0≤n
    ·have h1:¬n<args.length:=λh=>hvar ⟨rfl,h0,h⟩;simp[h0,h1];exact go
    ·simp[h0];exact go
   ·have h4':(k == 4)=false:=by simpa using h4
    simp[h4'];exact go
def zcU(args:List VT)(i:Nat):List AV:=(args.take i).map (λx=>.int .i64 x.nodes)++List.replicate (args.length-i) (.int .i64 0)
theorem zFj(args:List VT){i:Nat}(h:i≤args.length):(zcU args i).length=args.length:=by simp[zcU];omega
theorem zFk(args:List VT){i:Nat}(h:i<args.length):(zcU args i).take i++[.int .i64 (args[i]).nodes]++(zcU args i).drop (i+1)=zcU args (i+1):=by
 have e1:((args.take i).map λx=>AV.int .i64 x.nodes).length=i:=by simp;omega
 unfold zcU;rw[List.take_append_of_le_length (by omega),List.take_of_length_le (by omega),List.drop_append,List.drop_of_length_le (by omega),List.nil_append,e1,List.take_succ_eq_append_getElem h,List.map_append];congr 1;rw[show i+1-i=1 by omega,List.drop_replicate];congr 1
theorem zBk(data:List Dat)(hdl:data.length≤1000000)(hda:∀ d∈data,∀ c∈d.cons,c.args.length≤1000∧∀ x∈c.args,x.nodes≤1000)(hdc:∀ d∈data,d.cons.length≤1000000)(t:VT)(ht:t.nodes≤1000)(c:Int)(H:zaa)(K:AV→zaa→Prop)(hK:K (zdl (zbq data t c)) H):
  ACalls tP zkl [.sl (data.map Dat.cs) .none,.agg t.cs,.int .i64 c] H K:=by
 refine ACalls.out (zQx λhs=>?_);obtain⟨k,n,ks⟩:=t;have hkn:VT.nodesL ks+1≤1000:=by simpa[VT.nodes]using ht
 have hkl:=VT.len_le ks;have hF:zbq data (.mk k n ks) c=none→∀J,Out H.length K (.tup [.snil,.bool false]) (H++J):=λh J=>by rw[h]at hK;exact Out.tup hs hK ⟨zgQ,zb4 rfl rfl,trivial⟩
 simp only[VT.cs,zBh];by_cases h5:k=5;case neg=>
  have:(k != 5)=true:=by simpa using h5
  simp[this,AV.isV];exact hF (by rw[zc0,if_neg (λh=>h5 h.1)]) _
 subst h5;by_cases h0:n<0
 ·simp[h0,AV.isV];exact hF (by rw[zc0,if_neg (λh=>by have:=h.2.1;omega)]) _
 by_cases h1:(data.length:Int)≤n
 ·simp[h0,h1,AV.isV];exact hF (by
   rw[zc0];split
   ·rw[List.getElem?_eq_none (by omega)]
   ·rfl) _
 have hn:n.toNat<data.length:=by omega
 have h1':n<data.length:=by omega
 have h0':0≤n:=by omega
 generalize hdd:data[n.toNat]=d at *;have hd:d∈data:=by rw[←hdd];exact List.getElem_mem hn
 have hget:data[n.toNat]?=some d:=by rw[List.getElem?_eq_getElem hn,hdd]
 cases hv:((ks.length:Int) == d.vars) with
 |false=>
  have hv':((ks.length:Int) != d.vars)=true:=by simp[bne,hv]
  simp[h0,h1,h0',h1',hn,hdd,Dat.cs,hv',AV.isV,hget];exact hF (by
   rw[zc0];split
   ·rw[hget];simp only;rw[if_neg (by simpa using hv)]
   ·rfl) _
 |true=>
 have hv':((ks.length:Int) != d.vars)=false:=by simp[bne,hv]
 have hve:(ks.length:Int)=d.vars:=by simpa using hv
 by_cases hc0:c<0
 ·simp[h0,h1,h0',h1',hn,hdd,Dat.cs,hv',AV.isV,hget,hc0];exact hF (by rw[zc0,if_neg (λh=>by have:=h.2.2;omega)]) _
 have hfe:∀o,(match d.cons[c.toNat]? with|some k=>if (k.args.map (subst ks)).all (λx=>decide (x.nodes≤200))=true then some (k.args.map (subst ks)) else none|none=>none)=o→zbq data (.mk 5 n ks) c=o:=λo h=>by rw[zc0,if_pos ⟨rfl,h0',by omega⟩,hget];simp only;rw[if_pos hve];exact h
 by_cases hc1:(d.cons.length:Int)≤c
 ·simp[h0,h1,h0',h1',hn,hdd,Dat.cs,hv',AV.isV,hget,hc0,hc1];exact hF (hfe none (by rw[List.getElem?_eq_none (by omega)])) _
 have hcn:c.toNat<d.cons.length:=by omega
 have hc1':c<d.cons.length:=by omega
 have hc0':0≤c:=by omega
 generalize hcc:d.cons[c.toNat]=co at *;have hco:co∈d.cons:=by rw[←hcc];exact List.getElem_mem hcn
 have hgc:d.cons[c.toNat]?=some co:=by rw[List.getElem?_eq_getElem hcn,hcc]
 obtain⟨hal,han⟩:=hda d hd co hco;have hfe':=λo=>hfe o;rw[hgc]at hfe';simp only at hfe';have hkle:∀x∈ks,x.nodes≤1000:=λy hy=>Nat.le_trans (zfI (k:=5) (n:=n) y hy) ht;simp[h0,h1,h0',h1',hn,hdd,Dat.cs,hv',AV.isV,hget,hc0,hc1,hc0',hc1',hcn,hcc,zbu];refine⟨by omega,?_⟩;have ez:List.replicate ks.length (AV.int .i64 0)=zcU ks 0:=by simp[zcU]
 rw[ez];have hsc3:∀(l:List AV),(l.all λa=>a.scA (H.length+3))=true→HSc (H++[.cells [.int .i64 5,.int .i64 n,.sl (VT.css ks) .none],.cells [.str d.name,.int .i64 d.vars,.sl (d.cons.map Con.cs) .none],.cells l]):=λl hl=>hs.append (by simp[AB.sc];simpa using hl);have hszsc:∀i,((zcU ks i).all λa=>a.scA (H.length+3))=true:=λi=>by
  rw[List.all_eq_true];intro x hx;unfold zcU at hx;rcases List.mem_append.1 hx with h|h
  ·obtain⟨y,_,rfl⟩:=List.mem_map.1 h;rfl
  ·rw[List.eq_of_mem_replicate h];rfl
 refine zQt (Inv:=λq t61 H'=>∃i:Nat,i≤ks.length∧q=ks.length-i∧t61=.int .i64 i∧H'=H++[.cells [.int .i64 5,.int .i64 n,.sl (VT.css ks) .none],.cells [.str d.name,.int .i64 d.vars,.sl (d.cons.map Con.cs) .none],.cells (zcU ks i)]) ks.length ?_ ?_
 ·intro _;exact⟨0,by omega,by omega,rfl,rfl⟩
 ·rintro q t61 H' ⟨i,hi,rfl,rfl,rfl⟩ hsc8 hlen8 hsF8 Kb8 hKb8;by_cases hlt:i<ks.length
  ·have hle:=hkle _ (List.getElem_mem hlt);obtain⟨x1,x2,x3,hvx,hx1,hx2,hx3⟩:=zaL ks[i];simp[ztk,hlt,hvx,hx1,hx2,hx3];rw[←hvx];refine zJB _ _ (Nat.le_refl _) (by omega) _ _ ?_;have hll:=zFj ks hi;simp[hlt,hll];refine⟨by omega,?_⟩;rw[zav (by omega) (by omega)];have e:=zFk ks hlt;rw[List.append_assoc,List.singleton_append]at e;rw[e];refine hKb8 _ _ ⟨ks.length-(i+1),by omega,Back.at (J:=[_]) (H2:=H++[.cells [.int .i64 5,.int .i64 n,.sl (VT.css ks) .none],.cells [.str d.name,.int .i64 d.vars,.sl (d.cons.map Con.cs) .none],.cells (zcU ks (i+1))]) (by simp;rfl) (by simp) (hsc3 _ (hszsc _)) ?_ ⟨_,rfl,i+1,by omega,rfl,by simp,rfl⟩⟩;simp[znr,AV.sc,AV.scV,AV.scA,AV.scB]
  ·obtain rfl:i=ks.length:=by omega
   have efull:zcU ks ks.length=ks.map λx=>.int .i64 x.nodes:=by simp[zcU]
   have hsc8':=hsc8;rw[efull]at hsc8' ⊢;simp[ztk,hc0',hc1',hcn,hcc,Con.cs,hgc];refine zQr (Inv:=λq t79 H'=>∃i:Nat,i≤co.args.length∧q=co.args.length-i∧t79=.int .i64 i∧(∀x∈co.args.take i,(subst ks x).nodes≤200)∧H'=H++[.cells [.int .i64 5,.int .i64 n,.sl (VT.css ks) .none],.cells [.str d.name,.int .i64 d.vars,.sl (d.cons.map Con.cs) .none],.cells (ks.map λx=>.int .i64 x.nodes)]) co.args.length ?_ ?_
   ·intro _;exact⟨0,by omega,by omega,rfl,by simp,rfl⟩
   ·rintro q t79 H' ⟨i,hi,rfl,rfl,hall,rfl⟩ hsc13 hlen13 hsF13 Kb13 hKb13;by_cases hlt:i<co.args.length
    ·have hmem:=List.getElem_mem hlt;obtain⟨x1,x2,x3,hvx,hx1,hx2,hx3⟩:=zaL co.args[i];simp[zti,hlt,hvx,hx1,hx2,hx3];rw[←hvx];refine zJI ks (λy hy=>by have:=hkle y hy;omega) (by omega) _ co.args[i] (Nat.le_refl _) (by have:=han _ hmem;omega) _ (H.length+2) (by simp[zkE]) _ λr hr1 hr2 hr3=>?_;by_cases hbig:r≤200
     ·have hbig':¬ (200:Int)<r:=by omega
      simp[hbig'];rw[zav (by omega) (by omega)];refine hKb13 _ _ ⟨co.args.length-(i+1),by omega,Back.at (J:=[_]) (H2:=H++[.cells [.int .i64 5,.int .i64 n,.sl (VT.css ks) .none],.cells [.str d.name,.int .i64 d.vars,.sl (d.cons.map Con.cs) .none],.cells (ks.map λx=>.int .i64 x.nodes)]) (by simp;rfl) (by simp) hsc8' ?_ ⟨_,rfl,i+1,by omega,rfl,by simp,zoI hlt hall (hr1.1 hbig),rfl⟩⟩;simp[znp,AV.sc,AV.scV,AV.scA,AV.scB]
     ·have hbig':(200:Int)<r:=by omega
      simp[hbig',AV.isV];refine hF (hfe' none ?_) _;rw[if_neg];intro hal2;have:=List.all_eq_true.1 hal2 (subst ks co.args[i]) (List.mem_map.2 ⟨_,hmem,rfl⟩);exact hbig (hr1.2 (of_decide_eq_true this))
    ·obtain rfl:i=co.args.length:=by omega
     rw[List.take_length]at hall;have hfs:=hfe' (some (co.args.map (subst ks))) (if_pos (List.all_eq_true.2 λy hy=>by
      obtain⟨x,hx,rfl⟩:=List.mem_map.1 hy;exact decide_eq_true (hall x hx)))
     rw[hfs]at hK;simp[zti,hc0',hc1',hcn,hcc,Con.cs,hgc];unfold zns;refine ALoop.own 14 za9 3 rfl ?_;have hlen1:(H++[AB.cells [.int .i64 5,.int .i64 n,.sl (VT.css ks) .none],.cells [.str d.name,.int .i64 d.vars,.sl (d.cons.map Con.cs) .none],.cells (ks.map λx=>.int .i64 x.nodes)]).length=H.length+3:=by simp
     rw[hlen1];have hperm:∀m,HSc (H++[.cells [.int .i64 5,.int .i64 n,.sl (VT.css ks) .none],.cells [.str d.name,.int .i64 d.vars,.sl (d.cons.map Con.cs) .none],.cells (ks.map λx=>.int .i64 x.nodes),.perm za9 3 m]):=λm=>by have:=hsc8'.append (J:=[.perm za9 3 m]) rfl;simpa using this
     rw[List.append_assoc];show zns (.ptr H.length 0) (.sl [] (.own (H.length+3))) (.sl (VT.css co.args) .none) (.int .i64 co.args.length) (.int .i64 0) (H++[.cells [.int .i64 5,.int .i64 n,.sl (VT.css ks) .none],.cells [.str d.name,.int .i64 d.vars,.sl (d.cons.map Con.cs) .none],.cells (ks.map λx=>.int .i64 x.nodes),.perm za9 3 0]) (Out H.length K);refine zQs (Inv:=λq t14 t95 H'=>∃i:Nat,i≤co.args.length∧q=co.args.length-i∧t95=.int .i64 i∧t14=.sl (VT.css ((co.args.map (subst ks)).take i)) (.own (H.length+3))∧H'=H++[.cells [.int .i64 5,.int .i64 n,.sl (VT.css ks) .none],.cells [.str d.name,.int .i64 d.vars,.sl (d.cons.map Con.cs) .none],.cells (ks.map λx=>.int .i64 x.nodes),.perm za9 3 i]) co.args.length ?_ ?_
     ·intro _;exact⟨0,by omega,by omega,rfl,by simp[VT.css],rfl⟩
     ·rintro q t14 t95 H' ⟨i,hi,rfl,rfl,rfl,rfl⟩ hsc20 hlen20 hsF20 Kb20 hKb20;by_cases hlt:i<co.args.length
      ·have hmem:=List.getElem_mem hlt;obtain⟨x1,x2,x3,hvx,hx1,hx2,hx3⟩:=zaL co.args[i];simp[ztj,hlt,hvx,hx1,hx2,hx3];rw[←hvx];refine zJP _ ks (λy hy=>by have:=hkle y hy;omega) (by omega) co.args[i] (Nat.le_refl _) (by have:=han _ hmem;omega) _ _ ?_;rw[zcX];simp[zax,zbc,za2];refine⟨by omega,⟨by omega,by omega⟩,?_⟩;rw[zav (by omega) (by omega),show min i co.args.length=i by omega];refine hKb20 _ _ ⟨co.args.length-(i+1),by omega,Back.at (H2:=H++[.cells [.int .i64 5,.int .i64 n,.sl (VT.css ks) .none],.cells [.str d.name,.int .i64 d.vars,.sl (d.cons.map Con.cs) .none],.cells (ks.map λx=>.int .i64 x.nodes),.perm za9 3 (i+1)]) (J:=[_]) (by simp;rfl) (by simp) (hperm _) ?_ ⟨_,_,rfl,i+1,by omega,rfl,by simp,?_,rfl⟩⟩
       ·simp[znq,AV.sc,AV.scV,AV.scA,AV.scB]
       ·rw[zeY (by simpa using hlt)];simp
      ·obtain rfl:i=co.args.length:=by omega
       rw[List.take_of_length_le (by simp)];simp[ztj,AV.isV];exact Out.tup hs hK ⟨slV,zb4 rfl rfl,trivial⟩
def zhE(i:Nat):VT→Bool
 |.mk k n ks=>k == 4 && n == i && ks.length == 0
def zcf:List VT→Nat→Bool
 |[],_=>true
 |x::l,i=>zhE i x && zcf l (i+1)
def zbT(d vars:Int):VT→Bool
 |.mk k n ks=>k == 5 && n == d && (ks.length:Int) == vars && zcf ks 0
mutual
def zcs(d:Int):VT→Bool
 |.mk k n ks=>(k == 5 && n == d) || ze6 d ks
def ze6(d:Int):List VT→Bool
 |[]=>false
 |t::ts=>zcs d t || ze6 d ts
end
theorem zBv(v:VT)(d vars:Int)(hb:v.nodes≤1000000)(H:zaa)(K:AV→zaa→Prop)(hK:K (.bool (zbT d vars v)) H):ACalls tP zkc [.agg v.cs,.int .i64 d,.int .i64 vars] H K:=by
 refine ACalls.out (zAa λhs=>?_);obtain⟨k,n,ks⟩:=v;have hnl:VT.nodesL ks+1≤1000000:=by simpa[VT.nodes]using hb
 have hll:=VT.len_le ks;have hO:∀J,Out H.length K (.bool (k == 5 && n == d && (ks.length:Int) == vars && zcf ks 0)) (H++J):=λJ=>Out.bool rfl (Nat.le_refl _) hs (by simpa[zbT]using hK);simp only[VT.cs,zsq];cases h5:(k == 5) with
 |false=>
  have:(k != 5)=true:=by simp[bne,h5]
  rw[h5]at hO;simp[this];exact hO _
 |true=>
 have h5':(k != 5)=false:=by simp[bne,h5]
 cases hn:(n == d) with
 |false=>
  have:(n != d)=true:=by simp[bne,hn]
  rw[h5,hn]at hO;simp[h5',this];exact hO _
 |true=>
 have hn':(n != d)=false:=by simp[bne,hn]
 cases hv:((ks.length:Int) == vars) with
 |false=>
  have:((ks.length:Int) != vars)=true:=by simp[bne,hv]
  rw[h5,hn,hv]at hO;simp[h5',hn',this];exact hO _
 |true=>
 have hv':((ks.length:Int) != vars)=false:=by simp[bne,hv]
 rw[h5,hn,hv]at hO;simp only[Bool.true_and]at hO;simp[h5',hn',hv'];refine zz9 (Inv:=λq t7 H'=>∃i:Nat,i≤ks.length∧q=ks.length-i∧t7=.int .i64 i∧zcf (ks.drop i) i=zcf ks 0∧H'=H++[.cells [.int .i64 k,.int .i64 n,.sl (VT.css ks) .none]]) ks.length ?_ ?_
 ·intro _;exact⟨0,by omega,by omega,rfl,by simp,rfl⟩
 ·rintro q t7 H' ⟨i,hi,rfl,rfl,ho,rfl⟩ hsc hlen hsF Kb hKb;by_cases hlt:i<ks.length
  ·rw[List.drop_eq_getElem_cons hlt,zcf]at ho;obtain⟨k',n',ks',hx⟩:∃ k' n' ks',ks[i]=.mk k' n' ks':=by cases h:ks[i] with | mk a b c=>exact⟨a,b,c,rfl⟩
   rw[hx,zhE]at ho;cases g1:(k' == 4) with
   |false=>
    have:(k' != 4)=true:=by simp[bne,g1]
    rw[g1]at ho;simp only[Bool.false_and]at ho;rw[←ho]at hO;simp[zdP,hlt,hx,VT.cs,this];exact hO _
   |true=>
   have g1':(k' != 4)=false:=by simp[bne,g1]
   cases g2:(n' == (i:Int)) with
   |false=>
    have:(n' != (i:Int))=true:=by simp[bne,g2]
    rw[g1,g2]at ho;simp only[Bool.false_and,Bool.and_false]at ho;rw[←ho]at hO;simp[zdP,hlt,hx,VT.cs,g1',this];exact hO _
   |true=>
   have g2':(n' != (i:Int))=false:=by simp[bne,g2]
   by_cases g3:ks'.length=0
   ·have g3':¬ (0:Int)<ks'.length:=by omega
    have g3'':¬ 0<ks'.length:=by omega
    rw[g1,g2,g3]at ho;simp only[Bool.true_and,BEq.rfl]at ho;simp[zdP,hlt,hx,VT.cs,g1',g2',g3',g3''];rw[zav (by omega) (by omega)];refine hKb _ _ ⟨ks.length-(i+1),by omega,Back.here (by simp) hsc ?_ ⟨_,rfl,i+1,by omega,rfl,by simp,ho,rfl⟩⟩;simp[ziS,AV.sc,AV.scV,AV.scA,AV.scB]
   ·have g3':(0:Int)<ks'.length:=by omega
    have g3'':0<ks'.length:=by omega
    have g4:(ks'.length == 0)=false:=by simpa using g3
    rw[g4]at ho;simp only[Bool.and_false,Bool.false_and]at ho;rw[←ho]at hO;simp[zdP,hlt,hx,VT.cs,g1',g2',g3',g3''];exact hO _
  ·obtain rfl:i=ks.length:=by omega
   rw[List.drop_length,zcf]at ho;rw[←ho]at hO;simp[zdP];exact hO _
theorem zCq:zdD tP zj0=true:=by kernel_rfl
theorem zvq(d:Int):∀ l:List VT,ze6 d l=l.any (zcs d)
 |[]=>rfl
 |t::ts=>by simp[ze6,zvq d ts]
theorem zLh(d:Int):∀(m:Nat) (v:VT),v.nodes≤m→v.nodes≤1000000→∀(H:zaa) (K:AV→zaa→Prop),K (.bool (zcs d v)) H→ACalls tP zjZ [.agg v.cs,.int .i64 d] H K:=by
 intro m;induction m with
 |zero=>intro v h;have:=v.nodes_pos;omega
 |succ m ih=>
  intro v hv hb H K hK;obtain⟨k,n,ks⟩:=v;have hnl:VT.nodesL ks+1≤1000000:=by simpa[VT.nodes]using hb
  have hll:=VT.len_le ks;refine ACalls.out (zLg λhs=>?_);have hO:∀ J,Out H.length K (.bool ((k == 5 && n == d) || ks.any (zcs d))) (H++J):=λJ=>Out.bool rfl (Nat.le_refl _) hs (by simpa[zcs,zvq]using hK);have go:(k == 5 && n == d)=false→∀ KK:AV→zaa→Prop,(∀ b,Out H.length K (.bool b) (H++[.cells [.int .i64 k,.int .i64 n,.sl (VT.css ks) .none],.cells [.int .i64 d]])→KK (.bool b) (H++[.cells [.int .i64 k,.int .i64 n,.sl (VT.css ks) .none],.cells [.int .i64 d]])) →
    ACalls tP zd5 [.sl (VT.css ks) .none,.fn zj0 [.ptr (H.length+1) 0]] (H++[.cells [.int .i64 k,.int .i64 n,.sl (VT.css ks) .none],.cells [.int .i64 d]]) KK:=by
   intro hno KK hKK;rw[hno,Bool.false_or]at hO;refine zjs ks (by omega) _ _ _ (by simp[AV.sc,AV.scV,AV.scA,AV.scB]) (λi H'=>(ks.drop i).any (zcs d)=ks.any (zcs d)∧H'=H++[.cells [.int .i64 k,.int .i64 n,.sl (VT.css ks) .none],.cells [.int .i64 d]]) ⟨by simp,rfl⟩ ?_ ?_
   ·rintro i hi H' hle ⟨ho,rfl⟩;have hki:=VT.kid_lt (k:=k) (n:=n) hi;rw[List.drop_eq_getElem_cons hi,List.any_cons]at ho;simp only[aCallV,zCq,List.singleton_append];refine ACalls.out (zLw λhs1=>?_);obtain⟨x1,x2,x3,hvx,hx1,hx2,hx3⟩:=zaL ks[i];simp[zy7,hvx];rw[←hvx];refine ih ks[i] (by omega) (by omega) _ _ ?_;refine Out.bool (J:=[_]) (H2:=H++[.cells [.int .i64 k,.int .i64 n,.sl (VT.css ks) .none],.cells [.int .i64 d]]) (by simp;rfl) (by simp) hs1 ?_;cases hb:zcs d ks[i] with
    |false=>rw[hb,Bool.false_or]at ho;exact .inl ⟨rfl,ho,rfl⟩
    |true=>rw[hb,Bool.true_or]at ho;rw[←ho]at hO;exact .inr ⟨rfl,hKK _ (hO _)⟩
   ·rintro H' ⟨ho,rfl⟩;rw[List.drop_length,List.any_nil]at ho;rw[←ho]at hO;exact hKK _ (hO _)
  simp only[VT.cs,zy2];cases h5:(k == 5) with
  |false=>simp[h5,AV.isB];refine go (by rw[h5];rfl) _ λb hb=>?_;simpa using hb
  |true=>
   cases hn:(n == d) with
   |false=>simp[h5,hn,AV.isB];refine go (by rw[hn];simp) _ λb hb=>?_;simpa using hb
   |true=>rw[h5,hn]at hO;simp[h5,hn];exact hO _
def zaJ(l:List Bool):List AV:=l.map AV.bool
@[simp] theorem zTy(l:List Bool):(zaJ l).length=l.length:=by simp[zaJ]
theorem ztV(n:Nat):(List.replicate n [AV.bool false]).flatten=zaJ (List.replicate n false):=by
 induction n with
 |zero=>rfl
 |succ n ih=>simp[List.replicate_succ,ih,zaJ]
theorem znR{l:List Bool}{i:Nat}(h:i<l.length)(b:Bool):(zaJ l).take i++.bool b::(zaJ l).drop (i+1)=zaJ (l.set i b):=by simp[zaJ,List.set_eq_take_append_cons_drop,h]
theorem zjm(m:Nat)(l:List Bool):(zaJ l).all (AV.scA m)=true:=by simp[zaJ]
theorem zv2:∀ l:List Bool,plain (zaJ l)=some (l.map λb=>[AV.bool b]).flatten
 |[]=>rfl
 |b::l=>by have:=zv2 l;simp[zaJ]at this ⊢;simp[plain,this,AV.pd]
end Go.Proofs.YtaifokkaaahdoaaGreatDoor
namespace Go.Abs
open Go
def zbR(b:UInt8):Bool:=decide (97≤(b.toNat:Int)) && decide ((b.toNat:Int)≤122)
def bUp(b:UInt8):Bool:=decide (65≤(b.toNat:Int)) && decide ((b.toNat:Int)≤90)
def zba(b:UInt8):Bool:=decide (48≤(b.toNat:Int)) && decide ((b.toNat:Int)≤57)
def bIn(b:UInt8):Bool:=zbR b || bUp b || zba b || b == 95
def zdk(b:UInt8):Bool:=b == 9 || b == 10 || b == 13 || b == 32
def zb7:List UInt8→Int→Bool
 |[],_=>true
 | b::l,n=>let m:=n*10+((b.toNat:Int)-48)
  if m>1000000 then false else zb7 l m
def zdu(r:List UInt8):Bool:=r.take 2 == [45,62] || r.take 2 == [60,61] || r.take 2 == [61,61]
def sgns:List UInt8:=[40,41,44,61,124,43,45,42,47,37,60,59,95]
def sgn(r:List UInt8):Nat:=
 if zdu r=true then 2 else match r with
 |[]=>0
 |b::_=>if sgns.contains b=true then 1 else 0
structure Tk where
 kind:Int
 text:List UInt8
 pos:Nat
def tok(kw:List UInt8→Bool)(b:UInt8)(r:List UInt8):Except Int (Int×Nat):=
 if (zbR b || bUp b)=true then
  let n:=(r.takeWhile bIn).length+1
  if n>24 then .error 9 else .ok (if bUp b=true then 2 else if kw ((b::r).take n)=true then 4 else 1,n)
 else if zba b=true then
  let n:=(r.takeWhile zba).length+1
  if b == 48 && decide (n>1) then .error 2 else if zb7 ((b::r).take n) 0=true then .ok (3,n) else .error 9
 else
  let n:=sgn (b::r)
  if n=0 then .error 2 else .ok (5,n)
theorem zp5{kw:List UInt8→Bool}{b:UInt8}{r:List UInt8}{k:Int}{n:Nat}(h:tok kw b r=.ok (k,n)):0<n:=by
 unfold tok at h;split at h
 ·simp only at h;split at h <;> simp at h;omega
 ·split at h
  ·simp only at h;split at h
   ·simp at h
   ·split at h <;> simp at h;omega
  ·simp only at h;split at h <;> simp at h;omega
def zbk(kw:List UInt8→Bool)(r:List UInt8)(pos:Nat):Except (Nat×Int) (List Tk):=
 match r with
 |[]=>.ok [⟨6,[],pos⟩]
 |b::r'=>
  if zdk b=true then zbk kw r' (pos+1)
  else if b == 35 then zbk kw (r'.dropWhile (· != 10)) (pos+1+(r'.takeWhile (· != 10)).length)
  else match tok kw b r' with
   |.error e=>.error (pos,e)
   | .ok (k,n)=>match zbk kw (r'.drop (n-1)) (pos+n) with
    |.error e=>.error e
    |.ok l=>.ok (⟨k,(b::r').take n,pos⟩::l)
termination_by r.length
decreasing_by
 ·simp
 ·have:=(List.dropWhile_sublist (p:=(· != 10)) (l:=r')).length_le;simp;omega
 ·simp;omega
end Go.Abs
namespace Go.Proofs.YtaifokkaaahdoaaGreatDoor
open Go Go.Abs
set_option maxRecDepth 100000
def zf1:Nat→List Bool
 |5=>rl false [0,1,4,2,54]
 |9=>rl false [0,1,4,2,54]
 |_=>[]
noncomputable def zrL:Code:=Tryz.f188.body.getD .skip
noncomputable def zK5:List ResultVar:=Tryz.f188.results.toList
def zg2(t0 t5 t6:AV):List AV:=t0::ux 4 (t5::t6::ux 54 [])
def zyX:List Bool:=zf1 5
noncomputable def zrM:Code:=zaq [1,0,1,1,1,1,0,0,0] zrL
def zyU(K:Kt):AExit→List AV→zaa→Prop:=zar tP zf1 [1,0,1,1,1,1,0,0] zrL (zaB tP zK5 K)
def zme(t0 t5 t6:AV)(H:zaa)(K:Kt):Prop:=ALoop tP zrM (zyU K) (zg2 t0 t5 t6) H
def zg3(t0 t5 t6:AV)(H:zaa)(K:Kt)(Kb5:Lt):Prop:=
 Kb5 (zg2 t0 t5 t6) H
def zmc(t0 t5 t6:AV):List AV:=t0::ux 4 (t5::t6::ux 54 [])
def zK3:List Bool:=zf1 9
noncomputable def zK0:Code:=zaq [1,0,1,0,1,0,0,0,0] zrM
def zKZ(K:Kt)(Kb5:Lt):AExit→List AV→zaa→Prop:=zar tP zf1 [1,0,1,0,1,0,0,0] zrM (zbK zyX Kb5 (zyU K))
def zyW(t0 t5 t6:AV)(H:zaa)(K:Kt)(Kb5:Lt):Prop:=ALoop tP zK0 (zKZ K Kb5) (zmc t0 t5 t6) H
def zyV(t0 t5:AV)(H:zaa)(K:Kt):Prop:=
 zah 0 t0 λt57=>
 zao [(.int .i64 0),(.str []),(.int .i64 0)] [(0,1),(1,1),(2,1)] [(0,(.int .i64 6)),(2,t57)] λt58=>
 zas 3 [(.int .i64 0),(.str []),(.int .i64 0)] 1 [(0,t58)] λt59=>
 zax ze1 3 32 t5 t59 H λt60 H=>
 zbb [t60,(.int .i64 0),(.int .i64 0)] (K · H)
def zmd(t0 t5:AV)(H:zaa)(K:Kt):Prop:=
 zyV t0 t5 H K
def zrK(t0 t5 t6:AV)(H:zaa)(K:Kt)(Kb5:Lt)(Kb9:Lt):Prop:=
 zah 0 t0 λt28=>
 zac .lss false t6 t28 λt29=>
 zag t29
 (zbA t0 t6 λt34=>
 zac .eql false t34 (.int .u8 10) λt35=>
 zag t35
 (zg3 t0 t5 t6 H K Kb5)
 (zac .add false t6 (.int .i64 1) λt31=>
 Kb9 (zmc t0 t5 t31) H))
 (zmd t0 t5 H K)
def zrJ(t0 t5 t6:AV)(H:zaa)(K:Kt)(Kb5:Lt):Prop:=
 zah 0 t0 λt14=>
 zac .lss false t6 t14 λt15=>
 zag t15
 (zbA t0 t6 λt18=>
 ACalls tP zo8 [t18] H λt19 H=>
 zag t19
 (zac .add false t6 (.int .i64 1) λt21=>
 zg3 t0 t5 t21 H K Kb5)
 (zbA t0 t6 λt24=>
 zac .eql false t24 (.int .u8 35) λt25=>
 zag t25
 (zyW t0 t5 t6 H K Kb5)
 (ACalls tP zo9 [t0,t6] H λt39 H=>
 zaN t39 0 λt40=>
 zaN t39 1 λt41=>
 zay [(.int .i64 0),(.str []),(.int .i64 0)] H λt7 H=>
 zak 3 t7 t40 H λH=>
 zac .neq false t41 (.int .i64 0) λt43=>
 zag t43
 (zbb [.snil,t6,t41] (K · H))
 (zae true 3 t7 H λt47=>
 zas 3 [(.int .i64 0),(.str []),(.int .i64 0)] 1 [(0,t47)] λt48=>
 zax ze1 3 32 t5 t48 H λt49 H=>
 zaf 1 t7 λt51=>
 zae false 1 t51 H λt52=>
 zah 0 t52 λt53=>
 zac .add false t6 t53 λt54=>
 zg3 t0 t49 t54 H K Kb5))))
 (zmd t0 t5 H K)
def zrI(t0:AV)(H:zaa)(K:Kt):Prop:=
 zah 0 t0 λt10=>
 zac .gtr false t10 (.int .i64 16384) λt11=>
 zag t11
 (zbb [.snil,(.int .i64 0),(.int .i64 9)] (K · H))
 (zme t0 .snil (.int .i64 0) H K)
theorem zK2{t0 t5 t6:AV}{H:zaa}{K:Kt}{Kb5:Lt}(Inv:Nat→AV→zaa→Prop)(n:Nat)(h0:HSc H→Inv n t6 H)(round:Rd1 (λt6=>zmc t0 t5 t6) (λt6=>λH Kb9=>zrK t0 t5 t6 H K Kb5 Kb9) H Inv):zyW t0 t5 t6 H K Kb5:=
 lp1 (M:=zf1) zK3 t6 (by kernel_rfl) Inv n h0 round
theorem zK1{t0 t5 t6:AV}{H:zaa}{K:Kt}(Inv:Nat→AV→AV→zaa→Prop)(n:Nat)(h0:HSc H→Inv n t5 t6 H)(round:Rd2 (λt5=>λt6=>zg2 t0 t5 t6) (λt5=>λt6=>λH Kb5=>zrJ t0 t5 t6 H K Kb5) H Inv):zme t0 t5 t6 H K:=
 lp2 (M:=zf1) zyX t5 t6 (by kernel_rfl) Inv n h0 round
theorem zK4{t0:AV}{H:zaa}{K:Kt}(h:HSc H→zrI t0 H K):ACalls tP zo6 [t0] H K:=
 zan (M:=zf1) Tryz.func188 (c:=zrL) (by kernel_rfl) (λhs=>Eq.mpr (by kernel_rfl) (h hs))
def zc9:Nat→List Bool
 |5=>rl false [0,1,4,2,193]
 |10=>rl false [0,1,4,2,193]
 |18=>rl false [0,1,4,4,191]
 |29=>rl false [0,1,4,4,191]
 |_=>[]
noncomputable def zqr:Code:=Tryz.f103.body.getD .skip
noncomputable def zHg:List ResultVar:=Tryz.f103.results.toList
def zfW(t0 t5 t6:AV):List AV:=t0::ux 4 (t5::t6::ux 193 [])
def zk9:List Bool:=zc9 5
noncomputable def zfV:Code:=zaq [1,1,1,0,1,0,0] zqr
def zk3(K:Kt):AExit→List AV→zaa→Prop:=zar tP zc9 [1,1,1,0,1,0] zqr (zaB tP zHg K)
def zk8(t0 t5 t6:AV)(H:zaa)(K:Kt):Prop:=ALoop tP zfV (zk3 K) (zfW t0 t5 t6) H
def zfi(t0 t5 t6:AV)(H:zaa)(K:Kt)(Kb5:Lt):Prop:=
 Kb5 (zfW t0 t5 t6) H
def zk6(t0 t5 t6:AV):List AV:=t0::ux 4 (t5::t6::ux 193 [])
def zHc:List Bool:=zc9 10
noncomputable def zG5:Code:=zaq [1,0,1,1,0,1,0,0,0,0] zfV
def zG2(K:Kt)(Kb5:Lt):AExit→List AV→zaa→Prop:=zar tP zc9 [1,0,1,1,0,1,0,0,0] zfV (zbK zk9 Kb5 (zk3 K))
def zxy(t0 t5 t6:AV)(H:zaa)(K:Kt)(Kb5:Lt):Prop:=ALoop tP zG5 (zG2 K Kb5) (zk6 t0 t5 t6) H
def zqo(t0 t5 t6:AV)(H:zaa)(K:Kt)(Kb5:Lt)(Kb10:Lt):Prop:=
 zah 0 t0 λt42=>
 zac .lss false t6 t42 λt43=>
 zab t43 true H (λK'=>K' t0 H) λt45 H=>
 zab t43 true H (λK'=>K' t6 H) λt46 H=>
 zab t43 true H (λK'=>zbA t45 t46 (K' · H)) λt47 H=>
 zab t43 true H (λK'=>zac .neq false t47 (.int .u8 10) (K' · H)) λt48 H=>
 zai t43 t48 (.bool false) λt49=>
 zag t49
 (zac .add false t6 (.int .i64 1) λt51=>
 Kb10 (zk6 t0 t5 t51) H)
 (zfi t0 t5 t6 H K Kb5)
def zio(t0 t5 t6 t7 t8:AV):List AV:=t0::ux 4 (t5::t6::t7::t8::ux 191 [])
def zHd:List Bool:=zc9 18
noncomputable def zG6:Code:=zaq [1,0,1,1,1,1,0,0,1,0,0,0,0] zfV
def zG3(K:Kt)(Kb5:Lt):AExit→List AV→zaa→Prop:=zar tP zc9 [1,0,1,1,1,1,0,0,1,0,0,0] zfV (zbK zk9 Kb5 (zk3 K))
def zqs(t0 t5 t6 t7 t8:AV)(H:zaa)(K:Kt)(Kb5:Lt):Prop:=ALoop tP zG6 (zG3 K Kb5) (zio t0 t5 t6 t7 t8) H
def zip(t0 t5 t6 t8:AV)(H:zaa)(K:Kt)(Kb5:Lt):Prop:=
 zac .add false t6 t8 λt193=>
 zfi t0 t5 t193 H K Kb5
def zfk(t0 t5 t6 t8:AV)(H:zaa)(K:Kt)(Kb5:Lt):Prop:=
 zip t0 t5 t6 t8 H K Kb5
def zfj(t0 t5 t6 t8 t9:AV)(H:zaa)(K:Kt)(Kb5:Lt):Prop:=
 zac .add false t6 t8 λt135=>
 za7 0 0 t0 (some t6) (some t135) λt136=>
 zao [(.int .i64 0),(.str []),(.int .i64 0)] [(0,1),(1,1),(2,1)] [(0,t9),(1,t136),(2,t6)] λt138=>
 zas 3 [(.int .i64 0),(.str []),(.int .i64 0)] 1 [(0,t138)] λt139=>
 zax zbt 3 32 t5 t139 H λt140 H=>
 zfk t0 t140 t6 t8 H K Kb5
def zqp(t0 t5 t6 t7 t8:AV)(H:zaa)(K:Kt)(Kb5:Lt)(Kb18:Lt):Prop:=
 zac .add false t6 t8 λt79=>
 zah 0 t0 λt81=>
 zac .lss false t79 t81 λt82=>
 zab t82 true H (λK'=>K' t0 H) λt84 H=>
 zab t82 true H (λK'=>K' t6 H) λt85 H=>
 zab t82 true H (λK'=>K' t8 H) λt86 H=>
 zab t82 true H (λK'=>zac .add false t85 t86 (K' · H)) λt87 H=>
 zab t82 true H (λK'=>zbA t84 t87 (K' · H)) λt88 H=>
 zab t82 true H (λK'=>ACalls tP zjU [t88] H K') λt89 H=>
 zab t82 true H (λK'=>K' t89 H) λt90 H=>
 zab t90 false H (λK'=>K' t0 H) λt91 H=>
 zab t90 false H (λK'=>K' t6 H) λt92 H=>
 zab t90 false H (λK'=>K' t8 H) λt93 H=>
 zab t90 false H (λK'=>zac .add false t92 t93 (K' · H)) λt94 H=>
 zab t90 false H (λK'=>zbA t91 t94 (K' · H)) λt95 H=>
 zab t90 false H (λK'=>ACalls tP zgy [t95] H K') λt96 H=>
 zab t82 true H (λK'=>zai t90 (.bool true) t96 (K' · H)) λt97 H=>
 zab t82 true H (λK'=>K' t97 H) λt98 H=>
 zab t98 false H (λK'=>K' t0 H) λt99 H=>
 zab t98 false H (λK'=>K' t6 H) λt100 H=>
 zab t98 false H (λK'=>K' t8 H) λt101 H=>
 zab t98 false H (λK'=>zac .add false t100 t101 (K' · H)) λt102 H=>
 zab t98 false H (λK'=>zbA t99 t102 (K' · H)) λt103 H=>
 zab t98 false H (λK'=>ACalls tP zhS [t103] H K') λt104 H=>
 zab t82 true H (λK'=>zai t98 (.bool true) t104 (K' · H)) λt105 H=>
 zab t82 true H (λK'=>K' t105 H) λt106 H=>
 zab t106 false H (λK'=>K' t0 H) λt107 H=>
 zab t106 false H (λK'=>K' t6 H) λt108 H=>
 zab t106 false H (λK'=>K' t8 H) λt109 H=>
 zab t106 false H (λK'=>zac .add false t108 t109 (K' · H)) λt110 H=>
 zab t106 false H (λK'=>zbA t107 t110 (K' · H)) λt111 H=>
 zab t106 false H (λK'=>zac .eql false t111 (.int .u8 95) (K' · H)) λt112 H=>
 zab t82 true H (λK'=>zai t106 (.bool true) t112 (K' · H)) λt113 H=>
 zai t82 t113 (.bool false) λt114=>
 zag t114
 (zac .add false t8 (.int .i64 1) λt116=>
 Kb18 (zio t0 t5 t6 t7 t116) H)
 (zac .gtr false t8 (.int .i64 24) λt118=>
 zag t118
 (zbb [.snil,t6,(.int .i64 9)] (K · H))
 (ACalls tP zgy [t7] H λt121 H=>
 zag t121
 (zfj t0 t5 t6 t8 (.int .i64 2) H K Kb5)
 (zac .add false t6 t8 λt126=>
 za7 0 0 t0 (some t6) (some t126) λt127=>
 ACalls tP zjV [t127] H λt128 H=>
 zag t128
 (zfj t0 t5 t6 t8 (.int .i64 4) H K Kb5)
 (zfj t0 t5 t6 t8 (.int .i64 1) H K Kb5))))
def zk7(t0 t5 t6 t7 t8:AV):List AV:=t0::ux 4 (t5::t6::t7::t8::ux 191 [])
def zHe:List Bool:=zc9 29
noncomputable def zG7:Code:=zaq [1,0,1,1,1,1,0,0,1,1,1,0,0,0,0] zfV
def zG4(K:Kt)(Kb5:Lt):AExit→List AV→zaa→Prop:=zar tP zc9 [1,0,1,1,1,1,0,0,1,1,1,0,0,0] zfV (zbK zk9 Kb5 (zk3 K))
def zqt(t0 t5 t6 t7 t8:AV)(H:zaa)(K:Kt)(Kb5:Lt):Prop:=ALoop tP zG7 (zG4 K Kb5) (zk7 t0 t5 t6 t7 t8) H
def zqq(t0 t5 t6 t7 t8:AV)(H:zaa)(K:Kt)(Kb5:Lt)(Kb29:Lt):Prop:=
 zac .add false t6 t8 λt146=>
 zah 0 t0 λt148=>
 zac .lss false t146 t148 λt149=>
 zab t149 true H (λK'=>K' t0 H) λt151 H=>
 zab t149 true H (λK'=>K' t6 H) λt152 H=>
 zab t149 true H (λK'=>K' t8 H) λt153 H=>
 zab t149 true H (λK'=>zac .add false t152 t153 (K' · H)) λt154 H=>
 zab t149 true H (λK'=>zbA t151 t154 (K' · H)) λt155 H=>
 zab t149 true H (λK'=>ACalls tP zhS [t155] H K') λt156 H=>
 zai t149 t156 (.bool false) λt157=>
 zag t157
 (zac .add false t8 (.int .i64 1) λt159=>
 Kb29 (zk7 t0 t5 t6 t7 t159) H)
 (zac .gtr false t8 (.int .i64 1) λt161=>
 zab t161 true H (λK'=>K' t7 H) λt163 H=>
 zab t161 true H (λK'=>zac .eql false t163 (.int .u8 48) (K' · H)) λt164 H=>
 zai t161 t164 (.bool false) λt165=>
 zag t165
 (zbb [.snil,t6,(.int .i64 2)] (K · H))
 (zac .add false t6 t8 λt172=>
 za7 0 0 t0 (some t6) (some t172) λt173=>
 ACalls tP zgz [t173] H λt174 H=>
 zaN t174 0 λt175=>
 zaN t174 1 λt176=>
 aUn .not t176 λt178=>
 zag t178
 (zbb [.snil,t6,(.int .i64 9)] (K · H))
 (zac .add false t6 t8 λt185=>
 za7 0 0 t0 (some t6) (some t185) λt186=>
 zao [(.int .i64 0),(.str []),(.int .i64 0)] [(0,1),(1,1),(2,1)] [(0,(.int .i64 3)),(1,t186),(2,t6)] λt188=>
 zas 3 [(.int .i64 0),(.str []),(.int .i64 0)] 1 [(0,t188)] λt189=>
 zax zbt 3 32 t5 t189 H λt190 H=>
 zfk t0 t190 t6 t8 H K Kb5)))
def zk4(t0 t5 t6:AV)(H:zaa)(K:Kt)(Kb5:Lt):Prop:=
 zah 0 t0 λt17=>
 zac .lss false t6 t17 λt18=>
 zag t18
 (zbA t0 t6 λt21=>
 zac .eql false t21 (.int .u8 9) λt23=>
 zab t23 false H (λK'=>K' t21 H) λt25 H=>
 zab t23 false H (λK'=>zac .eql false t25 (.int .u8 10) (K' · H)) λt26 H=>
 zai t23 (.bool true) t26 λt27=>
 zab t27 false H (λK'=>K' t21 H) λt29 H=>
 zab t27 false H (λK'=>zac .eql false t29 (.int .u8 13) (K' · H)) λt30 H=>
 zai t27 (.bool true) t30 λt31=>
 zab t31 false H (λK'=>K' t21 H) λt33 H=>
 zab t31 false H (λK'=>zac .eql false t33 (.int .u8 32) (K' · H)) λt34 H=>
 zai t31 (.bool true) t34 λt35=>
 zag t35
 (zac .add false t6 (.int .i64 1) λt37=>
 zfi t0 t5 t37 H K Kb5)
 (zac .eql false t21 (.int .u8 35) λt39=>
 zag t39
 (zxy t0 t5 t6 H K Kb5)
 (ACalls tP zjU [t21] H λt72 H=>
 zab t72 false H (λK'=>K' t21 H) λt74 H=>
 zab t72 false H (λK'=>ACalls tP zgy [t74] H K') λt75 H=>
 zai t72 (.bool true) t75 λt76=>
 zag t76
 (zqs t0 t5 t6 t21 (.int .i64 1) H K Kb5)
 (ACalls tP zhS [t21] H λt143 H=>
 zag t143
 (zqt t0 t5 t6 t21 (.int .i64 1) H K Kb5)
 (za7 0 0 t0 (some t6) none λt54=>
 ACalls tP zo1 [t54] H λt55 H=>
 zac .eql false t55 (.int .i64 0) λt57=>
 zag t57
 (zbb [.snil,t6,(.int .i64 2)] (K · H))
 (zac .add false t6 t55 λt64=>
 za7 0 0 t0 (some t6) (some t64) λt65=>
 zao [(.int .i64 0),(.str []),(.int .i64 0)] [(0,1),(1,1),(2,1)] [(0,(.int .i64 5)),(1,t65),(2,t6)] λt67=>
 zas 3 [(.int .i64 0),(.str []),(.int .i64 0)] 1 [(0,t67)] λt68=>
 zax zbt 3 32 t5 t68 H λt69 H=>
 zfk t0 t69 t6 t55 H K Kb5))))))
 (zah 0 t0 λt196=>
 zao [(.int .i64 0),(.str []),(.int .i64 0)] [(0,1),(1,1),(2,1)] [(0,(.int .i64 6)),(1,(.str [])),(2,t196)] λt197=>
 zas 3 [(.int .i64 0),(.str []),(.int .i64 0)] 1 [(0,t197)] λt198=>
 zax zbt 3 32 t5 t198 H λt199 H=>
 zbb [t199,(.int .i64 0),(.int .i64 0)] (K · H))
def zqn(t0:AV)(H:zaa)(K:Kt):Prop:=
 zah 0 t0 λt13=>
 zac .gtr false t13 (.int .i64 16384) λt14=>
 zag t14
 (zbb [.snil,(.int .i64 0),(.int .i64 9)] (K · H))
 (zk8 t0 .snil (.int .i64 0) H K)
theorem zG8{t0 t5 t6:AV}{H:zaa}{K:Kt}{Kb5:Lt}(Inv:Nat→AV→zaa→Prop)(n:Nat)(h0:HSc H→Inv n t6 H)(round:Rd1 (λt6=>zk6 t0 t5 t6) (λt6=>λH Kb10=>zqo t0 t5 t6 H K Kb5 Kb10) H Inv):zxy t0 t5 t6 H K Kb5:=
 lp1 (M:=zc9) zHc t6 (by kernel_rfl) Inv n h0 round
theorem zG9{t0 t5 t6 t7 t8:AV}{H:zaa}{K:Kt}{Kb5:Lt}(Inv:Nat→AV→zaa→Prop)(n:Nat)(h0:HSc H→Inv n t8 H)(round:Rd1 (λt8=>zio t0 t5 t6 t7 t8) (λt8=>λH Kb18=>zqp t0 t5 t6 t7 t8 H K Kb5 Kb18) H Inv):zqs t0 t5 t6 t7 t8 H K Kb5:=
 lp1 (M:=zc9) zHd t8 (by kernel_rfl) Inv n h0 round
theorem zHa{t0 t5 t6 t7 t8:AV}{H:zaa}{K:Kt}{Kb5:Lt}(Inv:Nat→AV→zaa→Prop)(n:Nat)(h0:HSc H→Inv n t8 H)(round:Rd1 (λt8=>zk7 t0 t5 t6 t7 t8) (λt8=>λH Kb29=>zqq t0 t5 t6 t7 t8 H K Kb5 Kb29) H Inv):zqt t0 t5 t6 t7 t8 H K Kb5:=
 lp1 (M:=zc9) zHe t8 (by kernel_rfl) Inv n h0 round
theorem zHb{t0 t5 t6:AV}{H:zaa}{K:Kt}(Inv:Nat→AV→AV→zaa→Prop)(n:Nat)(h0:HSc H→Inv n t5 t6 H)(round:Rd2 (λt5=>λt6=>zfW t0 t5 t6) (λt5=>λt6=>λH Kb5=>zk4 t0 t5 t6 H K Kb5) H Inv):zk8 t0 t5 t6 H K:=
 lp2 (M:=zc9) zk9 t5 t6 (by kernel_rfl) Inv n h0 round
theorem zHf{t0:AV}{H:zaa}{K:Kt}(h:HSc H→zqn t0 H K):ACalls tP zoN [t0] H K:=
 zan (M:=zc9) Tryz.func103 (c:=zqr) (by kernel_rfl) (λhs=>Eq.mpr (by kernel_rfl) (h hs))
def zLo(_:Nat):List Bool:=[]
noncomputable def zLp:Code:=Tryz.f204.body.getD .skip
def zy5(t0:AV)(H:zaa)(K:Kt):Prop:=
 zac .eql false t0 (.int .u8 9) λt4=>
 zab t4 false H (λK'=>K' t0 H) λt6 H=>
 zab t4 false H (λK'=>zac .eql false t6 (.int .u8 10) (K' · H)) λt7 H=>
 zai t4 (.bool true) t7 λt8=>
 zab t8 false H (λK'=>K' t0 H) λt10 H=>
 zab t8 false H (λK'=>zac .eql false t10 (.int .u8 13) (K' · H)) λt11 H=>
 zai t8 (.bool true) t11 λt12=>
 zab t12 false H (λK'=>K' t0 H) λt14 H=>
 zab t12 false H (λK'=>zac .eql false t14 (.int .u8 32) (K' · H)) λt15 H=>
 zai t12 (.bool true) t15 λt16=>
 K t16 H
theorem zLq{t0:AV}{H:zaa}{K:Kt}(h:HSc H→zy5 t0 H K):ACalls tP zo8 [t0] H K:=
 zan (M:=zLo) Tryz.func204 (c:=zLp) (by kernel_rfl) (λhs=>Eq.mpr (by kernel_rfl) (h hs))
end Go.Proofs.YtaifokkaaahdoaaGreatDoor
