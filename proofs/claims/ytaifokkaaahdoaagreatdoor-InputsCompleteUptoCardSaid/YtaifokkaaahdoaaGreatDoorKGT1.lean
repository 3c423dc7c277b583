import Derived.Test.YtaifokkaaahdoaaGreatDoorKY9
import Derived.Test.YtaifokkaaahdoaaGreatDoorAbsU
import Derived.Test.YtaifokkaaahdoaaGreatDoorKNum
import Derived.Test.YtaifokkaaahdoaaGreatDoorProg
import Derived.KernelRfl
set_option linter.unusedSimpArgs false
set_option linter.unusedVariables false
set_option linter.unusedSectionVars false
set_option maxRecDepth 8000
namespace Go.Proofs.YtaifokkaaahdoaaGreatDoor
open Go Go.Abs
mutual
def zbm:VT→Prop
 |.mk _ _ ks=>ks.length≤9223372036854775807∧zdA ks
def zdA:List VT→Prop
 |[]=>True
 |v::vs=>zbm v∧zdA vs
end
theorem ziQ:∀ {ks:List VT},zdA ks→∀ x∈ks,zbm x
 |[],_,x,hx=>by simp at hx
 |v::vs,h,x,hx=>by
  rw[zdA]at h;rcases List.mem_cons.1 hx with e|hx
  ·rw[e];exact h.1
  ·exact ziQ h.2 x hx
theorem zCE(x:List VT)(hl:x.length≤9223372036854775807)(fv:AV)(H:zaa)(K:AV→zaa→Prop)(hfv:fv.sc H.length=true)(Inv:Nat→zaa→Prop)(h0:Inv 0 H)(step:∀(i:Nat) (h:i<x.length) (H':zaa),H.length≤H'.length→Inv i H'→aCallV tP fv [.agg (x[i]).cs] H' λr H''=>(r=.bool false∧Inv (i+1) H'')∨(r=.bool true∧K (.int .i64 i) H''))(fin:∀H',Inv x.length H'→K (.int .i64 (-1)) H'):ACalls tP zjd [.sl (VT.css x) .none,fv] H K:=by
 refine zyh λhs=>?_;simp[zqM];refine zyg (Inv:=λq t8 H'=>∃i:Nat,i≤x.length∧q=x.length-i∧t8=.int .i64 i∧H.length≤H'.length∧Inv i H') x.length ?_ ?_
 ·intro _;exact⟨0,by omega,by omega,rfl,Nat.le_refl _,h0⟩
 ·rintro q t8 H' ⟨i,hi,rfl,rfl,hle,hI⟩ hsc hlen hsF Kb hKb;by_cases hlt:i<x.length
  ·simp[zh8,hlt];refine (step i hlt H' hle hI).mono' λr H'' hsc' hle' hr=>?_;rcases hr with ⟨rfl,hI'⟩ | ⟨rfl,hk⟩
   ·simp;rw[zax (by omega) (by omega)];refine hKb _ _ ⟨x.length-(i+1),by omega,Back.here (by omega) hsc' ?_ ⟨_,rfl,i+1,by omega,rfl,by simp,by omega,hI'⟩⟩;simp[zh9,AV.sc,AV.scV,AV.scA,AV.scB];exact zbZ (by omega) hfv
   ·simpa using hk
  ·obtain rfl:i=x.length:=by omega
   simp[zh8];exact fin H' hI
theorem zBZ(x:List VT)(hl:x.length≤9223372036854775807)(fv:AV)(H:zaa)(K:AV→zaa→Prop)(hfv:fv.sc H.length=true)(Inv:Nat→zaa→Prop)(h0:Inv 0 H)(step:∀(i:Nat) (h:i<x.length) (H':zaa),H.length≤H'.length→Inv i H'→aCallV tP fv [.agg (x[i]).cs] H' λr H''=>(r=.bool false∧Inv (i+1) H'')∨(r=.bool true∧K (.bool true) H''))(fin:∀H',Inv x.length H'→K (.bool false) H'):ACalls tP zdS [.sl (VT.css x) .none,fv] H K:=by
 refine zw7 λhs=>?_;unfold zpQ;refine zCE x hl fv H _ hfv Inv h0 (λi h H' hle hI=>(step i h H' hle hI).mono' λr H'' _ _ hr=>?_) (λH' hI=>?_)
 ·rcases hr with hr | ⟨h1,h2⟩
  ·exact .inl hr
  ·refine .inr ⟨h1,?_⟩;have:decide ((0:Int)≤i)=true:=by simp
   simpa using h2
 ·simpa using fin H' hI
section
variable (data:List Dat) (vars:Int)
theorem zF2:∀ (m:Nat) (v:VT),v.nodes≤m→zbm v→∀ (left:Int),left≤1000000→-1≤left→∀ (H:zaa) (id:Nat),H[id]?=some (zaT data vars left)→∀ (K:AV→zaa→Prop),
  (zaC data vars v=true→(v.nodes:Int)≤left→K (.bool true) (H.set id (zaT data vars (left-v.nodes))))→(¬(zaC data vars v=true∧(v.nodes:Int)≤left)→∀l',K (.bool false) (H.set id (zaT data vars l'))) →
  ACalls tP zhs [.ptr id 0,.agg v.cs] H K:=by
 intro m;induction m with
 |zero=>intro v h;have:=v.nodes_pos;omega
 |succ m ih=>
  intro v hv hb left hl1 hl0 H id hid K hK hF;obtain⟨k,n,ks⟩:=v;have hlt:=zfw hid;have hnn:(VT.mk k n ks).nodes=VT.nodesL ks+1:=by simp[VT.nodes]
  have hfit:ks.length≤9223372036854775807∧zdA ks:=by rw[zbm]at hb;exact hb
  refine ACalls.out (zxZ λhs=>?_)
  -- the heap within: the receiver's copy and the type's
  generalize hJ:([.cells [.ptr id 0],.cells [.int .i64 k,.int .i64 n,.sl (VT.css ks) .none]]:zaa)=J;have hJ0:J[0]?=some (.cells [.ptr id 0]):=by subst hJ;rfl
  have hJ1:J[1]?=some (.cells [.int .i64 k,.int .i64 n,.sl (VT.css ks) .none]):=by subst hJ;rfl
  have hget:∀l',(H.set id (zaT data vars l')++J)[id]?=some (zaT data vars l'):=λl'=>zcf (zcZ _ hid);have bad:(¬(zaC data vars (.mk k n ks)=true∧((VT.mk k n ks).nodes:Int)≤left))→∀l',Out H.length K (.bool false) (H.set id (zaT data vars l')++J):=λh l'=>
   Out.bool rfl (by simp) (hs.set rfl) (hF h l')
  have badS:zaE data vars k n ks.length=false→∀l',Out H.length K (.bool false) (H.set id (zaT data vars l')++J):=λh l'=>bad (λ⟨h1,_⟩=>by simp[zaC,h]at h1) l'
  -- the arguments
  have args:zaE data vars k n ks.length=true→1≤left→∀ KK:AV→zaa→Prop,(∀ H',Out H.length K (.bool true) H'→KK (.bool false) H')→(∀ H',Out H.length K (.bool false) H'→KK (.bool true) H') →
    ACalls tP zdS [.sl (VT.css ks) .none,.fn zhv [.ptr H.length 0]] (H.set id (zaT data vars (left-1))++J) KK:=by
   intro hsh h1 KK hKf hKt;subst hJ;refine zBZ ks hfit.1 _ _ _ (by simp[AV.sc,AV.scV,AV.scA,AV.scB]) (λi H'=>(VT.nodesL (ks.take i):Int)+1≤left∧zaQ data vars (ks.take i)=true∧H'=H.set id (zaT data vars (left-1-VT.nodesL (ks.take i)))++[.cells [.ptr id 0],.cells [.int .i64 k,.int .i64 n,.sl (VT.css ks) .none]]) ⟨by simp[VT.nodesL];omega,by simp[zaQ],by simp[VT.nodesL]⟩ ?_ ?_
   ·rintro i hi H' hle ⟨hb1,hb2,rfl⟩;have hki:=VT.kid_lt (k:=k) (n:=n) hi;have h1:=VT.nodesL_take hi;have h2:=VT.nodesL_take_le ks (i+1);have hokL:zaQ data vars (ks.take (i+1))=(zaQ data vars (ks.take i) && zaC data vars ks[i]):=by
     rw[List.take_succ_eq_append_getElem hi];have:∀(l:List VT) (x:VT),zaQ data vars (l++[x])=(zaQ data vars l && zaC data vars x):=by
      intro l x;induction l with
      |nil=>simp[zaQ]
      |cons a l ih=>simp[zaQ,ih,Bool.and_assoc]
     exact this _ _
    simp only[aCallV,ztv,List.singleton_append];refine ACalls.out (zyp λhs1=>?_);have hH1:∀l',HSc (H.set id (zaT data vars l')++[.cells [.ptr id 0],.cells [.int .i64 k,.int .i64 n,.sl (VT.css ks) .none]]):=λl'=>(hs.set rfl).append (by simp[AB.sc,AV.scA,AV.scB];omega);obtain⟨x1,x2,x3,hvx,hx1,hx2,hx3⟩:=zaU ks[i];have hll2:(H.set id (zaT data vars (left-1-VT.nodesL (ks.take i)))).length=H.length:=by simp
    have hg1:(H.set id (zaT data vars (left-1-VT.nodesL (ks.take i)))++[AB.cells [.ptr id 0],.cells [.int .i64 k,.int .i64 n,.sl (VT.css ks) .none],.cells [x1,x2,x3]])[H.length]?=some (.cells [.ptr id 0]):=by rw[List.getElem?_append_right (by simp)];simp
    have hg2:(H.set id (zaT data vars (left-1-VT.nodesL (ks.take i)))++[AB.cells [.ptr id 0],.cells [.int .i64 k,.int .i64 n,.sl (VT.css ks) .none],.cells [x1,x2,x3]])[H.length+2]?=some (.cells [x1,x2,x3]):=by rw[List.getElem?_append_right (by simp)];simp
    simp[zqV,hvx,hg1,hg2,hll2];rw[←hvx];refine ih ks[i] (by omega) (ziQ hfit.2 _ (List.getElem_mem hi)) (left-1-VT.nodesL (ks.take i)) (by omega) (by omega) _ id (zcf (zcZ _ hid)) _ ?_ ?_
    ·intro ho hle2;rw[zei _ (zcZ _ hid),List.set_set,show left-1-(VT.nodesL (ks.take i):Int)-(ks[i]).nodes=left-1-VT.nodesL (ks.take (i+1)) by omega];simp;refine Out.bool (J:=[_]) (H2:=H.set id (zaT data vars (left-1-VT.nodesL (ks.take (i+1))))++[.cells [.ptr id 0],.cells [.int .i64 k,.int .i64 n,.sl (VT.css ks) .none]]) (by simp;rfl) (by simp) (hH1 _) (.inl ⟨rfl,by omega,by rw[hokL,hb2,ho];rfl,rfl⟩)
    ·intro ho l';rw[zei _ (zcZ _ hid),List.set_set];simp;have hno:¬(zaC data vars (.mk k n ks)=true∧((VT.mk k n ks).nodes:Int)≤left):=by
      rintro⟨g1,g2⟩;have hall:zaQ data vars ks=true:=by simp[zaC]at g1;exact g1.2
      exact ho ⟨zwC data vars ks i hi hall,by omega⟩
     have hb3:=bad hno l';exact Out.bool (J:=[_]) (H2:=H.set id (zaT data vars l')++[.cells [.ptr id 0],.cells [.int .i64 k,.int .i64 n,.sl (VT.css ks) .none]]) (by simp;rfl) (by simp) (hH1 _) (.inr ⟨rfl,hKt _ hb3⟩)
   ·rintro H' ⟨hb1,hb2,rfl⟩;rw[List.take_length]at *;refine hKf _ ?_;refine Out.bool rfl (by simp) (hs.set rfl) ?_;have:=hK (by simp[zaC,hsh,hb2]) (by omega);rw[hnn]at this;rw[show left-1-(VT.nodesL ks:Int)=left-((VT.nodesL ks+1:Nat):Int) by omega];exact this
  -- behind the shape
  have fin:∀ lo hi:Int,(k≠4→k≠5→n≠0→zaE data vars k n ks.length=false)→((ks.length:Int)<lo∨hi<(ks.length:Int)→zaE data vars k n ks.length=false)→1≤left →
    ((k=4∨k=5∨n=0)→lo≤(ks.length:Int)→(ks.length:Int)≤hi→zaE data vars k n ks.length=true) →
    zdC (.ptr H.length 0) (.ptr (H.length+1) 0) (.int .i64 lo) (.int .i64 hi) (H.set id (zaT data vars (left-1))++J) (Out H.length K):=by
   intro lo hi hz hr h1 hok;have hg3:(H.set id (zaT data vars (left-1))++J)[H.length+1]?=some (.cells [.int .i64 k,.int .i64 n,.sl (VT.css ks) .none]):=by rw[List.getElem?_append_right (by simp)];subst hJ;simp
   by_cases hcase:k=4∨k=5∨n=0
   ·have h3:(k != 4)=false∨((k != 4)=true∧(k != 5)=false)∨((k != 4)=true∧(k != 5)=true∧(n != 0)=false):=by
     by_cases g4:k=4
     ·left;simp[g4]
     ·by_cases g5:k=5
      ·right;left;simp[g5]
      ·right;right;simp[g4,g5];omega
    rcases h3 with g|⟨g,g'⟩|⟨g,g',g''⟩;case' inl=>simp[zdC,hg3,hJ1,g]
    case' inr.inl=>simp[zdC,hg3,hJ1,g,g']
    case' inr.inr=>simp[zdC,hg3,hJ1,g,g',g'']
    all_goals
     by_cases hlo:(ks.length:Int)<lo
     ·simp[hlo];exact badS (hr (.inl hlo)) _
     ·by_cases hhi:hi<(ks.length:Int)
      ·simp[hlo,hhi,hJ1];exact badS (hr (.inr hhi)) _
      ·simp[hlo,hhi,AV.isB,hJ1];refine args (hok hcase (by omega) (by omega)) h1 _ (λH' ho=>?_) (λH' ho=>?_) <;> simpa using ho
   ·have g:(k != 4)=true:=by simp;omega
    have g':(k != 5)=true:=by simp;omega
    have g'':(n != 0)=true:=by simp;omega
    simp[zdC,hg3,hJ1,g,g',g''];exact badS (hz (by omega) (by omega) (by omega)) _
  have start:(H++J)[id]?=some (zaT data vars left):=zcf hid;have hmain:zkJ (.ptr H.length 0) (.ptr (H.length+1) 0) (H.set id (zaT data vars (left-1))++J) (Out H.length K):=by
   refine zxW λhs1=>?_;have hgv:=hget (left-1);unfold zaT at hgv;by_cases h0:left-1<0
   ·simp[zh5,hJ0,zaT,hgv,h0];exact bad (λh=>by have:=h.2;rw[hnn]at this;omega) _
   have h1:1≤left:=by omega
   simp[zh5,hJ0,hJ1,zaT,hgv,h0];refine zxY λ_=>?_;have hfin:=λlo hi a b c=>fin lo hi a b h1 c;unfold zaT at hfin badS
   -- the three without arguments
   by_cases h123:k=1∨k=2∨k=3
   ·have hsh:zaE data vars k n ks.length=(n == 0 && ks.length == 0):=by rcases h123 with rfl | rfl | rfl <;> rfl
    have:=hfin 0 0 (λ_ _ hn=>by rw[hsh];simp[hn]) (λh=>by rw[hsh];simp;intro _;rintro rfl;simp at h) (λh h2 h3=>by
     have hn:n=0:=by omega
     have hl:ks.length=0:=by omega
     rw[hsh,hn,hl];rfl)
    rcases h123 with rfl|rfl|rfl <;> simp[zh6] <;> refine zkL λ_=>?_ <;> simp[zbV,zcd] <;> exact this
   have b1:(k == 1)=false:=by simp;omega
   have b2:(k == 2)=false:=by simp;omega
   have b3:(k == 3)=false:=by simp;omega
   simp[zh6,b1,b2,b3];refine zkL λ_=>?_;by_cases h4:k=4
   ·subst h4;have hsh:zaE data vars 4 n ks.length=(decide (0≤n) && decide (n<vars) && ks.length == 0):=rfl;by_cases g1:n<0
    ·simp[zbV,hJ0,hJ1,hgv,g1];exact badS (by rw[hsh];simp;omega) _
    by_cases g2:vars≤n
    ·simp[zbV,hJ0,hJ1,hgv,g1,g2];exact badS (by rw[hsh];simp;omega) _
    have:=hfin 0 0 (λh=>(h rfl).elim) (λh=>by rw[hsh];simp;intro _ _;rintro rfl;simp at h) (λh h2 h3=>by
     have hl:ks.length=0:=by omega
     rw[hsh,hl];simp;omega)
    simp[zbV,hJ0,hJ1,hgv,g1,g2,zcd];exact this
   have b4:(k == 4)=false:=by simp;omega
   by_cases h5:k=5
   ·subst h5;have hsh:zaE data vars 5 n ks.length=(decide (0≤n) && (match data[n.toNat]? with | some d=>(ks.length:Int) == d.vars | none=>false)):=rfl;by_cases g1:n<0
    ·simp[zbV,hJ0,hJ1,hgv,g1];exact badS (by rw[hsh];simp;omega) _
    by_cases g2:(data.length:Int)≤n
    ·simp[zbV,hJ0,hJ1,hgv,g1,g2];exact badS (by rw[hsh,List.getElem?_eq_none (by omega)];simp) _
    have hnl:n.toNat<data.length:=by omega
    have g2':n<data.length:=by omega
    have g1':0≤n:=by omega
    rw[List.getElem?_eq_getElem hnl]at hsh;simp only[g1',decide_true,Bool.true_and]at hsh;have:=hfin (data[n.toNat]).vars (data[n.toNat]).vars (λ_ h=>(h rfl).elim) (λh=>by rw[hsh];simp;omega) (λh h2 h3=>by rw[hsh];simp;omega);simp[zbV,hJ0,hJ1,hgv,g1,g2,g1',g2',hnl,Dat.cs,zcd];exact this
   have b5:(k == 5)=false:=by simp;omega
   by_cases h6:k=6
   ·subst h6;have hsh:zaE data vars 6 n ks.length=(n == 0 && decide (2≤ks.length) && decide (ks.length≤6)):=rfl;have:=hfin 2 6 (λ_ _ hn=>by rw[hsh];simp[hn]) (λh=>by rw[hsh];simp;intros;omega) (λh h2 h3=>by rw[hsh];simp;omega);simp[zbV,zcd];exact this
   have b6:(k == 6)=false:=by simp;omega
   by_cases h78:k=7∨k=8
   ·have hsh:zaE data vars k n ks.length=(n == 0 && ks.length == 1):=by rcases h78 with rfl | rfl <;> rfl
    have:=hfin 1 1 (λ_ _ hn=>by rw[hsh];simp[hn]) (λh=>by rw[hsh];simp;intros;omega) (λh h2 h3=>by rw[hsh];simp;omega);rcases h78 with rfl|rfl <;> simp[zbV] <;> refine zkM λ_=>?_ <;> simp[zfK,zcd] <;> exact this
   have b7:(k == 7)=false:=by simp;omega
   have b8:(k == 8)=false:=by simp;omega
   simp[zbV,b4,b5,b6,b7,b8];refine zkM λ_=>?_;by_cases h9:k=9
   ·subst h9;have hsh:zaE data vars 9 n ks.length=(n == 0 && decide (1≤ks.length) && decide (ks.length≤7)):=rfl;have:=hfin 1 7 (λ_ _ hn=>by rw[hsh];simp[hn]) (λh=>by rw[hsh];simp;intros;omega) (λh h2 h3=>by rw[hsh];simp;omega);simp[zfK,zcd];exact this
   ·have b9:(k == 9)=false:=by simp;omega
    simp[zfK,b9];exact badS (by unfold zaE;simp[b1,b2,b3,b4,b5,b6,b7,b8,b9]) _
  subst hJ;unfold zaT at start;simp[zqn,VT.cs,start];rw[zax (by omega) (by omega),zei _ hid];exact hmain
theorem zAt(v:VT)(hb:zbm v)(H:zaa)(K:AV→zaa→Prop)(hK:K (.bool (zaz data vars v)) H):ACalls tP zfA [.sl (data.map Dat.cs) .none,.agg v.cs,.int .i64 vars] H K:=by
 refine ACalls.out (zAu λhs=>?_);have hO:∀J,Out H.length K (.bool (zaz data vars v)) (H++J):=λJ=>Out.bool rfl (Nat.le_refl _) hs hK;obtain⟨x1,x2,x3,hvx,hx1,hx2,hx3⟩:=zaU v;simp[zsG,hvx,zao,zaL];rw[←hvx];refine zF2 data vars _ v (Nat.le_refl _) hb 200 (by omega) (by omega) _ (H.length+1) (by simp[zaT]) _ ?_ ?_
 ·intro ho hn;have:zaz data vars v=true:=by simp[zaz,ho];omega
  rw[this]at hO;simp;exact hO _
 ·intro hno l';have:zaz data vars v=false:=by
   cases h:zaz data vars v with
   |false=>rfl
   |true=>simp[zaz]at h;exact(hno ⟨h.2,by omega⟩).elim
  rw[this]at hO;simp;exact hO _
end
mutual
theorem zwp:∀ v:VT,subst [] v=v
 |.mk k n ks=>by rw[subst,if_neg (by rintro⟨_,h1,h2⟩;simp at h2;omega),zwn ks]
theorem zwn:∀ l:List VT,zaS [] l=l
 |[]=>rfl
 |t::ts=>by rw[zaS,zwp t,zwn ts]
end
theorem zI4:∀(m:Nat) (args:List VT),(∀x∈args,x.nodes≤1000000)→args.length≤1000000→∀(v:VT),(if args=[] then v.nodes else v.nodes+1000001)≤m→v.nodes≤1000000→∀(H:zaa) (K:AV→zaa→Prop),K (.agg (subst args v).cs) H→ACalls tP zht [.agg v.cs,.sl (VT.css args) .none] H K:=by
 intro m;induction m with
 |zero=>intro args _ _ v h;have:=v.nodes_pos;split at h <;> omega
 |succ m ih=>
  intro args ha hal v hv hb H K hK;obtain⟨k,n,ks⟩:=v;have hnl:VT.nodesL ks+1≤1000000:=by simpa[VT.nodes]using hb
  have hll:=VT.len_le ks;refine ACalls.out (zI2 λhs=>?_);by_cases hvar:k=4∧0≤n∧n<args.length
  ·obtain⟨rfl,h0,h1⟩:=hvar;have hn:n.toNat<args.length:=by omega
   have hne:args≠[]:=by rintro rfl;simp at hn
   have hK':K (.agg (args[n.toNat]).cs) H:=by rw[subst,if_pos ⟨rfl,h0,h1⟩,List.getElem?_eq_getElem hn]at hK;exact hK
   have hle:=ha _ (List.getElem_mem hn);simp[VT.cs,zqB,h0,h1,hn];rw[if_neg hne]at hv;refine ACalls.wk (args':=[.agg (args[n.toNat]).cs,.sl (VT.css []) .none]) ?_ ⟨.rfl',.atom .snil,trivial⟩;refine ih [] (by simp) (by simp) _ (by simp;omega) hle _ _ ?_;rw[zwp];generalize args[n.toNat]=x at *;obtain⟨k',n',ks'⟩:=x;simp[VT.cs];exact Out.at rfl (Nat.le_refl _) hs .rfl' rfl rfl hK'
  ·have hK':K (.agg (VT.mk k n (zaS args ks)).cs) H:=by rw[subst,if_neg hvar]at hK;exact hK
   have go:∀H1,H1=H++[.cells [.int .i64 k,.int .i64 n,.sl (VT.css ks) .none],.cells [.int .i64 0,.int .i64 0,.snil],.cells [.int .i64 k,.int .i64 n,.snil]]→zh7 (.sl (VT.css args) .none) (.ptr (H.length+1) 0) (.ptr (H.length+2) 0) (.sl (VT.css ks) .none) (.int .i64 ks.length) (.int .i64 0) H1 (Out H.length K):=by
    rintro _ rfl;unfold zh7;refine ALoop.ownC (cs:=[.int .i64 k,.int .i64 n,.snil]) (H.length+2) 2 zbe 3 (by simp) rfl ?_;have e0:(H++[AB.cells [.int .i64 k,.int .i64 n,.sl (VT.css ks) .none],.cells [.int .i64 0,.int .i64 0,.snil],.cells [.int .i64 k,.int .i64 n,.snil]]).length=H.length+3:=by simp
    rw[e0,zv0,List.append_assoc];have hJ:∀i X,HSc (H++[.cells [.int .i64 k,.int .i64 n,.sl (VT.css ks) .none],.cells [.int .i64 0,.int .i64 0,.snil],.cells [.int .i64 k,.int .i64 n,.sl X (.own (H.length+3))],.perm zbe 3 i]):=λi X=>hs.append (by simp[AB.sc,AV.scA,AV.scB]);show zh7 (.sl (VT.css args) .none) (.ptr (H.length+1) 0) (.ptr (H.length+2) 0) (.sl (VT.css ks) .none) (.int .i64 ks.length) (.int .i64 0) (H++[.cells [.int .i64 k,.int .i64 n,.sl (VT.css ks) .none],.cells [.int .i64 0,.int .i64 0,.snil],.cells [.int .i64 k,.int .i64 n,.sl [] (.own (H.length+3))],.perm zbe 3 0]) (Out H.length K);refine zI0 (Inv:=λq t37 H'=>∃i:Nat,i≤ks.length∧q=ks.length-i∧t37=.int .i64 i∧H'=H++[.cells [.int .i64 k,.int .i64 n,.sl (VT.css ks) .none],.cells [.int .i64 0,.int .i64 0,.snil],.cells [.int .i64 k,.int .i64 n,.sl (VT.css ((zaS args ks).take i)) (.own (H.length+3))],.perm zbe 3 i]) ks.length ?_ ?_
    ·intro _;exact⟨0,by omega,by omega,rfl,by simp[VT.css]⟩
    ·rintro q t37 H' ⟨i,hi,rfl,rfl,rfl⟩ hsc hlen hsF Kb hKb;by_cases hlt:i<ks.length
     ·have hki:=VT.kid_lt (k:=k) (n:=n) hlt;have hsl:(zaS args ks).length=ks.length:=by rw[zex];simp
      have hlt':i<(zaS args ks).length:=by omega
      have hsi:(zaS args ks)[i]=subst args ks[i]:=by simp[zex]
      obtain⟨x1,x2,x3,hvx,hx1,hx2,hx3⟩:=zaU ks[i];simp[zqC,hlt,hvx,hx1,hx2,hx3];rw[←hvx];refine za0 (.agg (subst args ks[i]).cs) (λJ=>ih args ha hal ks[i] (by by_cases he:args=[] <;> simp only[he,if_true,if_false]at hv ⊢ <;> omega) (by omega) _ _ ⟨rfl,rfl⟩) ?_;rw[zdL,←hsi];simp[zay,zbb,za2,hsl];refine⟨by omega,⟨by omega,by omega⟩,?_⟩;rw[zax (by omega) (by omega),show min i ks.length=i by omega];refine hKb _ _ ⟨ks.length-(i+1),by omega,Back.at (J:=[_]) (H2:=H++[.cells [.int .i64 k,.int .i64 n,.sl (VT.css ks) .none],.cells [.int .i64 0,.int .i64 0,.snil],.cells [.int .i64 k,.int .i64 n,.sl (VT.css ((zaS args ks).take (i+1))) (.own (H.length+3))],.perm zbe 3 (i+1)]) (by rw[zg6 hlt'];simp;rfl) (by simp) (hJ _ _) ?_ ⟨_,rfl,i+1,by omega,rfl,by simp,rfl⟩⟩;simp[zkY,AV.sc,AV.scV,AV.scA,AV.scB]
     ·obtain rfl:i=ks.length:=by omega
      have e:(zaS args ks).take ks.length=zaS args ks:=List.take_of_length_le (by rw[zex];simp);rw[e];simp[zqC];exact Out.at rfl (Nat.le_refl _) hs (WkV.agg (ds:=[.int .i64 k,.int .i64 n,.sl (VT.css (zaS args ks)) .none]) ⟨.refl _,.refl _,.sl _ _,trivial⟩) rfl (by simp[AV.scV,AV.scA,AV.scB]) (by simpa[VT.cs]using hK')
   simp only[VT.cs,zqB];by_cases h4:k=4
   ·subst h4;by_cases h0:0≤n
    ·have h1:¬n<args.length:=λh=>hvar ⟨rfl,h0,h⟩;simp[h0,h1,zao,zaL,Nat.add_assoc];exact go _ rfl
    ·simp[h0,zao,zaL,Nat.add_assoc];exact go _ rfl
   ·have h4':(k == 4)=false:=by simpa using h4
    simp[h4',zao,zaL,Nat.add_assoc];exact go _ rfl
def zjQ(args:List VT):AB:=.cells (args.map λx=>.int .i64 x.nodes)
theorem zIX(args:List VT)(ha:∀ x∈args,x.nodes≤1000000)(hal:args.length≤1000000):∀ (m:Nat) (v:VT),v.nodes≤m→v.nodes≤1000000→∀ (H:zaa) (id:Nat),H[id]?=some (zjQ args)→∀ (K:AV→zaa→Prop),
  (∀r:Nat,(r≤200↔(subst args v).nodes≤200)→(r≤200→r=(subst args v).nodes)→r≤1000000+200*v.nodes→K (.int .i64 r) H)→ACalls tP zi9 [.agg v.cs,.ms id 0 args.length args.length] H K:=by
 intro m;induction m with
 |zero=>intro v h;have:=v.nodes_pos;omega
 |succ m ih=>
  intro v hv hb H id hid K hK;obtain⟨k,n,ks⟩:=v;have hnl:VT.nodesL ks+1≤1000000:=by simpa[VT.nodes]using hb
  have hll:=VT.len_le ks;have hidl:=zfw hid;refine ACalls.out (zIV λhs=>?_);by_cases hvar:k=4∧0≤n∧n<args.length
  ·obtain⟨rfl,h0,h1⟩:=hvar;have hn:n.toNat<args.length:=by omega
   have hsub:subst args (.mk 4 n ks)=args[n.toNat]:=by rw[subst,if_pos ⟨rfl,h0,h1⟩,List.getElem?_eq_getElem hn];rfl
   rw[hsub]at hK;have hg:(H++[AB.cells [.int .i64 4,.int .i64 n,.sl (VT.css ks) .none]])[id]?=some (zjQ args):=zcf hid;have hle:=ha _ (List.getElem_mem hn);unfold zjQ at hg;simp[VT.cs,zqw,h0,h1,hn,hg,zbk];exact Out.int rfl (Nat.le_refl _) hs (hK _ Iff.rfl (λ_=>rfl) (by omega))
  ·have hsub:subst args (.mk k n ks)=.mk k n (zaS args ks):=by rw[subst,if_neg hvar]
   have hnodes:(subst args (.mk k n ks)).nodes=VT.nodesL (zaS args ks)+1:=by rw[hsub];rfl
   rw[hnodes]at hK;have hO:∀r:Nat,(r≤200↔VT.nodesL (zaS args ks)+1≤200)→(r≤200→r=VT.nodesL (zaS args ks)+1)→r≤1000000+200*(VT.mk k n ks).nodes→∀J,Out H.length K (.int .i64 r) (H++J):=λr h1 h2 h3 J=>Out.int rfl (Nat.le_refl _) hs (hK r h1 h2 h3);have hsl:(zaS args ks).length=ks.length:=by rw[zex];simp
   have go:zqA (.ms id 0 args.length args.length) (.int .i64 1) (.sl (VT.css ks) .none) (.int .i64 ks.length) (.int .i64 0) (H++[.cells [.int .i64 k,.int .i64 n,.sl (VT.css ks) .none]]) (Out H.length K):=by
    refine zIT (Inv:=λq t5 t31 H'=>∃i:Nat,i≤ks.length∧q=ks.length-i∧t31=.int .i64 i∧t5=.int .i64 (1+VT.nodesL ((zaS args ks).take i):Nat)∧1+VT.nodesL ((zaS args ks).take i)≤200∧H'=H++[.cells [.int .i64 k,.int .i64 n,.sl (VT.css ks) .none]]) ks.length ?_ ?_
    ·intro _;exact⟨0,by omega,by omega,rfl,by simp[VT.nodesL],by simp[VT.nodesL],rfl⟩
    ·rintro q t5 t31 H' ⟨i,hi,rfl,rfl,rfl,hb2,rfl⟩ hsc hlen hsF Kb hKb;by_cases hlt:i<ks.length
     ·have hki:=VT.kid_lt (k:=k) (n:=n) hlt;have hlt':i<(zaS args ks).length:=by omega
      have hsi:(zaS args ks)[i]=subst args ks[i]:=by simp[zex]
      have h1:=VT.nodesL_take hlt';have h2:=VT.nodesL_take_le (zaS args ks) (i+1);rw[hsi]at h1;obtain⟨x1,x2,x3,hvx,hx1,hx2,hx3⟩:=zaU ks[i];simp[zqx,hlt,hvx,hx1,hx2,hx3];rw[←hvx];refine ih ks[i] (by omega) (by omega) _ id (zcf hid) _ λr hr1 hr2 hr3=>?_;simp;rw[zax (by omega) (by omega)];by_cases hbig:(200:Int)<1+VT.nodesL ((zaS args ks).take i)+r
      ·simp[hbig,zkW,zqz];have:=hO (1+VT.nodesL ((zaS args ks).take i)+r) (by constructor <;> intro h <;> omega) (by omega) (by omega);have e:((1+VT.nodesL ((zaS args ks).take i)+r:Nat):Int)=1+(VT.nodesL ((zaS args ks).take i):Int)+r:=by omega
       rw[e]at this;exact this _
      ·have hr:r=(subst args ks[i]).nodes:=hr2 (by omega);simp[hbig];rw[zax (by omega) (by omega),zwy];refine hKb _ _ ⟨ks.length-(i+1),by omega,Back.same (by simp) hsc ?_ ⟨_,_,rfl,i+1,by omega,rfl,by simp,?_,by omega,rfl⟩⟩
       ·simp[zkV,AV.sc,AV.scV,AV.scA,AV.scB];omega
       ·congr 1;omega
     ·obtain rfl:i=ks.length:=by omega
      rw[List.take_of_length_le (by omega)]at *;simp[zqx,zkW,zqz];have:=hO (1+VT.nodesL (zaS args ks)) (by omega) (by omega) (by omega);have e:((1+VT.nodesL (zaS args ks):Nat):Int)=1+(VT.nodesL (zaS args ks):Int):=by omega
      rw[e]at this;exact this _
   simp only[VT.cs,zqw];by_cases h4:k=4
   ·subst h4;by_cases h0:0≤n
    ·have h1:¬n<args.length:=λh=>hvar ⟨rfl,h0,h⟩;simp[h0,h1];exact go
    ·simp[h0];exact go
   ·have h4':(k == 4)=false:=by simpa using h4
    simp[h4'];exact go
def zcL(args:List VT)(i:Nat):List AV:=(args.take i).map (λx=>.int .i64 x.nodes)++List.replicate (args.length-i) (.int .i64 0)
theorem zEt(args:List VT){i:Nat}(h:i≤args.length):(zcL args i).length=args.length:=by simp[zcL];omega
theorem zEu(args:List VT){i:Nat}(h:i<args.length):(zcL args i).take i++[.int .i64 (args[i]).nodes]++(zcL args i).drop (i+1)=zcL args (i+1):=by
 have e1:((args.take i).map λx=>AV.int .i64 x.nodes).length=i:=by simp;omega
 unfold zcL;rw[List.take_append_of_le_length (by omega),List.take_of_length_le (by omega),List.drop_append,List.drop_of_length_le (by omega),List.nil_append,e1,List.take_succ_eq_append_getElem h,List.map_append];congr 1;rw[show i+1-i=1 by omega,List.drop_replicate];congr 1
theorem zAA(data:List Dat)(hdl:data.length≤1000000)(hda:∀ d∈data,∀ c∈d.cons,c.args.length≤1000∧∀ x∈c.args,x.nodes≤1000)(hdc:∀ d∈data,d.cons.length≤1000000)(t:VT)(ht:t.nodes≤1000)(c:Int)(H:zaa)(K:AV→zaa→Prop)(hK:K (zel (zbl data t c)) H):
  ACalls tP zjB [.sl (data.map Dat.cs) .none,.agg t.cs,.int .i64 c] H K:=by
 refine ACalls.out (zP2 λhs=>?_);obtain⟨k,n,ks⟩:=t;have hkn:VT.nodesL ks+1≤1000:=by simpa[VT.nodes]using ht
 have hkl:=VT.len_le ks;have hF:zbl data (.mk k n ks) c=none→∀J,Out H.length K (.tup [.snil,.bool false]) (H++J):=λh J=>by rw[h]at hK;exact Out.tup hs hK ⟨zhT,zcb rfl rfl,trivial⟩
 simp only[VT.cs,zAx];by_cases h5:k=5;case neg=>
  have:(k != 5)=true:=by simpa using h5
  simp[this,AV.isV];exact hF (by rw[zcR,if_neg (λh=>h5 h.1)]) _
 subst h5;by_cases h0:n<0
 ·simp[h0,AV.isV];exact hF (by rw[zcR,if_neg (λh=>by have:=h.2.1;omega)]) _
 by_cases h1:(data.length:Int)≤n
 ·simp[h0,h1,AV.isV];exact hF (by
   rw[zcR];split
   ·rw[List.getElem?_eq_none (by omega)]
   ·rfl) _
 have hn:n.toNat<data.length:=by omega
 have h1':n<data.length:=by omega
 have h0':0≤n:=by omega
 generalize hdd:data[n.toNat]=d at *;have hd:d∈data:=by rw[←hdd];exact List.getElem_mem hn
 have hget:data[n.toNat]?=some d:=by rw[List.getElem?_eq_getElem hn,hdd]
 cases hv:((ks.length:Int) == d.vars) with
 |false=>
  have hv':((ks.length:Int) != d.vars)=true:=by simp[bne,hv]
  simp[h0,h1,h0',h1',hn,hdd,Dat.cs,hv',AV.isV,hget];exact hF (by
   rw[zcR];split
   ·rw[hget];simp only;rw[if_neg (by simpa using hv)]
   ·rfl) _
 |true=>
 have hv':((ks.length:Int) != d.vars)=false:=by simp[bne,hv]
 have hve:(ks.length:Int)=d.vars:=by simpa using hv
 by_cases hc0:c<0
 ·simp[h0,h1,h0',h1',hn,hdd,Dat.cs,hv',AV.isV,hget,hc0];exact hF (by rw[zcR,if_neg (λh=>by have:=h.2.2;omega)]) _
 have hfe:∀o,(match d.cons[c.toNat]? with|some k=>if (k.args.map (subst ks)).all (λx=>decide (x.nodes≤200))=true then some (k.args.map (subst ks)) else none|none=>none)=o→zbl data (.mk 5 n ks) c=o:=λo h=>by rw[zcR,if_pos ⟨rfl,h0',by omega⟩,hget];simp only;rw[if_pos hve];exact h
 by_cases hc1:(d.cons.length:Int)≤c
 ·simp[h0,h1,h0',h1',hn,hdd,Dat.cs,hv',AV.isV,hget,hc0,hc1];exact hF (hfe none (by rw[List.getElem?_eq_none (by omega)])) _
 have hcn:c.toNat<d.cons.length:=by omega
 have hc1':c<d.cons.length:=by omega
 have hc0':0≤c:=by omega
 generalize hcc:d.cons[c.toNat]=co at *;have hco:co∈d.cons:=by rw[←hcc];exact List.getElem_mem hcn
 have hgc:d.cons[c.toNat]?=some co:=by rw[List.getElem?_eq_getElem hcn,hcc]
 obtain⟨hal,han⟩:=hda d hd co hco;have hfe':=λo=>hfe o;rw[hgc]at hfe';simp only at hfe';have hkle:∀x∈ks,x.nodes≤1000:=λy hy=>Nat.le_trans (zgf (k:=5) (n:=n) y hy) ht;simp[h0,h1,h0',h1',hn,hdd,Dat.cs,hv',AV.isV,hget,hc0,hc1,hc0',hc1',hcn,hcc,zbp];refine⟨by omega,?_⟩;have ez:List.replicate ks.length (AV.int .i64 0)=zcL ks 0:=by simp[zcL]
 rw[ez];have hsc3:∀(l:List AV),(l.all λa=>a.scA (H.length+3))=true→HSc (H++[.cells [.int .i64 5,.int .i64 n,.sl (VT.css ks) .none],.cells [.str d.name,.int .i64 d.vars,.sl (d.cons.map Con.cs) .none],.cells l]):=λl hl=>hs.append (by simp[AB.sc];simpa using hl);have hszsc:∀i,((zcL ks i).all λa=>a.scA (H.length+3))=true:=λi=>by
  rw[List.all_eq_true];intro x hx;unfold zcL at hx;rcases List.mem_append.1 hx with h|h
  ·obtain⟨y,_,rfl⟩:=List.mem_map.1 h;rfl
  ·rw[List.eq_of_mem_replicate h];rfl
 refine zPY (Inv:=λq t61 H'=>∃i:Nat,i≤ks.length∧q=ks.length-i∧t61=.int .i64 i∧H'=H++[.cells [.int .i64 5,.int .i64 n,.sl (VT.css ks) .none],.cells [.str d.name,.int .i64 d.vars,.sl (d.cons.map Con.cs) .none],.cells (zcL ks i)]) ks.length ?_ ?_
 ·intro _;exact⟨0,by omega,by omega,rfl,rfl⟩
 ·rintro q t61 H' ⟨i,hi,rfl,rfl,rfl⟩ hsc8 hlen8 hsF8 Kb8 hKb8;by_cases hlt:i<ks.length
  ·have hle:=hkle _ (List.getElem_mem hlt);obtain⟨x1,x2,x3,hvx,hx1,hx2,hx3⟩:=zaU ks[i];simp[zsK,hlt,hvx,hx1,hx2,hx3];rw[←hvx];refine zIQ _ _ (Nat.le_refl _) (by omega) _ _ ?_;have hll:=zEt ks hi;simp[hlt,hll];refine⟨by omega,?_⟩;rw[zax (by omega) (by omega)];have e:=zEu ks hlt;rw[List.append_assoc,List.singleton_append]at e;rw[e];refine hKb8 _ _ ⟨ks.length-(i+1),by omega,Back.at (J:=[_]) (H2:=H++[.cells [.int .i64 5,.int .i64 n,.sl (VT.css ks) .none],.cells [.str d.name,.int .i64 d.vars,.sl (d.cons.map Con.cs) .none],.cells (zcL ks (i+1))]) (by simp;rfl) (by simp) (hsc3 _ (hszsc _)) ?_ ⟨_,rfl,i+1,by omega,rfl,by simp,rfl⟩⟩;simp[zmK,AV.sc,AV.scV,AV.scA,AV.scB]
  ·obtain rfl:i=ks.length:=by omega
   have efull:zcL ks ks.length=ks.map λx=>.int .i64 x.nodes:=by simp[zcL]
   have hsc8':=hsc8;rw[efull]at hsc8' ⊢;simp[zsK,hc0',hc1',hcn,hcc,Con.cs,hgc];refine zPW (Inv:=λq t79 H'=>∃i:Nat,i≤co.args.length∧q=co.args.length-i∧t79=.int .i64 i∧(∀x∈co.args.take i,(subst ks x).nodes≤200)∧H'=H++[.cells [.int .i64 5,.int .i64 n,.sl (VT.css ks) .none],.cells [.str d.name,.int .i64 d.vars,.sl (d.cons.map Con.cs) .none],.cells (ks.map λx=>.int .i64 x.nodes)]) co.args.length ?_ ?_
   ·intro _;exact⟨0,by omega,by omega,rfl,by simp,rfl⟩
   ·rintro q t79 H' ⟨i,hi,rfl,rfl,hall,rfl⟩ hsc13 hlen13 hsF13 Kb13 hKb13;by_cases hlt:i<co.args.length
    ·have hmem:=List.getElem_mem hlt;obtain⟨x1,x2,x3,hvx,hx1,hx2,hx3⟩:=zaU co.args[i];simp[zsI,hlt,hvx,hx1,hx2,hx3];rw[←hvx];refine zIX ks (λy hy=>by have:=hkle y hy;omega) (by omega) _ co.args[i] (Nat.le_refl _) (by have:=han _ hmem;omega) _ (H.length+2) (by simp[zjQ]) _ λr hr1 hr2 hr3=>?_;by_cases hbig:r≤200
     ·have hbig':¬ (200:Int)<r:=by omega
      simp[hbig'];rw[zax (by omega) (by omega)];refine hKb13 _ _ ⟨co.args.length-(i+1),by omega,Back.at (J:=[_]) (H2:=H++[.cells [.int .i64 5,.int .i64 n,.sl (VT.css ks) .none],.cells [.str d.name,.int .i64 d.vars,.sl (d.cons.map Con.cs) .none],.cells (ks.map λx=>.int .i64 x.nodes)]) (by simp;rfl) (by simp) hsc8' ?_ ⟨_,rfl,i+1,by omega,rfl,by simp,zuW hlt hall (hr1.1 hbig),rfl⟩⟩;simp[zmI,AV.sc,AV.scV,AV.scA,AV.scB]
     ·have hbig':(200:Int)<r:=by omega
      simp[hbig',AV.isV];refine hF (hfe' none ?_) _;rw[if_neg];intro hal2;have:=List.all_eq_true.1 hal2 (subst ks co.args[i]) (List.mem_map.2 ⟨_,hmem,rfl⟩);exact hbig (hr1.2 (of_decide_eq_true this))
    ·obtain rfl:i=co.args.length:=by omega
     rw[List.take_length]at hall;have hfs:=hfe' (some (co.args.map (subst ks))) (if_pos (List.all_eq_true.2 λy hy=>by
      obtain⟨x,hx,rfl⟩:=List.mem_map.1 hy;exact decide_eq_true (hall x hx)))
     rw[hfs]at hK;simp[zsI,hc0',hc1',hcn,hcc,Con.cs,hgc];unfold zmL;refine ALoop.own 14 zbe 3 rfl ?_;have hlen1:(H++[AB.cells [.int .i64 5,.int .i64 n,.sl (VT.css ks) .none],.cells [.str d.name,.int .i64 d.vars,.sl (d.cons.map Con.cs) .none],.cells (ks.map λx=>.int .i64 x.nodes)]).length=H.length+3:=by simp
     rw[hlen1];have hperm:∀m,HSc (H++[.cells [.int .i64 5,.int .i64 n,.sl (VT.css ks) .none],.cells [.str d.name,.int .i64 d.vars,.sl (d.cons.map Con.cs) .none],.cells (ks.map λx=>.int .i64 x.nodes),.perm zbe 3 m]):=λm=>by have:=hsc8'.append (J:=[.perm zbe 3 m]) rfl;simpa using this
     rw[List.append_assoc];show zmL (.ptr H.length 0) (.sl [] (.own (H.length+3))) (.sl (VT.css co.args) .none) (.int .i64 co.args.length) (.int .i64 0) (H++[.cells [.int .i64 5,.int .i64 n,.sl (VT.css ks) .none],.cells [.str d.name,.int .i64 d.vars,.sl (d.cons.map Con.cs) .none],.cells (ks.map λx=>.int .i64 x.nodes),.perm zbe 3 0]) (Out H.length K);refine zPX (Inv:=λq t14 t95 H'=>∃i:Nat,i≤co.args.length∧q=co.args.length-i∧t95=.int .i64 i∧t14=.sl (VT.css ((co.args.map (subst ks)).take i)) (.own (H.length+3))∧H'=H++[.cells [.int .i64 5,.int .i64 n,.sl (VT.css ks) .none],.cells [.str d.name,.int .i64 d.vars,.sl (d.cons.map Con.cs) .none],.cells (ks.map λx=>.int .i64 x.nodes),.perm zbe 3 i]) co.args.length ?_ ?_
     ·intro _;exact⟨0,by omega,by omega,rfl,by simp[VT.css],rfl⟩
     ·rintro q t14 t95 H' ⟨i,hi,rfl,rfl,rfl,rfl⟩ hsc20 hlen20 hsF20 Kb20 hKb20;by_cases hlt:i<co.args.length
      ·have hmem:=List.getElem_mem hlt;obtain⟨x1,x2,x3,hvx,hx1,hx2,hx3⟩:=zaU co.args[i];simp[zsJ,hlt,hvx,hx1,hx2,hx3];rw[←hvx];refine zI4 _ ks (λy hy=>by have:=hkle y hy;omega) (by omega) co.args[i] (Nat.le_refl _) (by have:=han _ hmem;omega) _ _ ?_;rw[zdL];simp[zay,zbb,za2];refine⟨by omega,⟨by omega,by omega⟩,?_⟩;rw[zax (by omega) (by omega),show min i co.args.length=i by omega];refine hKb20 _ _ ⟨co.args.length-(i+1),by omega,Back.at (H2:=H++[.cells [.int .i64 5,.int .i64 n,.sl (VT.css ks) .none],.cells [.str d.name,.int .i64 d.vars,.sl (d.cons.map Con.cs) .none],.cells (ks.map λx=>.int .i64 x.nodes),.perm zbe 3 (i+1)]) (J:=[_]) (by simp;rfl) (by simp) (hperm _) ?_ ⟨_,_,rfl,i+1,by omega,rfl,by simp,?_,rfl⟩⟩
       ·simp[zmJ,AV.sc,AV.scV,AV.scA,AV.scB]
       ·rw[zg6 (by simpa using hlt)];simp
      ·obtain rfl:i=co.args.length:=by omega
       rw[List.take_of_length_le (by simp)];simp[zsJ,AV.isV];exact Out.tup hs hK ⟨slV,zcb rfl rfl,trivial⟩
def ziX(i:Nat):VT→Bool
 |.mk k n ks=>k == 4 && n == i && ks.length == 0
def zcT:List VT→Nat→Bool
 |[],_=>true
 |x::l,i=>ziX i x && zcT l (i+1)
def zcl(d vars:Int):VT→Bool
 |.mk k n ks=>k == 5 && n == d && (ks.length:Int) == vars && zcT ks 0
mutual
def zcm(d:Int):VT→Bool
 |.mk k n ks=>(k == 5 && n == d) || zeW d ks
def zeW(d:Int):List VT→Bool
 |[]=>false
 |t::ts=>zcm d t || zeW d ts
end
theorem zAK(v:VT)(d vars:Int)(hb:v.nodes≤1000000)(H:zaa)(K:AV→zaa→Prop)(hK:K (.bool (zcl d vars v)) H):ACalls tP zoA [.agg v.cs,.int .i64 d,.int .i64 vars] H K:=by
 refine ACalls.out (zNh λhs=>?_);obtain⟨k,n,ks⟩:=v;have hnl:VT.nodesL ks+1≤1000000:=by simpa[VT.nodes]using hb
 have hll:=VT.len_le ks;have hO:∀J,Out H.length K (.bool (k == 5 && n == d && (ks.length:Int) == vars && zcT ks 0)) (H++J):=λJ=>Out.bool rfl (Nat.le_refl _) hs (by simpa[zcl]using hK);simp only[VT.cs,zzy];cases h5:(k == 5) with
 |false=>
  have:(k != 5)=true:=by simp[bne,h5]
  rw[h5]at hO;simp[this];exact hO _
 |true=>
 have h5':(k != 5)=false:=by simp[bne,h5]
 cases hn:(n == d) with
 |false=>
  have:(n != d)=true:=by simp[bne,hn]
  rw[h5,hn]at hO;simp[h5',this];exact hO _
 |true=>
 have hn':(n != d)=false:=by simp[bne,hn]
 cases hv:((ks.length:Int) == vars) with
 |false=>
  have:((ks.length:Int) != vars)=true:=by simp[bne,hv]
  rw[h5,hn,hv]at hO;simp[h5',hn',this];exact hO _
 |true=>
 have hv':((ks.length:Int) != vars)=false:=by simp[bne,hv]
 rw[h5,hn,hv]at hO;simp only[Bool.true_and]at hO;simp[h5',hn',hv'];refine zNf (Inv:=λq t7 H'=>∃i:Nat,i≤ks.length∧q=ks.length-i∧t7=.int .i64 i∧zcT (ks.drop i) i=zcT ks 0∧H'=H++[.cells [.int .i64 k,.int .i64 n,.sl (VT.css ks) .none]]) ks.length ?_ ?_
 ·intro _;exact⟨0,by omega,by omega,rfl,by simp,rfl⟩
 ·rintro q t7 H' ⟨i,hi,rfl,rfl,ho,rfl⟩ hsc hlen hsF Kb hKb;by_cases hlt:i<ks.length
  ·rw[List.drop_eq_getElem_cons hlt,zcT]at ho;obtain⟨k',n',ks',hx⟩:∃ k' n' ks',ks[i]=.mk k' n' ks':=by cases h:ks[i] with | mk a b c=>exact⟨a,b,c,rfl⟩
   rw[hx,ziX]at ho;cases g1:(k' == 4) with
   |false=>
    have:(k' != 4)=true:=by simp[bne,g1]
    rw[g1]at ho;simp only[Bool.false_and]at ho;rw[←ho]at hO;simp[zgQ,hlt,hx,VT.cs,this];exact hO _
   |true=>
   have g1':(k' != 4)=false:=by simp[bne,g1]
   cases g2:(n' == (i:Int)) with
   |false=>
    have:(n' != (i:Int))=true:=by simp[bne,g2]
    rw[g1,g2]at ho;simp only[Bool.false_and,Bool.and_false]at ho;rw[←ho]at hO;simp[zgQ,hlt,hx,VT.cs,g1',this];exact hO _
   |true=>
   have g2':(n' != (i:Int))=false:=by simp[bne,g2]
   by_cases g3:ks'.length=0
   ·have g3':¬ (0:Int)<ks'.length:=by omega
    have g3'':¬ 0<ks'.length:=by omega
    rw[g1,g2,g3]at ho;simp only[Bool.true_and,BEq.rfl]at ho;simp[zgQ,hlt,hx,VT.cs,g1',g2',g3',g3''];rw[zax (by omega) (by omega)];refine hKb _ _ ⟨ks.length-(i+1),by omega,Back.here (by simp) hsc ?_ ⟨_,rfl,i+1,by omega,rfl,by simp,ho,rfl⟩⟩;simp[zl5,AV.sc,AV.scV,AV.scA,AV.scB]
   ·have g3':(0:Int)<ks'.length:=by omega
    have g3'':0<ks'.length:=by omega
    have g4:(ks'.length == 0)=false:=by simpa using g3
    rw[g4]at ho;simp only[Bool.and_false,Bool.false_and]at ho;rw[←ho]at hO;simp[zgQ,hlt,hx,VT.cs,g1',g2',g3',g3''];exact hO _
  ·obtain rfl:i=ks.length:=by omega
   rw[List.drop_length,zcT]at ho;rw[←ho]at hO;simp[zgQ];exact hO _
theorem zBG:zdr tP zjh=true:=by kernel_rfl
theorem zuZ(d:Int):∀ l:List VT,zeW d l=l.any (zcm d)
 |[]=>rfl
 |t::ts=>by simp[zeW,zuZ d ts]
theorem zKy(d:Int):∀(m:Nat) (v:VT),v.nodes≤m→v.nodes≤1000000→∀(H:zaa) (K:AV→zaa→Prop),K (.bool (zcm d v)) H→ACalls tP zjg [.agg v.cs,.int .i64 d] H K:=by
 intro m;induction m with
 |zero=>intro v h;have:=v.nodes_pos;omega
 |succ m ih=>
  intro v hv hb H K hK;obtain⟨k,n,ks⟩:=v;have hnl:VT.nodesL ks+1≤1000000:=by simpa[VT.nodes]using hb
  have hll:=VT.len_le ks;refine ACalls.out (zKx λhs=>?_);have hO:∀ J,Out H.length K (.bool ((k == 5 && n == d) || ks.any (zcm d))) (H++J):=λJ=>Out.bool rfl (Nat.le_refl _) hs (by simpa[zcm,zuZ]using hK);have go:(k == 5 && n == d)=false→∀ KK:AV→zaa→Prop,(∀ b,Out H.length K (.bool b) (H++[.cells [.int .i64 k,.int .i64 n,.sl (VT.css ks) .none],.cells [.int .i64 d]])→KK (.bool b) (H++[.cells [.int .i64 k,.int .i64 n,.sl (VT.css ks) .none],.cells [.int .i64 d]])) →
    ACalls tP zdS [.sl (VT.css ks) .none,.fn zjh [.ptr (H.length+1) 0]] (H++[.cells [.int .i64 k,.int .i64 n,.sl (VT.css ks) .none],.cells [.int .i64 d]]) KK:=by
   intro hno KK hKK;rw[hno,Bool.false_or]at hO;refine ziG ks (by omega) _ _ _ (by simp[AV.sc,AV.scV,AV.scA,AV.scB]) (λi H'=>(ks.drop i).any (zcm d)=ks.any (zcm d)∧H'=H++[.cells [.int .i64 k,.int .i64 n,.sl (VT.css ks) .none],.cells [.int .i64 d]]) ⟨by simp,rfl⟩ ?_ ?_
   ·rintro i hi H' hle ⟨ho,rfl⟩;have hki:=VT.kid_lt (k:=k) (n:=n) hi;rw[List.drop_eq_getElem_cons hi,List.any_cons]at ho;simp only[aCallV,zBG,List.singleton_append];refine ACalls.out (zKN λhs1=>?_);obtain⟨x1,x2,x3,hvx,hx1,hx2,hx3⟩:=zaU ks[i];simp[zyD,hvx];rw[←hvx];refine ih ks[i] (by omega) (by omega) _ _ ?_;refine Out.bool (J:=[_]) (H2:=H++[.cells [.int .i64 k,.int .i64 n,.sl (VT.css ks) .none],.cells [.int .i64 d]]) (by simp;rfl) (by simp) hs1 ?_;cases hb:zcm d ks[i] with
    |false=>rw[hb,Bool.false_or]at ho;exact .inl ⟨rfl,ho,rfl⟩
    |true=>rw[hb,Bool.true_or]at ho;rw[←ho]at hO;exact .inr ⟨rfl,hKK _ (hO _)⟩
   ·rintro H' ⟨ho,rfl⟩;rw[List.drop_length,List.any_nil]at ho;rw[←ho]at hO;exact hKK _ (hO _)
  simp only[VT.cs,zyy];cases h5:(k == 5) with
  |false=>simp[h5,AV.isB];refine go (by rw[h5];rfl) _ λb hb=>?_;simpa using hb
  |true=>
   cases hn:(n == d) with
   |false=>simp[h5,hn,AV.isB];refine go (by rw[hn];simp) _ λb hb=>?_;simpa using hb
   |true=>rw[h5,hn]at hO;simp[h5,hn];exact hO _
def zaG(l:List Bool):List AV:=l.map AV.bool
@[simp] theorem zS2(l:List Bool):(zaG l).length=l.length:=by simp[zaG]
theorem ztn(n:Nat):(List.replicate n [AV.bool false]).flatten=zaG (List.replicate n false):=by
 induction n with
 |zero=>rfl
 |succ n ih=>simp[List.replicate_succ,ih,zaG]
theorem zm9{l:List Bool}{i:Nat}(h:i<l.length)(b:Bool):(zaG l).take i++.bool b::(zaG l).drop (i+1)=zaG (l.set i b):=by simp[zaG,List.set_eq_take_append_cons_drop,h]
theorem ziC(m:Nat)(l:List Bool):(zaG l).all (AV.scA m)=true:=by simp[zaG]
theorem zvw:∀ l:List Bool,plain (zaG l)=some (l.map λb=>[AV.bool b]).flatten
 |[]=>rfl
 |b::l=>by have:=zvw l;simp[zaG]at this ⊢;simp[plain,this,AV.pd]
end Go.Proofs.YtaifokkaaahdoaaGreatDoor
namespace Go.Abs
open Go
def zbM(b:UInt8):Bool:=decide (97≤(b.toNat:Int)) && decide ((b.toNat:Int)≤122)
def bUp(b:UInt8):Bool:=decide (65≤(b.toNat:Int)) && decide ((b.toNat:Int)≤90)
def za4(b:UInt8):Bool:=decide (48≤(b.toNat:Int)) && decide ((b.toNat:Int)≤57)
def bIn(b:UInt8):Bool:=zbM b || bUp b || za4 b || b == 95
def zda(b:UInt8):Bool:=b == 9 || b == 10 || b == 13 || b == 32
def zb0:List UInt8→Int→Bool
 |[],_=>true
 | b::l,n=>let m:=n*10+((b.toNat:Int)-48)
  if m>1000000 then false else zb0 l m
def zdj(r:List UInt8):Bool:=r.take 2 == [45,62] || r.take 2 == [60,61] || r.take 2 == [61,61]
def sgns:List UInt8:=[40,41,44,61,124,43,45,42,47,37,60,59,95]
def sgn(r:List UInt8):Nat:=
 if zdj r=true then 2 else match r with
 |[]=>0
 |b::_=>if sgns.contains b=true then 1 else 0
structure Tk where
 kind:Int
 text:List UInt8
 pos:Nat
def tok(kw:List UInt8→Bool)(b:UInt8)(r:List UInt8):Except Int (Int×Nat):=
 if (zbM b || bUp b)=true then
  let n:=(r.takeWhile bIn).length+1
  if n>24 then .error 9 else .ok (if bUp b=true then 2 else if kw ((b::r).take n)=true then 4 else 1,n)
 else if za4 b=true then
  let n:=(r.takeWhile za4).length+1
  if b == 48 && decide (n>1) then .error 2 else if zb0 ((b::r).take n) 0=true then .ok (3,n) else .error 9
 else
  let n:=sgn (b::r)
  if n=0 then .error 2 else .ok (5,n)
theorem zpp{kw:List UInt8→Bool}{b:UInt8}{r:List UInt8}{k:Int}{n:Nat}(h:tok kw b r=.ok (k,n)):0<n:=by
 unfold tok at h;split at h
 ·simp only at h;split at h <;> simp at h;omega
 ·split at h
  ·simp only at h;split at h
   ·simp at h
   ·split at h <;> simp at h;omega
  ·simp only at h;split at h <;> simp at h;omega
def zbf(kw:List UInt8→Bool)(r:List UInt8)(pos:Nat):Except (Nat×Int) (List Tk):=
 match r with
 |[]=>.ok [⟨6,[],pos⟩]
 |b::r'=>
  if zda b=true then zbf kw r' (pos+1)
  else if b == 35 then zbf kw (r'.dropWhile (· != 10)) (pos+1+(r'.takeWhile (· != 10)).length)
  else match tok kw b r' with
   |.error e=>.error (pos,e)
   | .ok (k,n)=>match zbf kw (r'.drop (n-1)) (pos+n) with
    |.error e=>.error e
    |.ok l=>.ok (⟨k,(b::r').take n,pos⟩::l)
termination_by r.length
decreasing_by
 ·simp
 ·have:=(List.dropWhile_sublist (p:=(· != 10)) (l:=r')).length_le;simp;omega
 ·simp;omega
end Go.Abs
namespace Go.Proofs.YtaifokkaaahdoaaGreatDoor
open Go Go.Abs
set_option maxRecDepth 100000
def zfM:Nat→List Bool
 |5=>rl false [0,1,4,2,54]
 |9=>rl false [0,1,4,2,54]
 |_=>[]
noncomputable def zqZ:Code:=Tryz.f188.body.getD .skip
noncomputable def zKm:List ResultVar:=Tryz.f188.results.toList
def zgI(t0 t5 t6:AV):List AV:=t0::ux 4 (t5::t6::ux 54 [])
def zyt:List Bool:=zfM 5
noncomputable def zq0:Code:=zaq [1,0,1,1,1,1,0,0,0] zqZ
def zyq(K:Kt):AExit→List AV→zaa→Prop:=zar tP zfM [1,0,1,1,1,1,0,0] zqZ (zaA tP zKm K)
def zlo(t0 t5 t6:AV)(H:zaa)(K:Kt):Prop:=ALoop tP zq0 (zyq K) (zgI t0 t5 t6) H
def zgJ(t0 t5 t6:AV)(H:zaa)(K:Kt)(Kb5:Lt):Prop:=
 Kb5 (zgI t0 t5 t6) H
def zlm(t0 t5 t6:AV):List AV:=t0::ux 4 (t5::t6::ux 54 [])
def zKk:List Bool:=zfM 9
noncomputable def zKh:Code:=zaq [1,0,1,0,1,0,0,0,0] zq0
def zKg(K:Kt)(Kb5:Lt):AExit→List AV→zaa→Prop:=zar tP zfM [1,0,1,0,1,0,0,0] zq0 (zbG zyt Kb5 (zyq K))
def zys(t0 t5 t6:AV)(H:zaa)(K:Kt)(Kb5:Lt):Prop:=ALoop tP zKh (zKg K Kb5) (zlm t0 t5 t6) H
def zyr(t0 t5:AV)(H:zaa)(K:Kt):Prop:=
 zah 0 t0 λt57=>
 zao [(.int .i64 0),(.str []),(.int .i64 0)] [(0,1),(1,1),(2,1)] [(0,(.int .i64 6)),(2,t57)] λt58=>
 zas 3 [(.int .i64 0),(.str []),(.int .i64 0)] 1 [(0,t58)] λt59=>
 zay zeR 3 32 t5 t59 H λt60 H=>
 za5 [t60,(.int .i64 0),(.int .i64 0)] (K · H)
def zln(t0 t5:AV)(H:zaa)(K:Kt):Prop:=
 zyr t0 t5 H K
def zqY(t0 t5 t6:AV)(H:zaa)(K:Kt)(Kb5:Lt)(Kb9:Lt):Prop:=
 zah 0 t0 λt28=>
 zac .lss false t6 t28 λt29=>
 zag t29
 (zbu t0 t6 λt34=>
 zac .eql false t34 (.int .u8 10) λt35=>
 zag t35
 (zgJ t0 t5 t6 H K Kb5)
 (zac .add false t6 (.int .i64 1) λt31=>
 Kb9 (zlm t0 t5 t31) H))
 (zln t0 t5 H K)
def zqX(t0 t5 t6:AV)(H:zaa)(K:Kt)(Kb5:Lt):Prop:=
 zah 0 t0 λt14=>
 zac .lss false t6 t14 λt15=>
 zag t15
 (zbu t0 t6 λt18=>
 ACalls tP zom [t18] H λt19 H=>
 zag t19
 (zac .add false t6 (.int .i64 1) λt21=>
 zgJ t0 t5 t21 H K Kb5)
 (zbu t0 t6 λt24=>
 zac .eql false t24 (.int .u8 35) λt25=>
 zag t25
 (zys t0 t5 t6 H K Kb5)
 (ACalls tP zon [t0,t6] H λt39 H=>
 zaI t39 0 λt40=>
 zaI t39 1 λt41=>
 zaw [(.int .i64 0),(.str []),(.int .i64 0)] H λt7 H=>
 zak 3 t7 t40 H λH=>
 zac .neq false t41 (.int .i64 0) λt43=>
 zag t43
 (za5 [.snil,t6,t41] (K · H))
 (zae true 3 t7 H λt47=>
 zas 3 [(.int .i64 0),(.str []),(.int .i64 0)] 1 [(0,t47)] λt48=>
 zay zeR 3 32 t5 t48 H λt49 H=>
 zaf 1 t7 λt51=>
 zae false 1 t51 H λt52=>
 zah 0 t52 λt53=>
 zac .add false t6 t53 λt54=>
 zgJ t0 t49 t54 H K Kb5))))
 (zln t0 t5 H K)
def zqW(t0:AV)(H:zaa)(K:Kt):Prop:=
 zah 0 t0 λt10=>
 zac .gtr false t10 (.int .i64 16384) λt11=>
 zag t11
 (za5 [.snil,(.int .i64 0),(.int .i64 9)] (K · H))
 (zlo t0 .snil (.int .i64 0) H K)
theorem zKj{t0 t5 t6:AV}{H:zaa}{K:Kt}{Kb5:Lt}(Inv:Nat→AV→zaa→Prop)(n:Nat)(h0:HSc H→Inv n t6 H)(round:Rd1 (λt6=>zlm t0 t5 t6) (λt6=>λH Kb9=>zqY t0 t5 t6 H K Kb5 Kb9) H Inv):zys t0 t5 t6 H K Kb5:=
 lp1 (M:=zfM) zKk t6 (by kernel_rfl) Inv n h0 round
theorem zKi{t0 t5 t6:AV}{H:zaa}{K:Kt}(Inv:Nat→AV→AV→zaa→Prop)(n:Nat)(h0:HSc H→Inv n t5 t6 H)(round:Rd2 (λt5=>λt6=>zgI t0 t5 t6) (λt5=>λt6=>λH Kb5=>zqX t0 t5 t6 H K Kb5) H Inv):zlo t0 t5 t6 H K:=
 lp2 (M:=zfM) zyt t5 t6 (by kernel_rfl) Inv n h0 round
theorem zKl{t0:AV}{H:zaa}{K:Kt}(h:HSc H→zqW t0 H K):ACalls tP zok [t0] H K:=
 zan (M:=zfM) Tryz.func188 (c:=zqZ) (by kernel_rfl) (λhs=>Eq.mpr (by kernel_rfl) (h hs))
def zc1:Nat→List Bool
 |5=>rl false [0,1,4,2,193]
 |10=>rl false [0,1,4,2,193]
 |18=>rl false [0,1,4,4,191]
 |29=>rl false [0,1,4,4,191]
 |_=>[]
noncomputable def zpJ:Code:=Tryz.f103.body.getD .skip
noncomputable def zGu:List ResultVar:=Tryz.f103.results.toList
def zfH(t0 t5 t6:AV):List AV:=t0::ux 4 (t5::t6::ux 193 [])
def zki:List Bool:=zc1 5
noncomputable def zfG:Code:=zaq [1,1,1,0,1,0,0] zpJ
def zkc(K:Kt):AExit→List AV→zaa→Prop:=zar tP zc1 [1,1,1,0,1,0] zpJ (zaA tP zGu K)
def zkh(t0 t5 t6:AV)(H:zaa)(K:Kt):Prop:=ALoop tP zfG (zkc K) (zfH t0 t5 t6) H
def ze7(t0 t5 t6:AV)(H:zaa)(K:Kt)(Kb5:Lt):Prop:=
 Kb5 (zfH t0 t5 t6) H
def zkf(t0 t5 t6:AV):List AV:=t0::ux 4 (t5::t6::ux 193 [])
def zGq:List Bool:=zc1 10
noncomputable def zGj:Code:=zaq [1,0,1,1,0,1,0,0,0,0] zfG
def zGg(K:Kt)(Kb5:Lt):AExit→List AV→zaa→Prop:=zar tP zc1 [1,0,1,1,0,1,0,0,0] zfG (zbG zki Kb5 (zkc K))
def zw6(t0 t5 t6:AV)(H:zaa)(K:Kt)(Kb5:Lt):Prop:=ALoop tP zGj (zGg K Kb5) (zkf t0 t5 t6) H
def zpG(t0 t5 t6:AV)(H:zaa)(K:Kt)(Kb5:Lt)(Kb10:Lt):Prop:=
 zah 0 t0 λt42=>
 zac .lss false t6 t42 λt43=>
 zab t43 true H (λK'=>K' t0 H) λt45 H=>
 zab t43 true H (λK'=>K' t6 H) λt46 H=>
 zab t43 true H (λK'=>zbu t45 t46 (K' · H)) λt47 H=>
 zab t43 true H (λK'=>zac .neq false t47 (.int .u8 10) (K' · H)) λt48 H=>
 zai t43 t48 (.bool false) λt49=>
 zag t49
 (zac .add false t6 (.int .i64 1) λt51=>
 Kb10 (zkf t0 t5 t51) H)
 (ze7 t0 t5 t6 H K Kb5)
def zh0(t0 t5 t6 t7 t8:AV):List AV:=t0::ux 4 (t5::t6::t7::t8::ux 191 [])
def zGr:List Bool:=zc1 18
noncomputable def zGk:Code:=zaq [1,0,1,1,1,1,0,0,1,0,0,0,0] zfG
def zGh(K:Kt)(Kb5:Lt):AExit→List AV→zaa→Prop:=zar tP zc1 [1,0,1,1,1,1,0,0,1,0,0,0] zfG (zbG zki Kb5 (zkc K))
def zpK(t0 t5 t6 t7 t8:AV)(H:zaa)(K:Kt)(Kb5:Lt):Prop:=ALoop tP zGk (zGh K Kb5) (zh0 t0 t5 t6 t7 t8) H
def zh1(t0 t5 t6 t8:AV)(H:zaa)(K:Kt)(Kb5:Lt):Prop:=
 zac .add false t6 t8 λt193=>
 ze7 t0 t5 t193 H K Kb5
def ze9(t0 t5 t6 t8:AV)(H:zaa)(K:Kt)(Kb5:Lt):Prop:=
 zh1 t0 t5 t6 t8 H K Kb5
def ze8(t0 t5 t6 t8 t9:AV)(H:zaa)(K:Kt)(Kb5:Lt):Prop:=
 zac .add false t6 t8 λt135=>
 za3 0 0 t0 (some t6) (some t135) λt136=>
 zao [(.int .i64 0),(.str []),(.int .i64 0)] [(0,1),(1,1),(2,1)] [(0,t9),(1,t136),(2,t6)] λt138=>
 zas 3 [(.int .i64 0),(.str []),(.int .i64 0)] 1 [(0,t138)] λt139=>
 zay zbo 3 32 t5 t139 H λt140 H=>
 ze9 t0 t140 t6 t8 H K Kb5
def zpH(t0 t5 t6 t7 t8:AV)(H:zaa)(K:Kt)(Kb5:Lt)(Kb18:Lt):Prop:=
 zac .add false t6 t8 λt79=>
 zah 0 t0 λt81=>
 zac .lss false t79 t81 λt82=>
 zab t82 true H (λK'=>K' t0 H) λt84 H=>
 zab t82 true H (λK'=>K' t6 H) λt85 H=>
 zab t82 true H (λK'=>K' t8 H) λt86 H=>
 zab t82 true H (λK'=>zac .add false t85 t86 (K' · H)) λt87 H=>
 zab t82 true H (λK'=>zbu t84 t87 (K' · H)) λt88 H=>
 zab t82 true H (λK'=>ACalls tP zja [t88] H K') λt89 H=>
 zab t82 true H (λK'=>K' t89 H) λt90 H=>
 zab t90 false H (λK'=>K' t0 H) λt91 H=>
 zab t90 false H (λK'=>K' t6 H) λt92 H=>
 zab t90 false H (λK'=>K' t8 H) λt93 H=>
 zab t90 false H (λK'=>zac .add false t92 t93 (K' · H)) λt94 H=>
 zab t90 false H (λK'=>zbu t91 t94 (K' · H)) λt95 H=>
 zab t90 false H (λK'=>ACalls tP zgj [t95] H K') λt96 H=>
 zab t82 true H (λK'=>zai t90 (.bool true) t96 (K' · H)) λt97 H=>
 zab t82 true H (λK'=>K' t97 H) λt98 H=>
 zab t98 false H (λK'=>K' t0 H) λt99 H=>
 zab t98 false H (λK'=>K' t6 H) λt100 H=>
 zab t98 false H (λK'=>K' t8 H) λt101 H=>
 zab t98 false H (λK'=>zac .add false t100 t101 (K' · H)) λt102 H=>
 zab t98 false H (λK'=>zbu t99 t102 (K' · H)) λt103 H=>
 zab t98 false H (λK'=>ACalls tP zhu [t103] H K') λt104 H=>
 zab t82 true H (λK'=>zai t98 (.bool true) t104 (K' · H)) λt105 H=>
 zab t82 true H (λK'=>K' t105 H) λt106 H=>
 zab t106 false H (λK'=>K' t0 H) λt107 H=>
 zab t106 false H (λK'=>K' t6 H) λt108 H=>
 zab t106 false H (λK'=>K' t8 H) λt109 H=>
 zab t106 false H (λK'=>zac .add false t108 t109 (K' · H)) λt110 H=>
 zab t106 false H (λK'=>zbu t107 t110 (K' · H)) λt111 H=>
 zab t106 false H (λK'=>zac .eql false t111 (.int .u8 95) (K' · H)) λt112 H=>
 zab t82 true H (λK'=>zai t106 (.bool true) t112 (K' · H)) λt113 H=>
 zai t82 t113 (.bool false) λt114=>
 zag t114
 (zac .add false t8 (.int .i64 1) λt116=>
 Kb18 (zh0 t0 t5 t6 t7 t116) H)
 (zac .gtr false t8 (.int .i64 24) λt118=>
 zag t118
 (za5 [.snil,t6,(.int .i64 9)] (K · H))
 (ACalls tP zgj [t7] H λt121 H=>
 zag t121
 (ze8 t0 t5 t6 t8 (.int .i64 2) H K Kb5)
 (zac .add false t6 t8 λt126=>
 za3 0 0 t0 (some t6) (some t126) λt127=>
 ACalls tP zjb [t127] H λt128 H=>
 zag t128
 (ze8 t0 t5 t6 t8 (.int .i64 4) H K Kb5)
 (ze8 t0 t5 t6 t8 (.int .i64 1) H K Kb5))))
def zkg(t0 t5 t6 t7 t8:AV):List AV:=t0::ux 4 (t5::t6::t7::t8::ux 191 [])
def zGs:List Bool:=zc1 29
noncomputable def zGl:Code:=zaq [1,0,1,1,1,1,0,0,1,1,1,0,0,0,0] zfG
def zGi(K:Kt)(Kb5:Lt):AExit→List AV→zaa→Prop:=zar tP zc1 [1,0,1,1,1,1,0,0,1,1,1,0,0,0] zfG (zbG zki Kb5 (zkc K))
def zpL(t0 t5 t6 t7 t8:AV)(H:zaa)(K:Kt)(Kb5:Lt):Prop:=ALoop tP zGl (zGi K Kb5) (zkg t0 t5 t6 t7 t8) H
def zpI(t0 t5 t6 t7 t8:AV)(H:zaa)(K:Kt)(Kb5:Lt)(Kb29:Lt):Prop:=
 zac .add false t6 t8 λt146=>
 zah 0 t0 λt148=>
 zac .lss false t146 t148 λt149=>
 zab t149 true H (λK'=>K' t0 H) λt151 H=>
 zab t149 true H (λK'=>K' t6 H) λt152 H=>
 zab t149 true H (λK'=>K' t8 H) λt153 H=>
 zab t149 true H (λK'=>zac .add false t152 t153 (K' · H)) λt154 H=>
 zab t149 true H (λK'=>zbu t151 t154 (K' · H)) λt155 H=>
 zab t149 true H (λK'=>ACalls tP zhu [t155] H K') λt156 H=>
 zai t149 t156 (.bool false) λt157=>
 zag t157
 (zac .add false t8 (.int .i64 1) λt159=>
 Kb29 (zkg t0 t5 t6 t7 t159) H)
 (zac .gtr false t8 (.int .i64 1) λt161=>
 zab t161 true H (λK'=>K' t7 H) λt163 H=>
 zab t161 true H (λK'=>zac .eql false t163 (.int .u8 48) (K' · H)) λt164 H=>
 zai t161 t164 (.bool false) λt165=>
 zag t165
 (za5 [.snil,t6,(.int .i64 2)] (K · H))
 (zac .add false t6 t8 λt172=>
 za3 0 0 t0 (some t6) (some t172) λt173=>
 ACalls tP zgk [t173] H λt174 H=>
 zaI t174 0 λt175=>
 zaI t174 1 λt176=>
 aUn .not t176 λt178=>
 zag t178
 (za5 [.snil,t6,(.int .i64 9)] (K · H))
 (zac .add false t6 t8 λt185=>
 za3 0 0 t0 (some t6) (some t185) λt186=>
 zao [(.int .i64 0),(.str []),(.int .i64 0)] [(0,1),(1,1),(2,1)] [(0,(.int .i64 3)),(1,t186),(2,t6)] λt188=>
 zas 3 [(.int .i64 0),(.str []),(.int .i64 0)] 1 [(0,t188)] λt189=>
 zay zbo 3 32 t5 t189 H λt190 H=>
 ze9 t0 t190 t6 t8 H K Kb5)))
def zkd(t0 t5 t6:AV)(H:zaa)(K:Kt)(Kb5:Lt):Prop:=
 zah 0 t0 λt17=>
 zac .lss false t6 t17 λt18=>
 zag t18
 (zbu t0 t6 λt21=>
 zac .eql false t21 (.int .u8 9) λt23=>
 zab t23 false H (λK'=>K' t21 H) λt25 H=>
 zab t23 false H (λK'=>zac .eql false t25 (.int .u8 10) (K' · H)) λt26 H=>
 zai t23 (.bool true) t26 λt27=>
 zab t27 false H (λK'=>K' t21 H) λt29 H=>
 zab t27 false H (λK'=>zac .eql false t29 (.int .u8 13) (K' · H)) λt30 H=>
 zai t27 (.bool true) t30 λt31=>
 zab t31 false H (λK'=>K' t21 H) λt33 H=>
 zab t31 false H (λK'=>zac .eql false t33 (.int .u8 32) (K' · H)) λt34 H=>
 zai t31 (.bool true) t34 λt35=>
 zag t35
 (zac .add false t6 (.int .i64 1) λt37=>
 ze7 t0 t5 t37 H K Kb5)
 (zac .eql false t21 (.int .u8 35) λt39=>
 zag t39
 (zw6 t0 t5 t6 H K Kb5)
 (ACalls tP zja [t21] H λt72 H=>
 zab t72 false H (λK'=>K' t21 H) λt74 H=>
 zab t72 false H (λK'=>ACalls tP zgj [t74] H K') λt75 H=>
 zai t72 (.bool true) t75 λt76=>
 zag t76
 (zpK t0 t5 t6 t21 (.int .i64 1) H K Kb5)
 (ACalls tP zhu [t21] H λt143 H=>
 zag t143
 (zpL t0 t5 t6 t21 (.int .i64 1) H K Kb5)
 (za3 0 0 t0 (some t6) none λt54=>
 ACalls tP zof [t54] H λt55 H=>
 zac .eql false t55 (.int .i64 0) λt57=>
 zag t57
 (za5 [.snil,t6,(.int .i64 2)] (K · H))
 (zac .add false t6 t55 λt64=>
 za3 0 0 t0 (some t6) (some t64) λt65=>
 zao [(.int .i64 0),(.str []),(.int .i64 0)] [(0,1),(1,1),(2,1)] [(0,(.int .i64 5)),(1,t65),(2,t6)] λt67=>
 zas 3 [(.int .i64 0),(.str []),(.int .i64 0)] 1 [(0,t67)] λt68=>
 zay zbo 3 32 t5 t68 H λt69 H=>
 ze9 t0 t69 t6 t55 H K Kb5))))))
 (zah 0 t0 λt196=>
 zao [(.int .i64 0),(.str []),(.int .i64 0)] [(0,1),(1,1),(2,1)] [(0,(.int .i64 6)),(1,(.str [])),(2,t196)] λt197=>
 zas 3 [(.int .i64 0),(.str []),(.int .i64 0)] 1 [(0,t197)] λt198=>
 zay zbo 3 32 t5 t198 H λt199 H=>
 za5 [t199,(.int .i64 0),(.int .i64 0)] (K · H))
def zpF(t0:AV)(H:zaa)(K:Kt):Prop:=
 zah 0 t0 λt13=>
 zac .gtr false t13 (.int .i64 16384) λt14=>
 zag t14
 (za5 [.snil,(.int .i64 0),(.int .i64 9)] (K · H))
 (zkh t0 .snil (.int .i64 0) H K)
theorem zGm{t0 t5 t6:AV}{H:zaa}{K:Kt}{Kb5:Lt}(Inv:Nat→AV→zaa→Prop)(n:Nat)(h0:HSc H→Inv n t6 H)(round:Rd1 (λt6=>zkf t0 t5 t6) (λt6=>λH Kb10=>zpG t0 t5 t6 H K Kb5 Kb10) H Inv):zw6 t0 t5 t6 H K Kb5:=
 lp1 (M:=zc1) zGq t6 (by kernel_rfl) Inv n h0 round
theorem zGn{t0 t5 t6 t7 t8:AV}{H:zaa}{K:Kt}{Kb5:Lt}(Inv:Nat→AV→zaa→Prop)(n:Nat)(h0:HSc H→Inv n t8 H)(round:Rd1 (λt8=>zh0 t0 t5 t6 t7 t8) (λt8=>λH Kb18=>zpH t0 t5 t6 t7 t8 H K Kb5 Kb18) H Inv):zpK t0 t5 t6 t7 t8 H K Kb5:=
 lp1 (M:=zc1) zGr t8 (by kernel_rfl) Inv n h0 round
theorem zGo{t0 t5 t6 t7 t8:AV}{H:zaa}{K:Kt}{Kb5:Lt}(Inv:Nat→AV→zaa→Prop)(n:Nat)(h0:HSc H→Inv n t8 H)(round:Rd1 (λt8=>zkg t0 t5 t6 t7 t8) (λt8=>λH Kb29=>zpI t0 t5 t6 t7 t8 H K Kb5 Kb29) H Inv):zpL t0 t5 t6 t7 t8 H K Kb5:=
 lp1 (M:=zc1) zGs t8 (by kernel_rfl) Inv n h0 round
theorem zGp{t0 t5 t6:AV}{H:zaa}{K:Kt}(Inv:Nat→AV→AV→zaa→Prop)(n:Nat)(h0:HSc H→Inv n t5 t6 H)(round:Rd2 (λt5=>λt6=>zfH t0 t5 t6) (λt5=>λt6=>λH Kb5=>zkd t0 t5 t6 H K Kb5) H Inv):zkh t0 t5 t6 H K:=
 lp2 (M:=zc1) zki t5 t6 (by kernel_rfl) Inv n h0 round
theorem zGt{t0:AV}{H:zaa}{K:Kt}(h:HSc H→zpF t0 H K):ACalls tP zn1 [t0] H K:=
 zan (M:=zc1) Tryz.func103 (c:=zpJ) (by kernel_rfl) (λhs=>Eq.mpr (by kernel_rfl) (h hs))
def zKF(_:Nat):List Bool:=[]
noncomputable def zKG:Code:=Tryz.f204.body.getD .skip
def zyB(t0:AV)(H:zaa)(K:Kt):Prop:=
 zac .eql false t0 (.int .u8 9) λt4=>
 zab t4 false H (λK'=>K' t0 H) λt6 H=>
 zab t4 false H (λK'=>zac .eql false t6 (.int .u8 10) (K' · H)) λt7 H=>
 zai t4 (.bool true) t7 λt8=>
 zab t8 false H (λK'=>K' t0 H) λt10 H=>
 zab t8 false H (λK'=>zac .eql false t10 (.int .u8 13) (K' · H)) λt11 H=>
 zai t8 (.bool true) t11 λt12=>
 zab t12 false H (λK'=>K' t0 H) λt14 H=>
 zab t12 false H (λK'=>zac .eql false t14 (.int .u8 32) (K' · H)) λt15 H=>
 zai t12 (.bool true) t15 λt16=>
 K t16 H
theorem zKH{t0:AV}{H:zaa}{K:Kt}(h:HSc H→zyB t0 H K):ACalls tP zom [t0] H K:=
 zan (M:=zKF) Tryz.func204 (c:=zKG) (by kernel_rfl) (λhs=>Eq.mpr (by kernel_rfl) (h hs))
end Go.Proofs.YtaifokkaaahdoaaGreatDoor
