import Derived.Test.YtdmamdnkcefmmaaGreatDoorKY8
set_option linter.unusedSimpArgs false
set_option linter.unusedVariables false
set_option linter.unusedSectionVars false
set_option linter.defProp false
set_option maxRecDepth 100000
namespace Go.Proofs.YtdmamdnkcefmmaaGreatDoor
def zL8(x:List VT)(hl:x.length≤1000000000)(fv:AV)(H:or)(K:AV→or→Prop)(pl:fv.sc H.length=true)(Inv:Nat→or→Prop)(h0:Inv 0 H)(step:∀(i:Nat) (h:i<x.length) (H':or),H.length≤H'.length→Inv i H'→aCallV tP fv [.agg (x[i]).cs] H' λr H''=>(r=.bool false∧Inv (i+1) H'')∨(r=.bool true∧K (I6 i) H''))(fin:∀H',Inv x.length H'→K (I6 (-1)) H'):ge tP 229 [.sl (VT.css x) .none,fv] H K:=by
 refine zY6 λhs=>?_;simp[Y3];refine zY4 (Inv:=λq t8 H'=>∃i:Nat,i≤x.length∧q=x.length-i∧t8=I6 i∧H.length≤H'.length∧Inv i H') x.length ?_ ?_
 ·intro _;exact⟨0,by omega,by omega,rfl,af _,h0⟩
 ·rintro q t8 H' ⟨i,hi,rfl,rfl,fS,hI⟩ hsc fz fM Kb fB;by_cases fy:i<x.length
  ·simp[Qz,fy];refine (step i fy H' fS hI).mono' λr H'' fG hle' hr=>?_;rcases hr with ⟨rfl,hI'⟩ | ⟨rfl,hk⟩
   ·simp;rw[um (by omega) (by omega)];refine fB _ _ ⟨x.length-(i+1),by omega,Back.here (by omega) fG ?_ ⟨_,rfl,i+1,by omega,rfl,by simp,by omega,hI'⟩⟩;simp[JX,AV.sc,AV.ZJ,AV.ZH,AV.ZI];exact wJ (by omega) pl
   ·simpa using hk
  ·obtain rfl:i=x.length:=by omega
   simp[Qz];exact fin H' hI
def Rx(x:List VT)(hl:x.length≤1000000000)(fv:AV)(H:or)(K:AV→or→Prop)(pl:fv.sc H.length=true)(Inv:Nat→or→Prop)(h0:Inv 0 H)(step:∀(i:Nat) (h:i<x.length) (H':or),H.length≤H'.length→Inv i H'→aCallV tP fv [.agg (x[i]).cs] H' λr H''=>(r=.bool false∧Inv (i+1) H'')∨(r=.bool true∧K (.bool true) H''))(fin:∀H',Inv x.length H'→K (.bool false) H'):ge tP 202 [.sl (VT.css x) .none,fv] H K:=by
 refine zXN λhs=>?_;unfold Y0;refine zL8 x hl fv H _ pl Inv h0 (λi h H' fS hI=>(step i h H' fS hI).mono' λr H'' _ _ hr=>?_) (λH' hI=>?_)
 ·rcases hr with hr | ⟨h1,h2⟩
  ·exact .inl hr
  ·refine .inr ⟨h1,?_⟩;have:decide ((0:Int)≤i)=true:=by simp
   simpa using h2
 ·simpa using fin H' hI
def zK0:y9 tP 210=true:=by kernel_rfl
section
variable (eq:List Dat) (vars:Int)
theorem zPL:∀(l:List VT) (i:Nat) (h:i<l.length),vC eq vars l=true→vg eq vars l[i]=true:=by
 intro l;induction l with
 |nil=>intro i h;simp at h
 |cons a l ih=>
  intro i h hl;simp[vC]at hl;cases i with
  |zero=>exact hl.1
  |succ i=>exact ih i (by simpa using h) hl.2
def wv(left:Int):AB:=.cells [.sl (eq.map Dat.cs) .none,I6 vars,I6 left]
theorem zPX:∀ (m:Nat) (v:VT),v.ZO≤m→v.ZO≤1000000000→∀ (left:Int),left≤1000000→-1≤left→∀ (H:or) (id:Nat),H[id]?=some (wv eq vars left)→∀ (K:AV→or→Prop),
  (vg eq vars v=true→(v.ZO:Int)≤left→K (.bool true) (H.set id (wv eq vars (left-v.ZO))))→(¬(vg eq vars v=true∧(v.ZO:Int)≤left)→∀l',K (.bool false) (H.set id (wv eq vars l'))) →
  ge tP 166 [.ptr id 0,.agg v.cs] H K:=by
 intro m;induction m with
 |zero=>intro v h;have:=v.ZB;omega
 |succ m ih=>
  intro v hv hb left jY jC H id fA K hK hF;obtain⟨k,n,ks⟩:=v;have fy:=uR fA;have kr:(VT.mk k n ks).ZO=VT.ZA ks+1:=by simp[VT.ZO]
  have gy:=VT.ZQ ks;refine ge.out (zVJ λhs=>?_)
  -- the heap within: the receiver's copy and the type's
  generalize hJ:([.cells [.ptr id 0],.cells [I6 k,I6 n,.sl (VT.css ks) .none]]:or)=J;have o3:J[0]?=some (.cells [.ptr id 0]):=by subst hJ;rfl
  have mo:J[1]?=some (.cells [I6 k,I6 n,.sl (VT.css ks) .none]):=by subst hJ;rfl
  have fJ:∀l',(H.set id (wv eq vars l')++J)[id]?=some (wv eq vars l'):=λl'=>vq (yI _ fA);have bad:(¬(vg eq vars (.mk k n ks)=true∧((VT.mk k n ks).ZO:Int)≤left))→∀l',Out H.length K (.bool false) (H.set id (wv eq vars l')++J):=λh l'=>
   Out.bool rfl (by simp) (hs.set rfl) (hF h l')
  have badS:vE eq vars k n ks.length=false→∀l',Out H.length K (.bool false) (H.set id (wv eq vars l')++J):=λh l'=>bad (λ⟨h1,_⟩=>by simp[vg,h]at h1) l'
  -- the arguments
  have args:vE eq vars k n ks.length=true→1≤left→∀ KK:AV→or→Prop,(∀ H',Out H.length K (.bool true) H'→KK (.bool false) H')→(∀ H',Out H.length K (.bool false) H'→KK (.bool true) H') →
    ge tP 202 [.sl (VT.css ks) .none,.fn 210 [.ptr H.length 0]] (H.set id (wv eq vars (left-1))++J) KK:=by
   intro fY h1 KK hKf hKt;subst hJ;refine Rx ks (by omega) _ _ _ (by simp[AV.sc,AV.ZJ,AV.ZH,AV.ZI]) (λi H'=>(VT.ZA (ks.take i):Int)+1≤left∧vC eq vars (ks.take i)=true∧H'=H.set id (wv eq vars (left-1-VT.ZA (ks.take i)))++[.cells [.ptr id 0],.cells [I6 k,I6 n,.sl (VT.css ks) .none]]) ⟨by simp[VT.ZA];omega,by simp[vC],by simp[VT.ZA]⟩ ?_ ?_
   ·rintro i hi H' fS ⟨gJ,gF,rfl⟩;have gB:=VT.ZM (k:=k) (n:=n) hi;have h1:=VT.ZE hi;have h2:=VT.ZD ks (i+1);have hokL:vC eq vars (ks.take (i+1))=(vC eq vars (ks.take i) && vg eq vars ks[i]):=by
     rw[ag hi];have:∀(l:List VT) (x:VT),vC eq vars (l++[x])=(vC eq vars l && vg eq vars x):=by
      intro l x;induction l with
      |nil=>simp[vC]
      |cons a l ih=>simp[vC,ih,Bool.and_assoc]
     exact this _ _
    simp only[aCallV,zK0,List.singleton_append];refine ge.out (zXQ λf9=>?_);have jK:∀l',HSc (H.set id (wv eq vars l')++[.cells [.ptr id 0],.cells [I6 k,I6 n,.sl (VT.css ks) .none]]):=λl'=>(hs.set rfl).append (by simp[AB.sc,AV.ZH,AV.ZI];omega);obtain⟨x1,x2,x3,fD,gG,gf,gL⟩:=ve ks[i];have hll2:(H.set id (wv eq vars (left-1-VT.ZA (ks.take i)))).length=H.length:=by simp
    have m6:(H.set id (wv eq vars (left-1-VT.ZA (ks.take i)))++[AB.cells [.ptr id 0],.cells [I6 k,I6 n,.sl (VT.css ks) .none],.cells [x1,x2,x3]])[H.length]?=some (.cells [.ptr id 0]):=by rw[aM (by simp)];simp
    have oW:(H.set id (wv eq vars (left-1-VT.ZA (ks.take i)))++[AB.cells [.ptr id 0],.cells [I6 k,I6 n,.sl (VT.css ks) .none],.cells [x1,x2,x3]])[H.length+2]?=some (.cells [x1,x2,x3]):=by rw[aM (by simp)];simp
    simp[YZ,fD,m6,oW,hll2];rw[←fD];refine ih ks[i] (by omega) (by omega) (left-1-VT.ZA (ks.take i)) (by omega) (by omega) _ id (vq (yI _ fA)) _ ?_ ?_
    ·intro ho hle2;rw[zS _ (yI _ fA),bX,show left-1-(VT.ZA (ks.take i):Int)-(ks[i]).ZO=left-1-VT.ZA (ks.take (i+1)) by omega];simp;refine Out.bool (J:=[_]) (H2:=H.set id (wv eq vars (left-1-VT.ZA (ks.take (i+1))))++[.cells [.ptr id 0],.cells [I6 k,I6 n,.sl (VT.css ks) .none]]) (by simp;rfl) (by simp) (jK _) (.inl ⟨rfl,by omega,by rw[hokL,gF,ho];rfl,rfl⟩)
    ·intro ho l';rw[zS _ (yI _ fA),bX];simp;have iH:¬(vg eq vars (.mk k n ks)=true∧((VT.mk k n ks).ZO:Int)≤left):=by
      rintro⟨g1,g2⟩;have fX:vC eq vars ks=true:=by simp[vg]at g1;exact g1.2
      exact ho ⟨zPL eq vars ks i hi fX,by omega⟩
     have hb3:=bad iH l';exact Out.bool (J:=[_]) (H2:=H.set id (wv eq vars l')++[.cells [.ptr id 0],.cells [I6 k,I6 n,.sl (VT.css ks) .none]]) (by simp;rfl) (by simp) (jK _) (.inr ⟨rfl,hKt _ hb3⟩)
   ·rintro H' ⟨gJ,gF,rfl⟩;rw[az]at *;refine hKf _ ?_;refine Out.bool rfl (by simp) (hs.set rfl) ?_;have:=hK (by simp[vg,fY,gF]) (by omega);rw[kr]at this;rw[show left-1-(VT.ZA ks:Int)=left-((VT.ZA ks+1:Nat):Int) by omega];exact this
  -- behind the shape
  have fin:∀ lo hi:Int,(k≠4→k≠5→n≠0→vE eq vars k n ks.length=false)→((ks.length:Int)<lo∨hi<(ks.length:Int)→vE eq vars k n ks.length=false)→1≤left →
    ((k=4∨k=5∨n=0)→lo≤(ks.length:Int)→(ks.length:Int)≤hi→vE eq vars k n ks.length=true) →
    C7 (.ptr H.length 0) (.ptr (H.length+1) 0) (I6 lo) (I6 hi) (H.set id (wv eq vars (left-1))++J) (Out H.length K):=by
   intro lo hi hz hr h1 fH;have r9:(H.set id (wv eq vars (left-1))++J)[H.length+1]?=some (.cells [I6 k,I6 n,.sl (VT.css ks) .none]):=by rw[aM (by simp)];subst hJ;simp
   by_cases fL:k=4∨k=5∨n=0
   ·have h3:(k != 4)=false∨((k != 4)=true∧(k != 5)=false)∨((k != 4)=true∧(k != 5)=true∧(n != 0)=false):=by
     by_cases g4:k=4
     ·left;simp[g4]
     ·by_cases g5:k=5
      ·right;left;simp[g5]
      ·right;right;simp[g4,g5];omega
    rcases h3 with g|⟨g,g'⟩|⟨g,g',g''⟩;case' inl=>simp[C7,r9,mo,g]
    case' inr.inl=>simp[C7,r9,mo,g,g']
    case' inr.inr=>simp[C7,r9,mo,g,g',g'']
    all_goals
     by_cases gR:(ks.length:Int)<lo
     ·simp[gR];exact badS (hr (.inl gR)) _
     ·by_cases kW:hi<(ks.length:Int)
      ·simp[gR,kW,mo];exact badS (hr (.inr kW)) _
      ·simp[gR,kW,AV.isB,mo];refine args (fH fL (by omega) (by omega)) h1 _ (λH' ho=>?_) (λH' ho=>?_) <;> simpa using ho
   ·have g:(k != 4)=true:=by simp;omega
    have g':(k != 5)=true:=by simp;omega
    have g'':(n != 0)=true:=by simp;omega
    simp[C7,r9,mo,g,g',g''];exact badS (hz (by omega) (by omega) (by omega)) _
  have start:(H++J)[id]?=some (wv eq vars left):=vq fA;have ji:Qx (.ptr H.length 0) (.ptr (H.length+1) 0) (H.set id (wv eq vars (left-1))++J) (Out H.length K):=by
   refine zVB λf9=>?_;have oz:=fJ (left-1);unfold wv at oz;by_cases h0:left-1<0
   ·simp[Qy,o3,wv,oz,h0];exact bad (λh=>by have:=h.2;rw[kr]at this;omega) _
   have h1:1≤left:=by omega
   simp[Qy,o3,mo,wv,oz,h0];refine zVE λ_=>?_;have iR:=λlo hi a b c=>fin lo hi a b h1 c;unfold wv at iR badS
   -- the three without arguments
   by_cases mn:k=1∨k=2∨k=3
   ·have fY:vE eq vars k n ks.length=(n == 0 && ks.length == 0):=by rcases mn with rfl | rfl | rfl <;> rfl
    have:=iR 0 0 (λ_ _ hn=>by rw[fY];simp[hn]) (λh=>by rw[fY];simp;intro _;rintro rfl;simp at h) (λh h2 h3=>by
     have hn:n=0:=by omega
     have hl:ks.length=0:=by omega
     rw[fY,hn,hl];rfl)
    rcases mn with rfl|rfl|rfl <;> simp[Qw] <;> refine Y5 λ_=>?_ <;> simp[yZ,yK] <;> exact this
   have b1:(k == 1)=false:=by simp;omega
   have b2:(k == 2)=false:=by simp;omega
   have b3:(k == 3)=false:=by simp;omega
   simp[Qw,b1,b2,b3];refine Y5 λ_=>?_;by_cases h4:k=4
   ·subst h4;have fY:vE eq vars 4 n ks.length=(decide (0≤n) && decide (n<vars) && ks.length == 0):=rfl;by_cases g1:n<0
    ·simp[yZ,o3,mo,oz,g1];exact badS (by rw[fY];simp;omega) _
    by_cases g2:vars≤n
    ·simp[yZ,o3,mo,oz,g1,g2];exact badS (by rw[fY];simp;omega) _
    have:=iR 0 0 (λh=>(h rfl).elim) (λh=>by rw[fY];simp;intro _ _;rintro rfl;simp at h) (λh h2 h3=>by
     have hl:ks.length=0:=by omega
     rw[fY,hl];simp;omega)
    simp[yZ,o3,mo,oz,g1,g2,yK];exact this
   have b4:(k == 4)=false:=by simp;omega
   by_cases h5:k=5
   ·subst h5;have fY:vE eq vars 5 n ks.length=(decide (0≤n) && (match eq[n.toNat]? with | some d=>(ks.length:Int) == d.vars | none=>false)):=rfl;by_cases g1:n<0
    ·simp[yZ,o3,mo,oz,g1];exact badS (by rw[fY];simp;omega) _
    by_cases g2:(eq.length:Int)≤n
    ·simp[yZ,o3,mo,oz,g1,g2];exact badS (by rw[fY,aW (by omega)];simp) _
    have iM:n.toNat<eq.length:=by omega
    have g2':n<eq.length:=by omega
    have g1':0≤n:=by omega
    rw[aw iM]at fY;simp only[g1',dT,bE]at fY;have:=iR (eq[n.toNat]).vars (eq[n.toNat]).vars (λ_ h=>(h rfl).elim) (λh=>by rw[fY];simp;omega) (λh h2 h3=>by rw[fY];simp;omega);simp[yZ,o3,mo,oz,g1,g2,g1',g2',iM,Dat.cs,yK];exact this
   have b5:(k == 5)=false:=by simp;omega
   by_cases h6:k=6
   ·subst h6;have fY:vE eq vars 6 n ks.length=(n == 0 && decide (2≤ks.length) && decide (ks.length≤6)):=rfl;have:=iR 2 6 (λ_ _ hn=>by rw[fY];simp[hn]) (λh=>by rw[fY];simp;intros;omega) (λh h2 h3=>by rw[fY];simp;omega);simp[yZ,yK];exact this
   have b6:(k == 6)=false:=by simp;omega
   by_cases py:k=7∨k=8
   ·have fY:vE eq vars k n ks.length=(n == 0 && ks.length == 1):=by rcases py with rfl | rfl <;> rfl
    have:=iR 1 1 (λ_ _ hn=>by rw[fY];simp[hn]) (λh=>by rw[fY];simp;intros;omega) (λh h2 h3=>by rw[fY];simp;omega);rcases py with rfl|rfl <;> simp[yZ] <;> refine Y4 λ_=>?_ <;> simp[JU,yK] <;> exact this
   have b7:(k == 7)=false:=by simp;omega
   have b8:(k == 8)=false:=by simp;omega
   simp[yZ,b4,b5,b6,b7,b8];refine Y4 λ_=>?_;by_cases h9:k=9
   ·subst h9;have fY:vE eq vars 9 n ks.length=(n == 0 && decide (1≤ks.length) && decide (ks.length≤7)):=rfl;have:=iR 1 7 (λ_ _ hn=>by rw[fY];simp[hn]) (λh=>by rw[fY];simp;intros;omega) (λh h2 h3=>by rw[fY];simp;omega);simp[JU,yK];exact this
   ·have b9:(k == 9)=false:=by simp;omega
    simp[JU,b9];exact badS (by unfold vE;simp[b1,b2,b3,b4,b5,b6,b7,b8,b9]) _
  subst hJ;unfold wv at start;simp[YY,VT.cs,start];rw[um (by omega) (by omega),zS _ fA];exact ji
theorem zFc(v:VT)(hb:v.ZO≤1000000000)(H:or)(K:AV→or→Prop)(hK:K (.bool (uW eq vars v)) H):ge tP 123 [.sl (eq.map Dat.cs) .none,.agg v.cs,I6 vars] H K:=by
 refine ge.out (zR1 λhs=>?_);have hO:∀J,Out H.length K (.bool (uW eq vars v)) (H++J):=λJ=>Out.bool rfl (af _) hs hK;obtain⟨x1,x2,x3,fD,gG,gf,gL⟩:=ve v;simp[YW,fD,ug,uv];rw[←fD];refine zPX eq vars _ v (af _) hb 200 (by omega) (by omega) _ (H.length+1) (by simp[wv]) _ ?_ ?_
 ·intro ho hn;have:uW eq vars v=true:=by simp[uW,ho];omega
  rw[this]at hO;simp;exact hO _
 ·intro iH l';have:uW eq vars v=false:=by
   cases h:uW eq vars v with
   |false=>rfl
   |true=>simp[uW]at h;exact(iH ⟨h.2,by omega⟩).elim
  rw[this]at hO;simp;exact hO _
end
mutual
theorem zDE:∀ v:VT,subst [] v=v
 |.mk k n ks=>by rw[subst,aG (by rintro⟨_,h1,h2⟩;simp at h2;omega),zDC ks]
theorem zDC:∀ l:List VT,uP [] l=l
 |[]=>rfl
 |t::ts=>by rw[uP,zDE t,zDC ts]
end
def zYe:∀(m:Nat) (args:List VT),(∀x∈args,x.ZO≤1000000)→args.length≤1000000→∀(v:VT),(if args=[] then v.ZO else v.ZO+1000001)≤m→v.ZO≤1000000→∀(H:or) (K:AV→or→Prop),K (.agg (subst args v).cs) H→ge tP 213 [.agg v.cs,.sl (VT.css args) .none] H K:=by
 intro m;induction m with
 |zero=>intro args _ _ v h;have:=v.ZB;split at h <;> omega
 |succ m ih=>
  intro args ha ly v hv hb H K hK;obtain⟨k,n,ks⟩:=v;have iM:VT.ZA ks+1≤1000000:=by simpa[VT.ZO]using hb
  have gy:=VT.ZQ ks;refine ge.out (zYc λhs=>?_);by_cases jk:k=4∧0≤n∧n<args.length
  ·obtain⟨rfl,h0,h1⟩:=jk;have hn:n.toNat<args.length:=by omega
   have fI:args≠[]:=by rintro rfl;simp at hn
   have jd:K (.agg (args[n.toNat]).cs) H:=by rw[subst,aN ⟨rfl,h0,h1⟩,aw hn]at hK;exact hK
   have fS:=ha _ (ae hn);simp[VT.cs,QK,h0,h1,hn];rw[aG fI]at hv;refine ge.wk (args':=[.agg (args[n.toNat]).cs,.sl (VT.css []) .none]) ?_ ⟨.rfl',.atom .ZG,trivial⟩;refine ih [] (by simp) (by simp) _ (by simp;omega) fS _ _ ?_;rw[zDE];generalize args[n.toNat]=x at *;obtain⟨k',n',ks'⟩:=x;simp[VT.cs];exact Out.at rfl (af _) hs .rfl' rfl rfl jd
  ·have jd:K (.agg (VT.mk k n (uP args ks)).cs) H:=by rw[subst,aG jk]at hK;exact hK
   have go:∀H1,H1=H++[.cells [I6 k,I6 n,.sl (VT.css ks) .none],.cells [I0,I0,.ZG],.cells [I6 k,I6 n,.ZG]]→Fc (.sl (VT.css args) .none) (.ptr (H.length+1) 0) (.ptr (H.length+2) 0) (.sl (VT.css ks) .none) (I6 ks.length) I0 H1 (Out H.length K):=by
    rintro _ rfl;unfold Fc;refine tM.ownC (cs:=[I6 k,I6 n,.ZG]) (H.length+2) 2 25 3 (by simp) rfl ?_;have e0:(H++[AB.cells [I6 k,I6 n,.sl (VT.css ks) .none],.cells [I0,I0,.ZG],.cells [I6 k,I6 n,.ZG]]).length=H.length+3:=by simp
    rw[e0,zOe,aB];have hJ:∀i X,HSc (H++[.cells [I6 k,I6 n,.sl (VT.css ks) .none],.cells [I0,I0,.ZG],.cells [I6 k,I6 n,.sl X (.own (H.length+3))],.perm 25 3 i]):=λi X=>hs.append (by simp[AB.sc,AV.ZH,AV.ZI]);show Fc (.sl (VT.css args) .none) (.ptr (H.length+1) 0) (.ptr (H.length+2) 0) (.sl (VT.css ks) .none) (I6 ks.length) I0 (H++[.cells [I6 k,I6 n,.sl (VT.css ks) .none],.cells [I0,I0,.ZG],.cells [I6 k,I6 n,.sl [] (.own (H.length+3))],.perm 25 3 0]) (Out H.length K);refine zYa (Inv:=λq t37 H'=>∃i:Nat,i≤ks.length∧q=ks.length-i∧t37=I6 i∧H'=H++[.cells [I6 k,I6 n,.sl (VT.css ks) .none],.cells [I0,I0,.ZG],.cells [I6 k,I6 n,.sl (VT.css ((uP args ks).take i)) (.own (H.length+3))],.perm 25 3 i]) ks.length ?_ ?_
    ·intro _;exact⟨0,by omega,by omega,rfl,by simp[VT.css]⟩
    ·rintro q t37 H' ⟨i,hi,rfl,rfl,rfl⟩ hsc fz fM Kb fB;by_cases fy:i<ks.length
     ·have gB:=VT.ZM (k:=k) (n:=n) fy;have jG:(uP args ks).length=ks.length:=by rw[zW];simp
      have fK:i<(uP args ks).length:=by omega
      have q9:(uP args ks)[i]=subst args ks[i]:=by simp[zW]
      obtain⟨x1,x2,x3,fD,gG,gf,gL⟩:=ve ks[i];simp[QJ,fy,fD,gG,gf,gL];rw[←fD];refine ur (.agg (subst args ks[i]).cs) (λJ=>ih args ha ly ks[i] (by by_cases he:args=[] <;> simp only[he,br,ba]at hv ⊢ <;> omega) (by omega) _ _ ⟨rfl,rfl⟩) ?_;rw[Bu,←q9];simp[uj,uD,uy,jG];refine⟨by omega,⟨by omega,by omega⟩,?_⟩;rw[um (by omega) (by omega),show min i ks.length=i by omega];refine fB _ _ ⟨ks.length-(i+1),by omega,Back.at (J:=[_]) (H2:=H++[.cells [I6 k,I6 n,.sl (VT.css ks) .none],.cells [I0,I0,.ZG],.cells [I6 k,I6 n,.sl (VT.css ((uP args ks).take (i+1))) (.own (H.length+3))],.perm 25 3 (i+1)]) (by rw[Ff fK];simp;rfl) (by simp) (hJ _ _) ?_ ⟨_,rfl,i+1,by omega,rfl,by simp,rfl⟩⟩;simp[J8,AV.sc,AV.ZJ,AV.ZH,AV.ZI]
     ·obtain rfl:i=ks.length:=by omega
      have e:(uP args ks).take ks.length=uP args ks:=am (by rw[zW];simp);rw[e];simp[QJ];exact Out.at rfl (af _) hs (vK.agg (ds:=[I6 k,I6 n,.sl (VT.css (uP args ks)) .none]) ⟨.refl _,.refl _,.sl _ _,trivial⟩) rfl (by simp[AV.ZJ,AV.ZH,AV.ZI]) (by simpa[VT.cs]using jd)
   simp only[VT.cs,QK];by_cases h4:k=4
   ·subst h4;by_cases h0:0≤n
    ·have h1:¬n<args.length:=λh=>jk ⟨rfl,h0,h⟩;simp[h0,h1,ug,uv,aa];exact go _ rfl
    ·simp[h0,ug,uv,aa];exact go _ rfl
   ·have pz:(k == 4)=false:=by simpa using h4
    simp[pz,ug,uv,aa];exact go _ rfl
def KW(args:List VT):AB:=.cells (args.map λx=>.int .i64 x.ZO)
def zX7(args:List VT)(ha:∀ x∈args,x.ZO≤1000000)(ly:args.length≤1000000):∀ (m:Nat) (v:VT),v.ZO≤m→v.ZO≤1000000→∀ (H:or) (id:Nat),H[id]?=some (KW args)→∀ (K:AV→or→Prop),
  (∀r:Nat,(r≤200↔(subst args v).ZO≤200)→(r≤200→r=(subst args v).ZO)→r≤1000000+200*v.ZO→K (I6 r) H)→ge tP 212 [.agg v.cs,.ms id 0 args.length args.length] H K:=by
 intro m;induction m with
 |zero=>intro v h;have:=v.ZB;omega
 |succ m ih=>
  intro v hv hb H id fA K hK;obtain⟨k,n,ks⟩:=v;have iM:VT.ZA ks+1≤1000000:=by simpa[VT.ZO]using hb
  have gy:=VT.ZQ ks;have kJ:=uR fA;refine ge.out (zX5 λhs=>?_);by_cases jk:k=4∧0≤n∧n<args.length
  ·obtain⟨rfl,h0,h1⟩:=jk;have hn:n.toNat<args.length:=by omega
   have kX:subst args (.mk 4 n ks)=args[n.toNat]:=by rw[subst,aN ⟨rfl,h0,h1⟩,aw hn];rfl
   rw[kX]at hK;have hg:(H++[AB.cells [I6 4,I6 n,.sl (VT.css ks) .none]])[id]?=some (KW args):=vq fA;have fS:=ha _ (ae hn);unfold KW at hg;simp[VT.cs,QI,h0,h1,hn,hg,vH];exact Out.int rfl (af _) hs (hK _ bk (λ_=>rfl) (by omega))
  ·have kX:subst args (.mk k n ks)=.mk k n (uP args ks):=by rw[subst,aG jk]
   have hnodes:(subst args (.mk k n ks)).ZO=VT.ZA (uP args ks)+1:=by rw[kX];rfl
   rw[hnodes]at hK;have hO:∀r:Nat,(r≤200↔VT.ZA (uP args ks)+1≤200)→(r≤200→r=VT.ZA (uP args ks)+1)→r≤1000000+200*(VT.mk k n ks).ZO→∀J,Out H.length K (I6 r) (H++J):=λr h1 h2 h3 J=>Out.int rfl (af _) hs (hK r h1 h2 h3);have jG:(uP args ks).length=ks.length:=by rw[zW];simp
   have go:QF (.ms id 0 args.length args.length) I1 (.sl (VT.css ks) .none) (I6 ks.length) I0 (H++[.cells [I6 k,I6 n,.sl (VT.css ks) .none]]) (Out H.length K):=by
    refine zX3 (Inv:=λq t5 t31 H'=>∃i:Nat,i≤ks.length∧q=ks.length-i∧t31=I6 i∧t5=I6 (1+VT.ZA ((uP args ks).take i):Nat)∧1+VT.ZA ((uP args ks).take i)≤200∧H'=H++[.cells [I6 k,I6 n,.sl (VT.css ks) .none]]) ks.length ?_ ?_
    ·intro _;exact⟨0,by omega,by omega,rfl,by simp[VT.ZA],by simp[VT.ZA],rfl⟩
    ·rintro q t5 t31 H' ⟨i,hi,rfl,rfl,rfl,gF,rfl⟩ hsc fz fM Kb fB;by_cases fy:i<ks.length
     ·have gB:=VT.ZM (k:=k) (n:=n) fy;have fK:i<(uP args ks).length:=by omega
      have q9:(uP args ks)[i]=subst args ks[i]:=by simp[zW]
      have h1:=VT.ZE fK;have h2:=VT.ZD (uP args ks) (i+1);rw[q9]at h1;obtain⟨x1,x2,x3,fD,gG,gf,gL⟩:=ve ks[i];simp[QH,fy,fD,gG,gf,gL];rw[←fD];refine ih ks[i] (by omega) (by omega) _ id (vq fA) _ λr i9 ij rS=>?_;simp;rw[um (by omega) (by omega)];by_cases iV:(200:Int)<1+VT.ZA ((uP args ks).take i)+r
      ·simp[iV,J6,QG];have:=hO (1+VT.ZA ((uP args ks).take i)+r) (by constructor <;> intro h <;> omega) (by omega) (by omega);have e:((1+VT.ZA ((uP args ks).take i)+r:Nat):Int)=1+(VT.ZA ((uP args ks).take i):Int)+r:=by omega
       rw[e]at this;exact this _
      ·have hr:r=(subst args ks[i]).ZO:=ij (by omega);simp[iV];rw[um (by omega) (by omega),zD8];refine fB _ _ ⟨ks.length-(i+1),by omega,Back.same (by simp) hsc ?_ ⟨_,_,rfl,i+1,by omega,rfl,by simp,?_,by omega,rfl⟩⟩
       ·simp[J5,AV.sc,AV.ZJ,AV.ZH,AV.ZI];omega
       ·congr 1;omega
     ·obtain rfl:i=ks.length:=by omega
      rw[am (by omega)]at *;simp[QH,J6,QG];have:=hO (1+VT.ZA (uP args ks)) (by omega) (by omega) (by omega);have e:((1+VT.ZA (uP args ks):Nat):Int)=1+(VT.ZA (uP args ks):Int):=by omega
      rw[e]at this;exact this _
   simp only[VT.cs,QI];by_cases h4:k=4
   ·subst h4;by_cases h0:0≤n
    ·have h1:¬n<args.length:=λh=>jk ⟨rfl,h0,h⟩;simp[h0,h1];exact go
    ·simp[h0];exact go
   ·have pz:(k == 4)=false:=by simpa using h4
    simp[pz];exact go
def yc(args:List VT)(i:Nat):List AV:=(args.take i).map (λx=>.int .i64 x.ZO)++List.replicate (args.length-i) I0
def zOo(args:List VT){i:Nat}(h:i≤args.length):(yc args i).length=args.length:=by simp[yc];omega
def zOp(args:List VT){i:Nat}(h:i<args.length):(yc args i).take i++[I6 (args[i]).ZO]++(yc args i).drop (i+1)=yc args (i+1):=by
 have e1:((args.take i).map λx=>AV.int .i64 x.ZO).length=i:=by simp;omega
 unfold yc;rw[db (by omega),am (by omega),d8,aS (by omega),List.nil_append,e1,ag h,a6];congr 1;rw[show i+1-i=1 by omega,List.drop_replicate];congr 1
def zGz(eq:List Dat)(lQ:eq.length≤1000000)(s5:∀ d∈eq,∀ c∈d.cons,c.args.length≤1000∧∀ x∈c.args,x.ZO≤1000)(hdc:∀ d∈eq,d.cons.length≤1000000)(t:VT)(ht:t.ZO≤1000)(c:Int)(H:or)(K:AV→or→Prop)(hK:K (xC (wa eq t c)) H):
  ge tP 167 [.sl (eq.map Dat.cs) .none,.agg t.cs,I6 c] H K:=by
 refine ge.out (zVW λhs=>?_);obtain⟨k,n,ks⟩:=t;have jF:VT.ZA ks+1≤1000:=by simpa[VT.ZO]using ht
 have jV:=VT.ZQ ks;have hF:wa eq (.mk k n ks) c=none→∀J,Out H.length K (.tup [.ZG,.bool false]) (H++J):=λh J=>by rw[h]at hK;exact Out.tup hs hK ⟨xd,uJ rfl rfl,trivial⟩
 simp only[VT.cs,Y8];by_cases h5:k=5;case neg=>
  have:(k != 5)=true:=by simpa using h5
  simp[this,AV.isV];exact hF (by rw[yv,aG (λh=>h5 h.1)]) _
 subst h5;by_cases h0:n<0
 ·simp[h0,AV.isV];exact hF (by rw[yv,aG (λh=>by have:=h.2.1;omega)]) _
 by_cases h1:(eq.length:Int)≤n
 ·simp[h0,h1,AV.isV];exact hF (by
   rw[yv];split
   ·rw[aW (by omega)]
   ·rfl) _
 have hn:n.toNat<eq.length:=by omega
 have iz:n<eq.length:=by omega
 have m7:0≤n:=by omega
 generalize jA:eq[n.toNat]=d at *;have hd:d∈eq:=by rw[←jA];exact ae hn
 have fJ:eq[n.toNat]?=some d:=by rw[aw hn,jA]
 cases hv:((ks.length:Int) == d.vars) with
 |false=>
  have gU:((ks.length:Int) != d.vars)=true:=by simp[bne,hv]
  simp[h0,h1,m7,iz,hn,jA,Dat.cs,gU,AV.isV,fJ];exact hF (by
   rw[yv];split
   ·rw[fJ];simp only;rw[aG (by simpa using hv)]
   ·rfl) _
 |true=>
 have gU:((ks.length:Int) != d.vars)=false:=by simp[bne,hv]
 have s6:(ks.length:Int)=d.vars:=by simpa using hv
 by_cases kE:c<0
 ·simp[h0,h1,m7,iz,hn,jA,Dat.cs,gU,AV.isV,fJ,kE];exact hF (by rw[yv,aG (λh=>by have:=h.2.2;omega)]) _
 have jT:∀o,(match d.cons[c.toNat]? with|some k=>if (k.args.map (subst ks)).all (λx=>decide (x.ZO≤200))=true then some (k.args.map (subst ks)) else none|none=>none)=o→wa eq (.mk 5 n ks) c=o:=λo h=>by rw[yv,aN ⟨rfl,m7,by omega⟩,fJ];simp only;rw[aN s6];exact h
 by_cases gM:(d.cons.length:Int)≤c
 ·simp[h0,h1,m7,iz,hn,jA,Dat.cs,gU,AV.isV,fJ,kE,gM];exact hF (jT none (by rw[aW (by omega)])) _
 have iC:c.toNat<d.cons.length:=by omega
 have ik:c<d.cons.length:=by omega
 have m8:0≤c:=by omega
 generalize iD:d.cons[c.toNat]=co at *;have jy:co∈d.cons:=by rw[←iD];exact ae iC
 have qx:d.cons[c.toNat]?=some co:=by rw[aw iC,iD]
 obtain⟨ly,ra⟩:=s5 d hd co jy;have km:=λo=>jT o;rw[qx]at km;simp only at km;have pG:∀x∈ks,x.ZO≤1000:=λy hy=>aC (Fg (k:=5) (n:=n) y hy) ht;simp[h0,h1,m7,iz,hn,jA,Dat.cs,gU,AV.isV,fJ,kE,gM,m8,ik,iC,iD,vo];refine⟨by omega,?_⟩;have ez:List.replicate ks.length (AV.int .i64 0)=yc ks 0:=by simp[yc]
 rw[ez];have jM:∀(l:List AV),(l.all λa=>a.ZH (H.length+3))=true→HSc (H++[.cells [I6 5,I6 n,.sl (VT.css ks) .none],.cells [.str d.name,I6 d.vars,.sl (d.cons.map Con.cs) .none],.cells l]):=λl hl=>hs.append (by simp[AB.sc];simpa using hl);have hszsc:∀i,((yc ks i).all λa=>a.ZH (H.length+3))=true:=λi=>by
  rw[aA];intro x hx;unfold yc at hx;rcases bg.1 hx with h|h
  ·obtain⟨y,_,rfl⟩:=aF.1 h;rfl
  ·rw[bL h];rfl
 refine zVS (Inv:=λq t61 H'=>∃i:Nat,i≤ks.length∧q=ks.length-i∧t61=I6 i∧H'=H++[.cells [I6 5,I6 n,.sl (VT.css ks) .none],.cells [.str d.name,I6 d.vars,.sl (d.cons.map Con.cs) .none],.cells (yc ks i)]) ks.length ?_ ?_
 ·intro _;exact⟨0,by omega,by omega,rfl,rfl⟩
 ·rintro q t61 H' ⟨i,hi,rfl,rfl,rfl⟩ hsc8 hlen8 hsF8 Kb8 hKb8;by_cases fy:i<ks.length
  ·have fS:=pG _ (ae fy);obtain⟨x1,x2,x3,fD,gG,gf,gL⟩:=ve ks[i];simp[QD,fy,fD,gG,gf,gL];rw[←fD];refine zXX _ _ (af _) (by omega) _ _ ?_;have gy:=zOo ks hi;simp[fy,gy];refine⟨by omega,?_⟩;rw[um (by omega) (by omega)];have e:=zOp ks fy;rw[aB,List.singleton_append]at e;rw[e];refine hKb8 _ _ ⟨ks.length-(i+1),by omega,Back.at (J:=[_]) (H2:=H++[.cells [I6 5,I6 n,.sl (VT.css ks) .none],.cells [.str d.name,I6 d.vars,.sl (d.cons.map Con.cs) .none],.cells (yc ks (i+1))]) (by simp;rfl) (by simp) (jM _ (hszsc _)) ?_ ⟨_,rfl,i+1,by omega,rfl,by simp,rfl⟩⟩;simp[JY,AV.sc,AV.ZJ,AV.ZH,AV.ZI]
  ·obtain rfl:i=ks.length:=by omega
   have efull:yc ks ks.length=ks.map λx=>.int .i64 x.ZO:=by simp[yc]
   have nc:=hsc8;rw[efull]at nc ⊢;simp[QD,m8,ik,iC,iD,Con.cs,qx];refine zVQ (Inv:=λq t79 H'=>∃i:Nat,i≤co.args.length∧q=co.args.length-i∧t79=I6 i∧(∀x∈co.args.take i,(subst ks x).ZO≤200)∧H'=H++[.cells [I6 5,I6 n,.sl (VT.css ks) .none],.cells [.str d.name,I6 d.vars,.sl (d.cons.map Con.cs) .none],.cells (ks.map λx=>.int .i64 x.ZO)]) co.args.length ?_ ?_
   ·intro _;exact⟨0,by omega,by omega,rfl,by simp,rfl⟩
   ·rintro q t79 H' ⟨i,hi,rfl,rfl,fX,rfl⟩ hsc13 hlen13 hsF13 Kb13 jZ;by_cases fy:i<co.args.length
    ·have gu:=ae fy;obtain⟨x1,x2,x3,fD,gG,gf,gL⟩:=ve co.args[i];simp[QC,fy,fD,gG,gf,gL];rw[←fD];refine zX7 ks (λy hy=>by have:=pG y hy;omega) (by omega) _ co.args[i] (af _) (by have:=ra _ gu;omega) _ (H.length+2) (by simp[KW]) _ λr i9 ij rS=>?_;by_cases iV:r≤200
     ·have gO:¬ (200:Int)<r:=by omega
      simp[gO];rw[um (by omega) (by omega)];refine jZ _ _ ⟨co.args.length-(i+1),by omega,Back.at (J:=[_]) (H2:=H++[.cells [I6 5,I6 n,.sl (VT.css ks) .none],.cells [.str d.name,I6 d.vars,.sl (d.cons.map Con.cs) .none],.cells (ks.map λx=>.int .i64 x.ZO)]) (by simp;rfl) (by simp) nc ?_ ⟨_,rfl,i+1,by omega,rfl,by simp,zBQ fy fX (i9.1 iV),rfl⟩⟩;simp[JZ,AV.sc,AV.ZJ,AV.ZH,AV.ZI]
     ·have gO:(200:Int)<r:=by omega
      simp[gO,AV.isV];refine hF (km none ?_) _;rw[aG];intro pA;have:=aA.1 pA (subst ks co.args[i]) (aF.2 ⟨_,gu,rfl⟩);exact iV (i9.2 (c6 this))
    ·obtain rfl:i=co.args.length:=by omega
     rw[az]at fX;have mG:=km (some (co.args.map (subst ks))) (aN (aA.2 λy hy=>by
      obtain⟨x,hx,rfl⟩:=aF.1 hy;exact bG (fX x hx)))
     rw[mG]at hK;simp[QC,m8,ik,iC,iD,Con.cs,qx];unfold J1;refine tM.own 14 25 3 rfl ?_;have g8:(H++[AB.cells [I6 5,I6 n,.sl (VT.css ks) .none],.cells [.str d.name,I6 d.vars,.sl (d.cons.map Con.cs) .none],.cells (ks.map λx=>.int .i64 x.ZO)]).length=H.length+3:=by simp
     rw[g8];have fO:∀m,HSc (H++[.cells [I6 5,I6 n,.sl (VT.css ks) .none],.cells [.str d.name,I6 d.vars,.sl (d.cons.map Con.cs) .none],.cells (ks.map λx=>.int .i64 x.ZO),.perm 25 3 m]):=λm=>by have:=nc.append (J:=[.perm 25 3 m]) rfl;simpa using this
     rw[aB];show J1 (.ptr H.length 0) (.sl [] (.own (H.length+3))) (.sl (VT.css co.args) .none) (I6 co.args.length) I0 (H++[.cells [I6 5,I6 n,.sl (VT.css ks) .none],.cells [.str d.name,I6 d.vars,.sl (d.cons.map Con.cs) .none],.cells (ks.map λx=>.int .i64 x.ZO),.perm 25 3 0]) (Out H.length K);refine zVR (Inv:=λq t14 t95 H'=>∃i:Nat,i≤co.args.length∧q=co.args.length-i∧t95=I6 i∧t14=.sl (VT.css ((co.args.map (subst ks)).take i)) (.own (H.length+3))∧H'=H++[.cells [I6 5,I6 n,.sl (VT.css ks) .none],.cells [.str d.name,I6 d.vars,.sl (d.cons.map Con.cs) .none],.cells (ks.map λx=>.int .i64 x.ZO),.perm 25 3 i]) co.args.length ?_ ?_
     ·intro _;exact⟨0,by omega,by omega,rfl,by simp[VT.css],rfl⟩
     ·rintro q t14 t95 H' ⟨i,hi,rfl,rfl,rfl,rfl⟩ hsc20 hlen20 hsF20 Kb20 nf;by_cases fy:i<co.args.length
      ·have gu:=ae fy;obtain⟨x1,x2,x3,fD,gG,gf,gL⟩:=ve co.args[i];simp[QB,fy,fD,gG,gf,gL];rw[←fD];refine zYe _ ks (λy hy=>by have:=pG y hy;omega) (by omega) co.args[i] (af _) (by have:=ra _ gu;omega) _ _ ?_;rw[Bu];simp[uj,uD,uy];refine⟨by omega,⟨by omega,by omega⟩,?_⟩;rw[um (by omega) (by omega),show min i co.args.length=i by omega];refine nf _ _ ⟨co.args.length-(i+1),by omega,Back.at (H2:=H++[.cells [I6 5,I6 n,.sl (VT.css ks) .none],.cells [.str d.name,I6 d.vars,.sl (d.cons.map Con.cs) .none],.cells (ks.map λx=>.int .i64 x.ZO),.perm 25 3 (i+1)]) (J:=[_]) (by simp;rfl) (by simp) (fO _) ?_ ⟨_,_,rfl,i+1,by omega,rfl,by simp,?_,rfl⟩⟩
       ·simp[J0,AV.sc,AV.ZJ,AV.ZH,AV.ZI]
       ·rw[Ff (by simpa using fy)];simp
      ·obtain rfl:i=co.args.length:=by omega
       rw[am (by simp)];simp[QB,AV.isV];exact Out.tup hs hK ⟨slV,uJ rfl rfl,trivial⟩
def Fm(i:Nat):VT→Bool
 |.mk k n ks=>k == 4 && n == i && ks.length == 0
def xP:List VT→Nat→Bool
 |[],_=>true
 |x::l,i=>Fm i x && xP l (i+1)
def wM(d vars:Int):VT→Bool
 |.mk k n ks=>k == 5 && n == d && (ks.length:Int) == vars && xP ks 0
mutual
def xQ(d:Int):VT→Bool
 |.mk k n ks=>(k == 5 && n == d) || AJ d ks
def AJ(d:Int):List VT→Bool
 |[]=>false
 |t::ts=>xQ d t || AJ d ts
end
def zzt(v:VT)(d vars:Int)(hb:v.ZO≤1000000)(H:or)(K:AV→or→Prop)(hK:K (.bool (wM d vars v)) H):ge tP 93 [.agg v.cs,I6 d,I6 vars] H K:=by
 refine ge.out (yfi λhs=>?_);obtain⟨k,n,ks⟩:=v;have iM:VT.ZA ks+1≤1000000:=by simpa[VT.ZO]using hb
 have gy:=VT.ZQ ks;have hO:∀J,Out H.length K (.bool (k == 5 && n == d && (ks.length:Int) == vars && xP ks 0)) (H++J):=λJ=>Out.bool rfl (af _) hs (by simpa[wM]using hK);simp only[VT.cs,zJH];cases h5:(k == 5) with
 |false=>
  have:(k != 5)=true:=by simp[bne,h5]
  rw[h5]at hO;simp[this];exact hO _
 |true=>
 have ng:(k != 5)=false:=by simp[bne,h5]
 cases hn:(n == d) with
 |false=>
  have:(n != d)=true:=by simp[bne,hn]
  rw[h5,hn]at hO;simp[ng,this];exact hO _
 |true=>
 have iO:(n != d)=false:=by simp[bne,hn]
 cases hv:((ks.length:Int) == vars) with
 |false=>
  have:((ks.length:Int) != vars)=true:=by simp[bne,hv]
  rw[h5,hn,hv]at hO;simp[ng,iO,this];exact hO _
 |true=>
 have gU:((ks.length:Int) != vars)=false:=by simp[bne,hv]
 rw[h5,hn,hv]at hO;simp only[bE]at hO;simp[ng,iO,gU];refine yfg (Inv:=λq t7 H'=>∃i:Nat,i≤ks.length∧q=ks.length-i∧t7=I6 i∧xP (ks.drop i) i=xP ks 0∧H'=H++[.cells [I6 k,I6 n,.sl (VT.css ks) .none]]) ks.length ?_ ?_
 ·intro _;exact⟨0,by omega,by omega,rfl,by simp,rfl⟩
 ·rintro q t7 H' ⟨i,hi,rfl,rfl,ho,rfl⟩ hsc fz fM Kb fB;by_cases fy:i<ks.length
  ·rw[ai fy,xP]at ho;obtain⟨k',n',ks',hx⟩:∃ k' n' ks',ks[i]=.mk k' n' ks':=by cases h:ks[i] with | mk a b c=>exact⟨a,b,c,rfl⟩
   rw[hx,Fm]at ho;cases g1:(k' == 4) with
   |false=>
    have:(k' != 4)=true:=by simp[bne,g1]
    rw[g1]at ho;simp only[bm]at ho;rw[←ho]at hO;simp[Db,fy,hx,VT.cs,this];exact hO _
   |true=>
   have g1':(k' != 4)=false:=by simp[bne,g1]
   cases g2:(n' == (i:Int)) with
   |false=>
    have:(n' != (i:Int))=true:=by simp[bne,g2]
    rw[g1,g2]at ho;simp only[bm,bR]at ho;rw[←ho]at hO;simp[Db,fy,hx,VT.cs,g1',this];exact hO _
   |true=>
   have g2':(n' != (i:Int))=false:=by simp[bne,g2]
   by_cases g3:ks'.length=0
   ·have g3':¬ (0:Int)<ks'.length:=by omega
    have g3'':¬ 0<ks'.length:=by omega
    rw[g1,g2,g3]at ho;simp only[bE,BEq.rfl]at ho;simp[Db,fy,hx,VT.cs,g1',g2',g3',g3''];rw[um (by omega) (by omega)];refine fB _ _ ⟨ks.length-(i+1),by omega,Back.here (by simp) hsc ?_ ⟨_,rfl,i+1,by omega,rfl,by simp,ho,rfl⟩⟩;simp[Ko,AV.sc,AV.ZJ,AV.ZH,AV.ZI]
   ·have g3':(0:Int)<ks'.length:=by omega
    have g3'':0<ks'.length:=by omega
    have g4:(ks'.length == 0)=false:=by simpa using g3
    rw[g4]at ho;simp only[bR,bm]at ho;rw[←ho]at hO;simp[Db,fy,hx,VT.cs,g1',g2',g3',g3''];exact hO _
  ·obtain rfl:i=ks.length:=by omega
   rw[aV,xP]at ho;rw[←ho]at hO;simp[Db];exact hO _
def zKZ:y9 tP 247=true:=by kernel_rfl
theorem zBT(d:Int):∀ l:List VT,AJ d l=l.any (xQ d)
 |[]=>rfl
 |t::ts=>by simp[AJ,zBT d ts]
def zY1(d:Int):∀(m:Nat) (v:VT),v.ZO≤m→v.ZO≤1000000→∀(H:or) (K:AV→or→Prop),K (.bool (xQ d v)) H→ge tP 228 [.agg v.cs,I6 d] H K:=by
 intro m;induction m with
 |zero=>intro v h;have:=v.ZB;omega
 |succ m ih=>
  intro v hv hb H K hK;obtain⟨k,n,ks⟩:=v;have iM:VT.ZA ks+1≤1000000:=by simpa[VT.ZO]using hb
  have gy:=VT.ZQ ks;refine ge.out (zY0 λhs=>?_);have hO:∀ J,Out H.length K (.bool ((k == 5 && n == d) || ks.any (xQ d))) (H++J):=λJ=>Out.bool rfl (af _) hs (by simpa[xQ,zBT]using hK);have go:(k == 5 && n == d)=false→∀ KK:AV→or→Prop,(∀ b,Out H.length K (.bool b) (H++[.cells [I6 k,I6 n,.sl (VT.css ks) .none],.cells [I6 d]])→KK (.bool b) (H++[.cells [I6 k,I6 n,.sl (VT.css ks) .none],.cells [I6 d]])) →
    ge tP 202 [.sl (VT.css ks) .none,.fn 247 [.ptr (H.length+1) 0]] (H++[.cells [I6 k,I6 n,.sl (VT.css ks) .none],.cells [I6 d]]) KK:=by
   intro iH KK hKK;rw[iH,bJ]at hO;refine Rx ks (by omega) _ _ _ (by simp[AV.sc,AV.ZJ,AV.ZH,AV.ZI]) (λi H'=>(ks.drop i).any (xQ d)=ks.any (xQ d)∧H'=H++[.cells [I6 k,I6 n,.sl (VT.css ks) .none],.cells [I6 d]]) ⟨by simp,rfl⟩ ?_ ?_
   ·rintro i hi H' fS ⟨ho,rfl⟩;have gB:=VT.ZM (k:=k) (n:=n) hi;rw[ai hi,List.any_cons]at ho;simp only[aCallV,zKZ,List.singleton_append];refine ge.out (zZm λf9=>?_);obtain⟨x1,x2,x3,fD,gG,gf,gL⟩:=ve ks[i];simp[zHA,fD];rw[←fD];refine ih ks[i] (by omega) (by omega) _ _ ?_;refine Out.bool (J:=[_]) (H2:=H++[.cells [I6 k,I6 n,.sl (VT.css ks) .none],.cells [I6 d]]) (by simp;rfl) (by simp) f9 ?_;cases hb:xQ d ks[i] with
    |false=>rw[hb,bJ]at ho;exact .inl ⟨rfl,ho,rfl⟩
    |true=>rw[hb,fk]at ho;rw[←ho]at hO;exact .inr ⟨rfl,hKK _ (hO _)⟩
   ·rintro H' ⟨ho,rfl⟩;rw[aV,List.any_nil]at ho;rw[←ho]at hO;exact hKK _ (hO _)
  simp only[VT.cs,zHu];cases h5:(k == 5) with
  |false=>simp[h5,AV.isB];refine go (by rw[h5];rfl) _ λb hb=>?_;simpa using hb
  |true=>
   cases hn:(n == d) with
   |false=>simp[h5,hn,AV.isB];refine go (by rw[hn];simp) _ λb hb=>?_;simpa using hb
   |true=>rw[h5,hn]at hO;simp[h5,hn];exact hO _
def wh(l:List Bool):List AV:=l.map AV.bool
@[simp] theorem yh7(l:List Bool):(wh l).length=l.length:=by simp[wh]
def zKW(n:Nat):(List.replicate n [AV.bool false]).flatten=wh (List.replicate n false):=by
 induction n with
 |zero=>rfl
 |succ n ih=>simp[List.replicate_succ,ih,wh]
def zAi{l:List Bool}{i:Nat}(h:i<l.length)(b:Bool):(wh l).take i++.bool b::(wh l).drop (i+1)=wh (l.set i b):=by simp[wh,bx,h]
def zAh(m:Nat)(l:List Bool):(wh l).all (AV.ZH m)=true:=by simp[wh]
theorem zCD:∀ l:List Bool,plain (wh l)=some (l.map λb=>[AV.bool b]).flatten
 |[]=>rfl
 |b::l=>by have:=zCD l;simp[wh]at this ⊢;simp[plain,this,AV.pd]
def Ry(eq:List Dat)(d:Nat)(c:Nat)(hd:d<eq.length)(hc:c<(eq[d]).cons.length)(hl:eq.length≤1000000)(gN:(eq[d]).cons.length≤1000000)(ly:((eq[d]).cons[c]).args.length≤1000000)(hb:∀ x∈((eq[d]).cons[c]).args,x.ZO≤1000000)(H:or)(K:AV→or→Prop)(hK:K (.sl (((eq[d]).cons[c]).args.map λt=>[.bool (wM d (eq[d]).vars t)]) .none) H):
  ge tP 168 [.sl (eq.map Dat.cs) .none,I6 d,I6 c] H K:=by
 refine ge.out (zV2 λhs=>?_);have e1:(eq.map Dat.cs)[d]?=some (eq[d]).cs:=by simp[hd]
 have e2:((eq[d]).cons.map Con.cs)[c]?=some ((eq[d]).cons[c]).cs:=by simp[hc]
 generalize hD:eq[d]=D at *;generalize hA:D.cons[c]=C at *;have h1:¬(d:Int)<0:=by omega
 have h2:¬(eq.length:Int)≤d:=by omega
 have h3:¬(c:Int)<0:=by omega
 have h4:¬(D.cons.length:Int)≤c:=by omega
 simp[zGA,h1,h2,h3,h4,e1,e2,Dat.cs,Con.cs,hd,hD,hc,hA];simp only[vo,Int.toNat_natCast,zKW];refine⟨⟨by omega,by omega,by omega,by omega⟩,?_⟩;refine zV0 (Inv:=λq t49 H'=>∃(i:Nat) (bs:List Bool),i≤C.args.length∧q=C.args.length-i∧t49=I6 i∧bs.length=C.args.length∧(∀j (hj:j<i) (h':j<C.args.length),bs[j]?=some (wM d D.vars C.args[j]))∧H'=H++[.cells (wh bs)]) C.args.length ?_ ?_
 ·intro _;exact⟨0,_,by omega,by omega,rfl,by simp,by omega,rfl⟩
 ·rintro q t49 H' ⟨i,bs,hi,rfl,rfl,iy,re,rfl⟩ hsc fz fM Kb fB;by_cases fy:i<C.args.length
  ·obtain⟨k,n,ks,hx⟩:∃ k n ks,C.args[i]=.mk k n ks:=by cases h:C.args[i] with | mk a b c=>exact⟨a,b,c,rfl⟩
   have mU:=hb _ (ae fy);rw[hx,VT.ZO]at mU;have gy:=VT.ZQ ks;have inner:∀ b0:Bool,b0=(k == 5 && n == (d:Int) && (ks.length:Int) == D.vars) →
     QU (.sl (eq.map Dat.cs) .none) (I6 d) (.ms H.length 0 C.args.length C.args.length) (I6 i) (.sl (VT.css C.args) .none) (I6 C.args.length) (I6 i) (.sl (VT.css ks) .none) (I6 ks.length) I0
      (H++[.cells (wh (bs.set i b0)),.cells [I6 k,I6 n,.sl (VT.css ks) .none]]) (Out H.length K) Kb:=by
    intro b0 gk;refine zVZ (Inv:=λq t80 H'=>∃(j:Nat) (b:Bool),j≤ks.length∧q=ks.length-j∧t80=I6 j∧(b && xP (ks.drop j) j)=wM d D.vars C.args[i]∧H'=H++[.cells (wh (bs.set i b)),.cells [I6 k,I6 n,.sl (VT.css ks) .none]]) ks.length ?_ ?_
    ·intro _;exact⟨0,b0,by omega,by omega,rfl,by simp[hx,wM,gk],rfl⟩
    ·rintro q t80 H' ⟨j,b,hj,rfl,rfl,k9,rfl⟩ iX g8 pH Kb1 lC;have hsc0:∀ b:Bool,HSc (H++[.cells (wh (bs.set i b))]):=λb=>hs.snoc (by simp[AB.sc,zAh]);have gw:∀ b:Bool,HSc (H++[.cells (wh (bs.set i b)),.cells [I6 k,I6 n,.sl (VT.css ks) .none]]):=λb=>hs.append (by simp[AB.sc,zAh]);by_cases fU:j<ks.length
     ·obtain⟨k',n',ks',mv⟩:∃ k' n' ks',ks[j]=.mk k' n' ks':=by cases h:ks[j] with | mk a b c=>exact⟨a,b,c,rfl⟩
      have sS:i<bs.length:=by omega
      rw[ai fU,xP,mv,Fm]at k9;have lY:∀ (b':Bool) J,(b' && xP (ks.drop (j+1)) (j+1))=wM d D.vars C.args[i]→QV (.sl (eq.map Dat.cs) .none) (I6 d) (.ms H.length 0 C.args.length C.args.length) (I6 i) (.sl (VT.css C.args) .none) (I6 C.args.length) (I6 i) (.sl (VT.css ks) .none) (I6 ks.length) (I6 j)
        (H++.cells (wh (bs.set i b'))::.cells [I6 k,I6 n,.sl (VT.css ks) .none]::J) (Out H.length K) Kb Kb1:=by
       intro b' J nh;simp[QV];rw[um (by omega) (by omega)];refine lC _ _ ⟨ks.length-(j+1),by omega,Back.at (J:=J) (H2:=H++[.cells (wh (bs.set i b')),.cells [I6 k,I6 n,.sl (VT.css ks) .none]]) (by simp) (by simp) (gw _) ?_ ⟨_,rfl,j+1,b',by omega,rfl,by simp,nh,rfl⟩⟩;simp[Km,AV.sc,AV.ZJ,AV.ZH,AV.ZI]
      have il:∀l,List.take i (wh (bs.set i b))++.bool false::List.drop (i+1) (wh (bs.set i b))=l→l=wh (bs.set i false):=by rintro _ rfl;rw[zAi (by simpa using sS)];simp
      cases g1:(k' == 4) with
      |false=>
       have:(k' != 4)=true:=by simp[bne,g1]
       rw[g1]at k9;simp[Da,C9,fU,mv,VT.cs,this,fy,iy,il _ rfl];refine⟨by omega,lY _ _ ?_⟩;simpa using k9.symm
      |true=>
      have g1':(k' != 4)=false:=by simp[bne,g1]
      cases g2:(n' == (j:Int)) with
      |false=>
       have:(n' != (j:Int))=true:=by simp[bne,g2]
       rw[g1,g2]at k9;simp[Da,C9,fU,mv,VT.cs,g1',this,fy,iy,il _ rfl];refine⟨by omega,lY _ _ ?_⟩;simpa using k9.symm
      |true=>
      have g2':(n' != (j:Int))=false:=by simp[bne,g2]
      by_cases g3:ks'.length=0
      ·have g3':¬ (0:Int)<ks'.length:=by omega
       have g3'':¬ 0<ks'.length:=by omega
       simp[Da,C9,fU,mv,VT.cs,g1',g2',g3',g3''];refine lY _ _ ?_;simpa[g1,g2,g3]using k9
      ·have g3':(0:Int)<ks'.length:=by omega
       have g3'':0<ks'.length:=by omega
       have g4:(ks'.length == 0)=false:=by simpa using g3
       rw[g4]at k9;simp[Da,C9,fU,mv,VT.cs,g1',g2',g3',g3'',fy,iy,il _ rfl];refine⟨by omega,lY _ _ ?_⟩;simpa using k9.symm
     ·obtain rfl:j=ks.length:=by omega
      rw[aV,xP,cV]at k9;simp[Da];rw[um (by omega) (by omega)];refine fB _ _ ⟨C.args.length-(i+1),by omega,Back.at (J:=[.cells [I6 k,I6 n,.sl (VT.css ks) .none]]) (H2:=H++[.cells (wh (bs.set i b))]) (by simp) (by simp) (hsc0 _) ?_ ⟨_,rfl,i+1,bs.set i b,by omega,rfl,by simp,by simpa using iy,?_,rfl⟩⟩
      ·simp[Kl,AV.sc,AV.ZJ,AV.ZH,AV.ZI]
      ·intro j hj h';by_cases jt:j=i
       ·subst jt;rw[←k9];simp[iy,fy]
       ·rw[aj (by omega)];exact re j (by omega) h'
   have il:∀b l,List.take i (wh bs)++.bool b::List.drop (i+1) (wh bs)=l→l=wh (bs.set i b):=by rintro b _ rfl;rw[zAi (by omega)]
   cases h5:(k == 5) with
   |false=>simp[Fe,fy,hx,VT.cs,e1,hd,hD,Dat.cs,h5,iy,il _ _ rfl];refine⟨by omega,inner _ ?_⟩;simp[h5]
   |true=>
   cases hn:(n == (d:Int)) with
   |false=>simp[Fe,fy,hx,VT.cs,e1,hd,hD,Dat.cs,h5,hn,iy,il _ _ rfl];refine⟨by omega,inner _ ?_⟩;simp[h5,hn]
   |true=>simp[Fe,fy,hx,VT.cs,e1,hd,hD,Dat.cs,h5,hn,iy,il _ _ rfl];refine⟨by omega,inner _ ?_⟩;simp[h5,hn]
  ·obtain rfl:i=C.args.length:=by omega
   simp[Fe];have nL:bs=C.args.map (wM d D.vars):=by refine bU (by simpa using iy) λj h1 h2=>?_;have:=re j (by omega) (by omega);rw[aw h1]at this;simpa using this
   subst nL;refine⟨_,H,_,rfl,af _,hs,.one (.frz H.length 0 _ _ 1 (wh (C.args.map (wM d D.vars))) (C.args.map λt=>[.bool (wM d D.vars t)]) (af _) (by simp) (by simp) ?_ (by simp) (by simp) (af _)),hK⟩;rw[bA,am (by simp),zCD,d5];rfl
def wN(b:UInt8):Bool:=decide (97≤(b.toNat:Int)) && decide ((b.toNat:Int)≤122)
def bUp(b:UInt8):Bool:=decide (65≤(b.toNat:Int)) && decide ((b.toNat:Int)≤90)
def vh(b:UInt8):Bool:=decide (48≤(b.toNat:Int)) && decide ((b.toNat:Int)≤57)
def bIn(b:UInt8):Bool:=wN b || bUp b || vh b || b == 95
def yL(b:UInt8):Bool:=b == 9 || b == 10 || b == 13 || b == 32
def wZ:List UInt8→Int→Bool
 |[],_=>true
 | b::l,n=>let m:=n*10+((b.toNat:Int)-48)
  if m>1000000 then false else wZ l m
def yM(r:List UInt8):Bool:=r.take 2 == [45,62] || r.take 2 == [60,61] || r.take 2 == [61,61]
def sgns:List UInt8:=[40,41,44,61,124,43,45,42,47,37,60,59,95]
def sgn(r:List UInt8):Nat:=
 if yM r=true then 2 else match r with
 |[]=>0
 |b::_=>if sgns.contains b=true then 1 else 0
structure Tk where
 kind:Int
 text:List UInt8
 pos:Nat
def tok(kw:List UInt8→Bool)(b:UInt8)(r:List UInt8):Except Int (Int×Nat):=
 if (wN b || bUp b)=true then
  let n:=(r.takeWhile bIn).length+1
  if n>24 then .error 9 else .ok (if bUp b=true then 2 else if kw ((b::r).take n)=true then 4 else 1,n)
 else if vh b=true then
  let n:=(r.takeWhile vh).length+1
  if b == 48 && decide (n>1) then .error 2 else if wZ ((b::r).take n) 0=true then .ok (3,n) else .error 9
 else
  let n:=sgn (b::r)
  if n=0 then .error 2 else .ok (5,n)
def Rz{kw:List UInt8→Bool}{b:UInt8}{r:List UInt8}{k:Int}{n:Nat}(h:tok kw b r=.ok (k,n)):0<n:=by
 unfold tok at h;split at h
 ·simp only at h;split at h <;> simp at h;omega
 ·split at h
  ·simp only at h;split at h
   ·simp at h
   ·split at h <;> simp at h;omega
  ·simp only at h;split at h <;> simp at h;omega
def wd(kw:List UInt8→Bool)(r:List UInt8)(pos:Nat):Except (Nat×Int) (List Tk):=
 match r with
 |[]=>.ok [⟨6,[],pos⟩]
 |b::r'=>
  if yL b=true then wd kw r' (pos+1)
  else if b == 35 then wd kw (r'.dropWhile (· != 10)) (pos+1+(r'.takeWhile (· != 10)).length)
  else match tok kw b r' with
   |.error e=>.error (pos,e)
   | .ok (k,n)=>match wd kw (r'.drop (n-1)) (pos+n) with
    |.error e=>.error e
    |.ok l=>.ok (⟨k,(b::r').take n,pos⟩::l)
termination_by r.length
decreasing_by
 ·simp
 ·have:=(List.dropWhile_sublist (p:=(· != 10)) (l:=r')).length_le;simp;omega
 ·simp;omega
section
variable (t0 t5 t6 t7 t8 t9:AV) (H:or) (K:Kt) (Kb5 Kb9 Kb10 Kb18 Kb29:Lt)
def BC:Nat→List Bool|5=>rl false [0,1,4,2,54]|9=>rl false [0,1,4,2,54]|_=>[]
noncomputable def zxm:=bd Tryz.f227
def Di:=t0::ux 4 (t5::t6::ux 54 [])
def zHt:=BC 5
noncomputable def RA:=uc [1,0,1,1,1,1,0,0,0] zxm
def zHq:=ud tP BC [1,0,1,1,1,1,0,0] zxm (uq tP Tryz.f227.results.toList K)
def KX:=tM tP RA (zHq K) (Di t0 t5 t6) H
def Dj(t0 t5 t6:AV)(H:or)(K:Kt)(Kb5:Lt):Prop:=Kb5 (Di t0 t5 t6) H
def KY:=t0::ux 4 (t5::t6::ux 54 [])
def zYV:=BC 9
noncomputable def zYS:=uc [1,0,1,0,1,0,0,0,0] RA
def zYR:=ud tP BC [1,0,1,0,1,0,0,0] RA (vz zHt Kb5 (zHq K))
def zHs:=tM tP zYS (zYR K Kb5) (KY t0 t5 t6) H
def zHr:=tV 0 t0 λt57=>ug [I0,(.str []),I0] [(0,1),(1,1),(2,1)] [(0,(I6 6)),(2,t57)] λt58=>uk 3 [I0,(.str []),I0] 1 [(0,t58)] λt59=>uj 274 3 32 t5 t59 H λt60 H=>ut [t60,I0,I0] (K · H)
def KZ:=zHr t0 t5 H K
def RB:=tV 0 t0 λt28=>gt .lss false t6 t28 λt29=>tO t29 (wl t0 t6 λt34=>gt .eql false t34 (.int .u8 10) λt35=>tO t35 (Dj t0 t5 t6 H K Kb5) (gt .add false t6 I1 λt31=>Kb9 (KY t0 t5 t31) H)) (KZ t0 t5 H K)
def RC:=tV 0 t0 λt14=>gt .lss false t6 t14 λt15=>tO t15 (wl t0 t6 λt18=>ge tP 245 [t18] H λt19 H=>tO t19 (gt .add false t6 I1 λt21=>Dj t0 t5 t21 H K Kb5) (wl t0 t6 λt24=>gt .eql false t24 (.int .u8 35) λt25=>tO t25 (zHs t0 t5 t6 H K Kb5) (ge tP 246 [t0,t6] H λt39 H=>uo t39 0 λt40=>uo t39 1 λt41=>un [I0,(.str []),I0] H λt7 H=>ua 3 t7 t40 H λH=>gt .neq false t41 I0 λt43=>tO t43 (ut [.ZG,t6,t41] (K · H)) (tL true 3 t7 H λt47=>uk 3 [I0,(.str []),I0] 1 [(0,t47)] λt48=>uj 274 3 32 t5 t48 H λt49 H=>tN 1 t7 λt51=>tL false 1 t51 H λt52=>tV 0 t52 λt53=>gt .add false t6 t53 λt54=>Dj t0 t49 t54 H K Kb5)))) (KZ t0 t5 H K)
def RD:=tV 0 t0 λt10=>gt .gtr false t10 (I6 16384) λt11=>tO t11 (ut [.ZG,I0,(I6 9)] (K · H)) (KX t0 .ZG I0 H K)
def yx:Nat→List Bool|5=>rl false [0,1,4,2,193]|10=>rl false [0,1,4,2,193]|18=>rl false [0,1,4,4,191]|29=>rl false [0,1,4,4,191]|_=>[]
noncomputable def zvI:=bd Tryz.f145
def BD:=t0::ux 4 (t5::t6::ux 193 [])
def K0:=yx 5
noncomputable def BE:=uc [1,1,1,0,1,0,0] zvI
def K1:=ud tP yx [1,1,1,0,1,0] zvI (uq tP Tryz.f145.results.toList K)
def K2:=tM tP BE (K1 K) (BD t0 t5 t6) H
def AK(t0 t5 t6:AV)(H:or)(K:Kt)(Kb5:Lt):Prop:=Kb5 (BD t0 t5 t6) H
def K3:=t0::ux 4 (t5::t6::ux 193 [])
def zTG:=yx 10
noncomputable def zTz:=uc [1,0,1,1,0,1,0,0,0,0] BE
def zTw:=ud tP yx [1,0,1,1,0,1,0,0,0] BE (vz K0 Kb5 (K1 K))
def zFE:=tM tP zTz (zTw K Kb5) (K3 t0 t5 t6) H
def RE:=tV 0 t0 λt42=>gt .lss false t6 t42 λt43=>agm t43 true H t0 λt45 H=>agm t43 true H t6 λt46 H=>agu t43 true H (wl t45 t46) λt47 H=>agu t43 true H (gt .neq false t47 (.int .u8 10)) λt48 H=>tZ t43 t48 (.bool false) λt49=>tO t49 (gt .add false t6 I1 λt51=>Kb10 (K3 t0 t5 t51) H) (AK t0 t5 t6 H K Kb5)
def Fo:=t0::ux 4 (t5::t6::t7::t8::ux 191 [])
def zTH:=yx 18
noncomputable def zTA:=uc [1,0,1,1,1,1,0,0,1,0,0,0,0] BE
def zTx:=ud tP yx [1,0,1,1,1,1,0,0,1,0,0,0] BE (vz K0 Kb5 (K1 K))
def RF:=tM tP zTA (zTx K Kb5) (Fo t0 t5 t6 t7 t8) H
def Fp:=gt .add false t6 t8 λt193=>AK t0 t5 t193 H K Kb5
def AL:=Fp t0 t5 t6 t8 H K Kb5
def AM:=gt .add false t6 t8 λt135=>uF 0 0 t0 (some t6) (some t135) λt136=>ug [I0,(.str []),I0] [(0,1),(1,1),(2,1)] [(0,t9),(1,t136),(2,t6)] λt138=>uk 3 [I0,(.str []),I0] 1 [(0,t138)] λt139=>uj 197 3 32 t5 t139 H λt140 H=>AL t0 t140 t6 t8 H K Kb5
def RG:=gt .add false t6 t8 λt79=>tV 0 t0 λt81=>gt .lss false t79 t81 λt82=>agm t82 true H t0 λt84 H=>agm t82 true H t6 λt85 H=>agm t82 true H t8 λt86 H=>agu t82 true H (gt .add false t85 t86) λt87 H=>agu t82 true H (wl t84 t87) λt88 H=>agc tP t82 true H 188 [t88] λt89 H=>agm t82 true H t89 λt90 H=>agm t90 false H t0 λt91 H=>agm t90 false H t6 λt92 H=>agm t90 false H t8 λt93 H=>agu t90 false H (gt .add false t92 t93) λt94 H=>agu t90 false H (wl t91 t94) λt95 H=>agc tP t90 false H 189 [t95] λt96 H=>agu t82 true H (tZ t90 (.bool true) t96) λt97 H=>agm t82 true H t97 λt98 H=>agm t98 false H t0 λt99 H=>agm t98 false H t6 λt100 H=>agm t98 false H t8 λt101 H=>agu t98 false H (gt .add false t100 t101) λt102 H=>agu t98 false H (wl t99 t102) λt103 H=>agc tP t98 false H 190 [t103] λt104 H=>agu t82 true H (tZ t98 (.bool true) t104) λt105 H=>agm t82 true H t105 λt106 H=>agm t106 false H t0 λt107 H=>agm t106 false H t6 λt108 H=>agm t106 false H t8 λt109 H=>agu t106 false H (gt .add false t108 t109) λt110 H=>agu t106 false H (wl t107 t110) λt111 H=>agu t106 false H (gt .eql false t111 (.int .u8 95)) λt112 H=>agu t82 true H (tZ t106 (.bool true) t112) λt113 H=>tZ t82 t113 (.bool false) λt114=>tO t114 (gt .add false t8 I1 λt116=>Kb18 (Fo t0 t5 t6 t7 t116) H) (gt .gtr false t8 (I6 24) λt118=>tO t118 (ut [.ZG,t6,(I6 9)] (K · H)) (ge tP 189 [t7] H λt121 H=>tO t121 (AM t0 t5 t6 t8 (I6 2) H K Kb5) (gt .add false t6 t8 λt126=>uF 0 0 t0 (some t6) (some t126) λt127=>ge tP 191 [t127] H λt128 H=>tO t128 (AM t0 t5 t6 t8 (I6 4) H K Kb5) (AM t0 t5 t6 t8 I1 H K Kb5))))
def K4:=t0::ux 4 (t5::t6::t7::t8::ux 191 [])
def zTI:=yx 29
noncomputable def zTB:=uc [1,0,1,1,1,1,0,0,1,1,1,0,0,0,0] BE
def zTy:=ud tP yx [1,0,1,1,1,1,0,0,1,1,1,0,0,0] BE (vz K0 Kb5 (K1 K))
def RH:=tM tP zTB (zTy K Kb5) (K4 t0 t5 t6 t7 t8) H
def RI:=gt .add false t6 t8 λt146=>tV 0 t0 λt148=>gt .lss false t146 t148 λt149=>agm t149 true H t0 λt151 H=>agm t149 true H t6 λt152 H=>agm t149 true H t8 λt153 H=>agu t149 true H (gt .add false t152 t153) λt154 H=>agu t149 true H (wl t151 t154) λt155 H=>agc tP t149 true H 190 [t155] λt156 H=>tZ t149 t156 (.bool false) λt157=>tO t157 (gt .add false t8 I1 λt159=>Kb29 (K4 t0 t5 t6 t7 t159) H) (gt .gtr false t8 I1 λt161=>agm t161 true H t7 λt163 H=>agu t161 true H (gt .eql false t163 (.int .u8 48)) λt164 H=>tZ t161 t164 (.bool false) λt165=>tO t165 (ut [.ZG,t6,(I6 2)] (K · H)) (gt .add false t6 t8 λt172=>uF 0 0 t0 (some t6) (some t172) λt173=>ge tP 192 [t173] H λt174 H=>uo t174 0 λt175=>uo t174 1 λt176=>aUn .not t176 λt178=>tO t178 (ut [.ZG,t6,(I6 9)] (K · H)) (gt .add false t6 t8 λt185=>uF 0 0 t0 (some t6) (some t185) λt186=>ug [I0,(.str []),I0] [(0,1),(1,1),(2,1)] [(0,(I6 3)),(1,t186),(2,t6)] λt188=>uk 3 [I0,(.str []),I0] 1 [(0,t188)] λt189=>uj 197 3 32 t5 t189 H λt190 H=>AL t0 t190 t6 t8 H K Kb5)))
def K5:=tV 0 t0 λt17=>gt .lss false t6 t17 λt18=>tO t18 (wl t0 t6 λt21=>gt .eql false t21 (.int .u8 9) λt23=>agm t23 false H t21 λt25 H=>agu t23 false H (gt .eql false t25 (.int .u8 10)) λt26 H=>tZ t23 (.bool true) t26 λt27=>agm t27 false H t21 λt29 H=>agu t27 false H (gt .eql false t29 (.int .u8 13)) λt30 H=>tZ t27 (.bool true) t30 λt31=>agm t31 false H t21 λt33 H=>agu t31 false H (gt .eql false t33 (.int .u8 32)) λt34 H=>tZ t31 (.bool true) t34 λt35=>tO t35 (gt .add false t6 I1 λt37=>AK t0 t5 t37 H K Kb5) (gt .eql false t21 (.int .u8 35) λt39=>tO t39 (zFE t0 t5 t6 H K Kb5) (ge tP 188 [t21] H λt72 H=>agm t72 false H t21 λt74 H=>agc tP t72 false H 189 [t74] λt75 H=>tZ t72 (.bool true) t75 λt76=>tO t76 (RF t0 t5 t6 t21 I1 H K Kb5) (ge tP 190 [t21] H λt143 H=>tO t143 (RH t0 t5 t6 t21 I1 H K Kb5) (uF 0 0 t0 (some t6) none λt54=>ge tP 193 [t54] H λt55 H=>gt .eql false t55 I0 λt57=>tO t57 (ut [.ZG,t6,(I6 2)] (K · H)) (gt .add false t6 t55 λt64=>uF 0 0 t0 (some t6) (some t64) λt65=>ug [I0,(.str []),I0] [(0,1),(1,1),(2,1)] [(0,(I6 5)),(1,t65),(2,t6)] λt67=>uk 3 [I0,(.str []),I0] 1 [(0,t67)] λt68=>uj 197 3 32 t5 t68 H λt69 H=>AL t0 t69 t6 t55 H K Kb5)))))) (tV 0 t0 λt196=>ug [I0,(.str []),I0] [(0,1),(1,1),(2,1)] [(0,(I6 6)),(1,(.str [])),(2,t196)] λt197=>uk 3 [I0,(.str []),I0] 1 [(0,t197)] λt198=>uj 197 3 32 t5 t198 H λt199 H=>ut [t199,I0,I0] (K · H))
def RJ:=tV 0 t0 λt13=>gt .gtr false t13 (I6 16384) λt14=>tO t14 (ut [.ZG,I0,(I6 9)] (K · H)) (K2 t0 .ZG I0 H K)
def zZe(_:Nat):List Bool:=[]
def zHy:=gt .eql false t0 (.int .u8 9) λt4=>agm t4 false H t0 λt6 H=>agu t4 false H (gt .eql false t6 (.int .u8 10)) λt7 H=>tZ t4 (.bool true) t7 λt8=>agm t8 false H t0 λt10 H=>agu t8 false H (gt .eql false t10 (.int .u8 13)) λt11 H=>tZ t8 (.bool true) t11 λt12=>agm t12 false H t0 λt14 H=>agu t12 false H (gt .eql false t14 (.int .u8 32)) λt15 H=>tZ t12 (.bool true) t15 λt16=>K t16 H
variable {t0 t5 t6 t7 t8 t9} {H} {K} {Kb5 Kb9 Kb10 Kb18 Kb29}
def zYU:Lo1 (λt6=>KY t0 t5 t6) (λt6 H Kb9=>RB t0 t5 t6 H K Kb5 Kb9) t6 H (zHs t0 t5 t6 H K Kb5):=lq1 BC zYV
def zYT:Lo2 (λt5 t6=>Di t0 t5 t6) (λt5 t6 H Kb5=>RC t0 t5 t6 H K Kb5) t5 t6 H (KX t0 t5 t6 H K):=lq2 BC zHt
def zYW(h:HSc H→RD t0 H K):ge tP 227 [t0] H K:=
 acb BC Tryz.func227 h
def zTC:Lo1 (λt6=>K3 t0 t5 t6) (λt6 H Kb10=>RE t0 t5 t6 H K Kb5 Kb10) t6 H (zFE t0 t5 t6 H K Kb5):=lq1 yx zTG
def zTD:Lo1 (λt8=>Fo t0 t5 t6 t7 t8) (λt8 H Kb18=>RG t0 t5 t6 t7 t8 H K Kb5 Kb18) t8 H (RF t0 t5 t6 t7 t8 H K Kb5):=lq1 yx zTH
def zTE:Lo1 (λt8=>K4 t0 t5 t6 t7 t8) (λt8 H Kb29=>RI t0 t5 t6 t7 t8 H K Kb5 Kb29) t8 H (RH t0 t5 t6 t7 t8 H K Kb5):=lq1 yx zTI
def zTF:Lo2 (λt5 t6=>BD t0 t5 t6) (λt5 t6 H Kb5=>K5 t0 t5 t6 H K Kb5) t5 t6 H (K2 t0 t5 t6 H K):=lq2 yx K0
def zTJ(h:HSc H→RJ t0 H K):ge tP 145 [t0] H K:=
 acb yx Tryz.func145 h
def zZg(h:HSc H→zHy t0 H K):ge tP 245 [t0] H K:=
 acb zZe Tryz.func245 h
end
section
variable (t0 t1 t3 t4 t5 t6 t7:AV) (H:or) (K:Kt) (Kb2 Kb3 Kb5:Lt)
def zZh(_:Nat):List Bool:=[]
def zHz:=tL true 3 t6 H λt74=>ua 3 t4 t74 H λH=>tL true 3 t4 H λr0=>ut [r0,I0] (K · H)
def Dk:=zHz t4 t6 H K
def Dm:=Dk t4 t6 H K
def RK:=un [I0,(.str []),I0] H λt4 H=>ug [I0,(.str []),I0] [(0,1),(1,1),(2,1)] [(2,t1)] λt9=>un [I0,(.str []),I0] H λt6 H=>ua 3 t6 t9 H λH=>wl t0 t1 λt12=>ge tP 255 [t12] H λt25 H=>agm t25 false H t12 λt27 H=>agc tP t25 false H 256 [t27] λt28 H=>tZ t25 (.bool true) t28 λt29=>tO t29 (uF 0 0 t0 (some t1) none λt32=>ge tP 257 [t32,(.fn 258 [])] H λt33 H=>tN 1 t6 λt34=>ua 1 t34 t33 H λH=>tN 1 t6 λt37=>tL false 1 t37 H λt38=>tV 0 t38 λt39=>gt .gtr false t39 (I6 24) λt40=>tO t40 (ug [I0,(.str []),I0] [(0,1),(1,1),(2,1)] [] λt41=>ua 3 t4 t41 H λH=>tL true 3 t4 H λr0=>ut [r0,(I6 9)] (K · H)) (ge tP 256 [t12] H λt44 H=>tO t44 (tN 0 t6 λt45=>ua 1 t45 (I6 2) H λH=>Dm t4 t6 H K) (tN 1 t6 λt47=>tL false 1 t47 H λt48=>ge tP 259 [t48] H λt49 H=>tO t49 (tN 0 t6 λt50=>ua 1 t50 (I6 4) H λH=>Dm t4 t6 H K) (tN 0 t6 λt35=>ua 1 t35 I1 H λH=>Dm t4 t6 H K)))) (ge tP 260 [t12] H λt53 H=>tO t53 (tN 0 t6 λt54=>ua 1 t54 (I6 3) H λH=>uF 0 0 t0 (some t1) none λt57=>ge tP 257 [t57,(.fn 260 [])] H λt58 H=>tN 1 t6 λt59=>ua 1 t59 t58 H λH=>gt .eql false t12 (.int .u8 48) λt61=>agu t61 true H (tN 1 t6) λt63 H=>agu t61 true H (tL false 1 t63 H) λt64 H=>agu t61 true H (tV 0 t64) λt65 H=>agu t61 true H (gt .gtr false t65 I1) λt66 H=>tZ t61 t66 (.bool false) λt67=>tO t67 (ug [I0,(.str []),I0] [(0,1),(1,1),(2,1)] [] λt68=>ua 3 t4 t68 H λH=>tL true 3 t4 H λr0=>ut [r0,(I6 2)] (K · H)) (tN 1 t6 λt69=>tL false 1 t69 H λt70=>ge tP 261 [t70] H λt71 H=>aUn .not t71 λt72=>tO t72 (ug [I0,(.str []),I0] [(0,1),(1,1),(2,1)] [] λt73=>ua 3 t4 t73 H λH=>tL true 3 t4 H λr0=>ut [r0,(I6 9)] (K · H)) (Dk t4 t6 H K))) (tN 0 t6 λt13=>ua 1 t13 (I6 5) H λH=>uF 0 0 t0 (some t1) none λt16=>ge tP 262 [t16] H λt17 H=>tN 1 t6 λt18=>ua 1 t18 t17 H λH=>tN 1 t6 λt19=>tL false 1 t19 H λt20=>gt .eql false t20 (.str []) λt21=>tO t21 (ug [I0,(.str []),I0] [(0,1),(1,1),(2,1)] [] λt22=>ua 3 t4 t22 H λH=>tL true 3 t4 H λr0=>ut [r0,(I6 2)] (K · H)) (Dk t4 t6 H K)))
def zWG(_:Nat):List Bool:=[]
def zGN:=gt .geq false t0 (.int .u8 97) λt4=>agm t4 true H t0 λt6 H=>agu t4 true H (gt .leq false t6 (.int .u8 122)) λt7 H=>tZ t4 t7 (.bool false) λt8=>K t8 H
def zWJ(_:Nat):List Bool:=[]
def zGO:=gt .geq false t0 (.int .u8 65) λt4=>agm t4 true H t0 λt6 H=>agu t4 true H (gt .leq false t6 (.int .u8 90)) λt7 H=>tZ t4 t7 (.bool false) λt8=>K t8 H
def zWM(_:Nat):List Bool:=[]
def zGP:=gt .geq false t0 (.int .u8 48) λt4=>agm t4 true H t0 λt6 H=>agu t4 true H (gt .leq false t6 (.int .u8 57)) λt7 H=>tZ t4 t7 (.bool false) λt8=>K t8 H
def K6:Nat→List Bool|3=>rl false [0,1,2,2,13]|_=>[]
noncomputable def zwC:=bd Tryz.f191
def K7:=t0::ux 2 (t3::t4::ux 13 [])
def zWS:=K6 3
noncomputable def zWQ:=uc [1,1,0,1,0,0] zwC
def zWP:=ud tP K6 [1,1,0,1,0] zwC (uq tP Tryz.f191.results.toList K)
def RL:=tM tP zWQ (zWP K) (K7 t0 t3 t4) H
def K8:=tV 1 t3 λt8=>gt .lss false t4 t8 λt9=>tO t9 (tW 1 t3 t4 λt14=>tL false 1 t14 H λt15=>gt .eql false t15 t0 λt17=>tO t17 (K (.bool true) H) (gt .add false t4 I1 λt11=>Kb3 (K7 t0 t3 t11) H)) (K (.bool false) H)
def zGQ:=uk 1 [(.str [])] 28 [(0,(.str [97,114,114,97,121])),(1,(.str [98,111,111,108])),(2,(.str [99,97,116,99,104])),(3,(.str [100,97,116,97])),(4,(.str [101,108,115,101])),(5,(.str [101,110,100])),(6,(.str [102,97,108,115,101])),(7,(.str [102,110])),(8,(.str [102,117,110])),(9,(.str [103,101,116])),(10,(.str [105,102])),(11,(.str [105,110])),(12,(.str [105,110,116])),(13,(.str [108,101,110])),(14,(.str [108,101,116])),(15,(.str [109,97,116,99,104])),(16,(.str [110,101,119])),(17,(.str [114,97,105,115,101])),(18,(.str [114,101,97,100])),(19,(.str [114,101,102])),(20,(.str [115,101,116])),(21,(.str [116,104,101,110])),(22,(.str [116,105,99,107])),(23,(.str [116,114,117,101])),(24,(.str [116,114,121])),(25,(.str [117,110,105,116])),(26,(.str [119,105,116,104])),(27,(.str [119,114,105,116,101]))] λt5=>RL t0 t5 I0 H K
def K9:Nat→List Bool|3=>rl false [0,1,3,2,17]|_=>[]
noncomputable def zwF:=bd Tryz.f192
def La:=t0::ux 3 (t4::t5::ux 17 [])
def zWY:=K9 3
noncomputable def zWW:=uc [1,1,0,1,0,0] zwF
def zWV:=ud tP K9 [1,1,0,1,0] zwF (uq tP Tryz.f192.results.toList K)
def zGT:=tM tP zWW (zWV K) (La t0 t4 t5) H
def RM:=tV 0 t0 λt8=>gt .lss false t5 t8 λt9=>tO t9 (gt .mul false t4 (I6 10) λt13=>wl t0 t5 λt16=>gt .sub false t16 (.int .u8 48) λt17=>uw .i64 t17 λt18=>gt .add false t13 t18 λt19=>gt .gtr false t19 (I6 1000000) λt21=>tO t21 (ut [I0,(.bool false)] (K · H)) (gt .add false t5 I1 λt11=>Kb3 (La t0 t19 t11) H)) (ut [t4,(.bool true)] (K · H))
def zGS:=zGT t0 I0 I0 H K
def Lb:Nat→List Bool|5=>rl false [0,1,2,2,30]|_=>[]
noncomputable def zwG:=bd Tryz.f193
def Lc:=t0::ux 2 (t3::t4::ux 30 [])
def zW4:=Lb 5
noncomputable def zW2:=uc [1,1,1,0,1,0,0] zwG
def zW1:=ud tP Lb [1,1,1,0,1,0] zwG (uq tP Tryz.f193.results.toList K)
def RN:=tM tP zW2 (zW1 K) (Lc t0 t3 t4) H
def Ld:=tV 0 t3 λt25=>gt .lss false t4 t25 λt26=>tO t26 (apm H t0 λt29=>apu H (wl t29 I0) λt30=>apm H t3 λt31=>apm H t4 λt32=>apu H (wl t31 t32) λt33=>apu H (gt .eql false t30 t33) λt34=>tO t34 (K I1 H) (gt .add false t4 I1 λt28=>Kb5 (Lc t0 t3 t28) H)) (K I0 H)
def Dn:=tV 0 t0 λt6=>gt .geq false t6 (I6 2) λt7=>agm t7 true H t0 λt9 H=>ui t7 true H (λK'=>uF 0 0 t9 none (some (I6 2)) (K' · H)) λt10 H=>agu t7 true H (gt .eql false t10 (.str [45,62])) λt11 H=>agm t7 true H t11 λt12 H=>agm t12 false H t0 λt13 H=>ui t12 false H (λK'=>uF 0 0 t13 none (some (I6 2)) (K' · H)) λt14 H=>agu t12 false H (gt .eql false t14 (.str [60,61])) λt15 H=>agu t7 true H (tZ t12 (.bool true) t15) λt16 H=>agm t7 true H t16 λt17 H=>agm t17 false H t0 λt18 H=>ui t17 false H (λK'=>uF 0 0 t18 none (some (I6 2)) (K' · H)) λt19 H=>agu t17 false H (gt .eql false t19 (.str [61,61])) λt20 H=>agu t7 true H (tZ t17 (.bool true) t20) λt21 H=>tZ t7 t21 (.bool false) λt22=>tO t22 (K (I6 2) H) (RN t0 (.str [40,41,44,61,124,43,45,42,47,37,60,59,95]) I0 H K)
def zZn(_:Nat):List Bool:=[]
def zHB:=gt .geq false t0 (.int .u8 97) λt4=>agm t4 true H t0 λt6 H=>agu t4 true H (gt .leq false t6 (.int .u8 122)) λt7 H=>tZ t4 t7 (.bool false) λt8=>K t8 H
def zZq(_:Nat):List Bool:=[]
def zHC:=gt .geq false t0 (.int .u8 65) λt4=>agm t4 true H t0 λt6 H=>agu t4 true H (gt .leq false t6 (.int .u8 90)) λt7 H=>tZ t4 t7 (.bool false) λt8=>K t8 H
def Le:Nat→List Bool|2=>rl false [0,2,3,1,16]|_=>[]
noncomputable def zxt:=bd Tryz.f257
def Lf:=t0::t1::ux 3 (t5::ux 16 [])
def zZw:=Le 2
noncomputable def zZu:=uc [1,1,0,0,0] zxt
def zZt:=ud tP Le [1,1,0,0] zxt (uq tP Tryz.f257.results.toList K)
def zHE:=tM tP zZu (zZt K) (Lf t0 t1 t5) H
def RO:=tV 0 t0 λt8=>gt .lss false t5 t8 λt9=>agm t9 true H t1 λt11 H=>agm t9 true H t0 λt12 H=>agm t9 true H t5 λt13 H=>agu t9 true H (wl t12 t13) λt14 H=>ui t9 true H (λK'=>aCallV tP t11 [t14] H K') λt15 H=>tZ t9 t15 (.bool false) λt16=>tO t16 (gt .add false t5 I1 λt18=>Kb2 (Lf t0 t1 t18) H) (uF 0 0 t0 none (some t5) λt21=>K t21 H)
def zHD:=zHE t0 t1 I0 H K
def zZz(_:Nat):List Bool:=[]
def zHF:=ge tP 255 [t0] H λt4 H=>agm t4 false H t0 λt6 H=>agc tP t4 false H 256 [t6] λt7 H=>tZ t4 (.bool true) t7 λt8=>agm t8 false H t0 λt10 H=>agc tP t8 false H 260 [t10] λt11 H=>tZ t8 (.bool true) t11 λt12=>agm t12 false H t0 λt14 H=>agu t12 false H (gt .eql false t14 (.int .u8 95)) λt15 H=>tZ t12 (.bool true) t15 λt16=>K t16 H
def zZC(_:Nat):List Bool:=[]
def vL:=tO t4 (K (.bool true) H) (K (.bool false) H)
def zHG:=gt .eql false t0 (.str [97,114,114,97,121]) λt5=>tO t5 (vL t5 H K) (gt .eql false t0 (.str [98,111,111,108]) λt6=>tO t6 (vL t6 H K) (gt .eql false t0 (.str [99,97,116,99,104]) λt7=>tO t7 (vL t7 H K) (gt .eql false t0 (.str [100,97,116,97]) λt8=>tO t8 (vL t8 H K) (gt .eql false t0 (.str [101,108,115,101]) λt9=>tO t9 (vL t9 H K) (gt .eql false t0 (.str [101,110,100]) λt10=>tO t10 (vL t10 H K) (gt .eql false t0 (.str [102,97,108,115,101]) λt11=>tO t11 (vL t11 H K) (gt .eql false t0 (.str [102,110]) λt12=>tO t12 (vL t12 H K) (gt .eql false t0 (.str [102,117,110]) λt13=>tO t13 (vL t13 H K) (gt .eql false t0 (.str [103,101,116]) λt14=>tO t14 (vL t14 H K) (gt .eql false t0 (.str [105,102]) λt15=>tO t15 (vL t15 H K) (gt .eql false t0 (.str [105,110]) λt16=>tO t16 (vL t16 H K) (gt .eql false t0 (.str [105,110,116]) λt17=>tO t17 (vL t17 H K) (gt .eql false t0 (.str [108,101,110]) λt18=>tO t18 (vL t18 H K) (gt .eql false t0 (.str [108,101,116]) λt19=>tO t19 (vL t19 H K) (gt .eql false t0 (.str [109,97,116,99,104]) λt20=>tO t20 (vL t20 H K) (gt .eql false t0 (.str [110,101,119]) λt21=>tO t21 (vL t21 H K) (gt .eql false t0 (.str [114,97,105,115,101]) λt22=>tO t22 (vL t22 H K) (gt .eql false t0 (.str [114,101,97,100]) λt23=>tO t23 (vL t23 H K) (gt .eql false t0 (.str [114,101,102]) λt24=>tO t24 (vL t24 H K) (gt .eql false t0 (.str [115,101,116]) λt25=>tO t25 (vL t25 H K) (gt .eql false t0 (.str [116,104,101,110]) λt26=>tO t26 (vL t26 H K) (gt .eql false t0 (.str [116,105,99,107]) λt27=>tO t27 (vL t27 H K) (gt .eql false t0 (.str [116,114,117,101]) λt28=>tO t28 (vL t28 H K) (gt .eql false t0 (.str [116,114,121]) λt29=>tO t29 (vL t29 H K) (gt .eql false t0 (.str [117,110,105,116]) λt30=>tO t30 (vL t30 H K) (gt .eql false t0 (.str [119,105,116,104]) λt31=>tO t31 (vL t31 H K) (gt .eql false t0 (.str [119,114,105,116,101]) λt32=>vL t32 H K)))))))))))))))))))))))))))
def zZF(_:Nat):List Bool:=[]
def zHH:=gt .geq false t0 (.int .u8 48) λt4=>agm t4 true H t0 λt6 H=>agu t4 true H (gt .leq false t6 (.int .u8 57)) λt7 H=>tZ t4 t7 (.bool false) λt8=>K t8 H
def Lg:Nat→List Bool|3=>rl false [0,1,2,1,2,2,13]|_=>[]
noncomputable def zxv:=bd Tryz.f261
def Lh:=t0::ux 2 (t3::ux 2 (t6::t7::ux 13 []))
def zZL:=Lg 3
noncomputable def zZJ:=uc [1,1,0,1,0,0] zxv
def zZI:=ud tP Lg [1,1,0,1,0] zxv (uq tP Tryz.f261.results.toList K)
def zHJ:=tM tP zZJ (zZI K) (Lh t0 t3 t6 t7) H
def RP:=gt .lss false t7 t6 λt8=>tO t8 (gt .mul false t3 (I6 10) λt11=>wl t0 t7 λt14=>gt .sub false t14 (.int .u8 48) λt15=>uw .i64 t15 λt16=>gt .add false t11 t16 λt17=>gt .gtr false t17 (I6 1000000) λt19=>tO t19 (K (.bool false) H) (gt .add false t7 I1 λt20=>Kb3 (Lh t0 t17 t6 t20) H)) (K (.bool true) H)
def zHI:=tV 0 t0 λt6=>zHJ t0 I0 t6 I0 H K
variable {t0 t1 t3 t4 t5 t6 t7} {H} {K} {Kb2 Kb3 Kb5}
def zZj(h:HSc H→RK t0 t1 H K):ge tP 246 [t0,t1] H K:=
 acb zZh Tryz.func246 h
def zWI(h:HSc H→zGN t0 H K):ge tP 188 [t0] H K:=
 acb zWG Tryz.func188 h
def zWL(h:HSc H→zGO t0 H K):ge tP 189 [t0] H K:=
 acb zWJ Tryz.func189 h
def zWO(h:HSc H→zGP t0 H K):ge tP 190 [t0] H K:=
 acb zWM Tryz.func190 h
def zWR:Lo1 (λt4=>K7 t0 t3 t4) (λt4 H Kb3=>K8 t0 t3 t4 H K Kb3) t4 H (RL t0 t3 t4 H K):=lq1 K6 zWS
def zWT(h:HSc H→zGQ t0 H K):ge tP 191 [t0] H K:=
 acb K6 Tryz.func191 h
def zWX:Lo2 (λt4 t5=>La t0 t4 t5) (λt4 t5 H Kb3=>RM t0 t4 t5 H K Kb3) t4 t5 H (zGT t0 t4 t5 H K):=lq2 K9 zWY
def zWZ(h:HSc H→zGS t0 H K):ge tP 192 [t0] H K:=
 acb K9 Tryz.func192 h
def zW3:Lo1 (λt4=>Lc t0 t3 t4) (λt4 H Kb5=>Ld t0 t3 t4 H K Kb5) t4 H (RN t0 t3 t4 H K):=lq1 Lb zW4
def zW5(h:HSc H→Dn t0 H K):ge tP 193 [t0] H K:=
 acb Lb Tryz.func193 h
def zZp(h:HSc H→zHB t0 H K):ge tP 255 [t0] H K:=
 acb zZn Tryz.func255 h
def zZs(h:HSc H→zHC t0 H K):ge tP 256 [t0] H K:=
 acb zZq Tryz.func256 h
def zZv:Lo1 (λt5=>Lf t0 t1 t5) (λt5 H Kb2=>RO t0 t1 t5 H K Kb2) t5 H (zHE t0 t1 t5 H K):=lq1 Le zZw
def zZx(h:HSc H→zHD t0 t1 H K):ge tP 257 [t0,t1] H K:=
 acb Le Tryz.func257 h
def zZB(h:HSc H→zHF t0 H K):ge tP 258 [t0] H K:=
 acb zZz Tryz.func258 h
def zZE(h:HSc H→zHG t0 H K):ge tP 259 [t0] H K:=
 acb zZC Tryz.func259 h
def zZH(h:HSc H→zHH t0 H K):ge tP 260 [t0] H K:=
 acb zZF Tryz.func260 h
def zZK:Lo2 (λt3 t7=>Lh t0 t3 t6 t7) (λt3 t7 H Kb3=>RP t0 t3 t6 t7 H K Kb3) t3 t7 H (zHJ t0 t3 t6 t7 H K):=lq2 Lg zZL
def zZM(h:HSc H→zHI t0 H K):ge tP 261 [t0] H K:=
 acb Lg Tryz.func261 h
end
section
variable (t0 t8 t16:AV) (H:or) (K:Kt)
def zZO(_:Nat):List Bool:=[]
def xq:=tO t16 (uF 0 0 t0 none (some I1) λt31=>K t31 H) (K (.str []) H)
def Li:=uF 0 0 t0 none (some I1) λt15=>gt .eql false t15 (.str [40]) λt17=>tO t17 (xq t0 t17 H K) (gt .eql false t15 (.str [41]) λt18=>tO t18 (xq t0 t18 H K) (gt .eql false t15 (.str [44]) λt19=>tO t19 (xq t0 t19 H K) (gt .eql false t15 (.str [61]) λt20=>tO t20 (xq t0 t20 H K) (gt .eql false t15 (.str [124]) λt21=>tO t21 (xq t0 t21 H K) (gt .eql false t15 (.str [43]) λt22=>tO t22 (xq t0 t22 H K) (gt .eql false t15 (.str [45]) λt23=>tO t23 (xq t0 t23 H K) (gt .eql false t15 (.str [42]) λt24=>tO t24 (xq t0 t24 H K) (gt .eql false t15 (.str [47]) λt25=>tO t25 (xq t0 t25 H K) (gt .eql false t15 (.str [37]) λt26=>tO t26 (xq t0 t26 H K) (gt .eql false t15 (.str [60]) λt27=>tO t27 (xq t0 t27 H K) (gt .eql false t15 (.str [59]) λt28=>tO t28 (xq t0 t28 H K) (gt .eql false t15 (.str [95]) λt29=>xq t0 t29 H K))))))))))))
def BF:=tO t8 (uF 0 0 t0 none (some (I6 2)) λt13=>K t13 H) (Li t0 H K)
def Do:=tV 0 t0 λt4=>gt .geq false t4 (I6 2) λt5=>tO t5 (uF 0 0 t0 none (some (I6 2)) λt7=>gt .eql false t7 (.str [45,62]) λt9=>tO t9 (BF t0 t9 H K) (gt .eql false t7 (.str [60,61]) λt10=>tO t10 (BF t0 t10 H K) (gt .eql false t7 (.str [61,61]) λt11=>BF t0 t11 H K))) (Li t0 H K)
def zXy(_:Nat):List Bool:=[]
def zG3:=ge tP 227 [t0] H λt8 H=>uo t8 0 λt9=>uo t8 1 λt10=>uo t8 2 λt11=>gt .eql false t11 I0 λt13=>agm t13 true H t9 λt15 H=>agu t13 true H (tV 1 t15) λt16 H=>agu t13 true H (gt .eql false t16 (I6 2)) λt17 H=>tZ t13 t17 (.bool false) λt18=>agm t18 true H t9 λt20 H=>agu t18 true H (tW 3 t20 I0) λt21 H=>agu t18 true H (tN 0 t21) λt22 H=>agu t18 true H (tL false 1 t22 H) λt23 H=>agu t18 true H (gt .eql false t23 (I6 2)) λt24 H=>tZ t18 t24 (.bool false) λt25=>agm t25 true H t9 λt27 H=>agu t25 true H (tW 3 t27 I0) λt28 H=>agu t25 true H (tN 1 t28) λt29 H=>agu t25 true H (tL false 1 t29 H) λt30 H=>agm t25 true H t0 λt31 H=>agu t25 true H (gt .eql false t30 t31) λt32 H=>tZ t25 t32 (.bool false) λt33=>K t33 H
def yfb(_:Nat):List Bool:=[]
def zJF:=ge tP 145 [t0] H λt8 H=>uo t8 0 λt9=>uo t8 1 λt10=>uo t8 2 λt11=>gt .eql false t11 I0 λt13=>agm t13 true H t9 λt15 H=>agu t13 true H (tV 1 t15) λt16 H=>agu t13 true H (gt .eql false t16 (I6 2)) λt17 H=>tZ t13 t17 (.bool false) λt18=>agm t18 true H t9 λt20 H=>agu t18 true H (tW 3 t20 I0) λt21 H=>agu t18 true H (tN 0 t21) λt22 H=>agu t18 true H (tL false 1 t22 H) λt23 H=>agu t18 true H (gt .eql false t23 (I6 2)) λt24 H=>tZ t18 t24 (.bool false) λt25=>agm t25 true H t9 λt27 H=>agu t25 true H (tW 3 t27 I0) λt28 H=>agu t25 true H (tN 1 t28) λt29 H=>agu t25 true H (tL false 1 t29 H) λt30 H=>agm t25 true H t0 λt31 H=>agu t25 true H (gt .eql false t30 t31) λt32 H=>tZ t25 t32 (.bool false) λt33=>K t33 H
variable {t0 t8 t16} {H} {K}
def zZQ(h:HSc H→Do t0 H K):ge tP 262 [t0] H K:=
 acb zZO Tryz.func262 h
def zXA(h:HSc H→zG3 t0 H K):ge tP 200 [t0] H K:=
 acb zXy Tryz.func200 h
def yfd(h:HSc H→zJF t0 H K):ge tP 92 [t0] H K:=
 acb yfb Tryz.func92 h
end
def kwds:List (List UInt8):=[[97,114,114,97,121],[98,111,111,108],[99,97,116,99,104],[100,97,116,97],[101,108,115,101],[101,110,100],[102,97,108,115,101],[102,110],[102,117,110],[103,101,116],[105,102],[105,110],[105,110,116],[108,101,110],[108,101,116],[109,97,116,99,104],[110,101,119],[114,97,105,115,101],[114,101,97,100],[114,101,102],[115,101,116],[116,104,101,110],[116,105,99,107],[116,114,117,101],[116,114,121],[117,110,105,116],[119,105,116,104],[119,114,105,116,101]]
def kwF(ws:List (List UInt8))(s:List UInt8):Bool:=ws.any (s == ·)
def yd{H:or}{K:AV→or→Prop}{r:AV}(hsc:HSc H)(hv:r.isV=true)(hr:r.ZJ H.length=true)(h:K r H):Out H.length K r H:=by have:=Out.same (J:=[]) rfl hsc hv hr h;simpa using this
def xr(b c:UInt8):((b.toNat:Int) == (c.toNat:Int))=(b == c):=by
 rw[dj];simp only[bt];constructor
 ·intro h;exact UInt8.toNat_inj.mp (by omega)
 ·rintro rfl;rfl
def zBJ(b:UInt8)(H:or)(K:AV→or→Prop)(hK:K (.bool (wN b)) H):ge tP 188 [.int .u8 b.toNat] H K:=by refine ge.out (zWI λhs=>?_);have hO:=yd (K:=K) (H:=H) (r:=.bool (wN b)) hs rfl rfl hK;unfold wN at hO;cases h1:decide (97≤(b.toNat:Int)) <;> simp[zGN,h1] <;> simpa[h1]using hO
def Lj(b:UInt8)(H:or)(K:AV→or→Prop)(hK:K (.bool (bUp b)) H):ge tP 189 [.int .u8 b.toNat] H K:=by refine ge.out (zWL λhs=>?_);have hO:=yd (K:=K) (H:=H) (r:=.bool (bUp b)) hs rfl rfl hK;unfold bUp at hO;cases h1:decide (65≤(b.toNat:Int)) <;> simp[zGO,h1] <;> simpa[h1]using hO
def RQ(b:UInt8)(H:or)(K:AV→or→Prop)(hK:K (.bool (vh b)) H):ge tP 190 [.int .u8 b.toNat] H K:=by refine ge.out (zWO λhs=>?_);have hO:=yd (K:=K) (H:=H) (r:=.bool (vh b)) hs rfl rfl hK;unfold vh at hO;cases h1:decide (48≤(b.toNat:Int)) <;> simp[zGP,h1] <;> simpa[h1]using hO
def RR(b:UInt8)(H:or)(K:AV→or→Prop)(hK:K (.bool (wN b)) H):ge tP 255 [.int .u8 b.toNat] H K:=by refine ge.out (zZp λhs=>?_);have hO:=yd (K:=K) (H:=H) (r:=.bool (wN b)) hs rfl rfl hK;unfold wN at hO;cases h1:decide (97≤(b.toNat:Int)) <;> simp[zHB,h1] <;> simpa[h1]using hO
def Lk(b:UInt8)(H:or)(K:AV→or→Prop)(hK:K (.bool (bUp b)) H):ge tP 256 [.int .u8 b.toNat] H K:=by refine ge.out (zZs λhs=>?_);have hO:=yd (K:=K) (H:=H) (r:=.bool (bUp b)) hs rfl rfl hK;unfold bUp at hO;cases h1:decide (65≤(b.toNat:Int)) <;> simp[zHC,h1] <;> simpa[h1]using hO
def RS(b:UInt8)(H:or)(K:AV→or→Prop)(hK:K (.bool (vh b)) H):ge tP 260 [.int .u8 b.toNat] H K:=by refine ge.out (zZH λhs=>?_);have hO:=yd (K:=K) (H:=H) (r:=.bool (vh b)) hs rfl rfl hK;unfold vh at hO;cases h1:decide (48≤(b.toNat:Int)) <;> simp[zHH,h1] <;> simpa[h1]using hO
def zKV(b:UInt8)(H:or)(K:AV→or→Prop)(hK:K (.bool (yL b)) H):ge tP 245 [.int .u8 b.toNat] H K:=by refine ge.out (zZg λhs=>?_);have hO:=yd (K:=K) (H:=H) (r:=.bool (yL b)) hs rfl rfl hK;unfold yL at hO;have e1:((b.toNat:Int) == 9)=(b == 9):=xr b 9;have e2:((b.toNat:Int) == 10)=(b == 10):=xr b 10;have e3:((b.toNat:Int) == 13)=(b == 13):=xr b 13;have e4:((b.toNat:Int) == 32)=(b == 32):=xr b 32;cases h1:(b == 9) <;> cases h2:(b == 10) <;> cases h3:(b == 13) <;> simp[zHy,e1,e2,e3,e4,h1,h2,h3] <;> simpa[h1,h2,h3]using hO
def zPY(b:UInt8)(H:or)(K:AV→or→Prop)(hK:K (.bool (bIn b)) H):ge tP 258 [.int .u8 b.toNat] H K:=by
 refine ge.out (zZB λhs=>?_);have hO:=yd (K:=K) (H:=H) (r:=.bool (bIn b)) hs rfl rfl hK;unfold bIn at hO;have e1:((b.toNat:Int) == 95)=(b == 95):=xr b 95;unfold zHF;refine RR b _ _ ?_;cases h1:wN b with
 |true=>simp;simpa[h1]using hO
 |false=>
  simp;refine Lk b _ _ ?_;cases h2:bUp b with
  |true=>simp;simpa[h1,h2]using hO
  |false=>
   simp;refine RS b _ _ ?_;cases h3:vh b with
   |true=>simp;simpa[h1,h2,h3]using hO
   |false=>simp[e1];simpa[h1,h2,h3]using hO
def zMh(s:List UInt8)(H:or)(K:AV→or→Prop)(hK:K (.bool (kwF kwds s)) H):ge tP 259 [.str s] H K:=by
 refine ge.out (zZE λhs=>?_);have hO:=yd (K:=K) (H:=H) (r:=.bool (kwF kwds s)) hs rfl rfl hK;have step:∀ (w:List UInt8) (ws:List (List UInt8)) (rest:Prop),(Out H.length K (.bool (kwF ws s)) H→rest)→Out H.length K (.bool (kwF (w::ws) s)) H →
   gt .eql false (.str s) (.str w) λt=>tO t (vL t H (Out H.length K)) rest:=by
  intro w ws rest h h';simp only[kwF,List.any_cons]at h h';cases e:(s == w) with
  |true=>simpa[vL,e]using h'
  |false=>rw[e,bJ]at h';simpa[vL,e]using h h'
 unfold zHG
 revert hO
 unfold kwds
 iterate 27 refine step _ _ _ ?_
 intro h';simp only[kwF,List.any_cons,List.any_nil,dm]at h';cases e:(s == [119,114,105,116,101]) <;> rw[e]at h' <;> simpa[vL,e]using h'
def zMi(s:List UInt8)(H:or)(K:AV→or→Prop)(hK:K (.bool (kwF kwds s)) H):ge tP 191 [.str s] H K:=by
 refine ge.out (zWT λhs=>?_);have hO:=yd (K:=K) (H:=H) (r:=.bool (kwF kwds s)) hs rfl rfl hK;have e:zGQ (.str s) H (Out H.length K)=RL (.str s) (.sl (kwds.map λw=>[.str w]) .full) I0 H (Out H.length K):=rfl;rw[e];have fz:kwds.length=28:=rfl;generalize kwds=ws at *;refine zWR (Inv:=λq t4 H'=>∃i:Nat,i≤ws.length∧q=ws.length-i∧t4=I6 i∧kwF (ws.drop i) s=kwF ws s∧H'=H) ws.length ?_ ?_
 ·intro _;exact⟨0,by omega,by omega,rfl,by simp,rfl⟩
 ·rintro q t8 H' ⟨i,hi,rfl,rfl,ho,rfl⟩ hsc _ fM Kb fB;by_cases fy:i<ws.length
  ·rw[ai fy]at ho;simp only[kwF,List.any_cons]at ho;cases hz:(ws[i] == s) with
   |true=>
    have ox:(s == ws[i])=true:=by rw[bt]at hz ⊢;exact hz.symm
    rw[ox,fk]at ho;simp[K8,fy,hz];unfold kwF at hO;rw[←ho]at hO;exact hO
   |false=>
    have ox:(s == ws[i])=false:=by rw[dE]at hz ⊢;exactλh=>hz h.symm
    rw[ox,bJ]at ho;simp[K8,fy,hz];rw[um (by omega) (by omega)];refine fB _ _ ⟨ws.length-(i+1),by omega,Back.here (af _) hs ?_ ⟨_,rfl,i+1,by omega,rfl,by simp,ho,rfl⟩⟩;simp[K7,AV.sc,AV.ZJ,AV.ZH,AV.ZI]
  ·simp[K8,fy];obtain rfl:i=ws.length:=by omega
   rw[aV]at ho;rw[←ho]at hO;exact hO
def zAc{b:UInt8}(h:vh b=true):48≤(b.toNat:Int)∧(b.toNat:Int)≤57:=by simpa[vh]using h
def zOB(s:List UInt8)(hd:∀b∈s,vh b=true)(hl:s.length≤1000000)(H:or)(K:AV→or→Prop)(hK:K (.bool (wZ s 0)) H):ge tP 261 [.str s] H K:=by
 refine ge.out (zZM λhs=>?_);have hO:=yd (K:=K) (H:=H) (r:=.bool (wZ s 0)) hs rfl rfl hK;simp[zHI];refine zZK (Inv:=λq t3 t7 H'=>∃(i:Nat) (n:Int),i≤s.length∧q=s.length-i∧t7=I6 i∧t3=I6 n∧0≤n∧n≤1000000∧wZ (s.drop i) n=wZ s 0∧H'=H) s.length ?_ ?_
 ·intro _;exact⟨0,0,by omega,by omega,rfl,rfl,by omega,by omega,by simp,rfl⟩
 ·rintro q t3 t7 H' ⟨i,n,hi,rfl,rfl,rfl,kQ,gx,ho,rfl⟩ hsc _ fM Kb fB;by_cases fy:i<s.length
  ·have hb:=zAc (hd s[i] (ae fy));rw[ai fy,wZ]at ho;simp[RP,fy];rw[IntWalk.u8_in _ (by omega),um (n:=n*10) (by omega) (by omega),um (n:=(s[i].toNat:Int)-48) (by omega) (by omega),um (by omega) (by omega),um (by omega) (by omega)];by_cases hg:1000000<n*10+((s[i].toNat:Int)-48)
   ·rw[aN hg]at ho;have mc:decide (1000000<n*10+((s[i].toNat:Int)-48))=true:=by simpa using hg
    rw[←ho]at hO;rw[mc];simpa using hO
   ·rw[aG hg]at ho;have mc:decide (1000000<n*10+((s[i].toNat:Int)-48))=false:=by simpa using hg
    rw[mc];simp only[PC,aK,ba];refine fB _ _ ⟨s.length-(i+1),by omega,Back.here (af _) hs ?_ ⟨_,_,rfl,i+1,_,by omega,rfl,by simp,rfl,by omega,by omega,ho,rfl⟩⟩;simp[Lh,AV.sc,AV.ZJ,AV.ZH,AV.ZI]
  ·simp[RP,fy];obtain rfl:i=s.length:=by omega
   rw[aV,wZ]at ho;rw[←ho]at hO;exact hO
def zCL(cl:UInt8→Bool)(f:FuncId)(gN:y9 tP f=true)(hf:∀(b:UInt8) (H:or) (K:AV→or→Prop),K (.bool (cl b)) H→ge tP f [.int .u8 b.toNat] H K)(s:List UInt8)(hl:s.length≤1000000)(H:or)(K:AV→or→Prop)(hK:K (.str (s.takeWhile cl)) H):ge tP 257 [.str s,.fn f []] H K:=by
 refine ge.out (zZx λhs=>?_);have hO:=yd (K:=K) (H:=H) (r:=.str (s.takeWhile cl)) hs rfl rfl hK;simp[zHD];refine zZv (Inv:=λq t5 H'=>∃i:Nat,i≤s.length∧q=s.length-i∧t5=I6 i∧s.take i++(s.drop i).takeWhile cl=s.takeWhile cl∧H'=H) s.length ?_ ?_
 ·intro _;exact⟨0,by omega,by omega,rfl,by simp,rfl⟩
 ·rintro q t5 H' ⟨i,hi,rfl,rfl,ho,rfl⟩ hsc _ fM Kb fB;by_cases fy:i<s.length
  ·rw[ai fy,er]at ho;simp[RO,fy];simp only[aCallV,gN,aP];refine hf _ _ _ ?_;cases hc:cl s[i] with
   |true=>rw[hc,aN rfl,List.append_cons,←ag fy]at ho;simp;rw[um (by omega) (by omega)];refine fB _ _ ⟨s.length-(i+1),by omega,Back.here (af _) hs ?_ ⟨_,rfl,i+1,by omega,rfl,by simp,ho,rfl⟩⟩;simp[Lf,AV.sc,AV.ZJ,AV.ZH,AV.ZI]
   |false=>rw[hc,aG (by simp),aP]at ho;rw[←ho]at hO;simp[hi];exact hO
  ·simp[RO,fy];obtain rfl:i=s.length:=by omega
   rw[aV,List.takeWhile_nil,aP,az]at ho;rw[←ho]at hO;simpa using hO
def zPR(s:List UInt8)(hd:∀b∈s,vh b=true)(hl:s.length≤1000000)(H:or)(K:AV→or→Prop)(hK:∀n,K (.tup [I6 n,.bool (wZ s 0)]) H):ge tP 192 [.str s] H K:=by
 refine ge.out (zWZ λhs=>?_);have hO:∀n,Out H.length K (.tup [I6 n,.bool (wZ s 0)]) H:=λn=>Out.tup0 hs (hK n) ⟨uJ rfl rfl,uJ rfl rfl,trivial⟩;simp only[zGS];refine zWX (Inv:=λq t3 t7 H'=>∃(i:Nat) (n:Int),i≤s.length∧q=s.length-i∧t7=I6 i∧t3=I6 n∧0≤n∧n≤1000000∧wZ (s.drop i) n=wZ s 0∧H'=H) s.length ?_ ?_
 ·intro _;exact⟨0,0,by omega,by omega,rfl,rfl,by omega,by omega,by simp,rfl⟩
 ·rintro q t3 t7 H' ⟨i,n,hi,rfl,rfl,rfl,kQ,gx,ho,rfl⟩ hsc _ fM Kb fB;by_cases fy:i<s.length
  ·have hb:=zAc (hd s[i] (ae fy));rw[ai fy,wZ]at ho;simp[RM,fy];rw[IntWalk.u8_in _ (by omega),um (n:=n*10) (by omega) (by omega),um (n:=(s[i].toNat:Int)-48) (by omega) (by omega),um (by omega) (by omega),um (by omega) (by omega)];by_cases hg:1000000<n*10+((s[i].toNat:Int)-48)
   ·rw[aN hg]at ho;have mc:decide (1000000<n*10+((s[i].toNat:Int)-48))=true:=by simpa using hg
    rw[←ho]at hO;rw[mc];simpa[AV.isV]using hO 0
   ·rw[aG hg]at ho;have mc:decide (1000000<n*10+((s[i].toNat:Int)-48))=false:=by simpa using hg
    rw[mc];simp only[PC,aK,ba];refine fB _ _ ⟨s.length-(i+1),by omega,Back.here (af _) hs ?_ ⟨_,_,rfl,i+1,_,by omega,rfl,by simp,rfl,by omega,by omega,ho,rfl⟩⟩;simp[La,AV.sc,AV.ZJ,AV.ZH,AV.ZI]
  ·simp[RM,fy,AV.isV];obtain rfl:i=s.length:=by omega
   rw[aV,wZ]at ho;rw[←ho]at hO;exact hO n
def zPy(b:UInt8)(r:List UInt8):(b::r).take 1=[b]:=by simp
def RT{s:List UInt8}(h:¬ 2≤s.length):yM s=false:=by
 match s,h with
 |[],_=>rfl
 |[b],_=>simp[yM]
 |_::_::_,h=>simp at h
def zDl(b:UInt8)(r:List UInt8)(h:yM (b::r)=false):sgn (b::r)=if sgns.contains b=true then 1 else 0:=by simp[sgn,h]
def zOm(b:UInt8)(r:List UInt8)(H:or)(K:AV→or→Prop)(hK:K (.str ((b::r).take (sgn (b::r)))) H):ge tP 262 [.str (b::r)] H K:=by
 refine ge.out (zZQ λhs=>?_);have hO:=yd (K:=K) (H:=H) (r:=.str ((b::r).take (sgn (b::r)))) hs rfl rfl hK;have one:yM (b::r)=false→Li (.str (b::r)) H (Out H.length K):=by
  intro h2;rw[zDl b r h2]at hO;have hO:Out H.length K (.str (if sgns.contains b=true then [b] else [])) H:=by cases hc:sgns.contains b <;> rw[hc]at hO <;> simpa using hO
  have step:∀ (c:UInt8) (cs:List UInt8) (rest:Prop),(Out H.length K (.str (if cs.contains b=true then [b] else [])) H→rest)→Out H.length K (.str (if (c::cs).contains b=true then [b] else [])) H →
    gt .eql false (.str [b]) (.str [c]) λt=>tO t (xq (.str (b::r)) t H (Out H.length K)) rest:=by
   intro c cs rest h h';rw[ew]at h';cases e:(b == c) with
   |true=>rw[e]at h';simpa[xq,e]using h'
   |false=>rw[e,bJ]at h';simpa[xq,e]using h h'
  unfold Li;simp only[zKn,Xc,PD,Int.toNat_one,zPy,bA];refine⟨by decide,⟨by omega,by simp⟩,?_⟩
  revert hO
  unfold sgns
  iterate 12 refine step _ _ _ ?_
  intro h';rw[ew]at h';cases e:(b == 95) <;> rw[e]at h' <;> simpa[xq,e]using h'
 by_cases hl:2≤(b::r).length
 ·have i6:(2:Int)≤r.length+1:=by simp only[List.length_cons]at hl;omega
  have kx:1≤r.length:=by simp only[List.length_cons]at hl;omega
  cases h2:yM (b::r) with
  |true=>
   have h3:sgn (b::r)=2:=by simp[sgn,h2]
   rw[h3]at hO;unfold yM at h2;simp only[List.take_succ_cons]at h2 hO;cases e1:(b::List.take 1 r == [45,62]) with
   |true=>simpa[Do,i6,kx,BF,e1]using hO
   |false=>
    cases e2:(b::List.take 1 r == [60,61]) with
    |true=>simpa[Do,i6,kx,BF,e1,e2]using hO
    |false=>rw[e1,e2]at h2;simp only[bJ]at h2;simpa[Do,i6,kx,BF,e1,e2,h2]using hO
  |false=>have ho:=one h2;unfold yM at h2;simp only[List.take_succ_cons]at h2;rw[cd,cd]at h2;simpa[Do,i6,kx,BF,h2.1.1,h2.1.2,h2.2]using ho
 ·have ho:=one (RT hl);have:¬ ((2:Int)≤r.length+1):=by simp only[List.length_cons]at hl;omega
  simpa[Do,this]using ho
end Go.Proofs.YtdmamdnkcefmmaaGreatDoor
