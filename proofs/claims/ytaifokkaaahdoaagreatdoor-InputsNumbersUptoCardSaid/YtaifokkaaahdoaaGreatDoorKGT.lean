import Derived.Test.YtaifokkaaahdoaaGreatDoorKY8
import Derived.Test.YtaifokkaaahdoaaGreatDoorAbsQ1
import Derived.Test.YtaifokkaaahdoaaGreatDoorKNum
import Derived.Test.YtaifokkaaahdoaaGreatDoorProg
import Derived.KernelRfl
set_option linter.unusedSimpArgs false
set_option linter.unusedVariables false
set_option linter.unusedSectionVars false
set_option maxRecDepth 100000
namespace Go.Proofs.YtaifokkaaahdoaaGreatDoor
theorem zHn(x:List VT)(hl:x.length≤1000000000)(fv:AV)(H:zaa)(K:AV→zaa→Prop)(hfv:fv.sc H.length=true)(Inv:Nat→zaa→Prop)(h0:Inv 0 H)(step:∀(i:Nat) (h:i<x.length) (H':zaa),H.length≤H'.length→Inv i H'→aCallV tP fv [.agg (x[i]).cs] H' λr H''=>(r=.bool false∧Inv (i+1) H'')∨(r=.bool true∧K (.int .i64 i) H''))(fin:∀H',Inv x.length H'→K (.int .i64 (-1)) H'):ACalls tP zko [.sl (VT.css x) .none,fv] H K:=by
 refine zB3 λhs=>?_;simp[ztr];refine zB2 (Inv:=λq t8 H'=>∃i:Nat,i≤x.length∧q=x.length-i∧t8=.int .i64 i∧H.length≤H'.length∧Inv i H') x.length ?_ ?_
 ·intro _;exact⟨0,by omega,by omega,rfl,aa _,h0⟩
 ·rintro q t8 H' ⟨i,hi,rfl,rfl,hle,hI⟩ hsc hlen hsF Kb hKb;by_cases hlt:i<x.length
  ·simp[zi7,hlt];refine (step i hlt H' hle hI).mono' λr H'' hsc' hle' hr=>?_;rcases hr with ⟨rfl,hI'⟩ | ⟨rfl,hk⟩
   ·simp;rw[zaz (by omega) (by omega)];refine hKb _ _ ⟨x.length-(i+1),by omega,Back.here (by omega) hsc' ?_ ⟨_,rfl,i+1,by omega,rfl,by simp,by omega,hI'⟩⟩;simp[zi8,AV.sc,AV.scV,AV.scA,AV.scB];exact zb7 (by omega) hfv
   ·simpa using hk
  ·obtain rfl:i=x.length:=by omega
   simp[zi7];exact fin H' hI
theorem zjH(x:List VT)(hl:x.length≤1000000000)(fv:AV)(H:zaa)(K:AV→zaa→Prop)(hfv:fv.sc H.length=true)(Inv:Nat→zaa→Prop)(h0:Inv 0 H)(step:∀(i:Nat) (h:i<x.length) (H':zaa),H.length≤H'.length→Inv i H'→aCallV tP fv [.agg (x[i]).cs] H' λr H''=>(r=.bool false∧Inv (i+1) H'')∨(r=.bool true∧K (.bool true) H''))(fin:∀H',Inv x.length H'→K (.bool false) H'):ACalls tP zed [.sl (VT.css x) .none,fv] H K:=by
 refine zAp λhs=>?_;unfold zsg;refine zHn x hl fv H _ hfv Inv h0 (λi h H' hle hI=>(step i h H' hle hI).mono' λr H'' _ _ hr=>?_) (λH' hI=>?_)
 ·rcases hr with hr | ⟨h1,h2⟩
  ·exact .inl hr
  ·refine .inr ⟨h1,?_⟩;have:decide ((0:Int)≤i)=true:=by simp
   simpa using h2
 ·simpa using fin H' hI
theorem zww:zdE tP ziq=true:=by kernel_rfl
section
variable (data:List Dat) (vars:Int)
theorem zzR:∀(l:List VT) (i:Nat) (h:i<l.length),zaV data vars l=true→zaG data vars l[i]=true:=by
 intro l;induction l with
 |nil=>intro i h;simp at h
 |cons a l ih=>
  intro i h hl;simp[zaV]at hl;cases i with
  |zero=>exact hl.1
  |succ i=>exact ih i (by simpa using h) hl.2
def zaY(left:Int):AB:=.cells [.sl (data.map Dat.cs) .none,.int .i64 vars,.int .i64 left]
theorem zKK:∀ (m:Nat) (v:VT),v.nodes≤m→v.nodes≤1000000000→∀ (left:Int),left≤1000000→-1≤left→∀ (H:zaa) (id:Nat),H[id]?=some (zaY data vars left)→∀ (K:AV→zaa→Prop),
  (zaG data vars v=true→(v.nodes:Int)≤left→K (.bool true) (H.set id (zaY data vars (left-v.nodes))))→(¬(zaG data vars v=true∧(v.nodes:Int)≤left)→∀l',K (.bool false) (H.set id (zaY data vars l'))) →
  ACalls tP zim [.ptr id 0,.agg v.cs] H K:=by
 intro m;induction m with
 |zero=>intro v h;have:=v.nodes_pos;omega
 |succ m ih=>
  intro v hv hb left hl1 hl0 H id hid K hK hF;obtain⟨k,n,ks⟩:=v;have hlt:=zf1 hid;have hnn:(VT.mk k n ks).nodes=VT.nodesL ks+1:=by simp[VT.nodes]
  have hll:=VT.len_le ks;refine ACalls.out (zBK λhs=>?_)
  -- the heap within: the receiver's copy and the type's
  generalize hJ:([.cells [.ptr id 0],.cells [.int .i64 k,.int .i64 n,.sl (VT.css ks) .none]]:zaa)=J;have hJ0:J[0]?=some (.cells [.ptr id 0]):=by subst hJ;rfl
  have hJ1:J[1]?=some (.cells [.int .i64 k,.int .i64 n,.sl (VT.css ks) .none]):=by subst hJ;rfl
  have hget:∀l',(H.set id (zaY data vars l')++J)[id]?=some (zaY data vars l'):=λl'=>zcB (zem _ hid);have bad:(¬(zaG data vars (.mk k n ks)=true∧((VT.mk k n ks).nodes:Int)≤left))→∀l',Out H.length K (.bool false) (H.set id (zaY data vars l')++J):=λh l'=>
   Out.bool rfl (by simp) (hs.set rfl) (hF h l')
  have badS:zaK data vars k n ks.length=false→∀l',Out H.length K (.bool false) (H.set id (zaY data vars l')++J):=λh l'=>bad (λ⟨h1,_⟩=>by simp[zaG,h]at h1) l'
  -- the arguments
  have args:zaK data vars k n ks.length=true→1≤left→∀ KK:AV→zaa→Prop,(∀ H',Out H.length K (.bool true) H'→KK (.bool false) H')→(∀ H',Out H.length K (.bool false) H'→KK (.bool true) H') →
    ACalls tP zed [.sl (VT.css ks) .none,.fn ziq [.ptr H.length 0]] (H.set id (zaY data vars (left-1))++J) KK:=by
   intro hsh h1 KK hKf hKt;subst hJ;refine zjH ks (by omega) _ _ _ (by simp[AV.sc,AV.scV,AV.scA,AV.scB]) (λi H'=>(VT.nodesL (ks.take i):Int)+1≤left∧zaV data vars (ks.take i)=true∧H'=H.set id (zaY data vars (left-1-VT.nodesL (ks.take i)))++[.cells [.ptr id 0],.cells [.int .i64 k,.int .i64 n,.sl (VT.css ks) .none]]) ⟨by simp[VT.nodesL];omega,by simp[zaV],by simp[VT.nodesL]⟩ ?_ ?_
   ·rintro i hi H' hle ⟨hb1,hb2,rfl⟩;have hki:=VT.kid_lt (k:=k) (n:=n) hi;have h1:=VT.nodesL_take hi;have h2:=VT.nodesL_take_le ks (i+1);have hokL:zaV data vars (ks.take (i+1))=(zaV data vars (ks.take i) && zaG data vars ks[i]):=by
     rw[aj hi];have:∀(l:List VT) (x:VT),zaV data vars (l++[x])=(zaV data vars l && zaG data vars x):=by
      intro l x;induction l with
      |nil=>simp[zaV]
      |cons a l ih=>simp[zaV,ih,Bool.and_assoc]
     exact this _ _
    simp only[aCallV,zww,List.singleton_append];refine ACalls.out (zCq λhs1=>?_);have hH1:∀l',HSc (H.set id (zaY data vars l')++[.cells [.ptr id 0],.cells [.int .i64 k,.int .i64 n,.sl (VT.css ks) .none]]):=λl'=>(hs.set rfl).append (by simp[AB.sc,AV.scA,AV.scB];omega);obtain⟨x1,x2,x3,hvx,hx1,hx2,hx3⟩:=zaO ks[i];have hll2:(H.set id (zaY data vars (left-1-VT.nodesL (ks.take i)))).length=H.length:=by simp
    have hg1:(H.set id (zaY data vars (left-1-VT.nodesL (ks.take i)))++[AB.cells [.ptr id 0],.cells [.int .i64 k,.int .i64 n,.sl (VT.css ks) .none],.cells [x1,x2,x3]])[H.length]?=some (.cells [.ptr id 0]):=by rw[List.getElem?_append_right (by simp)];simp
    have hg2:(H.set id (zaY data vars (left-1-VT.nodesL (ks.take i)))++[AB.cells [.ptr id 0],.cells [.int .i64 k,.int .i64 n,.sl (VT.css ks) .none],.cells [x1,x2,x3]])[H.length+2]?=some (.cells [x1,x2,x3]):=by rw[List.getElem?_append_right (by simp)];simp
    simp[ztG,hvx,hg1,hg2,hll2];rw[←hvx];refine ih ks[i] (by omega) (by omega) (left-1-VT.nodesL (ks.take i)) (by omega) (by omega) _ id (zcB (zem _ hid)) _ ?_ ?_
    ·intro ho hle2;rw[zgO _ (zem _ hid),cy,show left-1-(VT.nodesL (ks.take i):Int)-(ks[i]).nodes=left-1-VT.nodesL (ks.take (i+1)) by omega];simp;refine Out.bool (J:=[_]) (H2:=H.set id (zaY data vars (left-1-VT.nodesL (ks.take (i+1))))++[.cells [.ptr id 0],.cells [.int .i64 k,.int .i64 n,.sl (VT.css ks) .none]]) (by simp;rfl) (by simp) (hH1 _) (.inl ⟨rfl,by omega,by rw[hokL,hb2,ho];rfl,rfl⟩)
    ·intro ho l';rw[zgO _ (zem _ hid),cy];simp;have hno:¬(zaG data vars (.mk k n ks)=true∧((VT.mk k n ks).nodes:Int)≤left):=by
      rintro⟨g1,g2⟩;have hall:zaV data vars ks=true:=by simp[zaG]at g1;exact g1.2
      exact ho ⟨zzR data vars ks i hi hall,by omega⟩
     have hb3:=bad hno l';exact Out.bool (J:=[_]) (H2:=H.set id (zaY data vars l')++[.cells [.ptr id 0],.cells [.int .i64 k,.int .i64 n,.sl (VT.css ks) .none]]) (by simp;rfl) (by simp) (hH1 _) (.inr ⟨rfl,hKt _ hb3⟩)
   ·rintro H' ⟨hb1,hb2,rfl⟩;rw[aw]at *;refine hKf _ ?_;refine Out.bool rfl (by simp) (hs.set rfl) ?_;have:=hK (by simp[zaG,hsh,hb2]) (by omega);rw[hnn]at this;rw[show left-1-(VT.nodesL ks:Int)=left-((VT.nodesL ks+1:Nat):Int) by omega];exact this
  -- behind the shape
  have fin:∀ lo hi:Int,(k≠4→k≠5→n≠0→zaK data vars k n ks.length=false)→((ks.length:Int)<lo∨hi<(ks.length:Int)→zaK data vars k n ks.length=false)→1≤left →
    ((k=4∨k=5∨n=0)→lo≤(ks.length:Int)→(ks.length:Int)≤hi→zaK data vars k n ks.length=true) →
    zdT (.ptr H.length 0) (.ptr (H.length+1) 0) (.int .i64 lo) (.int .i64 hi) (H.set id (zaY data vars (left-1))++J) (Out H.length K):=by
   intro lo hi hz hr h1 hok;have hg3:(H.set id (zaY data vars (left-1))++J)[H.length+1]?=some (.cells [.int .i64 k,.int .i64 n,.sl (VT.css ks) .none]):=by rw[List.getElem?_append_right (by simp)];subst hJ;simp
   by_cases hcase:k=4∨k=5∨n=0
   ·have h3:(k != 4)=false∨((k != 4)=true∧(k != 5)=false)∨((k != 4)=true∧(k != 5)=true∧(n != 0)=false):=by
     by_cases g4:k=4
     ·left;simp[g4]
     ·by_cases g5:k=5
      ·right;left;simp[g5]
      ·right;right;simp[g4,g5];omega
    rcases h3 with g|⟨g,g'⟩|⟨g,g',g''⟩;case' inl=>simp[zdT,hg3,hJ1,g]
    case' inr.inl=>simp[zdT,hg3,hJ1,g,g']
    case' inr.inr=>simp[zdT,hg3,hJ1,g,g',g'']
    all_goals
     by_cases hlo:(ks.length:Int)<lo
     ·simp[hlo];exact badS (hr (.inl hlo)) _
     ·by_cases hhi:hi<(ks.length:Int)
      ·simp[hlo,hhi,hJ1];exact badS (hr (.inr hhi)) _
      ·simp[hlo,hhi,AV.isB,hJ1];refine args (hok hcase (by omega) (by omega)) h1 _ (λH' ho=>?_) (λH' ho=>?_) <;> simpa using ho
   ·have g:(k != 4)=true:=by simp;omega
    have g':(k != 5)=true:=by simp;omega
    have g'':(n != 0)=true:=by simp;omega
    simp[zdT,hg3,hJ1,g,g',g''];exact badS (hz (by omega) (by omega) (by omega)) _
  have start:(H++J)[id]?=some (zaY data vars left):=zcB hid;have hmain:zml (.ptr H.length 0) (.ptr (H.length+1) 0) (H.set id (zaY data vars (left-1))++J) (Out H.length K):=by
   refine zBH λhs1=>?_;have hgv:=hget (left-1);unfold zaY at hgv;by_cases h0:left-1<0
   ·simp[zi4,hJ0,zaY,hgv,h0];exact bad (λh=>by have:=h.2;rw[hnn]at this;omega) _
   have h1:1≤left:=by omega
   simp[zi4,hJ0,hJ1,zaY,hgv,h0];refine zBJ λ_=>?_;have hfin:=λlo hi a b c=>fin lo hi a b h1 c;unfold zaY at hfin badS
   -- the three without arguments
   by_cases h123:k=1∨k=2∨k=3
   ·have hsh:zaK data vars k n ks.length=(n == 0 && ks.length == 0):=by rcases h123 with rfl | rfl | rfl <;> rfl
    have:=hfin 0 0 (λ_ _ hn=>by rw[hsh];simp[hn]) (λh=>by rw[hsh];simp;intro _;rintro rfl;simp at h) (λh h2 h3=>by
     have hn:n=0:=by omega
     have hl:ks.length=0:=by omega
     rw[hsh,hn,hl];rfl)
    rcases h123 with rfl|rfl|rfl <;> simp[zi5] <;> refine zmn λ_=>?_ <;> simp[zb2,zcm] <;> exact this
   have b1:(k == 1)=false:=by simp;omega
   have b2:(k == 2)=false:=by simp;omega
   have b3:(k == 3)=false:=by simp;omega
   simp[zi5,b1,b2,b3];refine zmn λ_=>?_;by_cases h4:k=4
   ·subst h4;have hsh:zaK data vars 4 n ks.length=(decide (0≤n) && decide (n<vars) && ks.length == 0):=rfl;by_cases g1:n<0
    ·simp[zb2,hJ0,hJ1,hgv,g1];exact badS (by rw[hsh];simp;omega) _
    by_cases g2:vars≤n
    ·simp[zb2,hJ0,hJ1,hgv,g1,g2];exact badS (by rw[hsh];simp;omega) _
    have:=hfin 0 0 (λh=>(h rfl).elim) (λh=>by rw[hsh];simp;intro _ _;rintro rfl;simp at h) (λh h2 h3=>by
     have hl:ks.length=0:=by omega
     rw[hsh,hl];simp;omega)
    simp[zb2,hJ0,hJ1,hgv,g1,g2,zcm];exact this
   have b4:(k == 4)=false:=by simp;omega
   by_cases h5:k=5
   ·subst h5;have hsh:zaK data vars 5 n ks.length=(decide (0≤n) && (match data[n.toNat]? with | some d=>(ks.length:Int) == d.vars | none=>false)):=rfl;by_cases g1:n<0
    ·simp[zb2,hJ0,hJ1,hgv,g1];exact badS (by rw[hsh];simp;omega) _
    by_cases g2:(data.length:Int)≤n
    ·simp[zb2,hJ0,hJ1,hgv,g1,g2];exact badS (by rw[hsh,List.getElem?_eq_none (by omega)];simp) _
    have hnl:n.toNat<data.length:=by omega
    have g2':n<data.length:=by omega
    have g1':0≤n:=by omega
    rw[List.getElem?_eq_getElem hnl]at hsh;simp only[g1',dc,aR]at hsh;have:=hfin (data[n.toNat]).vars (data[n.toNat]).vars (λ_ h=>(h rfl).elim) (λh=>by rw[hsh];simp;omega) (λh h2 h3=>by rw[hsh];simp;omega);simp[zb2,hJ0,hJ1,hgv,g1,g2,g1',g2',hnl,Dat.cs,zcm];exact this
   have b5:(k == 5)=false:=by simp;omega
   by_cases h6:k=6
   ·subst h6;have hsh:zaK data vars 6 n ks.length=(n == 0 && decide (2≤ks.length) && decide (ks.length≤6)):=rfl;have:=hfin 2 6 (λ_ _ hn=>by rw[hsh];simp[hn]) (λh=>by rw[hsh];simp;intros;omega) (λh h2 h3=>by rw[hsh];simp;omega);simp[zb2,zcm];exact this
   have b6:(k == 6)=false:=by simp;omega
   by_cases h78:k=7∨k=8
   ·have hsh:zaK data vars k n ks.length=(n == 0 && ks.length == 1):=by rcases h78 with rfl | rfl <;> rfl
    have:=hfin 1 1 (λ_ _ hn=>by rw[hsh];simp[hn]) (λh=>by rw[hsh];simp;intros;omega) (λh h2 h3=>by rw[hsh];simp;omega);rcases h78 with rfl|rfl <;> simp[zb2] <;> refine zmo λ_=>?_ <;> simp[zgo,zcm] <;> exact this
   have b7:(k == 7)=false:=by simp;omega
   have b8:(k == 8)=false:=by simp;omega
   simp[zb2,b4,b5,b6,b7,b8];refine zmo λ_=>?_;by_cases h9:k=9
   ·subst h9;have hsh:zaK data vars 9 n ks.length=(n == 0 && decide (1≤ks.length) && decide (ks.length≤7)):=rfl;have:=hfin 1 7 (λ_ _ hn=>by rw[hsh];simp[hn]) (λh=>by rw[hsh];simp;intros;omega) (λh h2 h3=>by rw[hsh];simp;omega);simp[zgo,zcm];exact this
   ·have b9:(k == 9)=false:=by simp;omega
    simp[zgo,b9];exact badS (by unfold zaK;simp[b1,b2,b3,b4,b5,b6,b7,b8,b9]) _
  subst hJ;unfold zaY at start;simp[zs1,VT.cs,start];rw[zaz (by omega) (by omega),zgO _ hid];exact hmain
theorem zW3(v:VT)(hb:v.nodes≤1000000000)(H:zaa)(K:AV→zaa→Prop)(hK:K (.bool (zaD data vars v)) H):ACalls tP zga [.sl (data.map Dat.cs) .none,.agg v.cs,.int .i64 vars] H K:=by
 refine ACalls.out (zE5 λhs=>?_);have hO:∀J,Out H.length K (.bool (zaD data vars v)) (H++J):=λJ=>Out.bool rfl (aa _) hs hK;obtain⟨x1,x2,x3,hvx,hx1,hx2,hx3⟩:=zaO v;simp[zvE,hvx,zar,zaL];rw[←hvx];refine zKK data vars _ v (aa _) hb 200 (by omega) (by omega) _ (H.length+1) (by simp[zaY]) _ ?_ ?_
 ·intro ho hn;have:zaD data vars v=true:=by simp[zaD,ho];omega
  rw[this]at hO;simp;exact hO _
 ·intro hno l';have:zaD data vars v=false:=by
   cases h:zaD data vars v with
   |false=>rfl
   |true=>simp[zaD]at h;exact(hno ⟨h.2,by omega⟩).elim
  rw[this]at hO;simp;exact hO _
end
mutual
theorem zrz:∀ v:VT,subst [] v=v
 |.mk k n ks=>by rw[subst,ap (by rintro⟨_,h1,h2⟩;simp at h2;omega),zzC ks]
theorem zzC:∀ l:List VT,zaR [] l=l
 |[]=>rfl
 |t::ts=>by rw[zaR,zrz t,zzC ts]
end
theorem zOD:∀(m:Nat) (args:List VT),(∀x∈args,x.nodes≤1000000)→args.length≤1000000→∀(v:VT),(if args=[] then v.nodes else v.nodes+1000001)≤m→v.nodes≤1000000→∀(H:zaa) (K:AV→zaa→Prop),K (.agg (subst args v).cs) H→ACalls tP zio [.agg v.cs,.sl (VT.css args) .none] H K:=by
 intro m;induction m with
 |zero=>intro args _ _ v h;have:=v.nodes_pos;split at h <;> omega
 |succ m ih=>
  intro args ha hal v hv hb H K hK;obtain⟨k,n,ks⟩:=v;have hnl:VT.nodesL ks+1≤1000000:=by simpa[VT.nodes]using hb
  have hll:=VT.len_le ks;refine ACalls.out (zOB λhs=>?_);by_cases hvar:k=4∧0≤n∧n<args.length
  ·obtain⟨rfl,h0,h1⟩:=hvar;have hn:n.toNat<args.length:=by omega
   have hne:args≠[]:=by rintro rfl;simp at hn
   have hK':K (.agg (args[n.toNat]).cs) H:=by rw[subst,aB ⟨rfl,h0,h1⟩,List.getElem?_eq_getElem hn]at hK;exact hK
   have hle:=ha _ (ae hn);simp[VT.cs,ztg,h0,h1,hn];rw[ap hne]at hv;refine ACalls.wk (args':=[.agg (args[n.toNat]).cs,.sl (VT.css []) .none]) ?_ ⟨.rfl',.atom .snil,trivial⟩;refine ih [] (by simp) (by simp) _ (by simp;omega) hle _ _ ?_;rw[zrz];generalize args[n.toNat]=x at *;obtain⟨k',n',ks'⟩:=x;simp[VT.cs];exact Out.at rfl (aa _) hs .rfl' rfl rfl hK'
  ·have hK':K (.agg (VT.mk k n (zaR args ks)).cs) H:=by rw[subst,ap hvar]at hK;exact hK
   have go:∀H1,H1=H++[.cells [.int .i64 k,.int .i64 n,.sl (VT.css ks) .none],.cells [.int .i64 0,.int .i64 0,.snil],.cells [.int .i64 k,.int .i64 n,.snil]]→zi6 (.sl (VT.css args) .none) (.ptr (H.length+1) 0) (.ptr (H.length+2) 0) (.sl (VT.css ks) .none) (.int .i64 ks.length) (.int .i64 0) H1 (Out H.length K):=by
    rintro _ rfl;unfold zi6;refine ALoop.ownC (cs:=[.int .i64 k,.int .i64 n,.snil]) (H.length+2) 2 zbk 3 (by simp) rfl ?_;have e0:(H++[AB.cells [.int .i64 k,.int .i64 n,.sl (VT.css ks) .none],.cells [.int .i64 0,.int .i64 0,.snil],.cells [.int .i64 k,.int .i64 n,.snil]]).length=H.length+3:=by simp
    rw[e0,zy8,ah];have hJ:∀i X,HSc (H++[.cells [.int .i64 k,.int .i64 n,.sl (VT.css ks) .none],.cells [.int .i64 0,.int .i64 0,.snil],.cells [.int .i64 k,.int .i64 n,.sl X (.own (H.length+3))],.perm zbk 3 i]):=λi X=>hs.append (by simp[AB.sc,AV.scA,AV.scB]);show zi6 (.sl (VT.css args) .none) (.ptr (H.length+1) 0) (.ptr (H.length+2) 0) (.sl (VT.css ks) .none) (.int .i64 ks.length) (.int .i64 0) (H++[.cells [.int .i64 k,.int .i64 n,.sl (VT.css ks) .none],.cells [.int .i64 0,.int .i64 0,.snil],.cells [.int .i64 k,.int .i64 n,.sl [] (.own (H.length+3))],.perm zbk 3 0]) (Out H.length K);refine zOz (Inv:=λq t37 H'=>∃i:Nat,i≤ks.length∧q=ks.length-i∧t37=.int .i64 i∧H'=H++[.cells [.int .i64 k,.int .i64 n,.sl (VT.css ks) .none],.cells [.int .i64 0,.int .i64 0,.snil],.cells [.int .i64 k,.int .i64 n,.sl (VT.css ((zaR args ks).take i)) (.own (H.length+3))],.perm zbk 3 i]) ks.length ?_ ?_
    ·intro _;exact⟨0,by omega,by omega,rfl,by simp[VT.css]⟩
    ·rintro q t37 H' ⟨i,hi,rfl,rfl,rfl⟩ hsc hlen hsF Kb hKb;by_cases hlt:i<ks.length
     ·have hki:=VT.kid_lt (k:=k) (n:=n) hlt;have hsl:(zaR args ks).length=ks.length:=by rw[zen];simp
      have hlt':i<(zaR args ks).length:=by omega
      have hsi:(zaR args ks)[i]=subst args ks[i]:=by simp[zen]
      obtain⟨x1,x2,x3,hvx,hx1,hx2,hx3⟩:=zaO ks[i];simp[zth,hlt,hvx,hx1,hx2,hx3];rw[←hvx];refine zaC (.agg (subst args ks[i]).cs) (λJ=>ih args ha hal ks[i] (by by_cases he:args=[] <;> simp only[he,cO,aT]at hv ⊢ <;> omega) (by omega) _ _ ⟨rfl,rfl⟩) ?_;rw[zd4,←hsi];simp[zax,za6,zaZ,hsl];refine⟨by omega,⟨by omega,by omega⟩,?_⟩;rw[zaz (by omega) (by omega),show min i ks.length=i by omega];refine hKb _ _ ⟨ks.length-(i+1),by omega,Back.at (J:=[_]) (H2:=H++[.cells [.int .i64 k,.int .i64 n,.sl (VT.css ks) .none],.cells [.int .i64 0,.int .i64 0,.snil],.cells [.int .i64 k,.int .i64 n,.sl (VT.css ((zaR args ks).take (i+1))) (.own (H.length+3))],.perm zbk 3 (i+1)]) (by rw[zh2 hlt'];simp;rfl) (by simp) (hJ _ _) ?_ ⟨_,rfl,i+1,by omega,rfl,by simp,rfl⟩⟩;simp[zmA,AV.sc,AV.scV,AV.scA,AV.scB]
     ·obtain rfl:i=ks.length:=by omega
      have e:(zaR args ks).take ks.length=zaR args ks:=ak (by rw[zen];simp);rw[e];simp[zth];exact Out.at rfl (aa _) hs (WkV.agg (ds:=[.int .i64 k,.int .i64 n,.sl (VT.css (zaR args ks)) .none]) ⟨.refl _,.refl _,.sl _ _,trivial⟩) rfl (by simp[AV.scV,AV.scA,AV.scB]) (by simpa[VT.cs]using hK')
   simp only[VT.cs,ztg];by_cases h4:k=4
   ·subst h4;by_cases h0:0≤n
    ·have h1:¬n<args.length:=λh=>hvar ⟨rfl,h0,h⟩;simp[h0,h1,zar,zaL,ag];exact go _ rfl
    ·simp[h0,zar,zaL,ag];exact go _ rfl
   ·have h4':(k == 4)=false:=by simpa using h4
    simp[h4',zar,zaL,ag];exact go _ rfl
def zla(args:List VT):AB:=.cells (args.map λx=>.int .i64 x.nodes)
theorem zOw(args:List VT)(ha:∀ x∈args,x.nodes≤1000000)(hal:args.length≤1000000):∀ (m:Nat) (v:VT),v.nodes≤m→v.nodes≤1000000→∀ (H:zaa) (id:Nat),H[id]?=some (zla args)→∀ (K:AV→zaa→Prop),
  (∀r:Nat,(r≤200↔(subst args v).nodes≤200)→(r≤200→r=(subst args v).nodes)→r≤1000000+200*v.nodes→K (.int .i64 r) H)→ACalls tP zkk [.agg v.cs,.ms id 0 args.length args.length] H K:=by
 intro m;induction m with
 |zero=>intro v h;have:=v.nodes_pos;omega
 |succ m ih=>
  intro v hv hb H id hid K hK;obtain⟨k,n,ks⟩:=v;have hnl:VT.nodesL ks+1≤1000000:=by simpa[VT.nodes]using hb
  have hll:=VT.len_le ks;have hidl:=zf1 hid;refine ACalls.out (zOu λhs=>?_);by_cases hvar:k=4∧0≤n∧n<args.length
  ·obtain⟨rfl,h0,h1⟩:=hvar;have hn:n.toNat<args.length:=by omega
   have hsub:subst args (.mk 4 n ks)=args[n.toNat]:=by rw[subst,aB ⟨rfl,h0,h1⟩,List.getElem?_eq_getElem hn];rfl
   rw[hsub]at hK;have hg:(H++[AB.cells [.int .i64 4,.int .i64 n,.sl (VT.css ks) .none]])[id]?=some (zla args):=zcB hid;have hle:=ha _ (ae hn);unfold zla at hg;simp[VT.cs,ztb,h0,h1,hn,hg,zbr];exact Out.int rfl (aa _) hs (hK _ aG (λ_=>rfl) (by omega))
  ·have hsub:subst args (.mk k n ks)=.mk k n (zaR args ks):=by rw[subst,ap hvar]
   have hnodes:(subst args (.mk k n ks)).nodes=VT.nodesL (zaR args ks)+1:=by rw[hsub];rfl
   rw[hnodes]at hK;have hO:∀r:Nat,(r≤200↔VT.nodesL (zaR args ks)+1≤200)→(r≤200→r=VT.nodesL (zaR args ks)+1)→r≤1000000+200*(VT.mk k n ks).nodes→∀J,Out H.length K (.int .i64 r) (H++J):=λr h1 h2 h3 J=>Out.int rfl (aa _) hs (hK r h1 h2 h3);have hsl:(zaR args ks).length=ks.length:=by rw[zen];simp
   have go:ztf (.ms id 0 args.length args.length) (.int .i64 1) (.sl (VT.css ks) .none) (.int .i64 ks.length) (.int .i64 0) (H++[.cells [.int .i64 k,.int .i64 n,.sl (VT.css ks) .none]]) (Out H.length K):=by
    refine zOs (Inv:=λq t5 t31 H'=>∃i:Nat,i≤ks.length∧q=ks.length-i∧t31=.int .i64 i∧t5=.int .i64 (1+VT.nodesL ((zaR args ks).take i):Nat)∧1+VT.nodesL ((zaR args ks).take i)≤200∧H'=H++[.cells [.int .i64 k,.int .i64 n,.sl (VT.css ks) .none]]) ks.length ?_ ?_
    ·intro _;exact⟨0,by omega,by omega,rfl,by simp[VT.nodesL],by simp[VT.nodesL],rfl⟩
    ·rintro q t5 t31 H' ⟨i,hi,rfl,rfl,rfl,hb2,rfl⟩ hsc hlen hsF Kb hKb;by_cases hlt:i<ks.length
     ·have hki:=VT.kid_lt (k:=k) (n:=n) hlt;have hlt':i<(zaR args ks).length:=by omega
      have hsi:(zaR args ks)[i]=subst args ks[i]:=by simp[zen]
      have h1:=VT.nodesL_take hlt';have h2:=VT.nodesL_take_le (zaR args ks) (i+1);rw[hsi]at h1;obtain⟨x1,x2,x3,hvx,hx1,hx2,hx3⟩:=zaO ks[i];simp[ztc,hlt,hvx,hx1,hx2,hx3];rw[←hvx];refine ih ks[i] (by omega) (by omega) _ id (zcB hid) _ λr hr1 hr2 hr3=>?_;simp;rw[zaz (by omega) (by omega)];by_cases hbig:(200:Int)<1+VT.nodesL ((zaR args ks).take i)+r
      ·simp[hbig,zmy,zte];have:=hO (1+VT.nodesL ((zaR args ks).take i)+r) (by constructor <;> intro h <;> omega) (by omega) (by omega);have e:((1+VT.nodesL ((zaR args ks).take i)+r:Nat):Int)=1+(VT.nodesL ((zaR args ks).take i):Int)+r:=by omega
       rw[e]at this;exact this _
      ·have hr:r=(subst args ks[i]).nodes:=hr2 (by omega);simp[hbig];rw[zaz (by omega) (by omega),zzN];refine hKb _ _ ⟨ks.length-(i+1),by omega,Back.same (by simp) hsc ?_ ⟨_,_,rfl,i+1,by omega,rfl,by simp,?_,by omega,rfl⟩⟩
       ·simp[zmx,AV.sc,AV.scV,AV.scA,AV.scB];omega
       ·congr 1;omega
     ·obtain rfl:i=ks.length:=by omega
      rw[ak (by omega)]at *;simp[ztc,zmy,zte];have:=hO (1+VT.nodesL (zaR args ks)) (by omega) (by omega) (by omega);have e:((1+VT.nodesL (zaR args ks):Nat):Int)=1+(VT.nodesL (zaR args ks):Int):=by omega
      rw[e]at this;exact this _
   simp only[VT.cs,ztb];by_cases h4:k=4
   ·subst h4;by_cases h0:0≤n
    ·have h1:¬n<args.length:=λh=>hvar ⟨rfl,h0,h⟩;simp[h0,h1];exact go
    ·simp[h0];exact go
   ·have h4':(k == 4)=false:=by simpa using h4
    simp[h4'];exact go
def zc2(args:List VT)(i:Nat):List AV:=(args.take i).map (λx=>.int .i64 x.nodes)++List.replicate (args.length-i) (.int .i64 0)
theorem zJb(args:List VT){i:Nat}(h:i≤args.length):(zc2 args i).length=args.length:=by simp[zc2];omega
theorem zJc(args:List VT){i:Nat}(h:i<args.length):(zc2 args i).take i++[.int .i64 (args[i]).nodes]++(zc2 args i).drop (i+1)=zc2 args (i+1):=by
 have e1:((args.take i).map λx=>AV.int .i64 x.nodes).length=i:=by simp;omega
 unfold zc2;rw[List.take_append_of_le_length (by omega),ak (by omega),ch,bQ (by omega),List.nil_append,e1,aj h,bj];congr 1;rw[show i+1-i=1 by omega,List.drop_replicate];congr 1
theorem zFb(data:List Dat)(hdl:data.length≤1000000)(hda:∀ d∈data,∀ c∈d.cons,c.args.length≤1000∧∀ x∈c.args,x.nodes≤1000)(hdc:∀ d∈data,d.cons.length≤1000000)(t:VT)(ht:t.nodes≤1000)(c:Int)(H:zaa)(K:AV→zaa→Prop)(hK:K (zcV (za7 data t c)) H):
  ACalls tP zkU [.sl (data.map Dat.cs) .none,.agg t.cs,.int .i64 c] H K:=by
 refine ACalls.out (zXm λhs=>?_);obtain⟨k,n,ks⟩:=t;have hkn:VT.nodesL ks+1≤1000:=by simpa[VT.nodes]using ht
 have hkl:=VT.len_le ks;have hF:za7 data (.mk k n ks) c=none→∀J,Out H.length K (.tup [.snil,.bool false]) (H++J):=λh J=>by rw[h]at hK;exact Out.tup hs hK ⟨zhu,zbN rfl rfl,trivial⟩
 simp only[VT.cs,zE8];by_cases h5:k=5;case neg=>
  have:(k != 5)=true:=by simpa using h5
  simp[this,AV.isV];exact hF (by rw[zda,ap (λh=>h5 h.1)]) _
 subst h5;by_cases h0:n<0
 ·simp[h0,AV.isV];exact hF (by rw[zda,ap (λh=>by have:=h.2.1;omega)]) _
 by_cases h1:(data.length:Int)≤n
 ·simp[h0,h1,AV.isV];exact hF (by
   rw[zda];split
   ·rw[List.getElem?_eq_none (by omega)]
   ·rfl) _
 have hn:n.toNat<data.length:=by omega
 have h1':n<data.length:=by omega
 have h0':0≤n:=by omega
 generalize hdd:data[n.toNat]=d at *;have hd:d∈data:=by rw[←hdd];exact ae hn
 have hget:data[n.toNat]?=some d:=by rw[List.getElem?_eq_getElem hn,hdd]
 cases hv:((ks.length:Int) == d.vars) with
 |false=>
  have hv':((ks.length:Int) != d.vars)=true:=by simp[bne,hv]
  simp[h0,h1,h0',h1',hn,hdd,Dat.cs,hv',AV.isV,hget];exact hF (by
   rw[zda];split
   ·rw[hget];simp only;rw[ap (by simpa using hv)]
   ·rfl) _
 |true=>
 have hv':((ks.length:Int) != d.vars)=false:=by simp[bne,hv]
 have hve:(ks.length:Int)=d.vars:=by simpa using hv
 by_cases hc0:c<0
 ·simp[h0,h1,h0',h1',hn,hdd,Dat.cs,hv',AV.isV,hget,hc0];exact hF (by rw[zda,ap (λh=>by have:=h.2.2;omega)]) _
 have hfe:∀o,(match d.cons[c.toNat]? with|some k=>if (k.args.map (subst ks)).all (λx=>decide (x.nodes≤200))=true then some (k.args.map (subst ks)) else none|none=>none)=o→za7 data (.mk 5 n ks) c=o:=λo h=>by rw[zda,aB ⟨rfl,h0',by omega⟩,hget];simp only;rw[aB hve];exact h
 by_cases hc1:(d.cons.length:Int)≤c
 ·simp[h0,h1,h0',h1',hn,hdd,Dat.cs,hv',AV.isV,hget,hc0,hc1];exact hF (hfe none (by rw[List.getElem?_eq_none (by omega)])) _
 have hcn:c.toNat<d.cons.length:=by omega
 have hc1':c<d.cons.length:=by omega
 have hc0':0≤c:=by omega
 generalize hcc:d.cons[c.toNat]=co at *;have hco:co∈d.cons:=by rw[←hcc];exact ae hcn
 have hgc:d.cons[c.toNat]?=some co:=by rw[List.getElem?_eq_getElem hcn,hcc]
 obtain⟨hal,han⟩:=hda d hd co hco;have hfe':=λo=>hfe o;rw[hgc]at hfe';simp only at hfe';have hkle:∀x∈ks,x.nodes≤1000:=λy hy=>aC (zg3 (k:=5) (n:=n) y hy) ht;simp[h0,h1,h0',h1',hn,hdd,Dat.cs,hv',AV.isV,hget,hc0,hc1,hc0',hc1',hcn,hcc,za9];refine⟨by omega,?_⟩;have ez:List.replicate ks.length (AV.int .i64 0)=zc2 ks 0:=by simp[zc2]
 rw[ez];have hsc3:∀(l:List AV),(l.all λa=>a.scA (H.length+3))=true→HSc (H++[.cells [.int .i64 5,.int .i64 n,.sl (VT.css ks) .none],.cells [.str d.name,.int .i64 d.vars,.sl (d.cons.map Con.cs) .none],.cells l]):=λl hl=>hs.append (by simp[AB.sc];simpa using hl);have hszsc:∀i,((zc2 ks i).all λa=>a.scA (H.length+3))=true:=λi=>by
  rw[am];intro x hx;unfold zc2 at hx;rcases aP.1 hx with h|h
  ·obtain⟨y,_,rfl⟩:=aV.1 h;rfl
  ·rw[bC h];rfl
 refine zXi (Inv:=λq t61 H'=>∃i:Nat,i≤ks.length∧q=ks.length-i∧t61=.int .i64 i∧H'=H++[.cells [.int .i64 5,.int .i64 n,.sl (VT.css ks) .none],.cells [.str d.name,.int .i64 d.vars,.sl (d.cons.map Con.cs) .none],.cells (zc2 ks i)]) ks.length ?_ ?_
 ·intro _;exact⟨0,by omega,by omega,rfl,rfl⟩
 ·rintro q t61 H' ⟨i,hi,rfl,rfl,rfl⟩ hsc8 hlen8 hsF8 Kb8 hKb8;by_cases hlt:i<ks.length
  ·have hle:=hkle _ (ae hlt);obtain⟨x1,x2,x3,hvx,hx1,hx2,hx3⟩:=zaO ks[i];simp[zvI,hlt,hvx,hx1,hx2,hx3];rw[←hvx];refine zOp _ _ (aa _) (by omega) _ _ ?_;have hll:=zJb ks hi;simp[hlt,hll];refine⟨by omega,?_⟩;rw[zaz (by omega) (by omega)];have e:=zJc ks hlt;rw[ah,List.singleton_append]at e;rw[e];refine hKb8 _ _ ⟨ks.length-(i+1),by omega,Back.at (J:=[_]) (H2:=H++[.cells [.int .i64 5,.int .i64 n,.sl (VT.css ks) .none],.cells [.str d.name,.int .i64 d.vars,.sl (d.cons.map Con.cs) .none],.cells (zc2 ks (i+1))]) (by simp;rfl) (by simp) (hsc3 _ (hszsc _)) ?_ ⟨_,rfl,i+1,by omega,rfl,by simp,rfl⟩⟩;simp[zoT,AV.sc,AV.scV,AV.scA,AV.scB]
  ·obtain rfl:i=ks.length:=by omega
   have efull:zc2 ks ks.length=ks.map λx=>.int .i64 x.nodes:=by simp[zc2]
   have hsc8':=hsc8;rw[efull]at hsc8' ⊢;simp[zvI,hc0',hc1',hcn,hcc,Con.cs,hgc];refine zXg (Inv:=λq t79 H'=>∃i:Nat,i≤co.args.length∧q=co.args.length-i∧t79=.int .i64 i∧(∀x∈co.args.take i,(subst ks x).nodes≤200)∧H'=H++[.cells [.int .i64 5,.int .i64 n,.sl (VT.css ks) .none],.cells [.str d.name,.int .i64 d.vars,.sl (d.cons.map Con.cs) .none],.cells (ks.map λx=>.int .i64 x.nodes)]) co.args.length ?_ ?_
   ·intro _;exact⟨0,by omega,by omega,rfl,by simp,rfl⟩
   ·rintro q t79 H' ⟨i,hi,rfl,rfl,hall,rfl⟩ hsc13 hlen13 hsF13 Kb13 hKb13;by_cases hlt:i<co.args.length
    ·have hmem:=ae hlt;obtain⟨x1,x2,x3,hvx,hx1,hx2,hx3⟩:=zaO co.args[i];simp[zvG,hlt,hvx,hx1,hx2,hx3];rw[←hvx];refine zOw ks (λy hy=>by have:=hkle y hy;omega) (by omega) _ co.args[i] (aa _) (by have:=han _ hmem;omega) _ (H.length+2) (by simp[zla]) _ λr hr1 hr2 hr3=>?_;by_cases hbig:r≤200
     ·have hbig':¬ (200:Int)<r:=by omega
      simp[hbig'];rw[zaz (by omega) (by omega)];refine hKb13 _ _ ⟨co.args.length-(i+1),by omega,Back.at (J:=[_]) (H2:=H++[.cells [.int .i64 5,.int .i64 n,.sl (VT.css ks) .none],.cells [.str d.name,.int .i64 d.vars,.sl (d.cons.map Con.cs) .none],.cells (ks.map λx=>.int .i64 x.nodes)]) (by simp;rfl) (by simp) hsc8' ?_ ⟨_,rfl,i+1,by omega,rfl,by simp,zxU hlt hall (hr1.1 hbig),rfl⟩⟩;simp[zoR,AV.sc,AV.scV,AV.scA,AV.scB]
     ·have hbig':(200:Int)<r:=by omega
      simp[hbig',AV.isV];refine hF (hfe' none ?_) _;rw[ap];intro hal2;have:=am.1 hal2 (subst ks co.args[i]) (aV.2 ⟨_,hmem,rfl⟩);exact hbig (hr1.2 (ct this))
    ·obtain rfl:i=co.args.length:=by omega
     rw[aw]at hall;have hfs:=hfe' (some (co.args.map (subst ks))) (aB (am.2 λy hy=>by
      obtain⟨x,hx,rfl⟩:=aV.1 hy;exact bf (hall x hx)))
     rw[hfs]at hK;simp[zvG,hc0',hc1',hcn,hcc,Con.cs,hgc];unfold zoU;refine ALoop.own 14 zbk 3 rfl ?_;have hlen1:(H++[AB.cells [.int .i64 5,.int .i64 n,.sl (VT.css ks) .none],.cells [.str d.name,.int .i64 d.vars,.sl (d.cons.map Con.cs) .none],.cells (ks.map λx=>.int .i64 x.nodes)]).length=H.length+3:=by simp
     rw[hlen1];have hperm:∀m,HSc (H++[.cells [.int .i64 5,.int .i64 n,.sl (VT.css ks) .none],.cells [.str d.name,.int .i64 d.vars,.sl (d.cons.map Con.cs) .none],.cells (ks.map λx=>.int .i64 x.nodes),.perm zbk 3 m]):=λm=>by have:=hsc8'.append (J:=[.perm zbk 3 m]) rfl;simpa using this
     rw[ah];show zoU (.ptr H.length 0) (.sl [] (.own (H.length+3))) (.sl (VT.css co.args) .none) (.int .i64 co.args.length) (.int .i64 0) (H++[.cells [.int .i64 5,.int .i64 n,.sl (VT.css ks) .none],.cells [.str d.name,.int .i64 d.vars,.sl (d.cons.map Con.cs) .none],.cells (ks.map λx=>.int .i64 x.nodes),.perm zbk 3 0]) (Out H.length K);refine zXh (Inv:=λq t14 t95 H'=>∃i:Nat,i≤co.args.length∧q=co.args.length-i∧t95=.int .i64 i∧t14=.sl (VT.css ((co.args.map (subst ks)).take i)) (.own (H.length+3))∧H'=H++[.cells [.int .i64 5,.int .i64 n,.sl (VT.css ks) .none],.cells [.str d.name,.int .i64 d.vars,.sl (d.cons.map Con.cs) .none],.cells (ks.map λx=>.int .i64 x.nodes),.perm zbk 3 i]) co.args.length ?_ ?_
     ·intro _;exact⟨0,by omega,by omega,rfl,by simp[VT.css],rfl⟩
     ·rintro q t14 t95 H' ⟨i,hi,rfl,rfl,rfl,rfl⟩ hsc20 hlen20 hsF20 Kb20 hKb20;by_cases hlt:i<co.args.length
      ·have hmem:=ae hlt;obtain⟨x1,x2,x3,hvx,hx1,hx2,hx3⟩:=zaO co.args[i];simp[zvH,hlt,hvx,hx1,hx2,hx3];rw[←hvx];refine zOD _ ks (λy hy=>by have:=hkle y hy;omega) (by omega) co.args[i] (aa _) (by have:=han _ hmem;omega) _ _ ?_;rw[zd4];simp[zax,za6,zaZ];refine⟨by omega,⟨by omega,by omega⟩,?_⟩;rw[zaz (by omega) (by omega),show min i co.args.length=i by omega];refine hKb20 _ _ ⟨co.args.length-(i+1),by omega,Back.at (H2:=H++[.cells [.int .i64 5,.int .i64 n,.sl (VT.css ks) .none],.cells [.str d.name,.int .i64 d.vars,.sl (d.cons.map Con.cs) .none],.cells (ks.map λx=>.int .i64 x.nodes),.perm zbk 3 (i+1)]) (J:=[_]) (by simp;rfl) (by simp) (hperm _) ?_ ⟨_,_,rfl,i+1,by omega,rfl,by simp,?_,rfl⟩⟩
       ·simp[zoS,AV.sc,AV.scV,AV.scA,AV.scB]
       ·rw[zh2 (by simpa using hlt)];simp
      ·obtain rfl:i=co.args.length:=by omega
       rw[ak (by simp)];simp[zvH,AV.isV];exact Out.tup hs hK ⟨slV,zbN rfl rfl,trivial⟩
def zie(i:Nat):VT→Bool
 |.mk k n ks=>k == 4 && n == i && ks.length == 0
def zcJ:List VT→Nat→Bool
 |[],_=>true
 |x::l,i=>zie i x && zcJ l (i+1)
def zcb(d vars:Int):VT→Bool
 |.mk k n ks=>k == 5 && n == d && (ks.length:Int) == vars && zcJ ks 0
mutual
def zcv(d:Int):VT→Bool
 |.mk k n ks=>(k == 5 && n == d) || zfo d ks
def zfo(d:Int):List VT→Bool
 |[]=>false
 |t::ts=>zcv d t || zfo d ts
end
theorem zFi(v:VT)(d vars:Int)(hb:v.nodes≤1000000)(H:zaa)(K:AV→zaa→Prop)(hK:K (.bool (zcb d vars v)) H):ACalls tP zqU [.agg v.cs,.int .i64 d,.int .i64 vars] H K:=by
 refine ACalls.out (zT7 λhs=>?_);obtain⟨k,n,ks⟩:=v;have hnl:VT.nodesL ks+1≤1000000:=by simpa[VT.nodes]using hb
 have hll:=VT.len_le ks;have hO:∀J,Out H.length K (.bool (k == 5 && n == d && (ks.length:Int) == vars && zcJ ks 0)) (H++J):=λJ=>Out.bool rfl (aa _) hs (by simpa[zcb]using hK);simp only[VT.cs,zDU];cases h5:(k == 5) with
 |false=>
  have:(k != 5)=true:=by simp[bne,h5]
  rw[h5]at hO;simp[this];exact hO _
 |true=>
 have h5':(k != 5)=false:=by simp[bne,h5]
 cases hn:(n == d) with
 |false=>
  have:(n != d)=true:=by simp[bne,hn]
  rw[h5,hn]at hO;simp[h5',this];exact hO _
 |true=>
 have hn':(n != d)=false:=by simp[bne,hn]
 cases hv:((ks.length:Int) == vars) with
 |false=>
  have:((ks.length:Int) != vars)=true:=by simp[bne,hv]
  rw[h5,hn,hv]at hO;simp[h5',hn',this];exact hO _
 |true=>
 have hv':((ks.length:Int) != vars)=false:=by simp[bne,hv]
 rw[h5,hn,hv]at hO;simp only[aR]at hO;simp[h5',hn',hv'];refine zT5 (Inv:=λq t7 H'=>∃i:Nat,i≤ks.length∧q=ks.length-i∧t7=.int .i64 i∧zcJ (ks.drop i) i=zcJ ks 0∧H'=H++[.cells [.int .i64 k,.int .i64 n,.sl (VT.css ks) .none]]) ks.length ?_ ?_
 ·intro _;exact⟨0,by omega,by omega,rfl,by simp,rfl⟩
 ·rintro q t7 H' ⟨i,hi,rfl,rfl,ho,rfl⟩ hsc hlen hsF Kb hKb;by_cases hlt:i<ks.length
  ·rw[af hlt,zcJ]at ho;obtain⟨k',n',ks',hx⟩:∃ k' n' ks',ks[i]=.mk k' n' ks':=by cases h:ks[i] with | mk a b c=>exact⟨a,b,c,rfl⟩
   rw[hx,zie]at ho;cases g1:(k' == 4) with
   |false=>
    have:(k' != 4)=true:=by simp[bne,g1]
    rw[g1]at ho;simp only[aL]at ho;rw[←ho]at hO;simp[zhO,hlt,hx,VT.cs,this];exact hO _
   |true=>
   have g1':(k' != 4)=false:=by simp[bne,g1]
   cases g2:(n' == (i:Int)) with
   |false=>
    have:(n' != (i:Int))=true:=by simp[bne,g2]
    rw[g1,g2]at ho;simp only[aL,bn]at ho;rw[←ho]at hO;simp[zhO,hlt,hx,VT.cs,g1',this];exact hO _
   |true=>
   have g2':(n' != (i:Int))=false:=by simp[bne,g2]
   by_cases g3:ks'.length=0
   ·have g3':¬ (0:Int)<ks'.length:=by omega
    have g3'':¬ 0<ks'.length:=by omega
    rw[g1,g2,g3]at ho;simp only[aR,BEq.rfl]at ho;simp[zhO,hlt,hx,VT.cs,g1',g2',g3',g3''];rw[zaz (by omega) (by omega)];refine hKb _ _ ⟨ks.length-(i+1),by omega,Back.here (by simp) hsc ?_ ⟨_,rfl,i+1,by omega,rfl,by simp,ho,rfl⟩⟩;simp[zn1,AV.sc,AV.scV,AV.scA,AV.scB]
   ·have g3':(0:Int)<ks'.length:=by omega
    have g3'':0<ks'.length:=by omega
    have g4:(ks'.length == 0)=false:=by simpa using g3
    rw[g4]at ho;simp only[bn,aL]at ho;rw[←ho]at hO;simp[zhO,hlt,hx,VT.cs,g1',g2',g3',g3''];exact hO _
  ·obtain rfl:i=ks.length:=by omega
   rw[au,zcJ]at ho;rw[←ho]at hO;simp[zhO];exact hO _
theorem zGl:zdE tP zkv=true:=by kernel_rfl
theorem zxX(d:Int):∀ l:List VT,zfo d l=l.any (zcv d)
 |[]=>rfl
 |t::ts=>by simp[zfo,zxX d ts]
theorem zQC(d:Int):∀(m:Nat) (v:VT),v.nodes≤m→v.nodes≤1000000→∀(H:zaa) (K:AV→zaa→Prop),K (.bool (zcv d v)) H→ACalls tP zku [.agg v.cs,.int .i64 d] H K:=by
 intro m;induction m with
 |zero=>intro v h;have:=v.nodes_pos;omega
 |succ m ih=>
  intro v hv hb H K hK;obtain⟨k,n,ks⟩:=v;have hnl:VT.nodesL ks+1≤1000000:=by simpa[VT.nodes]using hb
  have hll:=VT.len_le ks;refine ACalls.out (zQB λhs=>?_);have hO:∀ J,Out H.length K (.bool ((k == 5 && n == d) || ks.any (zcv d))) (H++J):=λJ=>Out.bool rfl (aa _) hs (by simpa[zcv,zxX]using hK);have go:(k == 5 && n == d)=false→∀ KK:AV→zaa→Prop,(∀ b,Out H.length K (.bool b) (H++[.cells [.int .i64 k,.int .i64 n,.sl (VT.css ks) .none],.cells [.int .i64 d]])→KK (.bool b) (H++[.cells [.int .i64 k,.int .i64 n,.sl (VT.css ks) .none],.cells [.int .i64 d]])) →
    ACalls tP zed [.sl (VT.css ks) .none,.fn zkv [.ptr (H.length+1) 0]] (H++[.cells [.int .i64 k,.int .i64 n,.sl (VT.css ks) .none],.cells [.int .i64 d]]) KK:=by
   intro hno KK hKK;rw[hno,bh]at hO;refine zjH ks (by omega) _ _ _ (by simp[AV.sc,AV.scV,AV.scA,AV.scB]) (λi H'=>(ks.drop i).any (zcv d)=ks.any (zcv d)∧H'=H++[.cells [.int .i64 k,.int .i64 n,.sl (VT.css ks) .none],.cells [.int .i64 d]]) ⟨by simp,rfl⟩ ?_ ?_
   ·rintro i hi H' hle ⟨ho,rfl⟩;have hki:=VT.kid_lt (k:=k) (n:=n) hi;rw[af hi,List.any_cons]at ho;simp only[aCallV,zGl,List.singleton_append];refine ACalls.out (zQO λhs1=>?_);obtain⟨x1,x2,x3,hvx,hx1,hx2,hx3⟩:=zaO ks[i];simp[zCF,hvx];rw[←hvx];refine ih ks[i] (by omega) (by omega) _ _ ?_;refine Out.bool (J:=[_]) (H2:=H++[.cells [.int .i64 k,.int .i64 n,.sl (VT.css ks) .none],.cells [.int .i64 d]]) (by simp;rfl) (by simp) hs1 ?_;cases hb:zcv d ks[i] with
    |false=>rw[hb,bh]at ho;exact .inl ⟨rfl,ho,rfl⟩
    |true=>rw[hb,dB]at ho;rw[←ho]at hO;exact .inr ⟨rfl,hKK _ (hO _)⟩
   ·rintro H' ⟨ho,rfl⟩;rw[au,List.any_nil]at ho;rw[←ho]at hO;exact hKK _ (hO _)
  simp only[VT.cs,zCB];cases h5:(k == 5) with
  |false=>simp[h5,AV.isB];refine go (by rw[h5];rfl) _ λb hb=>?_;simpa using hb
  |true=>
   cases hn:(n == d) with
   |false=>simp[h5,hn,AV.isB];refine go (by rw[hn];simp) _ λb hb=>?_;simpa using hb
   |true=>rw[h5,hn]at hO;simp[h5,hn];exact hO _
def zaH(l:List Bool):List AV:=l.map AV.bool
@[simp] theorem yab(l:List Bool):(zaH l).length=l.length:=by simp[zaH]
theorem zpk(n:Nat):(List.replicate n [AV.bool false]).flatten=zaH (List.replicate n false):=by
 induction n with
 |zero=>rfl
 |succ n ih=>simp[List.replicate_succ,ih,zaH]
theorem zjF{l:List Bool}{i:Nat}(h:i<l.length)(b:Bool):(zaH l).take i++.bool b::(zaH l).drop (i+1)=zaH (l.set i b):=by simp[zaH,bV,h]
theorem zgT(m:Nat)(l:List Bool):(zaH l).all (AV.scA m)=true:=by simp[zaH]
theorem zyx:∀ l:List Bool,plain (zaH l)=some (l.map λb=>[AV.bool b]).flatten
 |[]=>rfl
 |b::l=>by have:=zyx l;simp[zaH]at this ⊢;simp[plain,this,AV.pd]
def zbT(b:UInt8):Bool:=decide (97≤(b.toNat:Int)) && decide ((b.toNat:Int)≤122)
def bUp(b:UInt8):Bool:=decide (65≤(b.toNat:Int)) && decide ((b.toNat:Int)≤90)
def za8(b:UInt8):Bool:=decide (48≤(b.toNat:Int)) && decide ((b.toNat:Int)≤57)
def bIn(b:UInt8):Bool:=zbT b || bUp b || za8 b || b == 95
def zdr(b:UInt8):Bool:=b == 9 || b == 10 || b == 13 || b == 32
def zb9:List UInt8→Int→Bool
 |[],_=>true
 | b::l,n=>let m:=n*10+((b.toNat:Int)-48)
  if m>1000000 then false else zb9 l m
def zdw(r:List UInt8):Bool:=r.take 2 == [45,62] || r.take 2 == [60,61] || r.take 2 == [61,61]
def sgns:List UInt8:=[40,41,44,61,124,43,45,42,47,37,60,59,95]
def sgn(r:List UInt8):Nat:=
 if zdw r=true then 2 else match r with
 |[]=>0
 |b::_=>if sgns.contains b=true then 1 else 0
structure Tk where
 kind:Int
 text:List UInt8
 pos:Nat
def tok(kw:List UInt8→Bool)(b:UInt8)(r:List UInt8):Except Int (Int×Nat):=
 if (zbT b || bUp b)=true then
  let n:=(r.takeWhile bIn).length+1
  if n>24 then .error 9 else .ok (if bUp b=true then 2 else if kw ((b::r).take n)=true then 4 else 1,n)
 else if za8 b=true then
  let n:=(r.takeWhile za8).length+1
  if b == 48 && decide (n>1) then .error 2 else if zb9 ((b::r).take n) 0=true then .ok (3,n) else .error 9
 else
  let n:=sgn (b::r)
  if n=0 then .error 2 else .ok (5,n)
theorem zrK{kw:List UInt8→Bool}{b:UInt8}{r:List UInt8}{k:Int}{n:Nat}(h:tok kw b r=.ok (k,n)):0<n:=by
 unfold tok at h;split at h
 ·simp only at h;split at h <;> simp at h;omega
 ·split at h
  ·simp only at h;split at h
   ·simp at h
   ·split at h <;> simp at h;omega
  ·simp only at h;split at h <;> simp at h;omega
def zbn(kw:List UInt8→Bool)(r:List UInt8)(pos:Nat):Except (Nat×Int) (List Tk):=
 match r with
 |[]=>.ok [⟨6,[],pos⟩]
 |b::r'=>
  if zdr b=true then zbn kw r' (pos+1)
  else if b == 35 then zbn kw (r'.dropWhile (· != 10)) (pos+1+(r'.takeWhile (· != 10)).length)
  else match tok kw b r' with
   |.error e=>.error (pos,e)
   | .ok (k,n)=>match zbn kw (r'.drop (n-1)) (pos+n) with
    |.error e=>.error e
    |.ok l=>.ok (⟨k,(b::r').take n,pos⟩::l)
termination_by r.length
decreasing_by
 ·simp
 ·have:=(cj (p:=(· != 10)) (l:=r')).length_le;simp;omega
 ·simp;omega
section
variable (t0 t5 t6 t7 t8 t9:AV) (H:zaa) (K:Kt) (Kb5 Kb9 Kb10 Kb18 Kb29:Lt)
def zgr:Nat→List Bool|5=>rl false [0,1,4,2,54]|9=>rl false [0,1,4,2,54]|_=>[]
noncomputable def ztK:=Tryz.f188.body.getD .skip
noncomputable def zQq:=Tryz.f188.results.toList
def zhD:=t0::ux 4 (t5::t6::ux 54 [])
def zCw:=zgr 5
noncomputable def ztL:=zas [1,0,1,1,1,1,0,0,0] ztK
def zCt:=zat tP zgr [1,0,1,1,1,1,0,0] ztK (zaA tP zQq K)
def zm5:=ALoop tP ztL (zCt K) (zhD t0 t5 t6) H
def zhE(t0 t5 t6:AV)(H:zaa)(K:Kt)(Kb5:Lt):Prop:=Kb5 (zhD t0 t5 t6) H
def zm3:=t0::ux 4 (t5::t6::ux 54 [])
def zQo:=zgr 9
noncomputable def zQl:=zas [1,0,1,0,1,0,0,0,0] ztL
def zQk:=zat tP zgr [1,0,1,0,1,0,0,0] ztL (zbp zCw Kb5 (zCt K))
def zCv:=ALoop tP zQl (zQk K Kb5) (zm3 t0 t5 t6) H
def zCu:=zah 0 t0 λt57=>zar [(.int .i64 0),(.str []),(.int .i64 0)] [(0,1),(1,1),(2,1)] [(0,(.int .i64 6)),(2,t57)] λt58=>zau 3 [(.int .i64 0),(.str []),(.int .i64 0)] 1 [(0,t58)] λt59=>zax zfh 3 32 t5 t59 H λt60 H=>zaX [t60,(.int .i64 0),(.int .i64 0)] (K · H)
def zm4:=zCu t0 t5 H K
def ztJ:=zah 0 t0 λt28=>zab .lss false t6 t28 λt29=>zag t29 (zbC t0 t6 λt34=>zab .eql false t34 (.int .u8 10) λt35=>zag t35 (zhE t0 t5 t6 H K Kb5) (zab .add false t6 (.int .i64 1) λt31=>Kb9 (zm3 t0 t5 t31) H)) (zm4 t0 t5 H K)
def ztI:=zah 0 t0 λt14=>zab .lss false t6 t14 λt15=>zag t15 (zbC t0 t6 λt18=>ACalls tP zqE [t18] H λt19 H=>zag t19 (zab .add false t6 (.int .i64 1) λt21=>zhE t0 t5 t21 H K Kb5) (zbC t0 t6 λt24=>zab .eql false t24 (.int .u8 35) λt25=>zag t25 (zCv t0 t5 t6 H K Kb5) (ACalls tP zqF [t0,t6] H λt39 H=>zaI t39 0 λt40=>zaI t39 1 λt41=>zay [(.int .i64 0),(.str []),(.int .i64 0)] H λt7 H=>zam 3 t7 t40 H λH=>zab .neq false t41 (.int .i64 0) λt43=>zag t43 (zaX [.snil,t6,t41] (K · H)) (zae true 3 t7 H λt47=>zau 3 [(.int .i64 0),(.str []),(.int .i64 0)] 1 [(0,t47)] λt48=>zax zfh 3 32 t5 t48 H λt49 H=>zaf 1 t7 λt51=>zae false 1 t51 H λt52=>zah 0 t52 λt53=>zab .add false t6 t53 λt54=>zhE t0 t49 t54 H K Kb5)))) (zm4 t0 t5 H K)
def ztH:=zah 0 t0 λt10=>zab .gtr false t10 (.int .i64 16384) λt11=>zag t11 (zaX [.snil,(.int .i64 0),(.int .i64 9)] (K · H)) (zm5 t0 .snil (.int .i64 0) H K)
def zdj:Nat→List Bool|5=>rl false [0,1,4,2,193]|10=>rl false [0,1,4,2,193]|18=>rl false [0,1,4,4,191]|29=>rl false [0,1,4,4,191]|_=>[]
noncomputable def zr9:=Tryz.f103.body.getD .skip
noncomputable def zLd:=Tryz.f103.results.toList
def zgk:=t0::ux 4 (t5::t6::ux 193 [])
def zlF:=zdj 5
noncomputable def zgj:=zas [1,1,1,0,1,0,0] zr9
def zlz:=zat tP zdj [1,1,1,0,1,0] zr9 (zaA tP zLd K)
def zlE:=ALoop tP zgj (zlz K) (zgk t0 t5 t6) H
def zfE(t0 t5 t6:AV)(H:zaa)(K:Kt)(Kb5:Lt):Prop:=Kb5 (zgk t0 t5 t6) H
def zlC:=t0::ux 4 (t5::t6::ux 193 [])
def zK9:=zdj 10
noncomputable def zK2:=zas [1,0,1,1,0,1,0,0,0,0] zgj
def zKZ:=zat tP zdj [1,0,1,1,0,1,0,0,0] zgj (zbp zlF Kb5 (zlz K))
def zAo:=ALoop tP zK2 (zKZ K Kb5) (zlC t0 t5 t6) H
def zr6:=zah 0 t0 λt42=>zab .lss false t6 t42 λt43=>zac t43 true H (λK'=>K' t0 H) λt45 H=>zac t43 true H (λK'=>K' t6 H) λt46 H=>zac t43 true H (λK'=>zbC t45 t46 (K' · H)) λt47 H=>zac t43 true H (λK'=>zab .neq false t47 (.int .u8 10) (K' · H)) λt48 H=>zak t43 t48 (.bool false) λt49=>zag t49 (zab .add false t6 (.int .i64 1) λt51=>Kb10 (zlC t0 t5 t51) H) (zfE t0 t5 t6 H K Kb5)
def ziW:=t0::ux 4 (t5::t6::t7::t8::ux 191 [])
def zLa:=zdj 18
noncomputable def zK3:=zas [1,0,1,1,1,1,0,0,1,0,0,0,0] zgj
def zK0:=zat tP zdj [1,0,1,1,1,1,0,0,1,0,0,0] zgj (zbp zlF Kb5 (zlz K))
def zsa:=ALoop tP zK3 (zK0 K Kb5) (ziW t0 t5 t6 t7 t8) H
def ziX:=zab .add false t6 t8 λt193=>zfE t0 t5 t193 H K Kb5
def zfG:=ziX t0 t5 t6 t8 H K Kb5
def zfF:=zab .add false t6 t8 λt135=>za1 0 0 t0 (some t6) (some t135) λt136=>zar [(.int .i64 0),(.str []),(.int .i64 0)] [(0,1),(1,1),(2,1)] [(0,t9),(1,t136),(2,t6)] λt138=>zau 3 [(.int .i64 0),(.str []),(.int .i64 0)] 1 [(0,t138)] λt139=>zax zbu 3 32 t5 t139 H λt140 H=>zfG t0 t140 t6 t8 H K Kb5
def zr7:=zab .add false t6 t8 λt79=>zah 0 t0 λt81=>zab .lss false t79 t81 λt82=>zac t82 true H (λK'=>K' t0 H) λt84 H=>zac t82 true H (λK'=>K' t6 H) λt85 H=>zac t82 true H (λK'=>K' t8 H) λt86 H=>zac t82 true H (λK'=>zab .add false t85 t86 (K' · H)) λt87 H=>zac t82 true H (λK'=>zbC t84 t87 (K' · H)) λt88 H=>zac t82 true H (λK'=>ACalls tP zkl [t88] H K') λt89 H=>zac t82 true H (λK'=>K' t89 H) λt90 H=>zac t90 false H (λK'=>K' t0 H) λt91 H=>zac t90 false H (λK'=>K' t6 H) λt92 H=>zac t90 false H (λK'=>K' t8 H) λt93 H=>zac t90 false H (λK'=>zab .add false t92 t93 (K' · H)) λt94 H=>zac t90 false H (λK'=>zbC t91 t94 (K' · H)) λt95 H=>zac t90 false H (λK'=>ACalls tP zha [t95] H K') λt96 H=>zac t82 true H (λK'=>zak t90 (.bool true) t96 (K' · H)) λt97 H=>zac t82 true H (λK'=>K' t97 H) λt98 H=>zac t98 false H (λK'=>K' t0 H) λt99 H=>zac t98 false H (λK'=>K' t6 H) λt100 H=>zac t98 false H (λK'=>K' t8 H) λt101 H=>zac t98 false H (λK'=>zab .add false t100 t101 (K' · H)) λt102 H=>zac t98 false H (λK'=>zbC t99 t102 (K' · H)) λt103 H=>zac t98 false H (λK'=>ACalls tP zip [t103] H K') λt104 H=>zac t82 true H (λK'=>zak t98 (.bool true) t104 (K' · H)) λt105 H=>zac t82 true H (λK'=>K' t105 H) λt106 H=>zac t106 false H (λK'=>K' t0 H) λt107 H=>zac t106 false H (λK'=>K' t6 H) λt108 H=>zac t106 false H (λK'=>K' t8 H) λt109 H=>zac t106 false H (λK'=>zab .add false t108 t109 (K' · H)) λt110 H=>zac t106 false H (λK'=>zbC t107 t110 (K' · H)) λt111 H=>zac t106 false H (λK'=>zab .eql false t111 (.int .u8 95) (K' · H)) λt112 H=>zac t82 true H (λK'=>zak t106 (.bool true) t112 (K' · H)) λt113 H=>zak t82 t113 (.bool false) λt114=>zag t114 (zab .add false t8 (.int .i64 1) λt116=>Kb18 (ziW t0 t5 t6 t7 t116) H) (zab .gtr false t8 (.int .i64 24) λt118=>zag t118 (zaX [.snil,t6,(.int .i64 9)] (K · H)) (ACalls tP zha [t7] H λt121 H=>zag t121 (zfF t0 t5 t6 t8 (.int .i64 2) H K Kb5) (zab .add false t6 t8 λt126=>za1 0 0 t0 (some t6) (some t126) λt127=>ACalls tP zkm [t127] H λt128 H=>zag t128 (zfF t0 t5 t6 t8 (.int .i64 4) H K Kb5) (zfF t0 t5 t6 t8 (.int .i64 1) H K Kb5))))
def zlD:=t0::ux 4 (t5::t6::t7::t8::ux 191 [])
def zLb:=zdj 29
noncomputable def zK4:=zas [1,0,1,1,1,1,0,0,1,1,1,0,0,0,0] zgj
def zK1:=zat tP zdj [1,0,1,1,1,1,0,0,1,1,1,0,0,0] zgj (zbp zlF Kb5 (zlz K))
def zsb:=ALoop tP zK4 (zK1 K Kb5) (zlD t0 t5 t6 t7 t8) H
def zr8:=zab .add false t6 t8 λt146=>zah 0 t0 λt148=>zab .lss false t146 t148 λt149=>zac t149 true H (λK'=>K' t0 H) λt151 H=>zac t149 true H (λK'=>K' t6 H) λt152 H=>zac t149 true H (λK'=>K' t8 H) λt153 H=>zac t149 true H (λK'=>zab .add false t152 t153 (K' · H)) λt154 H=>zac t149 true H (λK'=>zbC t151 t154 (K' · H)) λt155 H=>zac t149 true H (λK'=>ACalls tP zip [t155] H K') λt156 H=>zak t149 t156 (.bool false) λt157=>zag t157 (zab .add false t8 (.int .i64 1) λt159=>Kb29 (zlD t0 t5 t6 t7 t159) H) (zab .gtr false t8 (.int .i64 1) λt161=>zac t161 true H (λK'=>K' t7 H) λt163 H=>zac t161 true H (λK'=>zab .eql false t163 (.int .u8 48) (K' · H)) λt164 H=>zak t161 t164 (.bool false) λt165=>zag t165 (zaX [.snil,t6,(.int .i64 2)] (K · H)) (zab .add false t6 t8 λt172=>za1 0 0 t0 (some t6) (some t172) λt173=>ACalls tP zhb [t173] H λt174 H=>zaI t174 0 λt175=>zaI t174 1 λt176=>aUn .not t176 λt178=>zag t178 (zaX [.snil,t6,(.int .i64 9)] (K · H)) (zab .add false t6 t8 λt185=>za1 0 0 t0 (some t6) (some t185) λt186=>zar [(.int .i64 0),(.str []),(.int .i64 0)] [(0,1),(1,1),(2,1)] [(0,(.int .i64 3)),(1,t186),(2,t6)] λt188=>zau 3 [(.int .i64 0),(.str []),(.int .i64 0)] 1 [(0,t188)] λt189=>zax zbu 3 32 t5 t189 H λt190 H=>zfG t0 t190 t6 t8 H K Kb5)))
def zlA:=zah 0 t0 λt17=>zab .lss false t6 t17 λt18=>zag t18 (zbC t0 t6 λt21=>zab .eql false t21 (.int .u8 9) λt23=>zac t23 false H (λK'=>K' t21 H) λt25 H=>zac t23 false H (λK'=>zab .eql false t25 (.int .u8 10) (K' · H)) λt26 H=>zak t23 (.bool true) t26 λt27=>zac t27 false H (λK'=>K' t21 H) λt29 H=>zac t27 false H (λK'=>zab .eql false t29 (.int .u8 13) (K' · H)) λt30 H=>zak t27 (.bool true) t30 λt31=>zac t31 false H (λK'=>K' t21 H) λt33 H=>zac t31 false H (λK'=>zab .eql false t33 (.int .u8 32) (K' · H)) λt34 H=>zak t31 (.bool true) t34 λt35=>zag t35 (zab .add false t6 (.int .i64 1) λt37=>zfE t0 t5 t37 H K Kb5) (zab .eql false t21 (.int .u8 35) λt39=>zag t39 (zAo t0 t5 t6 H K Kb5) (ACalls tP zkl [t21] H λt72 H=>zac t72 false H (λK'=>K' t21 H) λt74 H=>zac t72 false H (λK'=>ACalls tP zha [t74] H K') λt75 H=>zak t72 (.bool true) t75 λt76=>zag t76 (zsa t0 t5 t6 t21 (.int .i64 1) H K Kb5) (ACalls tP zip [t21] H λt143 H=>zag t143 (zsb t0 t5 t6 t21 (.int .i64 1) H K Kb5) (za1 0 0 t0 (some t6) none λt54=>ACalls tP zqv [t54] H λt55 H=>zab .eql false t55 (.int .i64 0) λt57=>zag t57 (zaX [.snil,t6,(.int .i64 2)] (K · H)) (zab .add false t6 t55 λt64=>za1 0 0 t0 (some t6) (some t64) λt65=>zar [(.int .i64 0),(.str []),(.int .i64 0)] [(0,1),(1,1),(2,1)] [(0,(.int .i64 5)),(1,t65),(2,t6)] λt67=>zau 3 [(.int .i64 0),(.str []),(.int .i64 0)] 1 [(0,t67)] λt68=>zax zbu 3 32 t5 t68 H λt69 H=>zfG t0 t69 t6 t55 H K Kb5)))))) (zah 0 t0 λt196=>zar [(.int .i64 0),(.str []),(.int .i64 0)] [(0,1),(1,1),(2,1)] [(0,(.int .i64 6)),(1,(.str [])),(2,t196)] λt197=>zau 3 [(.int .i64 0),(.str []),(.int .i64 0)] 1 [(0,t197)] λt198=>zax zbu 3 32 t5 t198 H λt199 H=>zaX [t199,(.int .i64 0),(.int .i64 0)] (K · H))
def zr5:=zah 0 t0 λt13=>zab .gtr false t13 (.int .i64 16384) λt14=>zag t14 (zaX [.snil,(.int .i64 0),(.int .i64 9)] (K · H)) (zlE t0 .snil (.int .i64 0) H K)
def zQG(_:Nat):List Bool:=[]
noncomputable def zQH:=Tryz.f204.body.getD .skip
def zCD:=zab .eql false t0 (.int .u8 9) λt4=>zac t4 false H (λK'=>K' t0 H) λt6 H=>zac t4 false H (λK'=>zab .eql false t6 (.int .u8 10) (K' · H)) λt7 H=>zak t4 (.bool true) t7 λt8=>zac t8 false H (λK'=>K' t0 H) λt10 H=>zac t8 false H (λK'=>zab .eql false t10 (.int .u8 13) (K' · H)) λt11 H=>zak t8 (.bool true) t11 λt12=>zac t12 false H (λK'=>K' t0 H) λt14 H=>zac t12 false H (λK'=>zab .eql false t14 (.int .u8 32) (K' · H)) λt15 H=>zak t12 (.bool true) t15 λt16=>K t16 H
variable {t0 t5 t6 t7 t8 t9} {H} {K} {Kb5 Kb9 Kb10 Kb18 Kb29}
theorem zQn:Lo1 (λt6=>zm3 t0 t5 t6) (λt6 H Kb9=>ztJ t0 t5 t6 H K Kb5 Kb9) t6 H (zCv t0 t5 t6 H K Kb5):=lq1 zgr zQo
theorem zQm:Lo2 (λt5 t6=>zhD t0 t5 t6) (λt5 t6 H Kb5=>ztI t0 t5 t6 H K Kb5) t5 t6 H (zm5 t0 t5 t6 H K):=lq2 zgr zCw
theorem zQp(h:HSc H→ztH t0 H K):ACalls tP zqB [t0] H K:=
 acb zgr Tryz.func188 ztK h
theorem zK5:Lo1 (λt6=>zlC t0 t5 t6) (λt6 H Kb10=>zr6 t0 t5 t6 H K Kb5 Kb10) t6 H (zAo t0 t5 t6 H K Kb5):=lq1 zdj zK9
theorem zK6:Lo1 (λt8=>ziW t0 t5 t6 t7 t8) (λt8 H Kb18=>zr7 t0 t5 t6 t7 t8 H K Kb5 Kb18) t8 H (zsa t0 t5 t6 t7 t8 H K Kb5):=lq1 zdj zLa
theorem zK7:Lo1 (λt8=>zlD t0 t5 t6 t7 t8) (λt8 H Kb29=>zr8 t0 t5 t6 t7 t8 H K Kb5 Kb29) t8 H (zsb t0 t5 t6 t7 t8 H K Kb5):=lq1 zdj zLb
theorem zK8:Lo2 (λt5 t6=>zgk t0 t5 t6) (λt5 t6 H Kb5=>zlA t0 t5 t6 H K Kb5) t5 t6 H (zlE t0 t5 t6 H K):=lq2 zdj zlF
theorem zLc(h:HSc H→zr5 t0 H K):ACalls tP zqb [t0] H K:=
 acb zdj Tryz.func103 zr9 h
theorem zQI(h:HSc H→zCD t0 H K):ACalls tP zqE [t0] H K:=
 acb zQG Tryz.func204 zQH h
end
section
variable (t0 t1 t3 t4 t5 t6 t7:AV) (H:zaa) (K:Kt) (Kb2 Kb3 Kb5:Lt)
def zQJ(_:Nat):List Bool:=[]
noncomputable def zQK:=Tryz.f205.body.getD .skip
def zCE:=zae true 3 t6 H λt74=>zam 3 t4 t74 H λH=>zae true 3 t4 H λr0=>zaX [r0,(.int .i64 0)] (K · H)
def zhI:=zCE t4 t6 H K
def zhH:=zhI t4 t6 H K
def ztQ:=zay [(.int .i64 0),(.str []),(.int .i64 0)] H λt4 H=>zar [(.int .i64 0),(.str []),(.int .i64 0)] [(0,1),(1,1),(2,1)] [(2,t1)] λt9=>zay [(.int .i64 0),(.str []),(.int .i64 0)] H λt6 H=>zam 3 t6 t9 H λH=>zbC t0 t1 λt12=>ACalls tP zkw [t12] H λt25 H=>zac t25 false H (λK'=>K' t12 H) λt27 H=>zac t25 false H (λK'=>ACalls tP zir [t27] H K') λt28 H=>zak t25 (.bool true) t28 λt29=>zag t29 (za1 0 0 t0 (some t1) none λt32=>ACalls tP zkx [t32,(.fn zis [])] H λt33 H=>zaf 1 t6 λt34=>zam 1 t34 t33 H λH=>zaf 1 t6 λt37=>zae false 1 t37 H λt38=>zah 0 t38 λt39=>zab .gtr false t39 (.int .i64 24) λt40=>zag t40 (zar [(.int .i64 0),(.str []),(.int .i64 0)] [(0,1),(1,1),(2,1)] [] λt41=>zam 3 t4 t41 H λH=>zae true 3 t4 H λr0=>zaX [r0,(.int .i64 9)] (K · H)) (ACalls tP zir [t12] H λt44 H=>zag t44 (zaf 0 t6 λt45=>zam 1 t45 (.int .i64 2) H λH=>zhH t4 t6 H K) (zaf 1 t6 λt47=>zae false 1 t47 H λt48=>ACalls tP zqG [t48] H λt49 H=>zag t49 (zaf 0 t6 λt50=>zam 1 t50 (.int .i64 4) H λH=>zhH t4 t6 H K) (zaf 0 t6 λt35=>zam 1 t35 (.int .i64 1) H λH=>zhH t4 t6 H K)))) (ACalls tP zf6 [t12] H λt53 H=>zag t53 (zaf 0 t6 λt54=>zam 1 t54 (.int .i64 3) H λH=>za1 0 0 t0 (some t1) none λt57=>ACalls tP zkx [t57,(.fn zf6 [])] H λt58 H=>zaf 1 t6 λt59=>zam 1 t59 t58 H λH=>zab .eql false t12 (.int .u8 48) λt61=>zac t61 true H (λK'=>zaf 1 t6 (K' · H)) λt63 H=>zac t61 true H (λK'=>zae false 1 t63 H (K' · H)) λt64 H=>zac t61 true H (λK'=>zah 0 t64 (K' · H)) λt65 H=>zac t61 true H (λK'=>zab .gtr false t65 (.int .i64 1) (K' · H)) λt66 H=>zak t61 t66 (.bool false) λt67=>zag t67 (zar [(.int .i64 0),(.str []),(.int .i64 0)] [(0,1),(1,1),(2,1)] [] λt68=>zam 3 t4 t68 H λH=>zae true 3 t4 H λr0=>zaX [r0,(.int .i64 2)] (K · H)) (zaf 1 t6 λt69=>zae false 1 t69 H λt70=>ACalls tP zit [t70] H λt71 H=>aUn .not t71 λt72=>zag t72 (zar [(.int .i64 0),(.str []),(.int .i64 0)] [(0,1),(1,1),(2,1)] [] λt73=>zam 3 t4 t73 H λH=>zae true 3 t4 H λr0=>zaX [r0,(.int .i64 9)] (K · H)) (zhI t4 t6 H K))) (zaf 0 t6 λt13=>zam 1 t13 (.int .i64 5) H λH=>za1 0 0 t0 (some t1) none λt16=>ACalls tP zqH [t16] H λt17 H=>zaf 1 t6 λt18=>zam 1 t18 t17 H λH=>zaf 1 t6 λt19=>zae false 1 t19 H λt20=>zab .eql false t20 (.str []) λt21=>zag t21 (zar [(.int .i64 0),(.str []),(.int .i64 0)] [(0,1),(1,1),(2,1)] [] λt22=>zam 3 t4 t22 H λH=>zae true 3 t4 H λr0=>zaX [r0,(.int .i64 2)] (K · H)) (zhI t4 t6 H K)))
def zOE(_:Nat):List Bool:=[]
noncomputable def zOF:=Tryz.f145.body.getD .skip
def zBR:=zab .geq false t0 (.int .u8 97) λt4=>zac t4 true H (λK'=>K' t0 H) λt6 H=>zac t4 true H (λK'=>zab .leq false t6 (.int .u8 122) (K' · H)) λt7 H=>zak t4 t7 (.bool false) λt8=>K t8 H
def zOH(_:Nat):List Bool:=[]
noncomputable def zOI:=Tryz.f146.body.getD .skip
def zBS:=zab .geq false t0 (.int .u8 65) λt4=>zac t4 true H (λK'=>K' t0 H) λt6 H=>zac t4 true H (λK'=>zab .leq false t6 (.int .u8 90) (K' · H)) λt7 H=>zak t4 t7 (.bool false) λt8=>K t8 H
def zOK(_:Nat):List Bool:=[]
noncomputable def zOL:=Tryz.f147.body.getD .skip
def zBT:=zab .geq false t0 (.int .u8 48) λt4=>zac t4 true H (λK'=>K' t0 H) λt6 H=>zac t4 true H (λK'=>zab .leq false t6 (.int .u8 57) (K' · H)) λt7 H=>zak t4 t7 (.bool false) λt8=>K t8 H
def zmB:Nat→List Bool|3=>rl false [0,1,2,2,13]|_=>[]
noncomputable def ztj:=Tryz.f148.body.getD .skip
noncomputable def zOS:=Tryz.f148.results.toList
def zmD:=t0::ux 2 (t3::t4::ux 13 [])
def zOQ:=zmB 3
noncomputable def zOO:=zas [1,1,0,1,0,0] ztj
def zON:=zat tP zmB [1,1,0,1,0] ztj (zaA tP zOS K)
def ztk:=ALoop tP zOO (zON K) (zmD t0 t3 t4) H
def zmC:=zah 1 t3 λt8=>zab .lss false t4 t8 λt9=>zag t9 (zai 1 t3 t4 λt14=>zae false 1 t14 H λt15=>zab .eql false t15 t0 λt17=>zag t17 (K (.bool true) H) (zab .add false t4 (.int .i64 1) λt11=>Kb3 (zmD t0 t3 t11) H)) (K (.bool false) H)
def zBU:=zau 1 [(.str [])] 28 [(0,(.str [97,114,114,97,121])),(1,(.str [98,111,111,108])),(2,(.str [99,97,116,99,104])),(3,(.str [100,97,116,97])),(4,(.str [101,108,115,101])),(5,(.str [101,110,100])),(6,(.str [102,97,108,115,101])),(7,(.str [102,110])),(8,(.str [102,117,110])),(9,(.str [103,101,116])),(10,(.str [105,102])),(11,(.str [105,110])),(12,(.str [105,110,116])),(13,(.str [108,101,110])),(14,(.str [108,101,116])),(15,(.str [109,97,116,99,104])),(16,(.str [110,101,119])),(17,(.str [114,97,105,115,101])),(18,(.str [114,101,97,100])),(19,(.str [114,101,102])),(20,(.str [115,101,116])),(21,(.str [116,104,101,110])),(22,(.str [116,105,99,107])),(23,(.str [116,114,117,101])),(24,(.str [116,114,121])),(25,(.str [117,110,105,116])),(26,(.str [119,105,116,104])),(27,(.str [119,114,105,116,101]))] λt5=>ztk t0 t5 (.int .i64 0) H K
def zmE:Nat→List Bool|3=>rl false [0,1,3,2,17]|_=>[]
noncomputable def ztm:=Tryz.f149.body.getD .skip
noncomputable def zOY:=Tryz.f149.results.toList
def zmF:=t0::ux 3 (t4::t5::ux 17 [])
def zOW:=zmE 3
noncomputable def zOU:=zas [1,1,0,1,0,0] ztm
def zOT:=zat tP zmE [1,1,0,1,0] ztm (zaA tP zOY K)
def zBW:=ALoop tP zOU (zOT K) (zmF t0 t4 t5) H
def ztl:=zah 0 t0 λt8=>zab .lss false t5 t8 λt9=>zag t9 (zab .mul false t4 (.int .i64 10) λt13=>zbC t0 t5 λt16=>zab .sub false t16 (.int .u8 48) λt17=>zbg .i64 t17 λt18=>zab .add false t13 t18 λt19=>zab .gtr false t19 (.int .i64 1000000) λt21=>zag t21 (zaX [(.int .i64 0),(.bool false)] (K · H)) (zab .add false t5 (.int .i64 1) λt11=>Kb3 (zmF t0 t19 t11) H)) (zaX [t4,(.bool true)] (K · H))
def zBV:=zBW t0 (.int .i64 0) (.int .i64 0) H K
def zmG:Nat→List Bool|5=>rl false [0,1,2,2,30]|_=>[]
noncomputable def ztn:=Tryz.f150.body.getD .skip
noncomputable def zO4:=Tryz.f150.results.toList
def zmI:=t0::ux 2 (t3::t4::ux 30 [])
def zO2:=zmG 5
noncomputable def zO0:=zas [1,1,1,0,1,0,0] ztn
def zOZ:=zat tP zmG [1,1,1,0,1,0] ztn (zaA tP zO4 K)
def zto:=ALoop tP zO0 (zOZ K) (zmI t0 t3 t4) H
def zmH:=zah 0 t3 λt25=>zab .lss false t4 t25 λt26=>zag t26 (apm H t0 λt29=>apu H (zbC t29 (.int .i64 0)) λt30=>apm H t3 λt31=>apm H t4 λt32=>apu H (zbC t31 t32) λt33=>apu H (zab .eql false t30 t33) λt34=>zag t34 (K (.int .i64 1) H) (zab .add false t4 (.int .i64 1) λt28=>Kb5 (zmI t0 t3 t28) H)) (K (.int .i64 0) H)
def zhB:=zah 0 t0 λt6=>zab .geq false t6 (.int .i64 2) λt7=>zac t7 true H (λK'=>K' t0 H) λt9 H=>zac t7 true H (λK'=>za1 0 0 t9 none (some (.int .i64 2)) (K' · H)) λt10 H=>zac t7 true H (λK'=>zab .eql false t10 (.str [45,62]) (K' · H)) λt11 H=>zac t7 true H (λK'=>K' t11 H) λt12 H=>zac t12 false H (λK'=>K' t0 H) λt13 H=>zac t12 false H (λK'=>za1 0 0 t13 none (some (.int .i64 2)) (K' · H)) λt14 H=>zac t12 false H (λK'=>zab .eql false t14 (.str [60,61]) (K' · H)) λt15 H=>zac t7 true H (λK'=>zak t12 (.bool true) t15 (K' · H)) λt16 H=>zac t7 true H (λK'=>K' t16 H) λt17 H=>zac t17 false H (λK'=>K' t0 H) λt18 H=>zac t17 false H (λK'=>za1 0 0 t18 none (some (.int .i64 2)) (K' · H)) λt19 H=>zac t17 false H (λK'=>zab .eql false t19 (.str [61,61]) (K' · H)) λt20 H=>zac t7 true H (λK'=>zak t17 (.bool true) t20 (K' · H)) λt21 H=>zak t7 t21 (.bool false) λt22=>zag t22 (K (.int .i64 2) H) (zto t0 (.str [40,41,44,61,124,43,45,42,47,37,60,59,95]) (.int .i64 0) H K)
def zQP(_:Nat):List Bool:=[]
noncomputable def zQQ:=Tryz.f216.body.getD .skip
def zCG:=zab .geq false t0 (.int .u8 97) λt4=>zac t4 true H (λK'=>K' t0 H) λt6 H=>zac t4 true H (λK'=>zab .leq false t6 (.int .u8 122) (K' · H)) λt7 H=>zak t4 t7 (.bool false) λt8=>K t8 H
def zQS(_:Nat):List Bool:=[]
noncomputable def zQT:=Tryz.f217.body.getD .skip
def zCH:=zab .geq false t0 (.int .u8 65) λt4=>zac t4 true H (λK'=>K' t0 H) λt6 H=>zac t4 true H (λK'=>zab .leq false t6 (.int .u8 90) (K' · H)) λt7 H=>zak t4 t7 (.bool false) λt8=>K t8 H
def zm9:Nat→List Bool|2=>rl false [0,2,3,1,16]|_=>[]
noncomputable def ztS:=Tryz.f218.body.getD .skip
noncomputable def zQ0:=Tryz.f218.results.toList
def zna:=t0::t1::ux 3 (t5::ux 16 [])
def zQY:=zm9 2
noncomputable def zQW:=zas [1,1,0,0,0] ztS
def zQV:=zat tP zm9 [1,1,0,0] ztS (zaA tP zQ0 K)
def zCJ:=ALoop tP zQW (zQV K) (zna t0 t1 t5) H
def ztR:=zah 0 t0 λt8=>zab .lss false t5 t8 λt9=>zac t9 true H (λK'=>K' t1 H) λt11 H=>zac t9 true H (λK'=>K' t0 H) λt12 H=>zac t9 true H (λK'=>K' t5 H) λt13 H=>zac t9 true H (λK'=>zbC t12 t13 (K' · H)) λt14 H=>zac t9 true H (λK'=>aCallV tP t11 [t14] H K') λt15 H=>zak t9 t15 (.bool false) λt16=>zag t16 (zab .add false t5 (.int .i64 1) λt18=>Kb2 (zna t0 t1 t18) H) (za1 0 0 t0 none (some t5) λt21=>K t21 H)
def zCI:=zCJ t0 t1 (.int .i64 0) H K
def zQ1(_:Nat):List Bool:=[]
noncomputable def zQ2:=Tryz.f219.body.getD .skip
def zCK:=ACalls tP zkw [t0] H λt4 H=>zac t4 false H (λK'=>K' t0 H) λt6 H=>zac t4 false H (λK'=>ACalls tP zir [t6] H K') λt7 H=>zak t4 (.bool true) t7 λt8=>zac t8 false H (λK'=>K' t0 H) λt10 H=>zac t8 false H (λK'=>ACalls tP zf6 [t10] H K') λt11 H=>zak t8 (.bool true) t11 λt12=>zac t12 false H (λK'=>K' t0 H) λt14 H=>zac t12 false H (λK'=>zab .eql false t14 (.int .u8 95) (K' · H)) λt15 H=>zak t12 (.bool true) t15 λt16=>K t16 H
def zQ4(_:Nat):List Bool:=[]
noncomputable def zQ5:=Tryz.f220.body.getD .skip
def zbs:=zag t4 (K (.bool true) H) (K (.bool false) H)
def zCL:=zab .eql false t0 (.str [97,114,114,97,121]) λt5=>zag t5 (zbs t5 H K) (zab .eql false t0 (.str [98,111,111,108]) λt6=>zag t6 (zbs t6 H K) (zab .eql false t0 (.str [99,97,116,99,104]) λt7=>zag t7 (zbs t7 H K) (zab .eql false t0 (.str [100,97,116,97]) λt8=>zag t8 (zbs t8 H K) (zab .eql false t0 (.str [101,108,115,101]) λt9=>zag t9 (zbs t9 H K) (zab .eql false t0 (.str [101,110,100]) λt10=>zag t10 (zbs t10 H K) (zab .eql false t0 (.str [102,97,108,115,101]) λt11=>zag t11 (zbs t11 H K) (zab .eql false t0 (.str [102,110]) λt12=>zag t12 (zbs t12 H K) (zab .eql false t0 (.str [102,117,110]) λt13=>zag t13 (zbs t13 H K) (zab .eql false t0 (.str [103,101,116]) λt14=>zag t14 (zbs t14 H K) (zab .eql false t0 (.str [105,102]) λt15=>zag t15 (zbs t15 H K) (zab .eql false t0 (.str [105,110]) λt16=>zag t16 (zbs t16 H K) (zab .eql false t0 (.str [105,110,116]) λt17=>zag t17 (zbs t17 H K) (zab .eql false t0 (.str [108,101,110]) λt18=>zag t18 (zbs t18 H K) (zab .eql false t0 (.str [108,101,116]) λt19=>zag t19 (zbs t19 H K) (zab .eql false t0 (.str [109,97,116,99,104]) λt20=>zag t20 (zbs t20 H K) (zab .eql false t0 (.str [110,101,119]) λt21=>zag t21 (zbs t21 H K) (zab .eql false t0 (.str [114,97,105,115,101]) λt22=>zag t22 (zbs t22 H K) (zab .eql false t0 (.str [114,101,97,100]) λt23=>zag t23 (zbs t23 H K) (zab .eql false t0 (.str [114,101,102]) λt24=>zag t24 (zbs t24 H K) (zab .eql false t0 (.str [115,101,116]) λt25=>zag t25 (zbs t25 H K) (zab .eql false t0 (.str [116,104,101,110]) λt26=>zag t26 (zbs t26 H K) (zab .eql false t0 (.str [116,105,99,107]) λt27=>zag t27 (zbs t27 H K) (zab .eql false t0 (.str [116,114,117,101]) λt28=>zag t28 (zbs t28 H K) (zab .eql false t0 (.str [116,114,121]) λt29=>zag t29 (zbs t29 H K) (zab .eql false t0 (.str [117,110,105,116]) λt30=>zag t30 (zbs t30 H K) (zab .eql false t0 (.str [119,105,116,104]) λt31=>zag t31 (zbs t31 H K) (zab .eql false t0 (.str [119,114,105,116,101]) λt32=>zbs t32 H K)))))))))))))))))))))))))))
def zQ7(_:Nat):List Bool:=[]
noncomputable def zQ8:=Tryz.f221.body.getD .skip
def zCM:=zab .geq false t0 (.int .u8 48) λt4=>zac t4 true H (λK'=>K' t0 H) λt6 H=>zac t4 true H (λK'=>zab .leq false t6 (.int .u8 57) (K' · H)) λt7 H=>zak t4 t7 (.bool false) λt8=>K t8 H
def znb:Nat→List Bool|3=>rl false [0,1,2,1,2,2,13]|_=>[]
noncomputable def ztU:=Tryz.f222.body.getD .skip
noncomputable def zRf:=Tryz.f222.results.toList
def znc:=t0::ux 2 (t3::ux 2 (t6::t7::ux 13 []))
def zRd:=znb 3
noncomputable def zRb:=zas [1,1,0,1,0,0] ztU
def zRa:=zat tP znb [1,1,0,1,0] ztU (zaA tP zRf K)
def zCO:=ALoop tP zRb (zRa K) (znc t0 t3 t6 t7) H
def ztT:=zab .lss false t7 t6 λt8=>zag t8 (zab .mul false t3 (.int .i64 10) λt11=>zbC t0 t7 λt14=>zab .sub false t14 (.int .u8 48) λt15=>zbg .i64 t15 λt16=>zab .add false t11 t16 λt17=>zab .gtr false t17 (.int .i64 1000000) λt19=>zag t19 (K (.bool false) H) (zab .add false t7 (.int .i64 1) λt20=>Kb3 (znc t0 t17 t6 t20) H)) (K (.bool true) H)
def zCN:=zah 0 t0 λt6=>zCO t0 (.int .i64 0) t6 (.int .i64 0) H K
variable {t0 t1 t3 t4 t5 t6 t7} {H} {K} {Kb2 Kb3 Kb5}
theorem zQL(h:HSc H→ztQ t0 t1 H K):ACalls tP zqF [t0,t1] H K:=
 acb zQJ Tryz.func205 zQK h
theorem zOG(h:HSc H→zBR t0 H K):ACalls tP zkl [t0] H K:=
 acb zOE Tryz.func145 zOF h
theorem zOJ(h:HSc H→zBS t0 H K):ACalls tP zha [t0] H K:=
 acb zOH Tryz.func146 zOI h
theorem zOM(h:HSc H→zBT t0 H K):ACalls tP zip [t0] H K:=
 acb zOK Tryz.func147 zOL h
theorem zOP:Lo1 (λt4=>zmD t0 t3 t4) (λt4 H Kb3=>zmC t0 t3 t4 H K Kb3) t4 H (ztk t0 t3 t4 H K):=lq1 zmB zOQ
theorem zOR(h:HSc H→zBU t0 H K):ACalls tP zkm [t0] H K:=
 acb zmB Tryz.func148 ztj h
theorem zOV:Lo2 (λt4 t5=>zmF t0 t4 t5) (λt4 t5 H Kb3=>ztl t0 t4 t5 H K Kb3) t4 t5 H (zBW t0 t4 t5 H K):=lq2 zmE zOW
theorem zOX(h:HSc H→zBV t0 H K):ACalls tP zhb [t0] H K:=
 acb zmE Tryz.func149 ztm h
theorem zO1:Lo1 (λt4=>zmI t0 t3 t4) (λt4 H Kb5=>zmH t0 t3 t4 H K Kb5) t4 H (zto t0 t3 t4 H K):=lq1 zmG zO2
theorem zO3(h:HSc H→zhB t0 H K):ACalls tP zqv [t0] H K:=
 acb zmG Tryz.func150 ztn h
theorem zQR(h:HSc H→zCG t0 H K):ACalls tP zkw [t0] H K:=
 acb zQP Tryz.func216 zQQ h
theorem zQU(h:HSc H→zCH t0 H K):ACalls tP zir [t0] H K:=
 acb zQS Tryz.func217 zQT h
theorem zQX:Lo1 (λt5=>zna t0 t1 t5) (λt5 H Kb2=>ztR t0 t1 t5 H K Kb2) t5 H (zCJ t0 t1 t5 H K):=lq1 zm9 zQY
theorem zQZ(h:HSc H→zCI t0 t1 H K):ACalls tP zkx [t0,t1] H K:=
 acb zm9 Tryz.func218 ztS h
theorem zQ3(h:HSc H→zCK t0 H K):ACalls tP zis [t0] H K:=
 acb zQ1 Tryz.func219 zQ2 h
theorem zQ6(h:HSc H→zCL t0 H K):ACalls tP zqG [t0] H K:=
 acb zQ4 Tryz.func220 zQ5 h
theorem zQ9(h:HSc H→zCM t0 H K):ACalls tP zf6 [t0] H K:=
 acb zQ7 Tryz.func221 zQ8 h
theorem zRc:Lo2 (λt3 t7=>znc t0 t3 t6 t7) (λt3 t7 H Kb3=>ztT t0 t3 t6 t7 H K Kb3) t3 t7 H (zCO t0 t3 t6 t7 H K):=lq2 znb zRd
theorem zRe(h:HSc H→zCN t0 H K):ACalls tP zit [t0] H K:=
 acb znb Tryz.func222 ztU h
end
section
variable (t0 t8 t16:AV) (H:zaa) (K:Kt)
def zRg(_:Nat):List Bool:=[]
noncomputable def zRh:=Tryz.f223.body.getD .skip
def zcA:=zag t16 (za1 0 0 t0 none (some (.int .i64 1)) λt31=>K t31 H) (K (.str []) H)
def znd:=za1 0 0 t0 none (some (.int .i64 1)) λt15=>zab .eql false t15 (.str [40]) λt17=>zag t17 (zcA t0 t17 H K) (zab .eql false t15 (.str [41]) λt18=>zag t18 (zcA t0 t18 H K) (zab .eql false t15 (.str [44]) λt19=>zag t19 (zcA t0 t19 H K) (zab .eql false t15 (.str [61]) λt20=>zag t20 (zcA t0 t20 H K) (zab .eql false t15 (.str [124]) λt21=>zag t21 (zcA t0 t21 H K) (zab .eql false t15 (.str [43]) λt22=>zag t22 (zcA t0 t22 H K) (zab .eql false t15 (.str [45]) λt23=>zag t23 (zcA t0 t23 H K) (zab .eql false t15 (.str [42]) λt24=>zag t24 (zcA t0 t24 H K) (zab .eql false t15 (.str [47]) λt25=>zag t25 (zcA t0 t25 H K) (zab .eql false t15 (.str [37]) λt26=>zag t26 (zcA t0 t26 H K) (zab .eql false t15 (.str [60]) λt27=>zag t27 (zcA t0 t27 H K) (zab .eql false t15 (.str [59]) λt28=>zag t28 (zcA t0 t28 H K) (zab .eql false t15 (.str [95]) λt29=>zcA t0 t29 H K))))))))))))
def zgt:=zag t8 (za1 0 0 t0 none (some (.int .i64 2)) λt13=>K t13 H) (znd t0 H K)
def zhJ:=zah 0 t0 λt4=>zab .geq false t4 (.int .i64 2) λt5=>zag t5 (za1 0 0 t0 none (some (.int .i64 2)) λt7=>zab .eql false t7 (.str [45,62]) λt9=>zag t9 (zgt t0 t9 H K) (zab .eql false t7 (.str [60,61]) λt10=>zag t10 (zgt t0 t10 H K) (zab .eql false t7 (.str [61,61]) λt11=>zgt t0 t11 H K))) (znd t0 H K)
def zP2(_:Nat):List Bool:=[]
noncomputable def zP3:=Tryz.f169.body.getD .skip
def zCm:=ACalls tP zqB [t0] H λt8 H=>zaI t8 0 λt9=>zaI t8 1 λt10=>zaI t8 2 λt11=>zab .eql false t11 (.int .i64 0) λt13=>zac t13 true H (λK'=>K' t9 H) λt15 H=>zac t13 true H (λK'=>zah 1 t15 (K' · H)) λt16 H=>zac t13 true H (λK'=>zab .eql false t16 (.int .i64 2) (K' · H)) λt17 H=>zak t13 t17 (.bool false) λt18=>zac t18 true H (λK'=>K' t9 H) λt20 H=>zac t18 true H (λK'=>zai 3 t20 (.int .i64 0) (K' · H)) λt21 H=>zac t18 true H (λK'=>zaf 0 t21 (K' · H)) λt22 H=>zac t18 true H (λK'=>zae false 1 t22 H (K' · H)) λt23 H=>zac t18 true H (λK'=>zab .eql false t23 (.int .i64 2) (K' · H)) λt24 H=>zak t18 t24 (.bool false) λt25=>zac t25 true H (λK'=>K' t9 H) λt27 H=>zac t25 true H (λK'=>zai 3 t27 (.int .i64 0) (K' · H)) λt28 H=>zac t25 true H (λK'=>zaf 1 t28 (K' · H)) λt29 H=>zac t25 true H (λK'=>zae false 1 t29 H (K' · H)) λt30 H=>zac t25 true H (λK'=>K' t0 H) λt31 H=>zac t25 true H (λK'=>zab .eql false t30 t31 (K' · H)) λt32 H=>zak t25 t32 (.bool false) λt33=>K t33 H
def zT0(_:Nat):List Bool:=[]
noncomputable def zT1:=Tryz.f62.body.getD .skip
def zDS:=ACalls tP zqb [t0] H λt8 H=>zaI t8 0 λt9=>zaI t8 1 λt10=>zaI t8 2 λt11=>zab .eql false t11 (.int .i64 0) λt13=>zac t13 true H (λK'=>K' t9 H) λt15 H=>zac t13 true H (λK'=>zah 1 t15 (K' · H)) λt16 H=>zac t13 true H (λK'=>zab .eql false t16 (.int .i64 2) (K' · H)) λt17 H=>zak t13 t17 (.bool false) λt18=>zac t18 true H (λK'=>K' t9 H) λt20 H=>zac t18 true H (λK'=>zai 3 t20 (.int .i64 0) (K' · H)) λt21 H=>zac t18 true H (λK'=>zaf 0 t21 (K' · H)) λt22 H=>zac t18 true H (λK'=>zae false 1 t22 H (K' · H)) λt23 H=>zac t18 true H (λK'=>zab .eql false t23 (.int .i64 2) (K' · H)) λt24 H=>zak t18 t24 (.bool false) λt25=>zac t25 true H (λK'=>K' t9 H) λt27 H=>zac t25 true H (λK'=>zai 3 t27 (.int .i64 0) (K' · H)) λt28 H=>zac t25 true H (λK'=>zaf 1 t28 (K' · H)) λt29 H=>zac t25 true H (λK'=>zae false 1 t29 H (K' · H)) λt30 H=>zac t25 true H (λK'=>K' t0 H) λt31 H=>zac t25 true H (λK'=>zab .eql false t30 t31 (K' · H)) λt32 H=>zak t25 t32 (.bool false) λt33=>K t33 H
variable {t0 t8 t16} {H} {K}
theorem zRi(h:HSc H→zhJ t0 H K):ACalls tP zqH [t0] H K:=
 acb zRg Tryz.func223 zRh h
theorem zP4(h:HSc H→zCm t0 H K):ACalls tP zks [t0] H K:=
 acb zP2 Tryz.func169 zP3 h
theorem zT2(h:HSc H→zDS t0 H K):ACalls tP zkJ [t0] H K:=
 acb zT0 Tryz.func62 zT1 h
end
end Go.Proofs.YtaifokkaaahdoaaGreatDoor
