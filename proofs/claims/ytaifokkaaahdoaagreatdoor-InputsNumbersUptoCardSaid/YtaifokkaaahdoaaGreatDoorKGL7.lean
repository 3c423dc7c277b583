import Derived.Test.YtaifokkaaahdoaaGreatDoorKGL6
import Derived.Test.YtaifokkaaahdoaaGreatDoorKNum
import Derived.Test.YtaifokkaaahdoaaGreatDoorProg
import Derived.KernelRfl
set_option linter.unusedSectionVars false
set_option linter.unusedSimpArgs false
set_option linter.unusedVariables false
set_option maxRecDepth 100000
namespace Go.Proofs.YtaifokkaaahdoaaGreatDoor
structure BS where
 s:SS
 m:List ((Int×Int)×List VT)
def zdJ(l:List ((Int×Int)×List VT)):List ((Int×Int)×AV):=l.map λe=>(e.1,.sl (VT.css e.2) .none)
structure BI where
 i:SI
 bp:Nat
 bm:Nat
section
variable (data:List Dat) (kk:Int) (xs:List Int) (Z:BI)
structure ShB (B:BS) (H:zaa):Prop where
 sh:ShS data kk Z.i B.s H
 bpa:H[Z.bp]?=some (.cells [.ptr Z.i.p 0,.sl (ints xs) .none,.map Z.bm])
 bma:H[Z.bm]?=some (.mapP (zdJ B.m))
 np:za3 data kk Z.i B.s Z.bp=none
 nm:za3 data kk Z.i B.s Z.bm=none
 ne:Z.bp≠Z.bm
def shB(B:BS)(H:zaa):zaa:=(shS data kk Z.i B.s H).set Z.bm (.mapP (zdJ B.m))
end
theorem zgR{data:List Dat}{kk:Int}{I:SI}{S S':SS}{x:Nat}(h:za3 data kk I S x=none):za3 data kk I S' x=none:=by
 have:=zgS (data:=data) (kk:=kk) (I:=I) (S:=S) (S':=S') x;rw[h]at this;cases h2:za3 data kk I S' x with
 |none=>rfl
 |some b=>rw[h2]at this;cases this
theorem zI5{data:List Dat}{kk:Int}{I:SI}{S:SS}{x:Nat}{b:AB}{H:zaa}(h:za3 data kk I S x=none):shS data kk I S (H.set x b)=(shS data kk I S H).set x b:=by
 apply aI;intro y;rw[zcx];by_cases e:x=y
 ·subst e;by_cases hx:x<H.length
  ·rw[List.getElem?_set_self hx,List.getElem?_set_self (by simpa using hx),h];rfl
  ·rw[List.getElem?_eq_none (by simpa using hx),List.getElem?_eq_none (by simpa using hx)];rfl
 ·rw[List.getElem?_set_ne e,List.getElem?_set_ne e,zcx]
section
variable {data:List Dat} {kk:Nat} {xs:List Int} {Z:BI} {B B' B'':BS} {H J:zaa}
@[simp] theorem yaW:(shB data kk Z B H).length=H.length:=by simp[shB]
theorem ShB.app(h:ShB data kk xs Z B H):ShB data kk xs Z B (H++J):=⟨h.sh.app,by
 rw[List.getElem?_append_left (List.getElem?_eq_some_iff.1 h.bpa).1];exact h.bpa,by
 rw[List.getElem?_append_left (List.getElem?_eq_some_iff.1 h.bma).1];exact h.bma,h.np,h.nm,h.ne⟩
theorem ShB.shB_app(h:ShB data kk xs Z B H):shB data kk Z B' (H++J)=shB data kk Z B' H++J:=by unfold shB;rw[h.sh.shS_app,a6 _ _ (by simpa using(List.getElem?_eq_some_iff.1 h.bma).1)]
theorem ShB.next(h:ShB data kk xs Z B H)(hm:B'.s.made.length=B'.s.types.length)(hc:B'.s.cons.length=B'.s.types.length):ShB data kk xs Z B' (shB data kk Z B' H):=by
 have h1:=h.sh.next hm hc;have lbm:=(List.getElem?_eq_some_iff.1 h.bma).1;refine⟨⟨h1.ok,λx b hb=>?_,hm,hc⟩,?_,?_,zgR h.np,zgR h.nm,h.ne⟩
 ·have hne:Z.bm≠x:=by rintro rfl;rw[zgR h.nm]at hb;cases hb
  rw[shB,List.getElem?_set_ne hne];exact h1.at' x b hb
 ·rw[shB,List.getElem?_set_ne (λe=>h.ne e.symm),zcx,h.bpa,Option.map_some,zgR h.np];rfl
 ·rw[shB,List.getElem?_set_self (by simpa using lbm)]
theorem ShB.shB_shB(h:ShB data kk xs Z B H):shB data kk Z B'' (shB data kk Z B' H)=shB data kk Z B'' H:=by unfold shB;rw[zI5 (zgR h.nm),zdh,cy]
theorem ShB.self(h:ShB data kk xs Z B H):shB data kk Z B H=H:=by
 unfold shB;rw[h.sh.self];apply aI;intro y;by_cases e:Z.bm=y
 ·subst e;rw[List.getElem?_set_self (List.getElem?_eq_some_iff.1 h.bma).1,h.bma]
 ·rw[List.getElem?_set_ne e]
theorem ShB.shS_eq(h:ShB data kk xs Z B H){S':SS}:shS data kk Z.i S' H=shB data kk Z ⟨S',B.m⟩ H:=by
 unfold shB;apply aI;intro y;by_cases e:Z.bm=y
 ·subst e;rw[List.getElem?_set_self (by simpa using(List.getElem?_eq_some_iff.1 h.bma).1),zcx,h.bma,Option.map_some,zgR h.nm];rfl
 ·rw[List.getElem?_set_ne e]
theorem ShB.nodr(h:ShB data kk xs Z B H)(h0:H[0]?=some .nodr):(shB data kk Z B' H)[0]?=some .nodr:=by
 have hne:Z.bm≠0:=by intro e;have:=h.bma;rw[e,h0]at this;cases this
 rw[shB,List.getElem?_set_ne hne];exact h.sh.nodr h0
theorem zHU(n:Nat)(l:List ((Int×Int)×List VT)):(AB.mapP (zdJ l)).sc n=true:=by simp[AB.sc,zdJ,AV.scV,AV.scA,AV.scB]
theorem ShB.scs(h:ShB data kk xs Z B H)(hs:HSc H):HSc (shB data kk Z B' H):=by unfold shB;exact(h.sh.scs hs).set (zHU _ _)
end
structure InvB (data:List Dat) (kk:Nat) (xs:List Int) (X:List VT) (B:BS):Prop where
 s:za0 data kk X B.s
 m:∀e∈B.m,∃(i n:Nat) (t:VT),e.1=((i:Int),(n:Int))∧B.s.types[i]?=some t∧e.2=vV data xs t n
section
variable (data:List Dat) (kk:Nat) (xs:List Int) (X:List VT) (Z:BI)
def zfM(B B':BS)(i n:Nat)(l:List VT):Prop:=∀H,ShB data kk xs Z B H→H[0]?=some .nodr→∀K:Kt,K (.sl (VT.css l) .none) (shB data kk Z B' H)→ACalls tP zkS [.ptr Z.bp 0,.int .i64 i,.int .i64 n] H K
def zey(n:Nat):Prop:=∀(B:BS) (i:Nat) (t:VT),InvB data kk xs X B→B.s.types[i]?=some t→Rch data X n t→cV data kk t n≠0→cV data kk t n≤2000→∃B',InvB data kk xs X B'∧B.s.types <+: B'.s.types∧zfM data kk xs Z B B' i n (vV data xs t n)
def llA(l:List (List VT)):List (List AV):=l.map λr=>[.sl (VT.css r) .none]
def zgE(B B':BS)(is:List Nat)(n:Nat)(l:List (List VT)):Prop:=∀H,ShB data kk xs Z B H→H[0]?=some .nodr→∀K:Kt,K (.sl (llA l) .none) (shB data kk Z B' H)→ACalls tP ziw [.ptr Z.bp 0,.sl (za5 is) .none,.int .i64 n] H K
def zjw(B B':BS)(i n:Nat)(l:List (List VT)):Prop:=∀H,ShB data kk xs Z B H→H[0]?=some .nodr→∀K:Kt,K (.sl (llA l) .none) (shB data kk Z B' H)→ACalls tP zki [.ptr Z.bp 0,.int .i64 i,.int .i64 n] H K
end
@[simp] theorem zg5(l:List (List VT)):(llA l).length=l.length:=by simp[llA]
theorem zp0(a b:List (List VT)):llA (a++b)=llA a++llA b:=by simp[llA]
theorem zwr(es:List (List AV))(tk:Tok)(k:AV→Prop):zau 1 [.snil] 1 [(0,.sl es tk)] k=k (.sl [[.sl es .none]] .full):=propext aG
theorem zFV(v:VT)(r:List VT)(hr:r.length≤1000000)(H:zaa)(K:Kt)(hK:∀tk J,K (.sl (v.cs::VT.css r) tk) (H++J)):zax zaP 3 40 (.sl [v.cs] .full) (.sl (VT.css r) .none) H K:=by
 cases r with
 |nil=>simp only[VT.css,zax,za6,zaZ];refine⟨by simp,?_⟩;have:=hK .full [];rwa [aE]at this
 |cons y r=>
  simp only[VT.css,zax,za6,zaZ];refine⟨by simp[VT.css_map],⟨by simp,by simp,?_,?_⟩,?_⟩
  ·simp at hr ⊢;omega
  ·simp at hr ⊢;omega
  exact hK (.own H.length) [.perm zaP 3 ([v.cs].length+(y.cs::VT.css r).length)]
theorem zHs{a:List VT}{b:List (List VT)}{i:Nat}(h:i<a.length):zbc (a.take (i+1)) b=zbc (a.take i) b++b.map λr=>a[i]::r:=by unfold zbc;rw[aj h,bt];simp
theorem zER(a:List VT)(b:List (List VT))(ha:a.length≤1000000)(hb:b.length≤1000000)(hr:∀ r∈b,r.length≤1000000)(H:zaa)(K:Kt)(hK:K (.sl (llA (zbc a b)) .none) H):
  ACalls tP zkR [.sl (VT.css a) .none,.sl (llA b) .none] H K:=by
 refine ACalls.out (zWj λhs=>?_);simp only[zEN,zeB,VT.css_len];refine ALoop.own 5 zbj 1 rfl ?_;show zvn _ (.sl (llA (zbc (a.take 0) b)) (.own H.length)) _ _ _ (H++[.perm zbj 1 0]) _;obtain⟨N,hN⟩:∃N,N=H.length:=⟨_,rfl⟩;rw[←hN];have hps:∀k,HSc (H++[.perm zbj 1 k]):=λk=>hs.snoc rfl;have jl:∀i,i≤a.length→(zbc (a.take i) b).length=i*b.length:=λi hi=>by rw[zfZ,aM,ba hi]
 refine zWg (Inv:=λq t5 t12 H'=>∃i:Nat,i≤a.length∧a.length-i=q∧t12=.int .i64 i∧t5=.sl (llA (zbc (a.take i) b)) (.own N)∧H'=H++[.perm zbj 1 (i*b.length)]) a.length ?_ ?_
 ·intro _;exact⟨0,by omega,rfl,rfl,rfl,by simp⟩
 ·rintro q t5 t12 H' ⟨i,hi,rfl,rfl,rfl,rfl⟩ hsc3 hlen3 hsF3 Kb3 hKb3;by_cases hlt:i<a.length
  ·obtain⟨x1,x2,x3,hvx,hxa,hxb,hxc⟩:=zaO a[i];have hib:=bI hi hb;have hia:=bI ha (aa 1000000);have hib1:(i+1)*b.length≤1000000000000:=by have:=bI (show i+1≤1000000 by omega) hb;omega
   simp[zvj,hlt,hvx];refine⟨⟨hxa,hxb,hxc⟩,?_⟩;rw[←hvx,←hN];have hss:∀k,HSc (H++[.perm zbj 1 k,.cells (a[i]).cs]):=λk=>hs.append (by simp[AB.sc]);refine zWh (Inv:=λq t5 t18 H'=>∃j:Nat,j≤b.length∧b.length-j=q∧t18=.int .i64 j∧t5=.sl (llA (zbc (a.take i) b++(b.map λr=>a[i]::r).take j)) (.own N)∧H'=H++[.perm zbj 1 (i*b.length+j),.cells (a[i]).cs]) b.length ?_ ?_
   ·intro _;exact⟨0,by omega,rfl,rfl,by simp,by simp⟩
   ·rintro q t5 t18 H' ⟨j,hj,rfl,rfl,rfl,rfl⟩ hsc6 hlen6 hsF6 Kb6 hKb6;by_cases hlj:j<b.length
    ·have hgj:∀ h:j<(llA b).length,(llA b)[j]'h=[.sl (VT.css b[j]) .none]:=λh=>by simp[llA]
     have hrj:=hr _ (ae hlj);have hg7:(H++[AB.perm zbj 1 (i*b.length+j),AB.cells (a[i]).cs])[N+1]?=some (.cells (a[i]).cs):=by rw[hN];simp[List.getElem?_append]
     have hal:(llA (zbc (a.take i) b++(b.map λr=>a[i]::r).take j)).length=i*b.length+j:=by rw[zg5,ao,jl i hi,aM,aS];omega
     have hst:llA (zbc (a.take i) b++(b.map λr=>a[i]::r).take j)++[[.sl ((a[i]).cs::VT.css b[j]) .none]]=llA (zbc (a.take i) b++(b.map λr=>a[i]::r).take (j+1)):=by rw[aj (by simpa using hlj),←ah,zp0 (zbc (a.take i) b++_)];simp[llA,VT.css]
     have step:∀(tk:Tok) (J:zaa),(zax zbj 1 24 (.sl (llA (zbc (a.take i) b++(b.map λr=>a[i]::r).take j)) (.own N)) (.sl [[.sl ((a[i]).cs::VT.css b[j]) .none]] tk) (H++(AB.perm zbj 1 (i*b.length+j)::AB.cells (a[i]).cs::J)) λt28 H_1=>Kb6 (zju (.sl (llA b) .none) t28 (.ptr (N+1) 0) (.sl (VT.css a) .none) (.int .i64 a.length) (.int .i64 i) (.sl (llA b) .none) (.int .i64 b.length) (.int .i64 (j+1:Nat))) H_1):=by
      intro tk J;simp only[zax,za6,zaZ,hal];refine⟨by simp,?_,⟨by simp;omega,by simp;omega⟩,?_⟩
      ·rw[hN];simp
      ·rw[hst];have hset:(H++(AB.perm zbj 1 (i*b.length+j)::AB.cells (a[i]).cs::J)).set N (.perm zbj 1 (i*b.length+j+[[AV.sl ((a[i]).cs::VT.css b[j]) Tok.none]].length))=(H++[.perm zbj 1 (i*b.length+(j+1)),.cells (a[i]).cs])++J:=by rw[hN,ai _ _ (aa _)];simp[ag]
       rw[hset];refine hKb6 _ _ ⟨b.length-(j+1),by omega,Back.at (J:=J) rfl (by simp) (hss _) ?_ ⟨_,_,rfl,j+1,by omega,rfl,rfl,rfl,rfl⟩⟩;simp[zju,ux,AV.sc,AV.scA,AV.scB,AV.scV];omega
     have hcl:VT.cs a[i]=(a[i]).cs:=rfl;simp only[bX]at *;simp[zvk,hlj,hgj];rw[hg7];simp only[zfQ,zfO,aU,VT.cs_take,VT.cs_len];refine⟨by omega,?_⟩;rw[zd4,wr (by omega)];refine zFV a[i] b[j] hrj _ _ λtk J=>?_;rw[zwr];have:=step .full J;simpa using this
    ·obtain rfl:j=b.length:=by omega
     simp[zvk];rw[wr (by omega)];refine hKb3 _ _ ⟨a.length-(i+1),by omega,Back.at (H2:=H++[.perm zbj 1 ((i+1)*b.length)]) (J:=[.cells (a[i]).cs]) (by simp[cp]) (by simp) (hps _) ?_ ⟨_,_,rfl,i+1,by omega,rfl,rfl,by rw[zHs hlt,ak (l:=b.map λr=>a[i]::r) (by simp)],rfl⟩⟩;simp[zoA,ux,AV.sc,AV.scA,AV.scB,AV.scV];omega
  ·obtain rfl:i=a.length:=by omega
   simp[zvj];exact Out.at rfl (by omega) hs (.atom (.sl _ _)) rfl rfl hK
theorem zxC(a:List VT):zbc a []=[]:=by unfold zbc;induction a with
 |nil=>rfl
 |cons v a ih=>rw[bg,ih];rfl
theorem zxM{g:VT→Nat→List VT}:∀ (ts:List VT) (n:Nat),∀ r∈lsL g ts n,r.length=ts.length
 |[],n,r,h=>by
  rw[lsL]at h;split at h
  ·simp at h;subst h;rfl
  ·simp at h
 |t::ts,n,r,h=>by rw[lsL]at h;obtain⟨s,_,h⟩:=bD.1 h;unfold zbc at h;obtain⟨v,_,h⟩:=bD.1 h;obtain⟨r',hr',rfl⟩:=aV.1 h;rw[List.length_cons,List.length_cons,zxM ts _ r' hr']
section
variable (data:List Dat) (xs:List Int) (X:List VT) (Z:BI)
def RL(t:VT)(ts:List VT)(i:Nat)(is:List Nat)(n s:Nat)(B B':BS):Prop:=
 ∃ o1 S1,zex data xs.length Z.i B.s S1 i (s+1) o1∧vO o1=cV data xs.length t (s+1)∧za0 data xs.length X S1 ∧
  ((vO o1=0∧B'=⟨S1,B.m⟩)∨(vO o1≠0∧∃ o2 S2,zoW data xs.length Z.i S1 S2 is (n-(s+1)) o2∧vO o2=cL (cV data xs.length) ts (n-(s+1))∧za0 data xs.length X S2 ∧
    ((vO o2=0∧B'=⟨S2,B.m⟩)∨(vO o2≠0∧∃B3,zfM data xs.length xs Z ⟨S2,B.m⟩ B3 i (s+1) (vV data xs t (s+1))∧InvB data xs.length xs X B3∧zgE data xs.length xs Z B3 B' is (n-(s+1)) (lsL (vV data xs) ts (n-(s+1)))))))
end
section
variable {data:List Dat} (hD:zaB data=true) (hk:Kpt data) {xs:List Int} (hxs:xs.length≤8) {X:List VT} (hX:X.length≤1000000000000) {Z:BI}
include hD hk hxs hX
theorem InvB.mk'{S':SS}{B:BS}(hB:InvB data xs.length xs X B)(h:za0 data xs.length X S')(hp:B.s.types <+: S'.types):InvB data xs.length xs X ⟨S',B.m⟩:=
 ⟨h,λe he=>by
  obtain⟨i,n,t,h1,h2,h3⟩:=hB.m e he;exact⟨i,n,t,h1,zdg hp h2,h3⟩⟩
theorem zz9{t:VT}{n:Nat}(h:cV data xs.length t n=0):vV data xs t n=[]:=by have:=zeX data xs n t;rw[h]at this;exact az this
theorem zii(ts:List VT)(n:Nat):(lsL (vV data xs) ts n).length=cL (cV data xs.length) ts n:=
 zj9 (zb3 data xs.length) ts n λt _ s _=>zeX data xs s t
theorem zHK{n:Nat}(hn:n≤14)(hV:∀ m,m≤n→zey data xs.length xs X Z m){t:VT}{ts:List VT}{i:Nat}{is:List Nat}(htl:ts.length≤1000)(ih:∀ (m:Nat) (B:BS),m≤n→InvB data xs.length xs X B→IdxOk B.s.types ts is→(∀ (p:Nat) (h:p<ts.length),Rch data X (m-p) ts[p])→cL (cV data xs.length) ts m≤2000→∃ B',InvB data xs.length xs X B'∧B.s.types <+: B'.s.types∧zgE data xs.length xs Z B B' is m (lsL (vV data xs) ts m)){B:BS}(hB:InvB data xs.length xs X B)(hix:IdxOk B.s.types (t::ts) (i::is))(hR:∀ (p:Nat) (h:p<(t::ts).length),Rch data X (n-p) (t::ts)[p])(hl:cL (cV data xs.length) (t::ts) n≤2000):
  ∃ σ:Nat→BS,σ 0=B∧(∀s≤n,InvB data xs.length xs X (σ s)∧B.s.types <+: (σ s).s.types)∧∀s<n,RL data xs X Z t ts i is n s (σ s) (σ (s+1)):=by
 have hC:∀m,m≤n→zcG data xs.length X Z.i m:=λm hm=>zjK hD hk hxs hX m (by omega);simp only[IdxOk,aA,bk]at hix;have hR0:Rch data X n t:=hR 0 (by simp);refine zd6 (λs (B':BS)=>InvB data xs.length xs X B'∧B.s.types <+: B'.s.types) (λs B B'=>RL data xs X Z t ts i is n s B B') n (λs hs B1 hB1=>?_) _ ⟨hB,aX⟩;obtain⟨h1,h2⟩:=hB1;obtain⟨S1,o1,k1,k2,k3,k4⟩:=hC (s+1) (by omega) B1.s i t h1.s (zdg h2 hix.1) (hR0.le _ (by omega));by_cases e1:vO o1=0
 ·exact⟨⟨S1,B1.m⟩,⟨o1,S1,k4,k3,k1,.inl ⟨e1,rfl⟩⟩,InvB.mk' hD hk hxs hX h1 k1 k2,h2.trans k2⟩
 ·have hRt:∀ (p:Nat) (h:p<ts.length),Rch data X (n-(s+1)-p) ts[p]:=λp hp=>by have:=hR (p+1) (by simpa using hp);simp only[List.getElem_cons_succ]at this;exact this.le _ (by omega)
  obtain⟨S2,o2,j1,j2,j3,j4⟩:=zru hD hk hxs hX (show n-(s+1)≤14 by omega) (λm hm=>hC m (by omega)) htl k1 (IdxOk.mono (h2.trans k2) hix.2) hRt;by_cases e2:vO o2=0
  ·exact⟨⟨S2,B1.m⟩,⟨o1,S1,k4,k3,k1,.inr ⟨e1,o2,S2,j4,j3,j1,.inl ⟨e2,rfl⟩⟩⟩,InvB.mk' hD hk hxs hX h1 j1 (k2.trans j2),h2.trans (k2.trans j2)⟩
  ·have hterm:cV data xs.length t (s+1)*cL (cV data xs.length) ts (n-(s+1))≤2000:=by rw[cL]at hl;exact aC (zzk (f:=λs=>cV data xs.length t s*cL (cV data xs.length) ts (n-s)) (show s+1<n+1 by omega)) hl
   rw[k3]at e1;rw[j3]at e2;have c1:cV data xs.length t (s+1)≤2000:=aC (bF _ (by omega)) hterm;have c2:cL (cV data xs.length) ts (n-(s+1))≤2000:=aC (bP _ (by omega)) hterm;have hB2:=InvB.mk' hD hk hxs hX h1 j1 (k2.trans j2);obtain⟨B3,v1,v2,v3⟩:=hV (s+1) (by omega) ⟨S2,B1.m⟩ i t hB2 (zdg (h2.trans (k2.trans j2)) hix.1) (hR0.le _ (by omega)) e1 c1;obtain⟨B4,w1,w2,w3⟩:=ih (n-(s+1)) B3 (by omega) v1 (IdxOk.mono (h2.trans (k2.trans (j2.trans v2))) hix.2) hRt c2;exact⟨B4,⟨o1,S1,k4,k3,k1,.inr ⟨by rw[k3];exact e1,o2,S2,j4,j3,j1,.inr ⟨by rw[j3];exact e2,B3,v3,v1,w3⟩⟩⟩,w1,h2.trans (k2.trans (j2.trans (v2.trans w2)))⟩
end
def ze9(data:List Dat)(xs:List Int)(t:VT)(ts:List VT)(n s:Nat):List (List VT):=(List.range s).flatMap λs'=>zbc (vV data xs t (s'+1)) (lsL (vV data xs) ts (n-(s'+1)))
theorem zFI(data:List Dat)(xs:List Int)(t:VT)(ts:List VT)(n s:Nat):ze9 data xs t ts n (s+1)=ze9 data xs t ts n s++zbc (vV data xs t (s+1)) (lsL (vV data xs) ts (n-(s+1))):=by unfold ze9;rw[cb,bt];simp
theorem zv5(data:List Dat)(xs:List Int)(t:VT)(ts:List VT)(n:Nat):ze9 data xs t ts n n=lsL (vV data xs) (t::ts) n:=rfl
theorem zFH(data:List Dat)(xs:List Int)(t:VT)(ts:List VT)(n:Nat){s s':Nat}(h:s≤s'):(ze9 data xs t ts n s).length≤(ze9 data xs t ts n s').length:=by unfold ze9;rw[zg0,zg0];exact zlc h _
theorem zFO(l:List ((Int×Int)×AV)):All2 (λp q=>p.1=q.1∧WkA p.2 q.2) l l:=by
 induction l with
 |nil=>trivial
 |cons a l ih=>exact⟨⟨rfl,.refl _⟩,ih⟩
section
variable {data:List Dat} (hD:zaB data=true) (hk:Kpt data) {xs:List Int} (hxs:xs.length≤8) {X:List VT} (hX:X.length≤1000000000000) {Z:BI}
include hD hk hxs hX
theorem zxI{N:Nat}(hN:N≤14)(hV:∀ m,m≤N→zey data xs.length xs X Z m):∀ (ts:List VT) (is:List Nat),ts.length≤1000→∀ (n:Nat) (B:BS),n≤N→InvB data xs.length xs X B→IdxOk B.s.types ts is→(∀ (p:Nat) (h:p<ts.length),Rch data X (n-p) ts[p])→cL (cV data xs.length) ts n≤2000 →
  ∃B',InvB data xs.length xs X B'∧B.s.types <+: B'.s.types∧zgE data xs.length xs Z B B' is n (lsL (vV data xs) ts n):=by
 intro ts;induction ts with
 |nil=>
  intro is htl n B hn hB hix hR hl;have his:is=[]:=az (by simpa using hix.len);subst his;refine⟨B,hB,aX,λH hS h0 K hK=>?_⟩;refine ACalls.out (zDw λhs=>?_);rw[hS.self]at hK;simp[zuj];rw[lsL]at hK;by_cases h:n=0
  ·subst h;simp at hK ⊢;simp[zau,za4,plain,AV.pd];exact Out.at (J:=[]) (by simp) (aa _) hs (.atom (.sl _ _)) rfl rfl hK
  ·rw[ap h]at hK;have hb:((n:Int) == 0)=false:=by simp;omega
   simp[hb];exact Out.at (J:=[]) (by simp) (aa _) hs (.atom .snil) rfl rfl hK
 |cons t ts ih0=>
  intro is htl n B hn hB hix hR hl;obtain⟨i,is,rfl⟩:∃i is',is=i::is':=by
   cases is with
   |nil=>have:=hix.len;simp at this
   |cons i is=>exact⟨i,is,rfl⟩
  have htl':ts.length≤1000:=by simp at htl;omega
  obtain⟨σ,hσ0,hσI,hσR⟩:=zHK hD hk hxs hX (show n≤14 by omega) (λm hm=>hV m (by omega)) htl' (λm B hm=>ih0 is htl' m B (by omega)) hB hix hR hl;have hlast:=hσI n (aa _);refine⟨σ n,hlast.1,hlast.2,λH hS h0 K hK=>?_⟩;refine ACalls.out (zDw λhs=>?_);have hlt0:0<H.length:=(List.getElem?_eq_some_iff.1 h0).1;have lbp:=(List.getElem?_eq_some_iff.1 hS.bpa).1;have hall:=zii hD hk hxs hX (t::ts) n;simp[zuj];have hlen:(((is.length:Int)+1) == 0)=false:=by simp;omega
  refine ALoop.own 7 zbj 1 rfl ?_;obtain⟨L,hL⟩:∃L,L=H.length:=⟨_,rfl⟩;obtain⟨acc,hacc⟩:∃acc:Nat→List (List VT),acc=ze9 data xs t ts n:=⟨_,rfl⟩;have hac0:acc 0=[]:=by rw[hacc];rfl
  have hle:∀s,s≤n→(acc s).length≤2000:=λs hs=>by have:=zFH data xs t ts n hs;rw[zv5,hall]at this;rw[hacc];omega
  obtain⟨G,hG⟩:∃G:BS→Nat→zaa,G=λB' k=>shB data xs.length Z B' H++[.perm zbj 1 k]:=⟨_,rfl⟩;have hGl:∀B' k,(G B' k).length=L+1:=λB' k=>by rw[hG,hL];simp
  have hGs:∀B' k,HSc (G B' k):=λB' k=>by rw[hG];exact(hS.scs hs).snoc rfl
  have hGS:∀B' k,za0 data xs.length X B'.s→ShB data xs.length xs Z B' (G B' k):=λB' k hB'=>by rw[hG];exact(hS.next hB'.ml hB'.cl).app
  have hG0:∀B' k,(G B' k)[0]?=some .nodr:=λB' k=>by rw[hG];simp only;rw[List.getElem?_append_left (by simpa using hlt0)];exact hS.nodr h0
  have hGm:∀B' B'' k,za0 data xs.length X B'.s→shB data xs.length Z B'' (G B' k)=G B'' k:=λB' B'' k hB'=>by rw[hG];simp only;rw[(hS.next hB'.ml hB'.cl).shB_app,hS.shB_shB]
  have hGn:∀B' S' k,za0 data xs.length X B'.s→shS data xs.length Z.i S' (G B' k)=G ⟨S',B'.m⟩ k:=λB' S' k hB'=>by rw[(hGS B' k hB').shS_eq,hGm _ _ _ hB']
  have hGp:∀B' k,(G B' k)[L]?=some (.perm zbj 1 k):=λB' k=>by rw[hG,hL];simp
  have hGset:∀B' k k',(G B' k).set L (.perm zbj 1 k')=G B' k':=λB' k k'=>by rw[hG,hL];simp only;rw[ai _ _ (by simp)];simp
  rw[←hL];show zum (.ptr Z.bp 0) (.sl (za5 (i::is)) .none) (.int .i64 n) (.sl [] (.own L)) (.int .i64 1) (H++[.perm zbj 1 0]) _;refine zS1 (Inv:=λq t7 t8 H'=>∃s s1:Nat,s1=s+1∧s≤n∧n-s=q∧t8=.int .i64 s1∧t7=.sl (llA (acc s)) (.own L)∧H'=G (σ s) (acc s).length) n ?_ ?_
  ·intro _;refine⟨0,1,rfl,by omega,rfl,rfl,by rw[hac0];rfl,?_⟩;rw[hac0,hσ0,hG];simp only;rw[hS.self];rfl
  ·rintro q t7 t8 H' ⟨s,s1,hs1,hsn,rfl,rfl,rfl,rfl⟩ hsc7 hlen7 hsF7 Kb7 hKb7;have hIs:=hσI s hsn;by_cases hlt:s<n
   ·have hle1:s1≤n:=by omega
    obtain⟨o1,S1,c1,v1,I1,hrest⟩:=hσR s hlt;rw[←hs1]at c1 v1;have hj:acc (s+1)=acc s++zbc (vV data xs t s1) (lsL (vV data xs) ts (n-s1)):=by rw[hacc,zFI,hs1]
    have fin:∀(a:AV),a=.sl (llA (acc (s+1))) (.own L)→znD (.ptr Z.bp 0) (.sl (za5 (i::is)) .none) (.int .i64 n) a (.int .i64 s1) (G (σ (s+1)) (acc (s+1)).length) (Out L K) Kb7:=by rintro a rfl;unfold znD zDv;simp;rw[wr (by omega)];refine hKb7 _ _ ⟨n-(s+1),by omega,Back.here (by rw[hGl];simp[hL]) (hGs _ _) ?_ ⟨_,_,rfl,s+1,s1+1,by omega,by omega,rfl,rfl,rfl,rfl⟩⟩;rw[hGl];simp[znC,ux,AV.sc,AV.scA,AV.scB,AV.scV];omega
    have g0:∀h:0<(za5 (i::is)).length,(za5 (i::is))[0]'h=[AV.int .i64 (i:Nat)]:=λh=>by simp[za5]
    simp[zuk,hle1,(hGS _ _ hIs.1.s).bpa,g0];have b1:vO o1<1000000000 ^ 30:=by rw[v1];exact zdD hk hxs t (by omega)
    refine zcn (.agg (zaj o1)) (G ⟨S1,(σ s).m⟩ (acc s).length) (c1 _ (hGS _ _ hIs.1.s).sh (hG0 _ _) _ ⟨rfl,hGn _ _ _ hIs.1.s⟩) ?_;refine zcn (.int .i64 (if vO o1=0 then 0 else 1)) _ (zhQ o1 b1 _ _ ⟨rfl,rfl⟩) ?_;rcases hrest with ⟨e1,hst⟩|⟨e1,o2,S2,c2,v2,I2,hrest⟩
    ·simp[e1];have:acc s=acc (s+1):=by rw[hj,zz9 hD hk hxs hX (by rw[←v1];exact e1)];simp[zbc]
     rw[←hst,this];exact fin _ rfl
    ·have hB1:=hGS ⟨S1,(σ s).m⟩ (acc s).length I1;have htail:(List.take (is.length+1) (za5 (i::is))).tail=za5 is:=by rw[ak (by simp)];rfl
     have hone:∀c∈za5 (i::is),c.length=1:=by simp[za5]
     have hw:IntKind.i64.wrap ((n:Int)-(s1:Int))=((n-s1:Nat):Int):=by rw[zaz (by omega) (by omega)];omega
     simp[e1,hB1.bpa,htail,hw];refine⟨hone,?_⟩;rw[←hs1]at c2 v2;have b2:vO o2<1000000000 ^ 30:=by rw[v2];exact zhZ hk hxs ts (by omega)
     refine zcn (.agg (zaj o2)) (G ⟨S2,(σ s).m⟩ (acc s).length) (c2 _ hB1.sh (hG0 _ _) _ ⟨rfl,hGn _ _ _ I1⟩) ?_;refine zcn (.int .i64 (if vO o2=0 then 0 else 1)) _ (zhQ o2 b2 _ _ ⟨rfl,rfl⟩) ?_;rcases hrest with ⟨e2,hst⟩|⟨e2,B3,c3,I3,c4⟩
     ·simp[e2];have hnil:lsL (vV data xs) ts (n-s1)=[]:=az (by rw[zii hD hk hxs hX,←v2,e2]);have:acc s=acc (s+1):=by rw[hj,hnil,zxC];simp
      rw[←hst,this];exact fin _ rfl
     ·simp[e2];have c4':zgE data xs.length xs Z B3 (σ (s+1)) is (n-s1) (lsL (vV data xs) ts (n-s1)):=by rw[hs1];exact c4
      rw[←hs1]at c3;have hB2:=hGS ⟨S2,(σ s).m⟩ (acc s).length I2;have hB3:=hGS B3 (acc s).length I3.s;refine zcn (.sl (VT.css (vV data xs t s1)) .none) (G B3 (acc s).length) (c3 _ hB2 (hG0 _ _) _ ⟨rfl,hGm _ _ _ I2⟩) ?_;refine⟨hone,?_⟩;refine zcn (.sl (llA (lsL (vV data xs) ts (n-s1))) .none) (G (σ (s+1)) (acc s).length) (c4' _ hB3 (hG0 _ _) _ ⟨rfl,hGm _ _ _ I3.s⟩) ?_;have hjl:=congrArg List.length hj;rw[ao,zfZ]at hjl;have hl1:=hle (s+1) (by omega);have la:(vV data xs t s1).length=vO o1:=by rw[zeX,v1]
      have lb:(lsL (vV data xs) ts (n-s1)).length=vO o2:=by rw[zii hD hk hxs hX,v2]
      have hprod:(vV data xs t s1).length*(lsL (vV data xs) ts (n-s1)).length≤2000:=by omega
      have la2:(vV data xs t s1).length≤2000:=aC (bF _ (by omega)) hprod;have lb2:(lsL (vV data xs) ts (n-s1)).length≤2000:=aC (bP _ (by omega)) hprod;refine zcn (.sl (llA (zbc (vV data xs t s1) (lsL (vV data xs) ts (n-s1)))) .none) _ (zER _ _ (by omega) (by omega) (λr hr=>by rw[zxM ts _ r hr];omega) _ _ ⟨rfl,rfl⟩) ?_;refine zcn (.sl (llA (acc (s+1))) (.own L)) (G (σ (s+1)) (acc (s+1)).length) ?_ (fin _ rfl);simp only[zax,za6,zaZ,zg5,zfZ];refine⟨by simp[llA],hGp _ _,⟨by omega,by omega⟩,?_,?_⟩
      ·rw[hj,zp0]
      ·rw[hGset,hjl]
   ·obtain rfl:s=n:=by omega
    have hgt:¬s1≤s:=by omega
    simp[zuk,hgt];have hfin:acc s=lsL (vV data xs) (t::ts) s:=by rw[hacc,zv5]
    rw[hfin,hG];exact Out.at rfl (by simp[hL]) (hS.scs hs) (.atom (.sl _ _)) rfl rfl hK
end
theorem zFX{g:Nat→List VT}:∀(n:Nat),∀r∈arL g n,r.length≤n:=by
 intro n;induction n using Nat.strongRecOn with
 |ind n ih=>
  intro r h;cases n with
  |zero=>rw[zwh]at h;simp at h;subst h;exact aa _
  |succ n=>rw[zjC]at h;obtain⟨s,_,h⟩:=bD.1 h;unfold zbc at h;obtain⟨v,_,h⟩:=bD.1 h;obtain⟨r',hr',rfl⟩:=aV.1 h;have:=ih _ (by omega) r' hr';rw[List.length_cons];omega
def zfT(data:List Dat)(xs:List Int)(t:VT)(n s:Nat):List (List VT):=(List.range s).flatMap λs'=>zbc (vV data xs t (s'+1)) (arL (vV data xs t) (n-(s'+1)))
theorem zFG(data:List Dat)(xs:List Int)(t:VT)(n s:Nat):zfT data xs t n (s+1)=zfT data xs t n s++zbc (vV data xs t (s+1)) (arL (vV data xs t) (n-(s+1))):=by unfold zfT;rw[cb,bt];simp
theorem zFF(data:List Dat)(xs:List Int)(t:VT)(n:Nat){s s':Nat}(h:s≤s'):(zfT data xs t n s).length≤(zfT data xs t n s').length:=by unfold zfT;rw[zg0,zg0];exact zlc h _
def zFe(data:List Dat)(kk:Nat)(I:SI)(S S':SS)(i n:Nat)(o:Option Nat):Prop:=∀H,ShS data kk I S H→H[0]?=some .nodr→∀K:Kt,K (.agg (zaj o)) (shS data kk I S' H)→ACalls tP ziA [.ptr I.p 0,.int .i64 i,.int .i64 n] H K
def RLA(data:List Dat)(xs:List Int)(X:List VT)(Z:BI)(t:VT)(i n s:Nat)(B B':BS):Prop:=
 ∃ o1 S1,zex data xs.length Z.i B.s S1 i (s+1) o1∧vO o1=cV data xs.length t (s+1)∧za0 data xs.length X S1 ∧
  ((vO o1=0∧B'=⟨S1,B.m⟩)∨(vO o1≠0∧∃ o2 S2,zFe data xs.length Z.i S1 S2 i (n-(s+1)) o2∧vO o2=cA (cV data xs.length t) (n-(s+1))∧za0 data xs.length X S2 ∧
    ((vO o2=0∧B'=⟨S2,B.m⟩)∨(vO o2≠0∧∃B3,zfM data xs.length xs Z ⟨S2,B.m⟩ B3 i (s+1) (vV data xs t (s+1))∧InvB data xs.length xs X B3∧zjw data xs.length xs Z B3 B' i (n-(s+1)) (arL (vV data xs t) (n-(s+1)))))))
section
variable {data:List Dat} (hD:zaB data=true) (hk:Kpt data) {xs:List Int} (hxs:xs.length≤8) {X:List VT} (hX:X.length≤1000000000000) {Z:BI}
include hD hk hxs hX
theorem zjD(t:VT)(n:Nat):(arL (vV data xs t) n).length=cA (cV data xs.length t) n:=
 zwg (zb3 data xs.length t) n λs _=>zeX data xs s t
theorem zF2{n:Nat}(hn:n≤14)(hV:∀ m,m≤n→zey data xs.length xs X Z m){t:VT}{i:Nat}(ih:∀ (m:Nat) (B:BS),m<n→InvB data xs.length xs X B→B.s.types[i]?=some t→Rch data X m t→cA (cV data xs.length t) m≤2000→∃ B',InvB data xs.length xs X B'∧B.s.types <+: B'.s.types∧zjw data xs.length xs Z B B' i m (arL (vV data xs t) m)){B:BS}(hB:InvB data xs.length xs X B)(hti:B.s.types[i]?=some t)(hR:Rch data X n t)(hl:cA (cV data xs.length t) n≤2000):
  ∃ σ:Nat→BS,σ 0=B∧(∀s≤n,InvB data xs.length xs X (σ s)∧B.s.types <+: (σ s).s.types)∧∀s<n,RLA data xs X Z t i n s (σ s) (σ (s+1)):=by
 have hC:∀m,m≤n→zcG data xs.length X Z.i m:=λm hm=>zjK hD hk hxs hX m (by omega);refine zd6 (λs (B':BS)=>InvB data xs.length xs X B'∧B.s.types <+: B'.s.types) (λs B B'=>RLA data xs X Z t i n s B B') n (λs hs B1 hB1=>?_) _ ⟨hB,aX⟩;obtain⟨h1,h2⟩:=hB1;obtain⟨S1,o1,k1,k2,k3,k4⟩:=hC (s+1) (by omega) B1.s i t h1.s (zdg h2 hti) (hR.le _ (by omega));by_cases e1:vO o1=0
 ·exact⟨⟨S1,B1.m⟩,⟨o1,S1,k4,k3,k1,.inl ⟨e1,rfl⟩⟩,InvB.mk' hD hk hxs hX h1 k1 k2,h2.trans k2⟩
 ·obtain⟨S2,o2,j1,j2,j3,j4⟩:=zzd hD hk hxs hX (show n-(s+1)≤14 by omega) (λm hm=>hC m (by omega)) k1 (zdg (h2.trans k2) hti) (hR.le _ (by omega));by_cases e2:vO o2=0
  ·exact⟨⟨S2,B1.m⟩,⟨o1,S1,k4,k3,k1,.inr ⟨e1,o2,S2,j4,j3,j1,.inl ⟨e2,rfl⟩⟩⟩,InvB.mk' hD hk hxs hX h1 j1 (k2.trans j2),h2.trans (k2.trans j2)⟩
  ·have hterm:cV data xs.length t (s+1)*cA (cV data xs.length t) (n-(s+1))≤2000:=by obtain⟨m,rfl⟩:∃ m,n=m+1:=⟨n-1,by omega⟩;rw[zgU (zb3 data xs.length t)]at hl;exact aC (zzk (f:=λs=>cV data xs.length t s*cA (cV data xs.length t) (m+1-s)) (show s+1<m+2 by omega)) hl
   rw[k3]at e1;rw[j3]at e2;have c1:cV data xs.length t (s+1)≤2000:=aC (bF _ (by omega)) hterm;have c2:cA (cV data xs.length t) (n-(s+1))≤2000:=aC (bP _ (by omega)) hterm;have hB2:=InvB.mk' hD hk hxs hX h1 j1 (k2.trans j2);obtain⟨B3,v1,v2,v3⟩:=hV (s+1) (by omega) ⟨S2,B1.m⟩ i t hB2 (zdg (h2.trans (k2.trans j2)) hti) (hR.le _ (by omega)) e1 c1;obtain⟨B4,w1,w2,w3⟩:=ih (n-(s+1)) B3 (by omega) v1 (zdg (h2.trans (k2.trans (j2.trans v2))) hti) (hR.le _ (by omega)) c2;exact⟨B4,⟨o1,S1,k4,k3,k1,.inr ⟨by rw[k3];exact e1,o2,S2,j4,j3,j1,.inr ⟨by rw[j3];exact e2,B3,v3,v1,w3⟩⟩⟩,w1,h2.trans (k2.trans (j2.trans (v2.trans w2)))⟩
theorem zF1{N:Nat}(hN:N≤14)(hV:∀ m,m≤N→zey data xs.length xs X Z m){t:VT}{i:Nat}:∀ (n:Nat) (B:BS),n≤N→InvB data xs.length xs X B→B.s.types[i]?=some t→Rch data X n t→cA (cV data xs.length t) n≤2000 →
  ∃B',InvB data xs.length xs X B'∧B.s.types <+: B'.s.types∧zjw data xs.length xs Z B B' i n (arL (vV data xs t) n):=by
 intro n;induction n using Nat.strongRecOn with
 |ind n ih0=>
  intro B hn hB hti hR hl;by_cases hz:n=0
  ·subst hz;refine⟨B,hB,aX,λH hS h0 K hK=>?_⟩;refine ACalls.out (zA2 λhs=>?_);rw[hS.self]at hK;simp[zsG];simp[zau,za4,plain,AV.pd];exact Out.at (J:=[]) (by simp) (aa _) hs (.atom (.sl _ _)) rfl rfl hK
  ·obtain⟨σ,hσ0,hσI,hσR⟩:=zF2 hD hk hxs hX (show n≤14 by omega) (λm hm=>hV m (by omega)) (λm B hm=>ih0 m hm B (by omega)) hB hti hR hl;have hlast:=hσI n (aa _);refine⟨σ n,hlast.1,hlast.2,λH hS h0 K hK=>?_⟩;refine ACalls.out (zA2 λhs=>?_);have hlt0:0<H.length:=(List.getElem?_eq_some_iff.1 h0).1;have lbp:=(List.getElem?_eq_some_iff.1 hS.bpa).1;have hall:=zjD hD hk hxs hX t n;have hb:((n:Int) == 0)=false:=by simp;omega
   simp[zsG,hb];refine ALoop.own 7 zbj 1 rfl ?_;obtain⟨L,hL⟩:∃L,L=H.length:=⟨_,rfl⟩;obtain⟨acc,hacc⟩:∃acc:Nat→List (List VT),acc=zfT data xs t n:=⟨_,rfl⟩;have hac0:acc 0=[]:=by rw[hacc];rfl
   have haccn:acc n=arL (vV data xs t) n:=by rw[hacc];obtain⟨m,rfl⟩:∃m,n=m+1:=⟨n-1,by omega⟩;rw[zjC];rfl
   have hle:∀s,s≤n→(acc s).length≤2000:=λs hs=>by have:=zFF data xs t n hs;rw[←hacc,haccn,hall]at this;omega
   obtain⟨G,hG⟩:∃G:BS→Nat→zaa,G=λB' k=>shB data xs.length Z B' H++[.perm zbj 1 k]:=⟨_,rfl⟩;have hGl:∀B' k,(G B' k).length=L+1:=λB' k=>by rw[hG,hL];simp
   have hGs:∀B' k,HSc (G B' k):=λB' k=>by rw[hG];exact(hS.scs hs).snoc rfl
   have hGS:∀B' k,za0 data xs.length X B'.s→ShB data xs.length xs Z B' (G B' k):=λB' k hB'=>by rw[hG];exact(hS.next hB'.ml hB'.cl).app
   have hG0:∀B' k,(G B' k)[0]?=some .nodr:=λB' k=>by rw[hG];simp only;rw[List.getElem?_append_left (by simpa using hlt0)];exact hS.nodr h0
   have hGm:∀B' B'' k,za0 data xs.length X B'.s→shB data xs.length Z B'' (G B' k)=G B'' k:=λB' B'' k hB'=>by rw[hG];simp only;rw[(hS.next hB'.ml hB'.cl).shB_app,hS.shB_shB]
   have hGn:∀B' S' k,za0 data xs.length X B'.s→shS data xs.length Z.i S' (G B' k)=G ⟨S',B'.m⟩ k:=λB' S' k hB'=>by rw[(hGS B' k hB').shS_eq,hGm _ _ _ hB']
   have hGp:∀B' k,(G B' k)[L]?=some (.perm zbj 1 k):=λB' k=>by rw[hG,hL];simp
   have hGset:∀B' k k',(G B' k).set L (.perm zbj 1 k')=G B' k':=λB' k k'=>by rw[hG,hL];simp only;rw[ai _ _ (by simp)];simp
   rw[←hL];show zsJ (.ptr Z.bp 0) (.int .i64 i) (.int .i64 n) (.sl [] (.own L)) (.int .i64 1) (H++[.perm zbj 1 0]) _;refine zMJ (Inv:=λq t7 t8 H'=>∃s s1:Nat,s1=s+1∧s≤n∧n-s=q∧t8=.int .i64 s1∧t7=.sl (llA (acc s)) (.own L)∧H'=G (σ s) (acc s).length) n ?_ ?_
   ·intro _;refine⟨0,1,rfl,by omega,rfl,rfl,by rw[hac0];rfl,?_⟩;rw[hac0,hσ0,hG];simp only;rw[hS.self];rfl
   ·rintro q t7 t8 H' ⟨s,s1,hs1,hsn,rfl,rfl,rfl,rfl⟩ hsc7 hlen7 hsF7 Kb7 hKb7;have hIs:=hσI s hsn;by_cases hlt:s<n
    ·have hle1:s1≤n:=by omega
     obtain⟨o1,S1,c1,v1,I1,hrest⟩:=hσR s hlt;rw[←hs1]at c1 v1;have hj:acc (s+1)=acc s++zbc (vV data xs t s1) (arL (vV data xs t) (n-s1)):=by rw[hacc,zFG,hs1]
     have fin:∀(a:AV),a=.sl (llA (acc (s+1))) (.own L)→zme (.ptr Z.bp 0) (.int .i64 i) (.int .i64 n) a (.int .i64 s1) (G (σ (s+1)) (acc (s+1)).length) (Out L K) Kb7:=by rintro a rfl;unfold zme zA1;simp;rw[wr (by omega)];refine hKb7 _ _ ⟨n-(s+1),by omega,Back.here (by rw[hGl];simp[hL]) (hGs _ _) ?_ ⟨_,_,rfl,s+1,s1+1,by omega,by omega,rfl,rfl,rfl,rfl⟩⟩;rw[hGl];simp[zmd,ux,AV.sc,AV.scA,AV.scB,AV.scV];omega
     simp[zsH,hle1,(hGS _ _ hIs.1.s).bpa];have b1:vO o1<1000000000 ^ 30:=by rw[v1];exact zdD hk hxs t (by omega)
     refine c1 _ (hGS _ _ hIs.1.s).sh (hG0 _ _) _ ?_;rw[hGn _ _ _ hIs.1.s];refine zhQ o1 b1 _ _ ?_;rcases hrest with ⟨e1,hst⟩|⟨e1,o2,S2,c2,v2,I2,hrest⟩
     ·simp[e1];have:acc s=acc (s+1):=by rw[hj,zz9 hD hk hxs hX (by rw[←v1];exact e1)];simp[zbc]
      rw[←hst,this];exact fin _ rfl
     ·have hB1:=hGS ⟨S1,(σ s).m⟩ (acc s).length I1;have hw:IntKind.i64.wrap ((n:Int)-(s1:Int))=((n-s1:Nat):Int):=by rw[zaz (by omega) (by omega)];omega
      simp[e1,hB1.bpa,hw];rw[←hs1]at c2 v2;have b2:vO o2<1000000000 ^ 30:=by rw[v2];exact zpm hk hxs t (by omega)
      refine c2 _ hB1.sh (hG0 _ _) _ ?_;rw[hGn _ _ _ I1];refine zhQ o2 b2 _ _ ?_;rcases hrest with ⟨e2,hst⟩|⟨e2,B3,c3,I3,c4⟩
      ·simp[e2];have hnil:arL (vV data xs t) (n-s1)=[]:=az (by rw[zjD hD hk hxs hX,←v2,e2]);have:acc s=acc (s+1):=by rw[hj,hnil,zxC];simp
       rw[←hst,this];exact fin _ rfl
      ·simp[e2];have c4':zjw data xs.length xs Z B3 (σ (s+1)) i (n-s1) (arL (vV data xs t) (n-s1)):=by rw[hs1];exact c4
       rw[←hs1]at c3;have hB2:=hGS ⟨S2,(σ s).m⟩ (acc s).length I2;have hB3:=hGS B3 (acc s).length I3.s;refine c3 _ hB2 (hG0 _ _) _ ?_;rw[hGm _ _ _ I2];refine c4' _ hB3 (hG0 _ _) _ ?_;rw[hGm _ _ _ I3.s];have hjl:=congrArg List.length hj;rw[ao,zfZ]at hjl;have hl1:=hle (s+1) (by omega);have la:(vV data xs t s1).length=vO o1:=by rw[zeX,v1]
       have lb:(arL (vV data xs t) (n-s1)).length=vO o2:=by rw[zjD hD hk hxs hX,v2]
       have hprod:(vV data xs t s1).length*(arL (vV data xs t) (n-s1)).length≤2000:=by omega
       have la2:(vV data xs t s1).length≤2000:=aC (bF _ (by omega)) hprod;have lb2:(arL (vV data xs t) (n-s1)).length≤2000:=aC (bP _ (by omega)) hprod;refine zER _ _ (by omega) (by omega) (λr hr=>by have:=zFX _ r hr;omega) _ _ ?_;simp only[zax,za6,zaZ,zg5,zfZ];refine⟨by simp[llA],hGp _ _,⟨by omega,by omega⟩,?_⟩;rw[hGset,←hjl];exact fin _ (by rw[hj,zp0])
    ·obtain rfl:s=n:=by omega
     have hgt:¬s1≤s:=by omega
     simp[zsH,hgt];rw[haccn,hG];exact Out.at rfl (by simp[hL]) (hS.scs hs) (.atom (.sl _ _)) rfl rfl hK
end
def zft:List ((Int × Int) × List VT)→Int × Int→List VT→List ((Int × Int) × List VT)
 |[],s,x=>[(s,x)]
 | p::l,s,x=>match p.1 == s with
  |true=>(s,x)::l
  |false=>p::zft l s x
def zdH:List ((Int × Int) × List VT)→Int × Int→Option (List VT)
 |[],_=>none
 | p::l,s=>match p.1 == s with
  |true=>some p.2
  |false=>zdH l s
theorem zyJ(s:Int × Int)(x:List VT)(tk:Tok):∀ l:List ((Int × Int) × List VT),All2 (λp q=>p.1=q.1∧WkA p.2 q.2) (zcK (zdJ l) s (.sl (VT.css x) tk)) (zdJ (zft l s x))
 |[]=>⟨⟨rfl,.sl _ _⟩,trivial⟩
 |p::l=>by
  have ih:=zyJ s x tk l;unfold zdJ at ih ⊢;rw[aA,zcK,zft];simp only;cases p.1 == s with
  |true=>exact⟨⟨rfl,.sl _ _⟩,zFO _⟩
  |false=>exact⟨⟨rfl,.refl _⟩,ih⟩
theorem zib(s:Int × Int):∀ l:List ((Int × Int) × List VT),zcd (zdJ l) s=(zdH l s).map λo=>.sl (VT.css o) .none
 |[]=>rfl
 |p::l=>by
  have ih:=zib s l;unfold zdJ at ih ⊢;rw[aA,zcd,zdH];simp only;cases p.1 == s with
  |true=>rfl
  |false=>exact ih
theorem zxc{s:Int × Int}{o:List VT}:∀ {l:List ((Int × Int) × List VT)},zdH l s=some o→(s,o)∈l
 |[],h=>by cases h
 |p::l,h=>by
  rw[zdH]at h;cases hb:p.1 == s with
  |true=>rw[hb]at h;simp at h hb;subst h hb;simp
  |false=>rw[hb]at h;exact bE _ (zxc h)
theorem zyK{s:Int × Int}{o:List VT}{e:(Int × Int) × List VT}:∀ {l:List ((Int × Int) × List VT)},e∈zft l s o→e=(s,o)∨e∈l
 |[],h=>by simp[zft]at h;exact .inl h
 |p::l,h=>by
  rw[zft]at h;cases hb:p.1 == s with
  |true=>
   rw[hb]at h;rcases aZ.1 h with h|h
   ·exact .inl h
   ·exact .inr (bE _ h)
  |false=>
   rw[hb]at h;rcases aZ.1 h with rfl|h
   ·exact .inr (by simp)
   ·rcases zyK h with h | h
    ·exact .inl h
    ·exact .inr (bE _ h)
theorem zjB{id k:Nat}{l:List VT}{v:VT}{tk:Tok}{H:zaa}{K:Kt}(hk:k=l.length)(h:H[id]?=some (.perm zaP 3 k))(hl:k≤1000000)(hK:K (.sl (VT.css (l++[v])) (.own id)) (H.set id (.perm zaP 3 (k+1)))):
  zax zaP 3 40 (.sl (VT.css l) (.own id)) (.sl [v.cs] tk) H K:=by
 subst hk;simp only[zax,za6,zaZ,VT.css_len,List.length_cons,List.length_nil];refine⟨by simp,h,⟨by omega,by omega⟩,?_⟩;have:VT.css l++[v.cs]=VT.css (l++[v]):=by simp[VT.css_map]
 rw[this];exact hK
def zeM(B:BS)(k:Int×Int)(l:List VT):BS:=⟨B.s,zft B.m k l⟩
section
variable {data:List Dat} {xs:List Int} {X:List VT} {Z:BI}
theorem zrh{B:BS}(h:InvB data xs.length xs X B){i m:Nat}{t:VT}(ht:B.s.types[i]?=some t):InvB data xs.length xs X (zeM B ((i:Int),(m:Int)) (vV data xs t m)):=
 ⟨h.s,λe he=>by
  rcases zyK he with rfl|he
  ·exact⟨i,m,t,rfl,ht,rfl⟩
  ·exact h.m e he⟩
theorem zrZ{T:BS}{H J:zaa}(hT:ShB data xs.length xs Z T H)(hs:HSc H){i m:Nat}{l:List VT}{tk:Tok}{n0:Nat}(hn:n0=H.length){K:Kt}(hK:K (.sl (VT.css l) .none) (shB data xs.length Z (zeM T ((i:Int),(m:Int)) l) H)):
  zfL (.ptr Z.bp 0) (.int .i64 i) (.int .i64 m) (.sl (VT.css l) tk) (H++J) (ze5 n0 K):=by
 subst hn;have lbm:=(List.getElem?_eq_some_iff.1 hT.bma).1;have hbp:=(hT.app (J:=J)).bpa;have hbm:=(hT.app (J:=J)).bma;unfold zfL zET;simp[hbp,hbm,zar,zaL,AV.known];rw[a6 _ _ lbm];refine⟨.sl (VT.css l) .none,_,shB data xs.length Z (zeM T ((i:Int),(m:Int)) l) H,J,rfl,by simp,?_,by simp,hT.scs hs,.one (.wk (.atom (.sl _ _)) rfl rfl),hK⟩;have hset:shB data xs.length Z (zeM T ((i:Int),(m:Int)) l) H=H.set Z.bm (.mapP (zdJ (zft T.m ((i:Int),(m:Int)) l))):=by unfold shB zeM;simp only;rw[hT.sh.self]
 rw[hset];intro x a b ha hb;by_cases e:Z.bm=x
 ·subst e;rw[List.getElem?_set_self lbm]at ha hb;cases ha;cases hb;exact .mapP (zyJ _ _ _ _)
 ·rw[List.getElem?_set_ne e]at ha hb;rw[ha]at hb;cases hb;exact .refl _
end
section
variable {data:List Dat} (hD:zaB data=true) (hk:Kpt data) {xs:List Int} (hxs:xs.length≤8) {X:List VT} (hX:X.length≤1000000000000) {Z:BI}
include hD hk hxs hX
theorem zKB{n:Nat}{B:BS}{i:Nat}{t:VT}(hB:InvB data xs.length xs X B)(hti:B.s.types[i]?=some t){l:List VT}(hg:zdH B.m ((i:Int),(n:Int))=some l):
  zfM data xs.length xs Z B B i n (vV data xs t n):=by
 have hl:l=vV data xs t n:=by
  obtain⟨i',m',t',h1,h2,h3⟩:=hB.m _ (zxc hg);simp only[dd]at h1;obtain⟨e1,e2⟩:=h1;have e1':i=i':=by omega
  have e2':n=m':=by omega
  subst e1' e2';rw[hti]at h2;cases h2;exact h3
 subst hl;intro H hS h0 K hK;refine ACalls.out (zoF λhs=>?_);rw[hS.self]at hK;simp[zjv,hS.bpa,hS.bma,zar,zaL,AV.known,zib,hg];exact Out.at (J:=[]) (by simp) (aa _) hs (.atom (.sl _ _)) rfl rfl hK
theorem zKC{n:Nat}{B:BS}{i:Nat}{t:VT}(hB:InvB data xs.length xs X B)(hti:B.s.types[i]?=some t)(hg:zdH B.m ((i:Int),((n+1:Nat):Int))=none)(hk123:t.kind=1∨t.kind=2∨t.kind=3)(hc:cV data xs.length t (n+1)≠0):
  zfM data xs.length xs Z B (zeM B ((i:Int),((n+1:Nat):Int)) (vV data xs t (n+1))) i (n+1) (vV data xs t (n+1)):=by
 have hn0:n=0:=by
  rw[zc7]at hc;by_cases h:n=0
  ·exact h
  ·exfalso;rcases hk123 with h'|h'|h' <;> simp[h',h]at hc
 subst hn0;intro H hS h0 K hK;refine ACalls.outH (zoF λhs=>?_);have lbp:=(List.getElem?_eq_some_iff.1 hS.bpa).1;have hil:=(List.getElem?_eq_some_iff.1 hti).1;have hta:=zfC B.s.types i _ hti;have htl:=zfD B.s.types;have hkn:=VT.cs_known t;have hvv:vV data xs t 1=if t.kind=3 then [.mk 1 0 []] else if t.kind=2 then [.mk 2 0 [],.mk 2 1 []] else xs.map λx=>.mk 3 x []:=by rw[ziU];rcases hk123 with h|h|h <;> simp[h]
 obtain⟨k,m,ks⟩:=t;have hkd:(VT.mk k m ks).kind=k:=rfl;rw[hkd]at hvv hk123;have hg2:(H++[AB.cells (VT.cs (.mk k m ks))])[H.length]?=some (.cells (VT.cs (.mk k m ks))):=by simp
 have hset2:(H++[AB.cells [AV.int .i64 0,AV.int .i64 0,AV.snil]]).set H.length (.cells (VT.cs (.mk k m ks)))=H++[.cells (VT.cs (.mk k m ks))]:=by rw[ai _ _ (aa _)];simp
 have hmp:zdH B.m ((i:Int),1)=none:=hg;simp[zjv,hS.bpa,hS.bma,hS.sh.hp,hS.sh.hit,zar,zaL,AV.known,zib,hmp,hil,hta,hkn,hset2,hg2];refine⟨by omega,?_⟩;have fin:∀(v:List VT) (tk:Tok) (J:zaa),v=vV data xs (.mk k m ks) 1→zfL (.ptr Z.bp 0) (.int .i64 i) (.int .i64 1) (.sl (VT.css v) tk) (H++J) (ze5 H.length K):=by rintro v tk J rfl;exact zrZ (m:=1) hS hs rfl hK
 have hbp1:=(hS.app (J:=[.cells (VT.cs (.mk k m ks))])).bpa;rcases hk123 with rfl|rfl|rfl
 ·simp[VT.cs]at hbp1 ⊢;rw[hbp1];simp;refine ALoop.own 9 zaP 3 rfl ?_;obtain⟨L,hL⟩:∃ L,L=H.length+1:=⟨_,rfl⟩;have hL':(H++[AB.cells [AV.int .i64 1,.int .i64 m,.sl (VT.css ks) .none]]).length=L:=by rw[hL];simp
  rw[hL',ah];show zvt (.ptr Z.bp 0) (.int .i64 i) (.int .i64 1) (.sl [] (.own L)) (.sl (ints xs) .none) (.int .i64 xs.length) (.int .i64 0) (H++[.cells [.int .i64 1,.int .i64 m,.sl (VT.css ks) .none],.perm zaP 3 0]) _;refine zWs (Inv:=λq t9 t97 H'=>∃j:Nat,j≤xs.length∧xs.length-j=q∧t97=.int .i64 j∧t9=.sl (VT.css ((xs.map λx=>VT.mk 3 x []).take j)) (.own L)∧H'=H++[.cells [.int .i64 1,.int .i64 m,.sl (VT.css ks) .none],.perm zaP 3 j]) xs.length ?_ ?_
  ·intro _;exact⟨0,by omega,rfl,rfl,rfl,rfl⟩
  ·rintro q t9 t97 H' ⟨j,hj,rfl,rfl,rfl,rfl⟩ hsc' hlen hsF Kb hKb;by_cases hlt:j<xs.length
   ·have hgj:∀ h:j<(ints xs).length,(ints xs)[j]'h=[.int .i64 xs[j]]:=λh=>by simp[ints]
    simp[zvp,hlt,hgj,zar,zaL,AV.known,zau,za4,plain,AV.pd];have hgp:(H++[AB.cells [AV.int .i64 1,.int .i64 m,.sl (VT.css ks) .none],AB.perm zaP 3 j])[L]?=some (.perm zaP 3 j):=by rw[hL];simp[List.getElem?_append]
    refine zjB (v:=.mk 3 xs[j] []) (by simp;omega) hgp (by omega) ?_;have hst:(xs.map λx=>VT.mk 3 x []).take j++[VT.mk 3 xs[j] []]=(xs.map λx=>VT.mk 3 x []).take (j+1):=by rw[aj (by simpa using hlt)];simp
    rw[hst,wr (by omega)];have hset:(H++[AB.cells [AV.int .i64 1,.int .i64 m,.sl (VT.css ks) .none],AB.perm zaP 3 j]).set L (.perm zaP 3 (j+1))=H++[.cells [.int .i64 1,.int .i64 m,.sl (VT.css ks) .none],.perm zaP 3 (j+1)]:=by rw[hL,ai _ _ (by omega)];simp
    rw[hset];refine hKb _ _ ⟨xs.length-(j+1),by omega,Back.here (by simp) (hs.append (by simp[AB.sc,AV.scA,AV.scB])) ?_ ⟨_,_,rfl,j+1,by omega,rfl,rfl,rfl,rfl⟩⟩;simp[zoC,ux,AV.sc,AV.scA,AV.scB,AV.scV];omega
   ·obtain rfl:j=xs.length:=by omega
    simp[zvp];rw[ak (by simp)];exact fin (xs.map λx=>VT.mk 3 x []) _ _ (by rw[hvv];simp)
 ·simp[VT.cs,zau,za4,plain,AV.pd];exact fin [.mk 2 0 [],.mk 2 1 []] _ _ (by rw[hvv];simp)
 ·simp[VT.cs,zau,za4,plain,AV.pd];exact fin [.mk 1 0 []] _ _ (by rw[hvv];simp)
end
section
variable {data:List Dat} (hD:zaB data=true) (hk:Kpt data) {xs:List Int} (hxs:xs.length≤8) {X:List VT} (hX:X.length≤1000000000000) {Z:BI}
include hD hk hxs hX
theorem zKA{n:Nat}(hn:n<14)(hV:∀ m,m≤n→zey data xs.length xs X Z m){B:BS}{i:Nat}{t:VT}(hB:InvB data xs.length xs X B)(hti:B.s.types[i]?=some t)(hg:zdH B.m ((i:Int),((n+1:Nat):Int))=none)(hk7:t.kind=7)(hR:Rch data X (n+1) t)(hl:cV data xs.length t (n+1)≤2000):
  ∃B',InvB data xs.length xs X B'∧B.s.types <+: B'.s.types∧zfM data xs.length xs Z B B' i (n+1) (vV data xs t (n+1)):=by
 have hv:=hB.s.vd t (aQ hti);obtain⟨k,m,ks⟩:=t;change k=7 at hk7;subst hk7;have hkl:ks.length=1:=by have hs:=zep hv;unfold okT at hs;rw[zaG,ac]at hs;have hs:=hs.1;simp[zaK]at hs;exact hs.2
 obtain⟨u,rfl⟩:∃u,ks=[u]:=by
  match ks,hkl with
  |[u],_=>exact⟨u,rfl⟩
 have hR1:Rch data X n u:=by
  cases hR with
  |arr _ _ h=>exact h
  |mk _ h _=>exact absurd rfl h
 have hu:=zfA hv u (by simp);have hI1:=zjZ hD hB.s hu hR1.mem;have he1:=zpO hD (S:=B.s) u;have hg1:=zjY hD hB.s hu;have hB1:=InvB.mk' hD hk hxs hX hB hI1 he1;have hl':cA (cV data xs.length u) n≤2000:=by rw[zc7]at hl;simpa[VT.kind,zcp]using hl
 obtain⟨B2,h1,h2,h4⟩:=zF1 hD hk hxs hX (show n≤14 by omega) hV n _ (aa _) hB1 hg1 hR1 hl';have hti2:=zdg (he1.trans h2) hti;obtain⟨N,hN⟩:∃N,N=n+1:=⟨_,rfl⟩;have hvv:vV data xs (.mk 7 m [u]) N=(arL (vV data xs u) n).map λks=>.mk 6 0 ks:=by rw[hN,ziU];simp[VT.kind,zcp]
 refine⟨zeM B2 ((i:Int),((n+1:Nat):Int)) (vV data xs (.mk 7 m [u]) (n+1)),zrh h1 hti2,he1.trans h2,?_⟩;rw[←hN]at hg ⊢;obtain⟨rows,hrows⟩:∃rows,rows=arL (vV data xs u) n:=⟨_,rfl⟩;have hrl:rows.length≤2000:=by rw[hrows,zjD hD hk hxs hX];exact hl'
 rw[←hrows]at hvv h4;intro H hS h0 K hK;refine ACalls.outH (zoF λhs=>?_);have hlt0:0<H.length:=(List.getElem?_eq_some_iff.1 h0).1;have lbp:=(List.getElem?_eq_some_iff.1 hS.bpa).1;have hil:=(List.getElem?_eq_some_iff.1 hti).1;have hta:=zfC B.s.types i _ hti;have htl:=zfD B.s.types;obtain⟨C,hC⟩:∃C,C=VT.cs (.mk 7 m [u]):=⟨_,rfl⟩;have hkn:C.all AV.known=true:=by rw[hC];exact VT.cs_known _
 have hCe:C=[.int .i64 7,.int .i64 m,.sl [u.cs] .none]:=by rw[hC];rfl
 rw[←hC]at hta;have hg2:(H++[AB.cells C])[H.length]?=some (.cells C):=by simp
 have hset2:(H++[AB.cells [AV.int .i64 0,AV.int .i64 0,AV.snil]]).set H.length (.cells C)=H++[.cells C]:=by rw[ai _ _ (aa _)];simp
 have hl3:C.length=3:=by rw[hC];simp
 simp[zjv,hS.bpa,hS.bma,hS.sh.hp,hS.sh.hit,zar,zaL,AV.known,zib,hg,hil,hta,hkn,hset2,hg2,hl3];refine⟨by omega,?_⟩;have hbp1:=(hS.app (J:=[.cells C])).bpa;obtain⟨x1,x2,x3,hvx,hxa,hxb,hxc⟩:=zaO u;have C0:C[0]?=some (.int .i64 7):=by rw[hCe];rfl
 have C2:C[2]?=some (.sl [[x1,x2,x3]] .none):=by rw[hCe,←hvx];rfl
 simp[zc4 _ C0,zc4 _ C2,hbp1];rw[←hvx];have hSJ:=hS.app (J:=[.cells C]);have hlen:=hB.s.len;have hwn:IntKind.i64.wrap ((N:Int)-1)=(n:Int):=by rw[zaz (by omega) (by omega)];omega
 rw[hwn];have hs1:shS data xs.length Z.i (idS data B.s u) (H++[.cells C])=shB data xs.length Z ⟨idS data B.s u,B.m⟩ H++[.cells C]:=by rw[hSJ.shS_eq,hS.shB_app]
 refine zcn (.int .i64 (idN data B.s u)) (shB data xs.length Z ⟨idS data B.s u,B.m⟩ H++[.cells C]) (ziO hD hSJ.sh (by rw[List.getElem?_append_left hlt0];exact h0) u hu (by omega) _ ⟨rfl,hs1⟩) ?_;have hS1:=hS.next (B':=⟨idS data B.s u,B.m⟩) hI1.ml hI1.cl;have hs2:shB data xs.length Z B2 (shB data xs.length Z ⟨idS data B.s u,B.m⟩ H++[.cells C])=shB data xs.length Z B2 H++[.cells C]:=by rw[hS1.shB_app,hS.shB_shB]
 refine zcn (.sl (llA rows) .none) (shB data xs.length Z B2 H++[.cells C]) (h4 _ hS1.app (by rw[List.getElem?_append_left (by simpa using hlt0)];exact hS.nodr h0) _ ⟨rfl,hs2⟩) ?_;simp only[zeB,zg5];have hS2:=hS.next (B':=B2) h1.s.ml h1.s.cl;obtain⟨A,hA⟩:∃A,A=shB data xs.length Z B2 H:=⟨_,rfl⟩;have hAl:A.length=H.length:=by rw[hA];simp
 have hAs:HSc A:=by rw[hA];exact hS.scs hs
 rw[←hA]at hS2 ⊢;have hK':K (.sl (VT.css (vV data xs (.mk 7 m [u]) N)) .none) (shB data xs.length Z (zeM B2 ((i:Int),(N:Int)) (vV data xs (.mk 7 m [u]) N)) A):=by rw[hA,hS.shB_shB];exact hK
 refine ALoop.own 9 zaP 3 rfl ?_;obtain⟨L,hL⟩:∃L,L=H.length+1:=⟨_,rfl⟩;have hL':(A++[AB.cells C]).length=L:=by rw[hL];simp[hAl]
 rw[hL',ah];show zvu (.ptr Z.bp 0) (.int .i64 i) (.int .i64 N) (.sl [] (.own L)) (.sl (llA rows) .none) (.int .i64 rows.length) (.int .i64 0) (A++[.cells C,.perm zaP 3 0]) _;have hps:∀j,HSc (A++[.cells C,.perm zaP 3 j]):=λj=>hAs.append (by rw[hC];simp[AB.sc]);refine zWt (Inv:=λq t9 t97 H'=>∃j:Nat,j≤rows.length∧rows.length-j=q∧t97=.int .i64 j∧t9=.sl (VT.css ((rows.map λks=>VT.mk 6 0 ks).take j)) (.own L)∧H'=A++[.cells C,.perm zaP 3 j]) rows.length ?_ ?_
 ·intro _;exact⟨0,by omega,rfl,rfl,rfl,rfl⟩
 ·rintro q t9 t97 H' ⟨j,hj,rfl,rfl,rfl,rfl⟩ hsc' hlen' hsF Kb hKb;by_cases hlt:j<rows.length
  ·have hgj:∀ h:j<(llA rows).length,(llA rows)[j]'h=[.sl (VT.css rows[j]) .none]:=λh=>by simp[llA]
   simp[zvq,hlt,hgj,zar,zaL,AV.known,zau,za4,plain,AV.pd];have hgp:(A++[AB.cells C,AB.perm zaP 3 j])[L]?=some (.perm zaP 3 j):=by rw[hL,←hAl];simp[List.getElem?_append]
   refine zjB (v:=.mk 6 0 rows[j]) (by simp;omega) hgp (by omega) ?_;have hst:(rows.map λks=>VT.mk 6 0 ks).take j++[VT.mk 6 0 rows[j]]=(rows.map λks=>VT.mk 6 0 ks).take (j+1):=by rw[aj (by simpa using hlt)];simp
   rw[hst,wr (by omega)];have hset:(A++[AB.cells C,AB.perm zaP 3 j]).set L (.perm zaP 3 (j+1))=A++[.cells C,.perm zaP 3 (j+1)]:=by rw[hL,ai _ _ (by omega),hAl];simp
   rw[hset];refine hKb _ _ ⟨rows.length-(j+1),by omega,Back.here (by simp) (hps _) ?_ ⟨_,_,rfl,j+1,by omega,rfl,rfl,rfl,rfl⟩⟩;simp[zoD,ux,AV.sc,AV.scA,AV.scB,AV.scV];omega
  ·obtain rfl:j=rows.length:=by omega
   simp[zvq];rw[ak (by simp),←hvv];exact zrZ hS2 hAs hAl.symm hK'
end
def ziV(data:List Dat)(xs:List Int)(k:Int)(n:Nat)(w:Int×List VT):List VT:=(lsL (vV data xs) w.2 n).map λks=>.mk (zf0 k) w.1 ks
def zea:List AV:=[.int .i64 0,.int .i64 0,.int .i64 0,.int .i64 0,.int .i64 0,.int .i64 5,.int .i64 4,.int .i64 0,.int .i64 7]
section
variable {data:List Dat} (hD:zaB data=true) (hk:Kpt data) {xs:List Int} (hxs:xs.length≤8) {X:List VT} (hX:X.length≤1000000000000) {Z:BI}
include hD hk hxs hX
theorem zKL(k:Int)(n:Nat)(w:Int×List VT):(ziV data xs k n w).length=cL (cV data xs.length) w.2 n:=by unfold ziV;rw[aS,zii hD hk hxs hX]
theorem zKS{n:Nat}(hn:n≤14)(hV:∀ m,m≤n→zey data xs.length xs X Z m){B:BS}(hB:InvB data xs.length xs X B){ws:List (Int × List VT)}{cs:List (Int × List Nat)}(hc:ConOk B.s.types ws cs)(hwl:∀ w∈ws,w.2.length≤1000)(hR:∀ w∈ws,∀ (p:Nat) (h:p<w.2.length),Rch data X (n-p) w.2[p])(hl:(ws.map λw=>cL (cV data xs.length) w.2 n).sum≤2000):
  ∃ σ:Nat→BS,σ 0=B∧(∀k≤ws.length,InvB data xs.length xs X (σ k)∧B.s.types <+: (σ k).s.types)∧∀k<ws.length,zgE data xs.length xs Z (σ k) (σ (k+1)) (cs.getD k (0,[])).2 n (lsL (vV data xs) (ws.getD k (0,[])).2 n):=by
 refine zd6 (λk (a:BS)=>InvB data xs.length xs X a∧B.s.types <+: a.s.types) (λk (a a':BS)=>zgE data xs.length xs Z a a' (cs.getD k (0,[])).2 n (lsL (vV data xs) (ws.getD k (0,[])).2 n)) ws.length (λk hkl a ha=>?_) _ ⟨hB,aX⟩;obtain⟨h1,h2⟩:=ha;have hcl:=hc.len;obtain⟨h4,h5⟩:=hc.at' k hkl (by omega);have e1:ws.getD k (0,[])=ws[k]:=by rw[List.getD_eq_getElem?_getD,List.getElem?_eq_getElem hkl];rfl
 have e2:cs.getD k (0,[])=cs[k]:=by rw[List.getD_eq_getElem?_getD,List.getElem?_eq_getElem (by omega)];rfl
 have hle:cL (cV data xs.length) ws[k].2 n≤2000:=by have h1:=zzF (f:=λw:Int×List VT=>cL (cV data xs.length) w.2 n) hkl;have h2:=zrA (f:=λw:Int×List VT=>cL (cV data xs.length) w.2 n) (ws:=ws) (k+1);omega
 obtain⟨B',h6,h7,h8⟩:=zxI hD hk hxs hX hn hV ws[k].2 cs[k].2 (hwl _ (ae hkl)) n a (aa _) h1 (h5.mono h2) (hR _ (ae hkl)) hle;exact⟨B',by rw[e1,e2];exact h8,h6,h2.trans h7⟩
theorem zKE{n:Nat}(hn:n<14)(hV:∀ m,m≤n→zey data xs.length xs X Z m){B:BS}{i:Nat}{t:VT}(hB:InvB data xs.length xs X B)(hti:B.s.types[i]?=some t)(hg:zdH B.m ((i:Int),((n+1:Nat):Int))=none)(h7:t.kind≠7)(h1':t.kind≠1)(h2':t.kind≠2)(h3':t.kind≠3)(hR:Rch data X (n+1) t)(hl:cV data xs.length t (n+1)≤2000):
  ∃B',InvB data xs.length xs X B'∧B.s.types <+: B'.s.types∧zfM data xs.length xs Z B B' i (n+1) (vV data xs t (n+1)):=by
 have hv:=hB.s.vd t (aQ hti);have hRw:∀w∈zaW data t,∀(p:Nat) (h:p<w.2.length),Rch data X (n-p) w.2[p]:=by
  cases hR with
  |arr _ h _=>exact absurd h h7
  |mk _ _ h=>exact h
 have htX:∀w∈zaW data t,∀x∈w.2,x∈X:=λw hw x hx=>by obtain⟨p,hp,rfl⟩:=aO.1 hx;exact(hRw w hw p hp).mem
 obtain⟨hI1,he1,hc1⟩:=zAd hD hB.s hti htX;have hwl:∀w∈zaW data t,w.2.length≤1000:=λw hw=>by
  obtain⟨k,m,ks⟩:=t;have hnod:=zfB hv;have hll:=VT.len_le ks;simp[VT.nodes]at hnod;rw[zaW]at hw;split at hw
  ·simp at hw;subst hw;show ks.length≤1000;omega
  ·split at hw
   ·obtain⟨c,_,hc⟩:=br.1 hw;cases hf:za7 data (.mk k m ks) c with
    |none=>rw[hf]at hc;cases hc
    |some l=>rw[hf]at hc;simp at hc;subst hc;have:=zpA hk hf;show l.length≤1000;omega
   ·simp at hw
 have hB1:=InvB.mk' hD hk hxs hX hB hI1 he1;have hsum:((zaW data t).map λw=>cL (cV data xs.length) w.2 n).sum≤2000:=by rw[zc7,ap h3',ap h2',ap h1',ap h7]at hl;exact hl
 obtain⟨σ,hσ0,hσ1,hσ2⟩:=zKS (Z:=Z) hD hk hxs hX (show n≤14 by omega) hV hB1 hc1 hwl hRw hsum;obtain⟨N,hN⟩:∃N,N=n+1:=⟨_,rfl⟩;obtain⟨ws,hws⟩:∃ws,ws=zaW data t:=⟨_,rfl⟩;obtain⟨cs,hcs⟩:∃cs,cs=(zdy data B.s i).1:=⟨_,rfl⟩;obtain⟨S1,hS1d⟩:∃S1,S1=(zdy data B.s i).2:=⟨_,rfl⟩;rw[←hws]at hσ1 hσ2 hsum;rw[←hcs]at hσ2;rw[←hS1d]at hσ0 hσ1 he1 hI1;rw[←hcs,←hws,←hS1d]at hc1;have hcl:=hc1.len;have hw3:=zly hk t;rw[←hws]at hw3;have hlast:=hσ1 ws.length (aa _);have hvv:vV data xs t N=ws.flatMap (ziV data xs t.kind n):=by rw[hN,ziU,ap h3',ap h2',ap h1',ap h7,hws];rfl
 have hti2:=zdg (he1.trans hlast.2) hti;obtain⟨acc,hacc⟩:∃acc:Nat→List VT,acc=λk=>(ws.take k).flatMap (ziV data xs t.kind n):=⟨_,rfl⟩;have hac0:acc 0=[]:=by rw[hacc];rfl
 have hacs:∀k (h:k<ws.length),acc (k+1)=acc k++ziV data xs t.kind n ws[k]:=λk h=>by rw[hacc];simp only;rw[aj h,bt];simp
 have hacl:∀k,k≤ws.length→(acc k).length≤2000:=λk hk'=>by rw[hacc];simp only;rw[zwZ _ _ (λw=>cL (cV data xs.length) w.2 n) λw _=>zKL hD hk hxs hX _ _ w];exact aC (zrA k) hsum
 refine⟨zeM (σ ws.length) ((i:Int),((n+1:Nat):Int)) (vV data xs t (n+1)),zrh hlast.1 hti2,he1.trans hlast.2,?_⟩;rw[←hN]at hg ⊢;intro H hS h0 K hK;refine ACalls.outH (zoF λhs=>?_);have hlt0:0<H.length:=(List.getElem?_eq_some_iff.1 h0).1;have lbp:=(List.getElem?_eq_some_iff.1 hS.bpa).1;have hil:=(List.getElem?_eq_some_iff.1 hti).1;have hta:=zfC B.s.types i _ hti;have htl:=zfD B.s.types;obtain⟨C,hC⟩:∃C,C=t.cs:=⟨_,rfl⟩;have hkn:C.all AV.known=true:=by rw[hC];exact VT.cs_known _
 have C0:C[0]?=some (.int .i64 t.kind):=by obtain⟨k,m,ks⟩:=t;rw[hC];rfl
 rw[←hC]at hta;have hg2:(H++[AB.cells C])[H.length]?=some (.cells C):=by simp
 have hset2:(H++[AB.cells [AV.int .i64 0,AV.int .i64 0,AV.snil]]).set H.length (.cells C)=H++[.cells C]:=by rw[ai _ _ (aa _)];simp
 have hl3:C.length=3:=by rw[hC];simp
 simp[zjv,hS.bpa,hS.bma,hS.sh.hp,hS.sh.hit,zar,zaL,AV.known,zib,hg,hil,hta,hkn,hset2,hg2,hl3];refine⟨by omega,?_⟩;have hbp1:=(hS.app (J:=[.cells C,.cells zea])).bpa;have b1:(t.kind == 1)=false:=by simpa using h1'
 have b2:(t.kind == 2)=false:=by simpa using h2'
 have b3:(t.kind == 3)=false:=by simpa using h3'
 have b7:(t.kind == 7)=false:=by simpa using h7
 simp[zc4 _ C0,b1,b2,b3,b7];change ze7 false 1 0 (H++[.cells C,.cells zea])[Z.bp]? _;rw[hbp1];simp;have hSJ:=hS.app (J:=[.cells C,.cells zea]);change ACalls tP ziB _ (H++[.cells C,.cells zea]) _;refine zze hD hX hSJ.sh hB.s (by rw[List.getElem?_append_left hlt0];exact h0) hti htX _ ?_;rw[←hcs,←hS1d,hSJ.shS_eq,hS.shB_app];have hcR:(zbX cs).length=cs.length:=by simp[zbX]
 simp only[zcq,zeB,hcR];obtain⟨L,hL⟩:∃L,L=H.length:=⟨_,rfl⟩;rw[←hL];refine ALoop.own 9 zaP 3 rfl ?_;have hLe:(shB data xs.length Z ⟨S1,B.m⟩ H++[AB.cells C,.cells zea]).length=L+2:=by rw[hL];simp
 rw[hLe,ah];show zvv (.ptr Z.bp 0) (.int .i64 i) (.int .i64 N) (.sl [] (.own (L+2))) (.ptr L 0) (.ptr (L+1) 0) (.sl (zbX cs) .none) (.int .i64 cs.length) (.int .i64 0) (shB data xs.length Z ⟨S1,B.m⟩ H++[.cells C,.cells zea,.perm zaP 3 0]) _;obtain⟨G,hG⟩:∃G:BS→Nat→zaa,G=λB' k=>shB data xs.length Z B' H++[.cells C,.cells zea,.perm zaP 3 k]:=⟨_,rfl⟩;have hGl:∀B' k,(G B' k).length=L+3:=λB' k=>by rw[hG,hL];simp
 have hGs:∀B' k,HSc (G B' k):=λB' k=>by rw[hG];exact(hS.scs hs).append (by rw[hC];simp[AB.sc,zea,AV.scA,AV.scB])
 have hGS:∀B' k,za0 data xs.length X B'.s→ShB data xs.length xs Z B' (G B' k):=λB' k hB'=>by rw[hG];exact(hS.next hB'.ml hB'.cl).app
 have hG0:∀B' k,(G B' k)[0]?=some .nodr:=λB' k=>by rw[hG];simp only;rw[List.getElem?_append_left (by simpa using hlt0)];exact hS.nodr h0
 have hGm:∀B' B'' k J,za0 data xs.length X B'.s→shB data xs.length Z B'' (G B' k++J)=G B'' k++J:=λB' B'' k J hB'=>by rw[hG];simp only;rw[ah,(hS.next hB'.ml hB'.cl).shB_app,hS.shB_shB,ah]
 have hGp:∀B' k J,(G B' k++J)[L+2]?=some (.perm zaP 3 k):=λB' k J=>by rw[hG,hL];simp[List.getElem?_append]
 have hGk:∀B' k J,(G B' k++J)[L+1]?=some (.cells zea):=λB' k J=>by rw[hG,hL];simp[List.getElem?_append]
 have hGc:∀B' k J,(G B' k++J)[L]?=some (.cells C):=λB' k J=>by rw[hG,hL];simp[List.getElem?_append]
 have hGset:∀B' k k' J,(G B' k++J).set (L+2) (.perm zaP 3 k')=G B' k'++J:=λB' k k' J=>by rw[hG,hL];simp only;rw[ah,ai _ _ (by simp),ah];simp
 refine zWu (Inv:=λq t9 t53 H'=>∃k:Nat,k≤cs.length∧cs.length-k=q∧t53=.int .i64 k∧t9=.sl (VT.css (acc k)) (.own (L+2))∧H'=G (σ k) (acc k).length) cs.length ?_ ?_
 ·intro _;refine⟨0,by omega,rfl,rfl,by rw[hac0];rfl,?_⟩;rw[hσ0,hac0,hG];rfl
 ·rintro q t9 t53 H' ⟨k,hk',rfl,rfl,rfl,rfl⟩ hsc9 hlen9 hsF9 Kb9 hKb9;have hσk:=hσ1 k (by omega);by_cases hlt:k<cs.length
  ·have hkw:k<ws.length:=by omega
   have hc9:=hσ2 k hkw;have e1:ws.getD k (0,[])=ws[k]:=by rw[List.getD_eq_getElem?_getD,List.getElem?_eq_getElem hkw];rfl
   have e2:cs.getD k (0,[])=cs[k]:=by rw[List.getD_eq_getElem?_getD,List.getElem?_eq_getElem hlt];rfl
   rw[e1,e2]at hc9;have hwc:=(hc1.at' k hkw hlt).1;have hgk:∀h:k<(zbX cs).length,(zbX cs)[k]'h=[.int .i64 (cs[k]).1,.sl (za5 (cs[k]).2) .none]:=λh=>by simp[zbX,za5]
   have hwn:IntKind.i64.wrap ((N:Int)-1)=(n:Int):=by rw[zaz (by omega) (by omega)];omega
   simp[zvr,hlt,hcR,hgk,hGl];rw[hwn];obtain⟨J,hJ⟩:∃J:zaa,J=[.cells [.int .i64 (cs[k]).1,.sl (za5 (cs[k]).2) .none]]:=⟨_,rfl⟩;rw[←hJ];refine hc9 _ (hGS _ _ hσk.1.s).app (by rw[List.getElem?_append_left (by rw[hGl];omega)];exact hG0 _ _) _ ?_;rw[hGm _ _ _ _ hσk.1.s];obtain⟨rows,hrows⟩:∃rows,rows=lsL (vV data xs) ws[k].2 n:=⟨_,rfl⟩;rw[←hrows];simp only[zeB,zg5];have hkind:t.kind=5∨t.kind=6∨t.kind=8:=by
    obtain⟨tk,tn,tks⟩:=t;rw[hws,zaW]at hkw;show tk=5∨tk=6∨tk=8;split at hkw
    ·omega
    ·split at hkw
     ·omega
     ·simp at hkw
   have hkg:∃j:Nat,t.kind=(j:Int)∧j<9∧zea[j]?=some (.int .i64 (zf0 t.kind)):=by
    rcases hkind with h|h|h <;> rw[h]
    ·exact⟨5,rfl,by omega,rfl⟩
    ·exact⟨6,rfl,by omega,rfl⟩
    ·exact⟨8,rfl,by omega,rfl⟩
   obtain⟨kj,hkj1,hkj2,hkj3⟩:=hkg;obtain⟨V,hV'⟩:∃V:List VT,V=rows.map λks=>VT.mk (zf0 t.kind) ws[k].1 ks:=⟨_,rfl⟩;have hVa:acc (k+1)=acc k++V:=by rw[hacs k hkw,hV',hrows];rfl
   have hVl:V.length=rows.length:=by rw[hV'];simp
   have hal:=hacl (k+1) (by omega);rw[hVa,ao]at hal;have hJs:∀M,J.all (AB.sc M)=true:=λM=>by rw[hJ];rfl
   have hJl:J.length=1:=by rw[hJ];rfl
   have hGJs:∀B' k',HSc (G B' k'++J):=λB' k'=>(hGs B' k').append (hJs _);have hGJ:∀B' k',(G B' k'++J)[L+3]?=some (.cells [.int .i64 (cs[k]).1,.sl (za5 (cs[k]).2) .none]):=λB' k'=>by rw[List.getElem?_append_right (by rw[hGl];omega),hGl,hJ];simp
   refine zWr (Inv:=λq t9 t64 H'=>∃j:Nat,j≤rows.length∧rows.length-j=q∧t64=.int .i64 j∧t9=.sl (VT.css (acc k++V.take j)) (.own (L+2))∧H'=G (σ (k+1)) ((acc k).length+j)++J) rows.length ?_ ?_
   ·intro _;exact⟨0,by omega,rfl,rfl,by simp,rfl⟩
   ·rintro q t9 t64 H' ⟨j,hj,rfl,rfl,rfl,rfl⟩ hsc12 hlen12 hsF12 Kb12 hKb12;by_cases hlj:j<rows.length
    ·have hgj:∀ h:j<(llA rows).length,(llA rows)[j]'h=[.sl (VT.css rows[j]) .none]:=λh=>by simp[llA]
     simp[zvo,hlj,hgj,hGc,zc4 _ C0,hkj1,zfV,hkj2,hGk,zc4 _ hkj3,hGJ,zar,zaL,AV.known,zau,za4,plain,AV.pd];rw[←hkj1];refine⟨by omega,?_⟩;have hgp:=hGp (σ (k+1)) ((acc k).length+j) J;refine zjB (v:=.mk (zf0 t.kind) (cs[k]).1 rows[j]) (by rw[ao,aM,hVl];omega) hgp (by omega) ?_;have hst:acc k++V.take j++[VT.mk (zf0 t.kind) (cs[k]).1 rows[j]]=acc k++V.take (j+1):=by rw[aj (by rw[hVl];exact hlj),ah];simp[hV',hwc]
     rw[hst,wr (by omega),hGset];refine hKb12 _ _ ⟨rows.length-(j+1),by omega,Back.here (by simp[hGl,hJl]) (hGJs _ _) ?_ ⟨_,_,rfl,j+1,by omega,rfl,rfl,rfl,by rw[ag]⟩⟩;rw[ao,hGl,hJl];simp[zoB,ux,AV.sc,AV.scA,AV.scB,AV.scV];omega
    ·obtain rfl:j=rows.length:=by omega
     simp[zvo];rw[wr (by omega)];have hVt:acc k++V.take rows.length=acc (k+1):=by rw[hVa,←hVl,aw]
     refine hKb9 _ _ ⟨cs.length-(k+1),by omega,Back.at (H2:=G (σ (k+1)) (acc (k+1)).length) (J:=J) (by rw[hVa,ao,hVl]) (by rw[hGl];simp[hL]) (hGs _ _) ?_ ⟨_,_,rfl,k+1,by omega,rfl,rfl,by rw[hVt],rfl⟩⟩;rw[hGl];simp[zoE,ux,AV.sc,AV.scA,AV.scB,AV.scV];omega
  ·obtain rfl:k=cs.length:=by omega
   simp[zvr];have hfin:acc cs.length=vV data xs t N:=by rw[hvv,hacc,hcl];simp
   rw[hfin,hcl,hG];have hSe:=hS.next (B':=σ ws.length) hlast.1.s.ml hlast.1.s.cl;refine zrZ hSe (hS.scs hs) (by simp[hL]) ?_;rw[hS.shB_shB];exact hK
theorem zKD:∀n:Nat,n≤14→zey data xs.length xs X Z n:=by
 intro n;induction n using Nat.strongRecOn with
 |ind n ih=>
  intro hn;intro B i t hB hti hR hc hl;cases n with
  |zero=>exact absurd (zb3 data xs.length t) hc
  |succ n=>
   have ih':∀m,m≤n→zey data xs.length xs X Z m:=λm hm=>ih m (by omega) (by omega);cases hg:zdH B.m ((i:Int),((n+1:Nat):Int)) with
   |some o=>exact⟨B,hB,aX,zKB hD hk hxs hX hB hti hg⟩
   |none=>
    by_cases h123:t.kind=1∨t.kind=2∨t.kind=3
    ·exact⟨_,zrh hB hti,aX,zKC hD hk hxs hX hB hti hg h123 hc⟩
    ·by_cases h7:t.kind=7
     ·exact zKA hD hk hxs hX (by omega) ih' hB hti hg h7 hR hl
     ·exact zKE hD hk hxs hX (by omega) ih' hB hti hg h7 (by omega) (by omega) (by omega) hR hl
end
section
variable (t0 t1 t2 t3 t9 t10 t11 t12 t13 t16 t22 t23 t24 t27 t28 t29 t52 t53 t54 t81 t82 t83:AV) (H:zaa) (K:Kt) (Kb3 Kb4 Kb6 Kb14 Kb22:Lt)
def znE:Nat→List Bool|300001=>rl false [0,1]|3=>rl false [3,1,5,3,17]|_=>[]
noncomputable def zuo:=Tryz.f48.body.getD .skip
noncomputable def zS7:=Tryz.f48.results.toList
def znG:=ux 3 (t3::ux 5 (t9::t10::t11::ux 17 []))
def zS6:=znE 3
noncomputable def zS5:=zas [1,1,0,1,0,0] zuo
def zS4:=zat tP znE [1,1,0,1,0] zuo (zaA tP zS7 K)
def zDx:=ALoop tP zS5 (zS4 K) (znG t3 t9 t10 t11) H
def znH(t3 t5 t9 t10 t11:AV)(H:zaa)(K:Kt)(Kb3:Lt):Prop:=zae true 3 t5 H λt24=>zau 3 [(.int .i64 0),(.int .i64 0),.snil] 1 [(0,t24)] λt25=>zax zaP 3 40 t3 t25 H λt26 H=>zab .add false t11 (.int .i64 1) λt27=>Kb3 (znG t26 t9 t10 t27) H
def znF:=zab .lss false t11 t10 λt12=>zag t12 (zai 3 t9 t11 λt13=>zae true 3 t13 H λt14=>zay [(.int .i64 0),(.int .i64 0),.snil] H λt5 H=>zam 3 t5 t14 H λH=>zaf 2 t5 λt15=>zae false 1 t15 H λt16=>zah 1 t16 λt17=>zab .gtr false t17 (.int .i64 0) λt18=>zag t18 (zaf 2 t5 λt19=>zae false 1 t19 H λt20=>ACalls tP zkG [t20] H λt21 H=>zaf 2 t5 λt22=>zam 1 t22 t21 H λH=>znH t3 t5 t9 t10 t11 H K Kb3) (znH t3 t5 t9 t10 t11 H K Kb3)) (K t3 H)
def zun:=zah 1 t0 λt7=>zeD zaP 3 40 t7 H λt8 H=>zah 1 t0 λt10=>zDx t8 t0 t10 (.int .i64 0) H K
def zlR:Nat→List Bool|6=>rl false [12,1,14,3,11]|_=>[]
noncomputable def zsp:=Tryz.f12.body.getD .skip
noncomputable def zLU:=Tryz.f12.results.toList
def zlS:=ux 12 (t12::ux 14 (t27::t28::t29::ux 11 []))
def zLS:=zlR 6
noncomputable def zLQ:=zas [1,1,1,1,0,1,0,0] zsp
def zLP:=zat tP zlR [1,1,1,1,0,1,0] zsp (zaA tP zLU K)
def zsq:=ALoop tP zLQ (zLP K) (zlS t12 t27 t28 t29) H
def zso:=zab .lss false t29 t28 λt30=>zag t30 (zai 1 t27 t29 λt31=>zae false 1 t31 H λt32=>zai 3 t32 (.int .i64 0) λt35=>zae true 3 t35 H λt36=>zau 3 [(.int .i64 0),(.int .i64 0),.snil] 1 [(0,t36)] λt37=>zax zaP 3 40 t12 t37 H λt38 H=>zab .add false t29 (.int .i64 1) λt39=>Kb6 (zlS t38 t27 t28 t39) H) (zaX [t12,(.int .i64 0)] (K · H))
def zAm:=zaw t1 H λt5 H=>zae true 3 t5 H λt17=>zau 3 [(.int .i64 0),(.int .i64 0),.snil] 1 [(0,t17)] λt18=>ACalls tP zqw [t0,t18,t2,t3] H λt21 H=>zaI t21 0 λt22=>zaI t21 1 λt23=>zab .neq false t23 (.int .i64 0) λt25=>zag t25 (zaX [.snil,t23] (K · H)) (zah 1 t22 λt28=>zsq .snil t22 t28 (.int .i64 0) H K)
def zeq:Nat→List Bool|4=>rl false [0,4,18,3,71]|14=>rl false [2,1,9,2,38,3,41]|200016=>rl false [0,1]|22=>rl false [16,1,64,3,12]|_=>[]
noncomputable def zgq:=Tryz.f17.body.getD .skip
noncomputable def ztA:=Tryz.f17.results.toList
def zmW:=t0::t1::t2::t3::ux 18 (t22::t23::t24::ux 71 [])
def zPO:=zeq 4
noncomputable def zPI:=zas [1,1,0,1,0,0] zgq
def zPF:=zat tP zeq [1,1,0,1,0] zgq (zaA tP ztA K)
def zCh:=ALoop tP zPI (zPF K) (zmW t0 t1 t2 t3 t22 t23 t24) H
def zmU:=ux 2 (t2::ux 9 (t12::t13::ux 38 (t52::t53::t54::ux 41 [])))
def zPM:=zeq 14
noncomputable def zPG:=zas [1,1,1,1,1,1,0,1,0,0] zgq
def zPD:=zat tP zeq [1,1,1,1,1,1,0,1,0] zgq (zaA tP ztA K)
def zmX:=ALoop tP zPG (zPD K) (zmU t2 t12 t13 t52 t53 t54) H
def zmV:=ux 16 (t16::ux 64 (t81::t82::t83::ux 12 []))
def zPN:=zeq 22
noncomputable def zPH:=zas [1,1,1,1,1,1,1,1,1,0,1,0,0] zgq
def zPE:=zat tP zeq [1,1,1,1,1,1,1,1,1,0,1,0] zgq (zaA tP ztA K)
def zmY:=ALoop tP zPH (zPE K) (zmV t16 t81 t82 t83) H
def ztz:=zab .lss false t83 t82 λt84=>zag t84 (zai 1 t81 t83 λt85=>zae false 1 t85 H λt86=>ACalls tP zkG [t86] H λt89 H=>zau 1 [.snil] 1 [(0,t89)] λt90=>zax zbj 1 24 t16 t90 H λt91 H=>zab .add false t83 (.int .i64 1) λt92=>Kb22 (zmV t91 t81 t82 t92) H) (ACalls tP zH7 [t16,(.fn zqQ [])] H λt94 H=>zaX [t16,(.int .i64 0)] (K · H))
def zty:=zab .lss false t54 t53 λt55=>zag t55 (zai 3 t52 t54 λt56=>zae true 3 t56 H λt57=>zay [(.int .i64 0),(.int .i64 0),.snil] H λt15 H=>zam 3 t15 t57 H λH=>apm H t13 λt58=>apm H t12 λt59=>apu H (zaM t59) λt60=>apu H (zaf 0 t60) λt61=>apu H (zan false 1 t61 H) λt62=>apu H (zan true 3 t15 H) λt63=>zbl .w false H (λK'=>ACalls tP zf8 [t62,t63] H K') λt64 H=>apu H (zau 1 [(.int .i64 0)] 1 [(0,t64)]) λt65=>zbl .w false H (λK'=>zax zc9 1 8 t58 t65 H K') λt66 H=>apm H t66 λt13=>zab .add false t54 (.int .i64 1) λt67=>Kb14 (zmU t2 t12 t13 t52 t53 t67) H) (zaM t12 λt69=>zaf 0 t69 λt70=>zae false 1 t70 H λt71=>ACalls tP zhd [t71,t13,t2] H λt74 H=>ACalls tP zfp [(.int .i64 2000)] H λt75 H=>ACalls tP zqP [t74,t75] H λt76 H=>zab .gtr false t76 (.int .i64 0) λt77=>zag t77 (zaX [.snil,(.int .i64 9)] (K · H)) (ACalls tP ziw [t12,t13,t2] H λt81 H=>zah 1 t81 λt82=>zmY .snil t81 t82 (.int .i64 0) H K))
def zjb:=zab .lss false t24 t23 λt25=>zag t25 (zai 3 t22 t24 λt26=>zae true 3 t26 H λt27=>zay [(.int .i64 0),(.int .i64 0),.snil] H λt11 H=>zam 3 t11 t27 H λH=>zae true 3 t11 H λt29=>ACalls tP zkD [t0,t29] H λt30 H=>aUn .not t30 λt31=>zag t31 (zaX [.snil,(.int .i64 6)] (K · H)) (zab .add false t24 (.int .i64 1) λt32=>Kb4 (zmW t0 t1 t2 t3 t22 t23 t32) H)) (zab .lss false t2 (.int .i64 0) λt34=>zac t34 false H (λK'=>K' t2 H) λt36 H=>zac t34 false H (λK'=>zab .gtr false t36 (.int .i64 24) (K' · H)) λt37 H=>zak t34 (.bool true) t37 λt38=>zac t38 false H (λK'=>K' t3 H) λt40 H=>zac t38 false H (λK'=>ACalls tP zqO [t40] H K') λt41 H=>zac t38 false H (λK'=>aUn .not t41 (K' · H)) λt42 H=>zak t38 (.bool true) t42 λt43=>zag t43 (zaX [.snil,(.int .i64 8)] (K · H)) (zah 1 t3 λt46=>ACalls tP zkE [t0,t46] H λt47 H=>zeE H λt49 H=>zar [.nilp,.snil,.unk] [(0,1),(1,1),(2,1)] [(0,t47),(1,t3),(2,t49)] λt50=>zaw t50 H λt51 H=>zah 1 t1 λt53=>zmX t2 t51 .snil t1 t53 (.int .i64 0) H K))
def zB0:=zah 1 t1 λt20=>zab .gtr false t20 (.int .i64 6) λt21=>zag t21 (zaX [.snil,(.int .i64 5)] (K · H)) (zah 1 t1 λt23=>zCh t0 t1 t2 t3 t1 t23 (.int .i64 0) H K)
def zS9(_:Nat):List Bool:=[]
noncomputable def zTa:=Tryz.f50.body.getD .skip
def zDA:=ACalls tP zkC [t0,t1,(.fn zg7 [])] H λt7 H=>K t7 H
variable {t0 t1 t2 t3 t9 t10 t11 t12 t13 t16 t22 t23 t24 t27 t28 t29 t52 t53 t54 t81 t82 t83} {H} {K} {Kb3 Kb4 Kb6 Kb14 Kb22}
theorem zDy:Lo2 (λt3 t11=>znG t3 t9 t10 t11) (λt3 t11 H Kb3=>znF t3 t9 t10 t11 H K Kb3) t3 t11 H (zDx t3 t9 t10 t11 H K):=lq2 znE zS6
theorem zDz(h:HSc H→zun t0 H K):ACalls tP zkG [t0] H K:=
 acb znE Tryz.func48 zuo h
theorem zLR:Lo2 (λt12 t29=>zlS t12 t27 t28 t29) (λt12 t29 H Kb6=>zso t12 t27 t28 t29 H K Kb6) t12 t29 H (zsq t12 t27 t28 t29 H K):=lq2 zlR zLS
theorem zLT(h:HSc H→zAm t0 t1 t2 t3 H K):ACalls tP zf3 [t0,t1,t2,t3] H K:=
 acb zlR Tryz.func12 zsp h
theorem zPK:Lo2 (λt16 t83=>zmV t16 t81 t82 t83) (λt16 t83 H Kb22=>ztz t16 t81 t82 t83 H K Kb22) t16 t83 H (zmY t16 t81 t82 t83 H K):=lq2 zeq zPN
theorem zPJ:Lo2 (λt13 t54=>zmU t2 t12 t13 t52 t53 t54) (λt13 t54 H Kb14=>zty t2 t12 t13 t52 t53 t54 H K Kb14) t13 t54 H (zmX t2 t12 t13 t52 t53 t54 H K):=lq2 zeq zPM
theorem zPL:Lo1 (λt24=>zmW t0 t1 t2 t3 t22 t23 t24) (λt24 H Kb4=>zjb t0 t1 t2 t3 t22 t23 t24 H K Kb4) t24 H (zCh t0 t1 t2 t3 t22 t23 t24 H K):=lq1 zeq zPO
theorem zPP(h:HSc H→zB0 t0 t1 t2 t3 H K):ACalls tP zqw [t0,t1,t2,t3] H K:=
 acb zeq Tryz.func17 zgq h
theorem zTb(h:HSc H→zDA t0 t1 H K):ACalls tP zqQ [t0,t1] H K:=
 acb zS9 Tryz.func50 zTa h
end
end Go.Proofs.YtaifokkaaahdoaaGreatDoor
