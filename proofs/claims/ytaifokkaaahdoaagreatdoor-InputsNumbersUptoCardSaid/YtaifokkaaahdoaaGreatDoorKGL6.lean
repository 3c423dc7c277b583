import Derived.Test.YtaifokkaaahdoaaGreatDoorLF3
import Derived.Test.YtaifokkaaahdoaaGreatDoorLE3
import Derived.Test.YtaifokkaaahdoaaGreatDoorKNum
import Derived.Test.YtaifokkaaahdoaaGreatDoorProg
import Derived.KernelRfl
set_option linter.unusedSectionVars false
set_option linter.unusedSimpArgs false
set_option linter.unusedVariables false
set_option maxRecDepth 100000
namespace Go.Proofs.YtaifokkaaahdoaaGreatDoor
def zdv(g R:Nat→Nat)(h m:Nat):Nat:=sm (min h (m+1)) λa=>R a*g (m-a)
theorem zIA(g R:Nat→Nat)(m:Nat):zdv g R 0 m=0:=by simp[zdv,sm]
theorem zIy(g R:Nat→Nat){h m:Nat}(hm:m<h):zdv g R h m=cvR g R m:=by unfold zdv cvR;rw[cd (by omega)]
theorem zrb{g R:Nat→Nat}(h0:g 0=0)(h m:Nat):zdv g R (h+1) m=zdv g R h m+if h<m then R h*g (m-h) else 0:=by
 unfold zdv;by_cases e:h<m
 ·rw[aB e,ba (by omega),ba (by omega),sm]
 ·rw[ap e];by_cases e2:h=m
  ·subst e2;rw[ba (by omega),ba (by omega),sm,bU,h0,Nat.mul_zero]
  ·rw[cd (by omega),cd (by omega)];rfl
theorem zIz(g R:Nat→Nat)(h m:Nat):zdv g R h m≤cvR g R m:=by unfold zdv cvR;exact zlc (by omega) _
def zbv(g:VT→Nat→Nat)(ts:List VT)(j:Nat):Nat→Nat:=(ts.take j).foldl (λr t=>cvR (g t) r) zeh
theorem zhp(g:VT→Nat→Nat){ts:List VT}{j:Nat}(h:j<ts.length):zbv g ts (j+1)=cvR (g ts[j]) (zbv g ts j):=by unfold zbv;rw[aj h,List.foldl_append];rfl
theorem zgd(g:VT→Nat→Nat)(ts:List VT)(j m:Nat):zbv g ts j m=cL g (ts.take j) m:=by rw[zGc];rfl
theorem zyX{g:VT→Nat→Nat}(h0:∀ t,g t 0=0){ts:List VT}:∀ (j:Nat),j≤ts.length→∀ m,zbv g ts j m≠0→j≤m
 |0,_,m,_=>by omega
 |j+1,hj,m,h=>by rw[zhp g (show j<ts.length by omega)]at h;obtain⟨a,ha,hne⟩:=zJf h;have h1:zbv g ts j a≠0:=λe=>hne (by rw[e,bx]);have h2:m-a≠0:=λe=>hne (by rw[e,h0,Nat.mul_zero]);have:=zyX h0 j (by omega) a h1;omega
section
variable (data:List Dat) (kk:Nat) (X:List VT) (I:SI) (S:SS) (n:Nat)
def QI(t:VT)(R:Nat→Nat)(h s:Nat)(b:SS×List (Option Nat)):Prop:=
 za0 data kk X b.1∧S.types <+: b.1.types∧b.2.length=n+1∧∀m,m≤n→zaS b.2 m=zdv (cV data kk t) R h m+if h<m∧m≤h+s then R h*cV data kk t (m-h) else 0
def RI(t:VT)(i:Nat)(R:Nat→Nat)(h s:Nat)(b b':SS×List (Option Nat)):Prop:=
 ∃o,vO o=cV data kk t (s+1)∧zex data kk I b.1 b'.1 i (s+1) o∧b'.2=b.2.set (h+(s+1)) (some (zaS b.2 (h+(s+1))+R h*cV data kk t (s+1)))
def RM(t:VT)(i:Nat)(R:Nat→Nat)(h:Nat)(b b':SS×List (Option Nat)):Prop:=
 (R h=0∧b'=b)∨(R h≠0∧∃ τ:Nat→SS×List (Option Nat),τ 0=b∧τ (n-h)=b'∧(∀s≤n-h,QI data kk X S n t R h s (τ s))∧∀s<n-h,RI data kk I t i R h s (τ s) (τ (s+1)))
abbrev AO:=SS×List (Option Nat)×zaa
def QO(ts:List VT)(j:Nat)(a:AO):Prop:=
 za0 data kk X a.1∧S.types <+: a.1.types∧a.2.1.length=n+1∧(∀m,m≤n→zaS a.2.1 m=zbv (cV data kk) ts j m)∧a.2.2.length=j∧∀b∈a.2.2,∃r,b=.cells (zav r)
def RO(ts:List VT)(is:List Nat)(j:Nat)(a a':AO):Prop:=
 ∃ μ:Nat→SS×List (Option Nat),μ 0=(a.1,List.replicate (n+1) none)∧μ (n+1)=(a'.1,a'.2.1)∧a'.2.2=a.2.2++[.cells (zav a.2.1)]∧(∀h≤n+1,QI data kk X S n (ts.getD j (.mk 0 0 [])) (zbv (cV data kk) ts j) h 0 (μ h))∧∀h<n+1,RM data kk X I S n (ts.getD j (.mk 0 0 [])) (is.getD j 0) (zbv (cV data kk) ts j) h (μ h) (μ (h+1))
end
section
variable {data:List Dat} {kk:Nat} {X:List VT} {I:SI} {S:SS} {n:Nat}
theorem zHO{i:Nat}{t:VT}{R:Nat→Nat}{h:Nat}(hh:h≤n)(hC:∀ m,m≤n→zcG data kk X I m)(hti:S.types[i]?=some t)(hR:Rch data X (n-h) t){a:SS × List (Option Nat)}(ha:QI data kk X S n t R h 0 a):
  ∃ τ:Nat→SS×List (Option Nat),τ 0=a∧(∀s≤n-h,QI data kk X S n t R h s (τ s))∧∀s<n-h,RI data kk I t i R h s (τ s) (τ (s+1)):=by
 refine zd6 _ _ (n-h) (λs hs b hb=>?_) a ha;obtain⟨h1,h2,h3,h4⟩:=hb;obtain⟨S',o,h5,h6,h7,h8⟩:=hC (s+1) (by omega) b.1 i t h1 (zdg h2 hti) (hR.le _ (by omega));refine⟨(S',b.2.set (h+(s+1)) (some (zaS b.2 (h+(s+1))+R h*cV data kk t (s+1)))),⟨o,h7,h8,rfl⟩,h5,h2.trans h6,by simp[h3],λm hm=>?_⟩;simp only;rw[zyW _ _ _ _ (by omega)];by_cases e:m=h+(s+1)
 ·subst e;rw[aB rfl,aB ⟨by omega,by omega⟩,h4 _ hm,ap (by omega),show h+(s+1)-h=s+1 from by omega];rfl
 ·rw[ap e,h4 m hm];congr 1;by_cases e2:h<m∧m≤h+s
  ·rw[aB e2,aB ⟨e2.1,by omega⟩]
  ·rw[ap e2,ap (by omega)]
theorem zHR{i j:Nat}{t:VT}{R:Nat→Nat}(hC:∀ m,m≤n→zcG data kk X I m)(hti:S.types[i]?=some t)(hR:Rch data X (n-j) t)(hge:∀ m,R m≠0→j≤m){S1:SS}(hI:za0 data kk X S1)(hp:S.types <+: S1.types):
  ∃ μ:Nat→SS×List (Option Nat),μ 0=(S1,List.replicate (n+1) none)∧(∀h≤n+1,QI data kk X S n t R h 0 (μ h))∧∀h<n+1,RM data kk X I S n t i R h (μ h) (μ (h+1)):=by
 have hg0:=zb3 data kk t;refine zd6 _ _ (n+1) (λh hh b hb=>?_) _ ⟨hI,hp,by simp,λm hm=>?_⟩
 ·by_cases e:R h=0
  ·refine⟨b,.inl ⟨e,rfl⟩,hb.1,hb.2.1,hb.2.2.1,λm hm=>?_⟩;rw[hb.2.2.2 m hm,ap (by omega),ap (by omega),zrb hg0,e];split <;> simp
  ·obtain⟨τ,h1,h2,h3⟩:=zHO (show h≤n by omega) hC hti (hR.le _ (by have:=hge h e;omega)) hb;refine⟨τ (n-h),.inr ⟨e,τ,h1,rfl,h2,h3⟩,?_⟩;obtain⟨h4,h5,h6,h7⟩:=h2 (n-h) (aa _);refine⟨h4,h5,h6,λm hm=>?_⟩;rw[h7 m hm,ap (show ¬(h+1<m∧m≤h+1+0) by omega),zrb hg0];by_cases e2:h<m
   ·rw[aB ⟨e2,by omega⟩,aB e2];rfl
   ·rw[ap (by omega),ap e2]
 ·simp only;rw[ap (by omega),zIA,zrm]
theorem zHS{ts:List VT}{is:List Nat}(hC:∀ m,m≤n→zcG data kk X I m)(hI:za0 data kk X S)(hix:IdxOk S.types ts is)(hR:∀ (p:Nat) (h:p<ts.length),Rch data X (n-p) ts[p]):
  ∃ σ:Nat→AO,σ 0=(S,some 1::List.replicate n none,[])∧(∀j≤ts.length,QO data kk X S n ts j (σ j))∧∀j<ts.length,RO data kk X I S n ts is j (σ j) (σ (j+1)):=by
 refine zd6 _ _ ts.length (λj hj a ha=>?_) _ ⟨hI,aX,by simp,λm hm=>?_,rfl,by simp⟩
 ·obtain⟨h1,h2,h3,h4,h5,h6⟩:=ha;have hl:=hix.len;have hti:S.types[is.getD j 0]?=some ts[j]:=by have:=congrArg (λl=>l[j]?) hix;simp only[List.getElem?_map,List.getElem?_eq_getElem hj,List.getElem?_eq_getElem (show j<is.length by omega),Option.map_some,bJ]at this;rw[List.getD_eq_getElem?_getD,List.getElem?_eq_getElem (show j<is.length by omega)];exact this
  have htg:ts.getD j (.mk 0 0 [])=ts[j]:=by rw[List.getD_eq_getElem?_getD,List.getElem?_eq_getElem hj];rfl
  obtain⟨μ,hm0,hm1,hm2⟩:=zHR (j:=j) hC hti (hR j hj) (zyX (ts:=ts) (zb3 data kk) j (by omega)) h1 h2;refine⟨((μ (n+1)).1,(μ (n+1)).2,a.2.2++[.cells (zav a.2.1)]),⟨μ,hm0,rfl,rfl,by rw[htg];exact hm1,by rw[htg];exact hm2⟩,?_⟩;obtain⟨k1,k2,k3,k4⟩:=hm1 (n+1) (aa _);refine⟨k1,k2,k3,λm hm=>?_,by simp[h5],λb hb=>?_⟩
  ·rw[k4 m hm,ap (by omega),zIy _ _ (by omega),zhp _ hj];rfl
  ·simp only[aP,List.mem_singleton]at hb;rcases hb with hb | rfl
   ·exact h6 b hb
   ·exact⟨_,rfl⟩
 ·unfold zaS;cases m with
  |zero=>rfl
  |succ m=>have:=zrm n m;unfold zaS at this;have e0:zbv (cV data kk) ts 0 (m+1)=0:=rfl;rw[e0];simpa using this
end
section
variable {data:List Dat} (hD:zaB data=true) (hk:Kpt data) {kk:Nat} (hkk:kk≤8) {X:List VT} (hX:X.length≤1000000000000) {I:SI}
include hD hk hkk hX
theorem zru{n:Nat}(hn:n≤14)(hC:∀ m,m≤n→zcG data kk X I m){S:SS}{ts:List VT}{is:List Nat}(htl:ts.length≤1000)(hI:za0 data kk X S)(hix:IdxOk S.types ts is)(hR:∀ (p:Nat) (h:p<ts.length),Rch data X (n-p) ts[p]):
  ∃S' o,za0 data kk X S'∧S.types <+: S'.types∧vO o=cL (cV data kk) ts n∧∀H,ShS data kk I S H→H[0]?=some .nodr→∀K:Kt,K (.agg (zaj o)) (shS data kk I S' H)→ACalls tP zhd [.ptr I.p 0,.sl (za5 is) .none,.int .i64 n] H K:=by
 obtain⟨σ,hσ0,hσQ,hσR⟩:=zHS (I:=I) hC hI hix hR;have hlast:=hσQ ts.length (aa _);have hgz:=zb3 data kk;have hil:=hix.len;refine⟨(σ ts.length).1,(σ ts.length).2.1.getD n none,hlast.1,hlast.2.1,?_,λH hS h0 K hK=>?_⟩
 ·have:=hlast.2.2.2.1 n (aa _);rw[zgd,aw]at this;exact this
 refine ACalls.out (zSU λhs=>?_);have hlt0:0<H.length:=(List.getElem?_eq_some_iff.1 h0).1;have lp:=(List.getElem?_eq_some_iff.1 hS.hp).1;obtain⟨L,hL⟩:∃L,L=H.length:=⟨_,rfl⟩;obtain⟨N,hN⟩:∃N:Nat,N=n+1:=⟨_,rfl⟩;obtain⟨Ho,hHo⟩:∃Ho:AO→zaa,Ho=λa=>shS data kk I a.1 H++(.cells (zaj none)::a.2.2++[.cells (zav a.2.1)]):=⟨_,rfl⟩;obtain⟨Hm,hHm⟩:∃Hm:AO→SS×List (Option Nat)→zaa,Hm=λa b=>shS data kk I b.1 H++(.cells (zaj none)::a.2.2++[.cells (zav a.2.1)]++[.cells (zav b.2)]):=⟨_,rfl⟩;have hol:∀a,(Ho a).length=L+a.2.2.length+2:=λa=>by rw[hHo,hL];simp;omega
 have hml:∀a b,(Hm a b).length=L+a.2.2.length+3:=λa b=>by rw[hHm,hL];simp;omega
 have gsc:∀j,j≤ts.length→∀M,(σ j).2.2.all (AB.sc M)=true:=λj hj M=>am.2 λb hb=>by obtain⟨r,rfl⟩:=(hσQ j hj).2.2.2.2.2 b hb;exact ziL M r
 have hos:∀j,j≤ts.length→HSc (Ho (σ j)):=λj hj=>by rw[hHo];refine(hS.scs hs).append ?_;simp only[List.all_cons,bZ,List.all_nil,AB.sc,ziL,zc0,gsc j hj,List.cons_append,bW]
 have hms:∀j,j≤ts.length→∀b,HSc (Hm (σ j) b):=λj hj b=>by rw[hHm];refine(hS.scs hs).append ?_;simp only[List.all_cons,bZ,List.all_nil,AB.sc,ziL,zc0,gsc j hj,List.cons_append,bW]
 have hm0:∀a b,(Hm a b)[0]?=some .nodr:=λa b=>by rw[hHm];simp only;rw[List.getElem?_append_left (by simpa using hlt0)];exact hS.nodr h0
 have ho1:∀a,(Ho a)[L+1+a.2.2.length]?=some (.cells (zav a.2.1)):=λa=>by rw[hHo,hL];simp only;rw[List.getElem?_append_right (by simp;omega)];simp[show H.length+1+a.2.2.length-H.length=a.2.2.length+1 by omega]
 have hor:∀a,(Ho a)[L]?=some (.cells (zaj none)):=λa=>by rw[hHo,hL];simp[List.getElem?_append]
 have hm1:∀a b,(Hm a b)[L+1+a.2.2.length]?=some (.cells (zav a.2.1)):=λa b=>by rw[hHm,hL];simp only;rw[List.getElem?_append_right (by simp;omega)];simp[show H.length+1+a.2.2.length-H.length=a.2.2.length+1 by omega]
 have hm2:∀a b,(Hm a b)[L+2+a.2.2.length]?=some (.cells (zav b.2)):=λa b=>by rw[hHm,hL];simp only;rw[List.getElem?_append_right (by simp;omega)];simp[show H.length+2+a.2.2.length-H.length=a.2.2.length+1+1 by omega]
 have hmS:∀a b,za0 data kk X b.1→ShS data kk I b.1 (Hm a b):=λa b hb=>by rw[hHm];exact(hS.next hb.ml hb.cl).app
 have hset:∀a b r,(Hm a b).set (L+2+a.2.2.length) (.cells (zav r))=Hm a (b.1,r):=λa b r=>by rw[hHm,hL];simp only;rw[ai _ _ (by simp;omega)];simp only[zk9,show H.length+2+a.2.2.length-H.length=(a.2.2.length+1)+1 by omega,List.cons_append,List.set_cons_succ,ah];rw[ai _ _ (by simp)];simp
 have hmv:∀a b S',za0 data kk X b.1→shS data kk I S' (Hm a b)=Hm a (S',b.2):=λa b S' hb=>by rw[hHm];simp only;rw[(hS.next hb.ml hb.cl).shS_app,zdh]
 have hnew:∀a,Ho a++[.cells (zav (List.replicate N none))]=Hm a (a.1,List.replicate N none):=λa=>by rw[hHo,hHm];simp
 have hend:∀a S' r,Hm a (S',r)=Ho (S',r,a.2.2++[.cells (zav a.2.1)]):=λa S' r=>by rw[hHo,hHm];simp
 have glim:∀t m,m≤n→cV data kk t m<1000000000 ^ 30:=λt m hm=>zdD hk hkk t (by omega);have rlim:∀j m,m≤n→zbv (cV data kk) ts j m<1000000000 ^ 30:=λj m hm=>by rw[zgd];exact zhZ hk hkk _ (by omega)
 simp[zDl];have hwn:IntKind.i64.wrap ((n:Int)+1)=(N:Int):=by rw[hN];exact wr (by omega)
 rw[hwn];simp only[za9];refine⟨by omega,?_⟩;refine zfJ 1 (by omega) _ _ ?_;simp only[Int.toNat_natCast,ao,List.length_cons,List.length_nil,ah,List.cons_append,List.nil_append];refine zfY (h:=0) (by omega) ?_;have e11:H.length+(0+1)=L+1:=by omega
 rw[zk5,e11];have hH1:(H++[AB.cells [AV.bool false,AV.snil,AV.snil],AB.cells (zav (List.replicate N none))])[L+1]?=some (.cells (zav (List.replicate N none))):=by rw[hL];simp[List.getElem?_append]
 refine zfy (o:=some 1) hH1 (by simp;omega) ?_;have hst0:(H++[AB.cells [AV.bool false,AV.snil,AV.snil],AB.cells (zav (List.replicate N none))]).set (L+1) (.cells (zav ((List.replicate N none).set 0 (some 1))))=Ho (σ 0):=by rw[hσ0,hHo,hL];simp only;rw[hS.self,ai _ _ (by simp)];simp[hN,List.replicate_succ];rfl
 rw[hst0,←hL];have hgl:∀j,j≤ts.length→(σ j).2.2.length=j:=λj hj=>(hσQ j hj).2.2.2.2.1;have hrl:∀j,j≤ts.length→(σ j).2.1.length=N:=λj hj=>by rw[hN];exact(hσQ j hj).2.2.1
 refine zSR (Inv:=λq t7 t21 H'=>∃j:Nat,j≤ts.length∧ts.length-j=q∧t21=.int .i64 j∧t7=.ms (L+1+j) 0 N N∧H'=Ho (σ j)) ts.length ?_ ?_
 ·intro _;exact⟨0,by omega,rfl,rfl,rfl,rfl⟩
 ·rintro q t7 t21 H' ⟨j,hj,rfl,rfl,rfl,rfl⟩ hsc' hlen hsF Kb4 hKb4;have hQ:=hσQ j hj;by_cases hlt:j<ts.length
  ·have hlt':j<is.length:=by omega
   obtain⟨μ,hμ0,hμ1,hμg,hμQ,hμR⟩:=hσR j hlt;have hget:∀h:j<(za5 is).length,(za5 is)[j]'h=[AV.int .i64 (is[j]:Nat)]:=λh=>by simp[za5]
   simp[zue,hlt',hget];rw[hwn];simp only[za9];refine⟨by omega,?_⟩;rw[hol,hgl j hj];simp only[Int.toNat_natCast];rw[zk5,hnew];obtain⟨R,hRd⟩:∃R,R=zbv (cV data kk) ts j:=⟨_,rfl⟩;obtain⟨t,htd⟩:∃t,t=ts.getD j (.mk 0 0 []):=⟨_,rfl⟩;have hid:is.getD j 0=is[j]:=by rw[List.getD_eq_getElem?_getD,List.getElem?_eq_getElem hlt'];rfl
   rw[←hRd,←htd]at hμQ hμR;rw[hid]at hμR;have hRs:cvR (cV data kk t) R=zbv (cV data kk) ts (j+1):=by rw[zhp _ hlt,hRd,htd,List.getD_eq_getElem?_getD,List.getElem?_eq_getElem hlt];rfl
   have hRv:∀h,h≤n→zaS (σ j).2.1 h=R h:=λh hh=>by rw[hQ.2.2.2.1 h hh,hRd]
   have hμ0':μ 0=((σ j).1,List.replicate N none):=by rw[hμ0,hN]
   rw[←hμ0',show L+j+2=L+2+j from by omega];have hmul:∀h,h≤N→(μ h).2.length=N:=λh hh=>by rw[hN]at hh ⊢;exact(hμQ h hh).2.2.1
   refine zSS (Inv:=λq t30 H'=>∃h:Nat,h≤N∧N-h=q∧t30=.int .i64 h∧H'=Hm (σ j) (μ h)) N ?_ ?_
   ·intro _;exact⟨0,by omega,rfl,rfl,rfl⟩
   ·rintro q t30 H' ⟨h,hhN,rfl,rfl,rfl⟩ hsc8 hlen8 hsF8 Kb8 hKb8;by_cases hh:h<N
    ·have hhn:h≤n:=by omega
     have hj1:znA (.ptr I.p 0) (.int .i64 n) (.ptr L 0) (.ms (L+1+j) 0 N N) (.int .i64 is[j]) (.ms (L+2+j) 0 N N) (.sl (za5 is) .none) (.int .i64 is.length) (.int .i64 j) (.int .i64 N) (.int .i64 h) (Hm (σ j) (μ (h+1))) (Out L K) Kb4 Kb8:=by unfold znA zDo;simp;rw[wr (by omega)];refine hKb8 _ _ ⟨N-(h+1),by omega,Back.here (by rw[hml,hml];omega) (hms j hj _) ?_ ⟨_,rfl,h+1,by omega,rfl,rfl,rfl⟩⟩;rw[hml,hgl j hj];simp[znz,ux,AV.sc,AV.scA,AV.scB,AV.scV];omega
     have g1:(Hm (σ j) (μ h))[L+1+j]?=some (.cells (zav (σ j).2.1)):=by have:=hm1 (σ j) (μ h);rwa [hgl j hj]at this
     simp[zuf,hh];rw[←zc5];refine zeb g1 (by rw[hrl j hj];exact hh) ?_;have hb0:zaS (σ j).2.1 h<1000000000 ^ 30:=by rw[hRv h hhn,hRd];exact rlim j h hhn
     refine zhQ _ hb0 _ _ ?_;change zab .eql false (.int .i64 (if zaS (σ j).2.1 h=0 then 0 else 1)) _ _;rw[hRv h hhn];rcases hμR h (by omega) with ⟨e,hst⟩|⟨e,τ,hτ0,hτ1,hτQ,hτR⟩
     ·simp[e];rw[←hst];exact hj1
     ·simp[e];rw[←hτ0];refine zSQ (Inv:=λq t12 H'=>∃s s1:Nat,s1=s+1∧s≤n-h∧n-h-s=q∧t12=.int .i64 s1∧H'=Hm (σ j) (τ s)) (n-h) ?_ ?_
      ·intro _;exact⟨0,1,rfl,by omega,rfl,rfl,rfl⟩
      ·rintro q t12 H' ⟨s,s1,hs1,hsn,rfl,rfl,rfl⟩ hsc12 hlen12 hsF12 Kb12 hKb12;have hS2:=hτQ s hsn;obtain⟨p,hp⟩:∃ p:Nat,p=h+s1:=⟨_,rfl⟩;have hw1:IntKind.i64.wrap ((h:Int)+(s1:Int))=(p:Int):=by rw[zaz (by omega) (by omega)];omega
       by_cases hs8:s<n-h
       ·have hle:p≤n:=by omega
        have hpN:p<N:=by omega
        obtain⟨o,hov,hcc,hrw⟩:=hτR s hs8;rw[←hs1]at hov hcc hrw;rw[←hp]at hrw;have hl2:(τ s).2.length=N:=by rw[hS2.2.2.1,hN]
        have vp:zaS (τ s).2 p=zdv (cV data kk t) R h p:=by rw[hS2.2.2.2 p hle,ap (by omega)];rfl
        have hsum:zdv (cV data kk t) R h p+R h*cV data kk t s1≤zbv (cV data kk) ts (j+1) p:=by have h1:=zIz (cV data kk t) R (h+1) p;rw[zrb (hgz t),aB (by omega),show p-h=s1 from by omega,hRs]at h1;exact h1
        have hpl':=rlim (j+1) p hle;have b1:zaS (σ j).2.1 h<1000000000 ^ 30:=hb0;have b2:vO o<1000000000 ^ 30:=by rw[hov];exact glim t s1 (by omega)
        have b3:zaS (τ s).2 p<1000000000 ^ 30:=by rw[vp];omega
        have b4:zaS (σ j).2.1 h*vO o<1000000000 ^ 30:=by rw[hRv h hhn,hov];omega
        have g3:∀b,(Hm (σ j) b)[L+1+j]?=some (.cells (zav (σ j).2.1)):=λb=>by have:=hm1 (σ j) b;rwa [hgl j hj]at this
        have g4:∀b,(Hm (σ j) b)[L+2+j]?=some (.cells (zav b.2)):=λb=>by have:=hm2 (σ j) b;rwa [hgl j hj]at this
        have hset':∀b r,(Hm (σ j) b).set (L+2+j) (.cells (zav r))=Hm (σ j) (b.1,r):=λb r=>by have:=hset (σ j) b r;rwa [hgl j hj]at this
        unfold zud;simp[hw1,hle,hpN];rw[←zc5];refine zeb (g4 _) (by omega) ?_;refine⟨by omega,?_⟩;rw[←zc5];refine zeb (g3 _) (by rw[hrl j hj];omega) ?_;refine zdB (.agg (zaj o)) (Hm (σ j) ((τ s1).1,(τ s).2)) (hcc _ (hmS _ _ hS2.1) (hm0 _ _) _ ⟨rfl,hmv _ _ _ hS2.1⟩) ?_;have kp:∀(b c:SS×List (Option Nat)),b.2=c.2→zdX [AV.ptr (L+2+j) (p*3),AV.ptr (L+1+j) (h*3)] (Hm (σ j) b) (Hm (σ j) c):=λb c e=>by rw[hHm];simp only[e];exact zpV (l:=H.length) (by simp) (by simp) (by simp;omega)
        refine⟨kp _ _ rfl,?_⟩;refine zdB (.agg (zaj (some (zaS (σ j).2.1 h*vO o)))) _ (zEL ((σ j).2.1.getD h none) o b1 b2 _ _ ⟨rfl,rfl⟩) ?_;refine⟨zif _ _,?_⟩;refine zdB (.agg (zaj (some (zaS (τ s).2 p+zaS (σ j).2.1 h*vO o)))) _ (zu5 ((τ s).2.getD p none) (some (zaS (σ j).2.1 h*vO o)) b3 b4 _ _ ⟨rfl,rfl⟩) ?_;refine⟨zif _ _,?_⟩;simp[hpN];rw[hov,hRv h hhn];have hst8:Hm (σ j) ((τ s1).1,(τ s).2.set p (some (zaS (τ s).2 p+R h*cV data kk t s1)))=Hm (σ j) (τ s1):=by rw[←hrw]
        refine zdB (.tup []) (Hm (σ j) (τ s1)) ?_ ?_
        ·refine(zgM (H:=Hm (σ j) ((τ s1).1,(τ s).2)) 3 (L+2+j) (p*3) (.agg (zaj (some (zaS (τ s).2 p+R h*cV data kk t s1))))) ▸ ?_;refine zfy (g4 _) (by simp only;omega) ?_;rw[hset'];exact⟨rfl,hst8⟩
        ·rw[wr (by omega)];refine hKb12 _ _ ⟨n-h-(s+1),by omega,Back.here (by rw[hml,hml];omega) (hms j hj _) ?_ ⟨_,rfl,s+1,s1+1,by omega,by omega,rfl,rfl,by rw[hs1]⟩⟩;rw[hml,hgl j hj];simp[znx,ux,AV.sc,AV.scA,AV.scB,AV.scV];omega
       ·obtain rfl:s=n-h:=by omega
        have hgt:¬p≤n:=by omega
        unfold zud;simp[hw1,hgt];rw[hτ1];exact hj1
    ·obtain rfl:h=N:=by omega
     simp[zuf];rw[wr (by omega)];have hσ1:Hm (σ j) (μ h)=Ho (σ (j+1)):=by rw[hN,hμ1,hend,←hμg]
     rw[hσ1];refine hKb4 _ _ ⟨ts.length-(j+1),by omega,Back.here (by rw[hol,hol,hgl (j+1) (by omega),hgl 0 (by omega)];omega) (hos _ (by omega)) ?_ ⟨_,_,rfl,j+1,by omega,rfl,rfl,by rw[show L+2+j=L+1+(j+1) from by omega],rfl⟩⟩;rw[hol,hgl (j+1) (by omega)];simp[zny,ux,AV.sc,AV.scA,AV.scB,AV.scV];omega
  ·obtain rfl:j=ts.length:=by omega
   have hnN:n<N:=by omega
   simp[zue,hil,hnN];have g1:(Ho (σ ts.length))[L+1+ts.length]?=some (.cells (zav (σ ts.length).2.1)):=by have:=ho1 (σ ts.length);rwa [hgl _ hj]at this
   rw[←zc5];refine zeb g1 (by rw[hrl _ hj];omega) ?_;have htk:∀o:Option Nat,(zaj o).take 3=zaj o:=λo=>ak (by rw[zbG];omega);have hd3:(zaj none).drop (0+3)=[]:=rfl;simp only[hor,AV.cs?,zd2,hd3,List.take_zero,List.nil_append,aE];refine⟨⟨zbG _,by rw[zbG];omega,ziK _⟩,?_⟩;rw[List.getElem?_set_self (by rw[hol];omega)];simp only[zfQ,zfO,aU,htk];refine⟨by rw[zbG];omega,?_⟩;have hfin:(Ho (σ ts.length)).set L (.cells (zaj ((σ ts.length).2.1.getD n none)))=shS data kk I (σ ts.length).1 H++(.cells (zaj ((σ ts.length).2.1.getD n none))::(σ ts.length).2.2++[.cells (zav (σ ts.length).2.1)]):=by rw[hHo,hL];simp only;rw[ai _ _ (by simp)];simp
   exact Out.at hfin (by simp[hL]) (hS.scs hs) .rfl' rfl (by simpa[AV.scV]using zc0 _ _) hK
end
theorem zrj(o:Option Nat):(zaj o).take 3=zaj o:=ak (by rw[zbG];omega)
theorem zp1{id:Nat}{o:Option Nat}{H:zaa}{K:AV→Prop}(h:H[id]?=some (.cells (zaj o)))(hk:K (.agg (zaj o))):zae true 3 (.ptr id 0) H K:=by simp only[zc5,h,zfQ,zfO,aU,zrj];exact⟨by rw[zbG];omega,hk⟩
theorem zzv{id:Nat}{o o':Option Nat}{H:zaa}{K:zaa→Prop}(h:H[id]?=some (.cells (zaj o')))(hk:K (H.set id (.cells (zaj o)))):zam 3 (.ptr id 0) (.agg (zaj o)) H K:=by simp only[zgM,h,AV.cs?,zd2,List.take_zero,List.nil_append];refine⟨⟨zbG o,by rw[zbG];omega,ziK o⟩,?_⟩;rw[aK (by rw[zbG];omega),aE];exact hk
theorem zU1(k n:Nat)(hk:k<1000000)(H:zaa)(K:Kt)(hK:K (.agg (zaj (some (if n=1 then k else 0)))) H):ACalls tP zhh [.int .i64 k,.int .i64 n] H K:=by
 refine ACalls.out (zU0 λhs=>?_);simp[zEg];have key:∀v:Nat,v<1000000→v=(if n=1 then k else 0)→zog (.int .i64 v) (.ptr H.length 0) (H++[.cells (zaj none)]) (Out H.length K):=by
  intro v hv he;unfold zog;refine zfJ v (by omega) _ _ ?_;have hg:(H++[AB.cells (zaj none)])[H.length]?=some (.cells (zaj none)):=by simp
  refine zzv (o:=some v) hg ?_;refine zp1 (by rw[List.getElem?_set_self (by simp)]) ?_;rw[ai _ _ (aa _)];rw[he];exact Out.at rfl (aa _) hs .rfl' rfl (by simpa[AV.scV]using zc0 _ _) hK
 by_cases h1:n=1
 ·have:=key k hk (by rw[aB h1]);subst h1;simp;exact this
 ·have:=key 0 (by omega) (by rw[ap h1]);have hb:((n:Int) != 1)=true:=by simp;omega
  simp[hb];exact this
def zeN:List ((Int × Int) × Option Nat)→Int × Int→Option Nat→List ((Int × Int) × Option Nat)
 |[],s,x=>[(s,x)]
 | p::l,s,x=>match p.1 == s with
  |true=>(s,x)::l
  |false=>p::zeN l s x
def zd7:List ((Int × Int) × Option Nat)→Int × Int→Option (Option Nat)
 |[],_=>none
 | p::l,s=>match p.1 == s with
  |true=>some p.2
  |false=>zd7 l s
theorem zyL(s:Int × Int)(x:Option Nat):∀ l:List ((Int × Int) × Option Nat),zcK (zdF l) s (.agg (zaj x))=zdF (zeN l s x)
 |[]=>rfl
 |p::l=>by
  have ih:=zyL s x l;unfold zdF at ih ⊢;rw[aA,zcK,zeN];simp only;cases p.1 == s with
  |true=>rfl
  |false=>simp only[aA];rw[ih]
theorem zic(s:Int × Int):∀ l:List ((Int × Int) × Option Nat),zcd (zdF l) s=(zd7 l s).map λo=>.agg (zaj o)
 |[]=>rfl
 |p::l=>by
  have ih:=zic s l;unfold zdF at ih ⊢;rw[aA,zcd,zd7];simp only;cases p.1 == s with
  |true=>rfl
  |false=>exact ih
theorem zxd{s:Int × Int}{o:Option Nat}:∀ {l:List ((Int × Int) × Option Nat)},zd7 l s=some o→(s,o)∈l
 |[],h=>by cases h
 |p::l,h=>by
  rw[zd7]at h;cases hb:p.1 == s with
  |true=>rw[hb]at h;simp at h hb;subst h hb;simp
  |false=>rw[hb]at h;exact bE _ (zxd h)
theorem zyM{s:Int × Int}{o:Option Nat}{e:(Int × Int) × Option Nat}:∀ {l:List ((Int × Int) × Option Nat)},e∈zeN l s o→e=(s,o)∨e∈l
 |[],h=>by simp[zeN]at h;exact .inl h
 |p::l,h=>by
  rw[zeN]at h;cases hb:p.1 == s with
  |true=>
   rw[hb]at h;rcases aZ.1 h with h|h
   ·exact .inl h
   ·exact .inr (bE _ h)
  |false=>
   rw[hb]at h;rcases aZ.1 h with rfl|h
   ·exact .inr (by simp)
   ·rcases zyM h with h | h
    ·exact .inl h
    ·exact .inr (bE _ h)
def zdN(S:SS)(k:Int×Int)(o:Option Nat):SS:=⟨S.types,S.made,S.cons,zeN S.cnt k o⟩
section
variable {data:List Dat} {kk:Nat} {X:List VT} {I:SI}
theorem zri{S:SS}(h:za0 data kk X S){i m:Nat}{t:VT}{o:Option Nat}(ht:S.types[i]?=some t)(ho:vO o=cV data kk t m):za0 data kk X (zdN S ((i:Int),(m:Int)) o):=
 ⟨h.ml,h.cl,h.nd,h.vd,h.sub,h.con,λe he=>by
  rcases zyM he with rfl|he
  ·exact⟨i,m,t,rfl,ht,ho⟩
  ·exact h.cn e he⟩
theorem zpu{T:SS}{H J:zaa}(hT:ShS data kk I T H)(hs:HSc H){i m:Nat}{o x7:Option Nat}{L:Nat}(hL:L=H.length){K:Kt}(hK:K (.agg (zaj o)) (shS data kk I (zdN T ((i:Int),(m:Int)) o) H)):
  ze1 (.ptr I.p 0) (.int .i64 i) (.int .i64 m) (.ptr L 0) (.ptr (L+2) 0) (H++(.cells (zaj none)::.cells (zaj x7)::.cells (zaj o)::J)) (Out L K):=by
 obtain⟨A,hA⟩:∃A,A=H++(.cells (zaj none)::.cells (zaj x7)::.cells (zaj o)::J):=⟨_,rfl⟩;have lmc:=(List.getElem?_eq_some_iff.1 hT.hmc).1;have hp:=(hT.app (J:=.cells (zaj none)::.cells (zaj x7)::.cells (zaj o)::J)).hp;have hmc:=(hT.app (J:=.cells (zaj none)::.cells (zaj x7)::.cells (zaj o)::J)).hmc;rw[←hA]at hp hmc;have g9:A[L+2]?=some (.cells (zaj o)):=by rw[hA,hL];simp[List.getElem?_append]
 have g6:A[L]?=some (.cells (zaj none)):=by rw[hA,hL];simp[List.getElem?_append]
 have hAl:A.length=L+3+J.length:=by rw[hA,hL];simp;omega
 rw[←hA];unfold ze1 zDb;simp[hp,g9,zrj,zbG,zar,zaL,AV.known,hmc];have lt1:I.mc<A.length:=by omega
 have hne:I.mc≠L+2:=by omega
 have hne2:I.mc≠L:=by omega
 rw[zyL];obtain⟨A1,hA1⟩:∃A1,A1=A.set I.mc (.mapP (zdF (zeN T.cnt ((i:Int),(m:Int)) o))):=⟨_,rfl⟩;rw[←hA1];have g9':=zbb hA1 hne g9;have g6':=zbb hA1 hne2 g6;have hA1l:A1.length=L+3+J.length:=by rw[hA1];simp[hAl]
 rw[←zc5];refine zp1 g9' ?_;refine(zgM (H:=A1) 3 L 0 (.agg (zaj o))) ▸ ?_;refine zzv (o:=o) g6' ?_;rw[←zc5];refine zp1 (by rw[List.getElem?_set_self (by omega)]) ?_;have hset:H.set I.mc (.mapP (zdF (zeN T.cnt ((i:Int),(m:Int)) o)))=shS data kk I (zdN T ((i:Int),(m:Int)) o) H:=by
  refine hT.set_one (S':=zdN T ((i:Int),(m:Int)) o) (x:=I.mc) ?_ ?_
  ·simp[za3,hT.ok.a5.symm,hT.ok.b4.symm,hT.ok.c3.symm,hT.ok.d2.symm,hT.ok.e1.symm,zdN]
  ·intro y hy;unfold za3;simp only[zdN,ap hy]
 have hfin:A1.set L (.cells (zaj o))=shS data kk I (zdN T ((i:Int),(m:Int)) o) H++(.cells (zaj o)::.cells (zaj x7)::.cells (zaj o)::J):=by rw[hA1,hA,a6 _ _ lmc,hset,hL,ai _ _ (by simp)];simp
 exact Out.at hfin (by simp[hL]) (hT.scs hs) .rfl' rfl (by simpa[AV.scV]using zc0 _ _) hK
end
theorem zrO:[AV.bool false,AV.snil,AV.snil]=zaj none:=rfl
@[simp high] theorem zo7(id:Nat)(o o':Option Nat)(H:zaa)(K:zaa→Prop):zcH 3 0 id (some (zaj o)) (some (.cells (zaj o'))) H K=K (H.set id (.cells (zaj o))):=by
 refine propext ⟨λh=>?_,λh=>?_⟩
 ·simp only[zd2,List.take_zero,List.nil_append]at h;have:=h.2;rwa [aK (by rw[zbG];omega),aE]at this
 ·simp only[zd2,List.take_zero,List.nil_append];refine⟨⟨zbG o,by rw[zbG];omega,ziK o⟩,?_⟩;rw[aK (by rw[zbG];omega),aE];exact h
@[simp high] theorem zvV(o:Option Nat)(k:AV→Prop):ze7 true 3 0 (some (.cells (zaj o))) k=k (.agg (zaj o)):=by simp only[zfQ,zfO,aU,zrj];exact propext ⟨λh=>h.2,λh=>⟨by rw[zbG];omega,h⟩⟩
theorem zj1(k:IntKind)(n:Int):AV.known (.int k n)=true:=rfl
theorem zk2:zaq 0=zaj (some 0):=rfl
section
variable {data:List Dat} (hD:zaB data=true) (hk:Kpt data) {kk:Nat} (hkk:kk≤8) {X:List VT} (hX:X.length≤1000000000000) {I:SI}
include hD hk hkk hX
theorem zGL:zcG data kk X I 0:=by intro S i t hI hti hR;refine⟨S,some 0,hI,aX,rfl,λH hS h0 K hK=>?_⟩;refine ACalls.out (zjg λhs=>?_);simp only[zhK,zrO];simp;refine zfJ 0 (by omega) _ _ ?_;simp[zk2,ai];rw[hS.self]at hK;exact Out.at rfl (aa _) hs .rfl' rfl (by simpa[AV.scV]using zc0 _ _) hK
theorem zGI{n:Nat}{S:SS}{i:Nat}{t:VT}(hI:za0 data kk X S)(hti:S.types[i]?=some t){o:Option Nat}(hg:zd7 S.cnt ((i:Int),((n+1:Nat):Int))=some o):
  vO o=cV data kk t (n+1)∧zex data kk I S S i (n+1) o:=by
 obtain⟨N,hN⟩:∃N,N=n+1:=⟨_,rfl⟩;rw[←hN]at hg ⊢;refine⟨?_,λH hS h0 K hK=>?_⟩
 ·obtain⟨i',m',t',h1,h2,h3⟩:=hI.cn _ (zxd hg);simp only[dd]at h1;obtain⟨e1,e2⟩:=h1;have e1':i=i':=by omega
  have e2':N=m':=by omega
  subst e1' e2';rw[hti]at h2;cases h2;exact h3
 refine ACalls.out (zjg λhs=>?_);have hnl:¬((N:Int)<1):=by omega
 have lp:=(List.getElem?_eq_some_iff.1 hS.hp).1;have lmc:=(List.getElem?_eq_some_iff.1 hS.hmc).1;have hp:=(hS.app (J:=[.cells (zaj none)])).hp;have hmc:=(hS.app (J:=[.cells (zaj none)])).hmc;simp only[zhK,zrO];simp[hp,hmc,hnl,zar,zaL,zj1,zic,hg,ai];rw[hS.self]at hK;exact Out.at rfl (aa _) hs .rfl' rfl (by simpa[AV.scV]using zc0 _ _) hK
theorem zGJ{n:Nat}{S:SS}{i:Nat}{t:VT}(hI:za0 data kk X S)(hti:S.types[i]?=some t)(hg:zd7 S.cnt ((i:Int),((n+1:Nat):Int))=none)(hk123:t.kind=1∨t.kind=2∨t.kind=3):
  zex data kk I S (zdN S ((i:Int),((n+1:Nat):Int)) (some (cV data kk t (n+1)))) i (n+1) (some (cV data kk t (n+1))):=by
 obtain⟨N,hN⟩:∃N,N=n+1:=⟨_,rfl⟩;have hcv:cV data kk t N=if t.kind=3 then (if N=1 then 1 else 0) else if t.kind=2 then (if N=1 then 2 else 0) else (if N=1 then kk else 0):=by rw[hN,zc7];rcases hk123 with h|h|h <;> simp[h]
 rw[←hN]at hg ⊢;intro H hS h0 K hK;refine ACalls.out (zjg λhs=>?_);have hnl:¬((N:Int)<1):=by omega
 have lp:=(List.getElem?_eq_some_iff.1 hS.hp).1;have hp:=(hS.app (J:=[.cells (zaj none)])).hp;have hmc:=(hS.app (J:=[.cells (zaj none)])).hmc;have hp3:=(hS.app (J:=[.cells (zaj none),.cells (zaj none),.cells (zaj (some 0))])).hp;have hit3:=(hS.app (J:=[.cells (zaj none),.cells (zaj none),.cells (zaj (some 0))])).hit;have hil:=(List.getElem?_eq_some_iff.1 hti).1;have hta:=zfC S.types i t hti;have htl:=zfD S.types;obtain⟨k,m,ks⟩:=t;have hk0:(zbQ S.types)[i*3]?=some (.int .i64 k):=by have:=congrArg (λl=>l[0]?) hta;simp only[VT.cs,List.getElem?_take,List.getElem?_drop]at this;simpa using this
 simp only[zhK,zrO];simp[hp,hmc,hnl,zar,zaL,zj1,zic,hg];refine zfJ 0 (by omega) _ _ ?_;simp[zk2,ai,ag,hp3,hit3,hil,zc4 _ hk0];change k=1∨k=2∨k=3 at hk123;have fin:∀v:Nat,v=cV data kk (.mk k m ks) N→ze1 (.ptr I.p 0) (.int .i64 i) (.int .i64 N) (.ptr H.length 0) (.ptr (H.length+2) 0) (H++[.cells (zaj none),.cells (zaj none),.cells (zaj (some v))]) (Out H.length K):=by rintro v rfl;exact zpu hS hs rfl (J:=[]) hK
 have hkd:(VT.mk k m ks).kind=k:=rfl;rw[hkd]at hcv;have hleaf:∀v:Nat,v<1000000→(if N=1 then v else 0)=cV data kk (.mk k m ks) N→ACalls tP zhh [.int .i64 v,.int .i64 N] (H++[.cells (zaj none),.cells (zaj none),.cells (zaj (some 0))]) λt57 H_3=>zcH 3 0 (H.length+2) t57.cs? H_3[H.length+2]? H_3 λH_4=>ze1 (.ptr I.p 0) (.int .i64 i) (.int .i64 N) (.ptr H.length 0) (.ptr (H.length+2) 0) H_4 (Out H.length K):=by intro v hv he;refine zU1 v N hv _ _ ?_;rw[he];simp[ai];exact fin _ rfl
 rcases hk123 with rfl|rfl|rfl
 ·simp;refine hleaf kk (by omega) ?_;rw[hcv];simp
 ·simp;refine hleaf 2 (by omega) ?_;rw[hcv];simp
 ·simp;refine hleaf 1 (by omega) ?_;rw[hcv];simp
end
theorem ConOk.len{T:List VT}:∀ {ws:List (Int × List VT)} {cs:List (Int × List Nat)},ConOk T ws cs→cs.length=ws.length
 |[],[],_=>rfl
 |[],_::_,h=>h.elim
 |_::_,[],h=>h.elim
 |w::ws,c::cs,h=>by rw[List.length_cons,List.length_cons,ConOk.len h.2]
theorem ConOk.at'{T:List VT}:∀ {ws:List (Int × List VT)} {cs:List (Int × List Nat)},ConOk T ws cs→∀ (k:Nat) (h1:k<ws.length) (h2:k<cs.length),ws[k].1=cs[k].1∧IdxOk T ws[k].2 cs[k].2
 |[],[],_,k,h1,_=>by simp at h1
 |[],_::_,h,_,_,_=>h.elim
 |_::_,[],h,_,_,_=>h.elim
 |w::ws,c::cs,h,0,_,_=>h.1
 |w::ws,c::cs,h,k+1,h1,h2=>by simpa using ConOk.at' h.2 k (by simpa using h1) (by simpa using h2)
theorem zzF{f:Int×List VT→Nat}{ws:List (Int×List VT)}{k:Nat}(h:k<ws.length):((ws.take (k+1)).map f).sum=((ws.take k).map f).sum+f ws[k]:=by rw[aj h,bj,cS];simp
theorem zrA{f:Int×List VT→Nat}{ws:List (Int×List VT)}(k:Nat):((ws.take k).map f).sum≤(ws.map f).sum:=by
 have:(ws.map f).sum=((ws.take k).map f).sum+((ws.drop k).map f).sum:=by rw[←cS,←bj,aN]
 omega
section
variable {data:List Dat} (hD:zaB data=true) (hk:Kpt data) {kk:Nat} (hkk:kk≤8) {X:List VT} (hX:X.length≤1000000000000) {I:SI}
include hD hk hkk hX
theorem zGH{n:Nat}(hn:n<14)(ih:∀ m,m≤n→zcG data kk X I m){S:SS}{i:Nat}{t:VT}(hI:za0 data kk X S)(hti:S.types[i]?=some t)(hg:zd7 S.cnt ((i:Int),((n+1:Nat):Int))=none)(hk7:t.kind=7)(hR:Rch data X (n+1) t):
  ∃S' o,za0 data kk X S'∧S.types <+: S'.types∧vO o=cV data kk t (n+1)∧zex data kk I S S' i (n+1) o:=by
 have hv:=hI.vd t (aQ hti);obtain⟨k,m,ks⟩:=t;change k=7 at hk7;subst hk7;have hkl:ks.length=1:=by have hs:=zep hv;unfold okT at hs;rw[zaG,ac]at hs;have hs:=hs.1;simp[zaK]at hs;exact hs.2
 obtain⟨u,rfl⟩:∃u,ks=[u]:=by
  match ks,hkl with
  |[u],_=>exact⟨u,rfl⟩
 have hR1:Rch data X n u:=by
  cases hR with
  |arr _ _ h=>exact h
  |mk _ h _=>exact absurd rfl h
 have hu:=zfA hv u (by simp);have hI1:=zjZ hD hI hu hR1.mem;have he1:=zpO hD (S:=S) u;have hg1:=zjY hD hI hu;obtain⟨S2,o,h1,h2,h3,h4⟩:=zzd hD hk hkk hX (show n≤14 by omega) ih hI1 hg1 hR1;have hti2:=zdg (he1.trans h2) hti;obtain⟨N,hN⟩:∃N,N=n+1:=⟨_,rfl⟩;have hcv:vO o=cV data kk (.mk 7 m [u]) N:=by rw[hN,zc7,h3];simp[VT.kind,zcp]
 refine⟨zdN S2 ((i:Int),((n+1:Nat):Int)) o,o,zri h1 hti2 (by rw[←hN];exact hcv),he1.trans h2,by rw[←hN];exact hcv,?_⟩;rw[←hN]at hg ⊢;intro H hS h0 K hK;refine ACalls.out (zjg λhs=>?_);have hlt0:0<H.length:=(List.getElem?_eq_some_iff.1 h0).1;have hnl:¬((N:Int)<1):=by omega
 have lp:=(List.getElem?_eq_some_iff.1 hS.hp).1;have hp:=(hS.app (J:=[.cells (zaj none)])).hp;have hmc:=(hS.app (J:=[.cells (zaj none)])).hmc;have hp3:=(hS.app (J:=[.cells (zaj none),.cells (zaj none),.cells (zaj (some 0))])).hp;have hit3:=(hS.app (J:=[.cells (zaj none),.cells (zaj none),.cells (zaj (some 0))])).hit;have hil:=(List.getElem?_eq_some_iff.1 hti).1;have hta:=zfC S.types i _ hti;have htl:=zfD S.types;have hk0:(zbQ S.types)[i*3]?=some (.int .i64 7):=by have:=congrArg (λl=>l[0]?) hta;simp only[VT.cs,List.getElem?_take,List.getElem?_drop]at this;simpa using this
 have hk2:(zbQ S.types)[i*3+2]?=some (.sl (VT.css [u]) .none):=by have:=congrArg (λl=>l[2]?) hta;simp only[VT.cs,List.getElem?_take,List.getElem?_drop]at this;simpa using this
 simp only[zhK,zrO];simp[hp,hmc,hnl,zar,zaL,zj1,zic,hg];refine zfJ 0 (by omega) _ _ ?_;obtain⟨x1,x2,x3,hvx,hxa,hxb,hxc⟩:=zaO u;simp[zk2,ai,ag,hp3,hit3,hil,zc4 _ hk0,zc4 _ hk2,VT.css,hvx];rw[←hvx];have hSJ:=hS.app (J:=[.cells (zaj none),.cells (zaj none),.cells (zaj (some 0))]);have hlen:=hI.len;refine ziO hD hSJ (by rw[List.getElem?_append_left hlt0];exact h0) u hu (by omega) _ ?_;have hwn:IntKind.i64.wrap ((N:Int)-1)=(n:Int):=by rw[zaz (by omega) (by omega)];omega
 rw[hwn,hS.shS_app];have hS1:=hS.next (S':=idS data S u) hI1.ml hI1.cl;refine h4 _ hS1.app (by rw[List.getElem?_append_left (by simpa using hlt0)];exact hS.nodr h0) _ ?_;rw[hS1.shS_app,zdh];simp[ai];have hS2:=hS.next (S':=S2) h1.ml h1.cl;refine zpu hS2 (hS.scs hs) (by simp) (J:=[]) ?_;rw[zdh];exact hK
def zoW(data:List Dat)(kk:Nat)(I:SI)(S S':SS)(is:List Nat)(n:Nat)(o:Option Nat):Prop:=∀H,ShS data kk I S H→H[0]?=some .nodr→∀K:Kt,K (.agg (zaj o)) (shS data kk I S' H)→ACalls tP zhd [.ptr I.p 0,.sl (za5 is) .none,.int .i64 n] H K
theorem zKM{n:Nat}(hn:n≤14)(ih:∀ m,m≤n→zcG data kk X I m){S1:SS}(hI:za0 data kk X S1){ws:List (Int × List VT)}{cs:List (Int × List Nat)}(hc:ConOk S1.types ws cs)(hwl:∀ w∈ws,w.2.length≤1000)(hR:∀ w∈ws,∀ (p:Nat) (h:p<w.2.length),Rch data X (n-p) w.2[p]):
  ∃ σ:Nat→SS×Nat,σ 0=(S1,0)∧(∀k≤ws.length,za0 data kk X (σ k).1∧S1.types <+: (σ k).1.types∧(σ k).2=((ws.take k).map λw=>cL (cV data kk) w.2 n).sum)∧∀k<ws.length,∃o,vO o=cL (cV data kk) (ws.getD k (0,[])).2 n∧(σ (k+1)).2=(σ k).2+vO o∧zoW data kk I (σ k).1 (σ (k+1)).1 (cs.getD k (0,[])).2 n o:=by
 refine zd6 (λk (a:SS×Nat)=>za0 data kk X a.1∧S1.types <+: a.1.types∧a.2=((ws.take k).map λw=>cL (cV data kk) w.2 n).sum) (λk (a a':SS×Nat)=>∃o,vO o=cL (cV data kk) (ws.getD k (0,[])).2 n∧a'.2=a.2+vO o∧zoW data kk I a.1 a'.1 (cs.getD k (0,[])).2 n o) ws.length (λk hkl a ha=>?_) _ ⟨hI,aX,by simp⟩;obtain⟨h1,h2,h3⟩:=ha;have hcl:=hc.len;obtain⟨h4,h5⟩:=hc.at' k hkl (by omega);obtain⟨S',o,h6,h7,h8,h9⟩:=zru hD hk hkk hX hn ih (hwl _ (ae hkl)) h1 (h5.mono h2) (hR _ (ae hkl));have e1:ws.getD k (0,[])=ws[k]:=by rw[List.getD_eq_getElem?_getD,List.getElem?_eq_getElem hkl];rfl
 have e2:cs.getD k (0,[])=cs[k]:=by rw[List.getD_eq_getElem?_getD,List.getElem?_eq_getElem (by omega)];rfl
 rw[e1,e2];exact⟨(S',a.2+vO o),⟨o,h8,rfl,h9⟩,h6,h2.trans h7,by simp only;rw[zzF hkl,h3,h8]⟩
theorem zGK{n:Nat}(hn:n<14)(ih:∀ m,m≤n→zcG data kk X I m){S:SS}{i:Nat}{t:VT}(hI:za0 data kk X S)(hti:S.types[i]?=some t)(hg:zd7 S.cnt ((i:Int),((n+1:Nat):Int))=none)(h7:t.kind≠7)(h1':t.kind≠1)(h2':t.kind≠2)(h3':t.kind≠3)(hR:Rch data X (n+1) t):
  ∃S' o,za0 data kk X S'∧S.types <+: S'.types∧vO o=cV data kk t (n+1)∧zex data kk I S S' i (n+1) o:=by
 have hv:=hI.vd t (aQ hti);have hRw:∀w∈zaW data t,∀(p:Nat) (h:p<w.2.length),Rch data X (n-p) w.2[p]:=by
  cases hR with
  |arr _ h _=>exact absurd h h7
  |mk _ _ h=>exact h
 have htX:∀w∈zaW data t,∀x∈w.2,x∈X:=λw hw x hx=>by obtain⟨p,hp,rfl⟩:=aO.1 hx;exact(hRw w hw p hp).mem
 obtain⟨hI1,he1,hc1⟩:=zAd hD hI hti htX;have hwl:∀w∈zaW data t,w.2.length≤1000:=λw hw=>by
  obtain⟨k,m,ks⟩:=t;have hnod:=zfB hv;have hll:=VT.len_le ks;simp[VT.nodes]at hnod;rw[zaW]at hw;split at hw
  ·simp at hw;subst hw;show ks.length≤1000;omega
  ·split at hw
   ·obtain⟨c,_,hc⟩:=br.1 hw;cases hf:za7 data (.mk k m ks) c with
    |none=>rw[hf]at hc;cases hc
    |some l=>rw[hf]at hc;simp at hc;subst hc;have:=zpA hk hf;show l.length≤1000;omega
   ·simp at hw
 obtain⟨σ,hσ0,hσ1,hσ2⟩:=zKM (I:=I) hD hk hkk hX (show n≤14 by omega) ih hI1 hc1 hwl hRw;obtain⟨N,hN⟩:∃N,N=n+1:=⟨_,rfl⟩;obtain⟨ws,hws⟩:∃ws,ws=zaW data t:=⟨_,rfl⟩;obtain⟨cs,hcs⟩:∃cs,cs=(zdy data S i).1:=⟨_,rfl⟩;obtain⟨S1,hS1d⟩:∃S1,S1=(zdy data S i).2:=⟨_,rfl⟩;rw[←hws]at hσ1 hσ2;rw[←hcs]at hσ2;rw[←hS1d]at hσ0 hσ1 he1 hI1;rw[←hcs,←hws,←hS1d]at hc1;have hcl:=hc1.len;have hw3:=zly hk t;rw[←hws]at hw3;have hlast:=hσ1 ws.length (aa _);have hcv:(σ ws.length).2=cV data kk t N:=by rw[hlast.2.2,aw,hws,hN,zc7,ap h3',ap h2',ap h1',ap h7]
 have hti2:=zdg (he1.trans hlast.2.1) hti;have hvlim:=zdD hk hkk t (show n+1≤14 by omega);rw[←hN]at hvlim;have hple:∀k,k≤ws.length→(σ k).2<1000000000 ^ 30:=λk hk=>by have h1:=(hσ1 k hk).2.2;have h2:=zrA (f:=λw:Int×List VT=>cL (cV data kk) w.2 n) (ws:=ws) k;rw[←h1]at h2;have h3:=hlast.2.2;rw[aw]at h3;omega
 refine⟨zdN (σ ws.length).1 ((i:Int),((n+1:Nat):Int)) (some (σ ws.length).2),some (σ ws.length).2,zri hlast.1 hti2 (by rw[←hN];exact hcv),he1.trans hlast.2.1,by rw[←hN];exact hcv,?_⟩;rw[←hN]at hg ⊢;intro H hS h0 K hK;refine ACalls.out (zjg λhs=>?_);have hlt0:0<H.length:=(List.getElem?_eq_some_iff.1 h0).1;have hnl:¬((N:Int)<1):=by omega
 have lp:=(List.getElem?_eq_some_iff.1 hS.hp).1;have hp:=(hS.app (J:=[.cells (zaj none)])).hp;have hmc:=(hS.app (J:=[.cells (zaj none)])).hmc;have hp3:=(hS.app (J:=[.cells (zaj none),.cells (zaj none),.cells (zaj (some 0))])).hp;have hit3:=(hS.app (J:=[.cells (zaj none),.cells (zaj none),.cells (zaj (some 0))])).hit;have hil:=(List.getElem?_eq_some_iff.1 hti).1;have hta:=zfC S.types i _ hti;have htl:=zfD S.types;have hk0:(zbQ S.types)[i*3]?=some (.int .i64 t.kind):=by obtain⟨k,m,ks⟩:=t;have:=congrArg (λl=>l[0]?) hta;simp only[VT.cs,List.getElem?_take,List.getElem?_drop]at this;simpa[VT.kind]using this
 simp only[zhK,zrO];simp[hp,hmc,hnl,zar,zaL,zj1,zic,hg];refine zfJ 0 (by omega) _ _ ?_;have b1:(t.kind == 1)=false:=by simpa using h1'
 have b2:(t.kind == 2)=false:=by simpa using h2'
 have b3:(t.kind == 3)=false:=by simpa using h3'
 have b7:(t.kind == 7)=false:=by simpa using h7
 simp[zk2,ai,ag,hp3,hit3,hil,zc4 _ hk0,b1,b2,b3,b7];have hSJ:=hS.app (J:=[.cells (zaj none),.cells (zaj none),.cells (zaj (some 0))]);refine zze hD hX hSJ hI (by rw[List.getElem?_append_left hlt0];exact h0) hti htX _ ?_;rw[←hcs,←hS1d,hS.shS_app];obtain⟨L,hL⟩:∃L,L=H.length:=⟨_,rfl⟩;rw[←hL];obtain⟨Hk,hHk⟩:∃Hk:SS×Nat→zaa,Hk=λa=>shS data kk I a.1 H++[.cells (zaj none),.cells (zaj none),.cells (zaj (some a.2))]:=⟨_,rfl⟩;have hkl:∀a,(Hk a).length=L+3:=λa=>by rw[hHk,hL];simp
 have hks:∀a,HSc (Hk a):=λa=>by rw[hHk];refine(hS.scs hs).append ?_;simp only[List.all_cons,List.all_nil,AB.sc,zc0,bW]
 have hk0':∀a,(Hk a)[0]?=some .nodr:=λa=>by rw[hHk];simp only;rw[List.getElem?_append_left (by simpa using hlt0)];exact hS.nodr h0
 have hk2:∀a,(Hk a)[L+2]?=some (.cells (zaj (some a.2))):=λa=>by rw[hHk,hL];simp[List.getElem?_append]
 have hkS:∀a,za0 data kk X a.1→ShS data kk I a.1 (Hk a):=λa ha=>by rw[hHk];exact(hS.next ha.ml ha.cl).app
 have hmv:∀a S' J,za0 data kk X a.1→shS data kk I S' (Hk a++J)=Hk (S',a.2)++J:=λa S' J ha=>by rw[hHk];simp only;rw[ah,(hS.next ha.ml ha.cl).shS_app,zdh,ah]
 have hset:∀a v J,(Hk a++J).set (L+2) (.cells (zaj (some v)))=Hk (a.1,v)++J:=λa v J=>by rw[hHk,hL];simp only;rw[ah,ai _ _ (by simp),ah];simp
 have hst0:shS data kk I S1 H++[.cells (zaj none),.cells (zaj none),.cells (zaj (some 0))]=Hk (σ 0):=by rw[hσ0,hHk]
 rw[hst0];have hcR:(zbX cs).length=cs.length:=by simp[zbX]
 simp only[zcq,zeB,hcR];refine zSi (Inv:=λq t41 H'=>∃k:Nat,k≤cs.length∧cs.length-k=q∧t41=.int .i64 k∧H'=Hk (σ k)) cs.length ?_ ?_
 ·intro _;exact⟨0,by omega,rfl,rfl,rfl⟩
 ·rintro q t41 H' ⟨k,hkk',rfl,rfl,rfl⟩ hsc9 hlen9 hsF9 Kb9 hKb9;have hσk:=hσ1 k (by omega);by_cases hlt:k<cs.length
  ·obtain⟨o,ho1,ho2,ho3⟩:=hσ2 k (by omega);have hgk:∀ h:k<(zbX cs).length,(zbX cs)[k]'h=[.int .i64 (cs[k]).1,.sl (za5 (cs[k]).2) .none]:=λh=>by simp[zbX,za5]
   have e2:cs.getD k (0,[])=cs[k]:=by rw[List.getD_eq_getElem?_getD,List.getElem?_eq_getElem hlt];rfl
   rw[e2]at ho3;simp[zt8,hlt,hcR,hgk];obtain⟨J,hJ⟩:∃J:zaa,J=[.cells [.int .i64 (cs[k]).1,.sl (za5 (cs[k]).2) .none]]:=⟨_,rfl⟩;have hJs:J.all (AB.sc (L+4))=true:=by rw[hJ];rfl
   have hJl:J.length=1:=by rw[hJ];rfl
   rw[←hJ];have gA:∀a,(Hk a++J)[L+2]?=some (.cells (zaj (some a.2))):=λa=>by rw[List.getElem?_append_left (by rw[hkl];omega)];exact hk2 a
   simp[gA];have hwn:IntKind.i64.wrap ((N:Int)-1)=(n:Int):=by rw[zaz (by omega) (by omega)];omega
   rw[hwn];refine zdB (.agg (zaj o)) (Hk ((σ (k+1)).1,(σ k).2)++J) (ho3 _ (hkS _ hσk.1).app (by rw[List.getElem?_append_left (by rw[hkl];omega)];exact hk0' _) _ ⟨rfl,hmv _ _ _ hσk.1⟩) ?_;have kp:∀(a b:SS×Nat),a.2=b.2→zdX [AV.ptr (L+2) 0,AV.ptr (Hk (σ k)).length 1] (Hk a++J) (Hk b++J):=λa b e=>by rw[hkl,hHk];simp only[e,ah];exact zpV (l:=H.length) (by simp) (by simp) (by rw[hL];simp)
   refine⟨kp _ _ rfl,?_⟩;have b1:vO (some (σ k).2)<1000000000 ^ 30:=hple k (by omega);have b2:vO o<1000000000 ^ 30:=by have:=hple (k+1) (by omega);omega
   refine zdB (.agg (zaj (some ((σ k).2+vO o)))) _ (zu5 (some (σ k).2) o b1 b2 _ _ ⟨rfl,rfl⟩) ?_;refine⟨zif _ _,?_⟩;rw[←ho2];refine zdB (.tup []) (Hk (σ (k+1))++J) ?_ ?_
   ·rw[gA];show zcH 3 0 (L+2) (some (zaj (some (σ (k+1)).2))) (some (.cells (zaj (some (σ k).2)))) _ _;rw[zo7,hset];exact⟨rfl,rfl⟩
   ·rw[wr (by omega)];refine hKb9 _ _ ⟨cs.length-(k+1),by omega,Back.at (H2:=Hk (σ (k+1))) (J:=J) rfl (by rw[hkl,hkl];omega) (hks _) ?_ ⟨_,rfl,k+1,by omega,rfl,rfl,rfl⟩⟩;rw[hkl];simp[znu,ux,AV.sc,AV.scA,AV.scB,AV.scV];omega
  ·obtain rfl:k=cs.length:=by omega
   simp[zt8];have hSe:=hS.next (S':=(σ ws.length).1) hlast.1.ml hlast.1.cl;rw[hcl,hHk];refine zpu hSe (hS.scs hs) (by simp[hL]) (J:=[]) ?_;rw[zdh];exact hK
theorem zjK:∀n:Nat,n≤14→zcG data kk X I n:=by
 intro n;induction n using Nat.strongRecOn with
 |ind n ih=>
  intro hn;cases n with
  |zero=>exact zGL hD hk hkk hX
  |succ n=>
   intro S i t hI hti hR;have ih':∀m,m≤n→zcG data kk X I m:=λm hm=>ih m (by omega) (by omega);cases hg:zd7 S.cnt ((i:Int),((n+1:Nat):Int)) with
   |some o=>obtain⟨h1,h2⟩:=zGI hD hk hkk hX (I:=I) hI hti hg;exact⟨S,o,hI,aX,h1,h2⟩
   |none=>
    by_cases h123:t.kind=1∨t.kind=2∨t.kind=3
    ·have:=zGJ hD hk hkk hX (I:=I) hI hti hg h123;exact⟨zdN S _ _,_,zri hI hti rfl,aX,rfl,this⟩
    ·by_cases h7:t.kind=7
     ·exact zGH hD hk hkk hX (by omega) ih' hI hti hg h7 hR
     ·exact zGK hD hk hkk hX (by omega) ih' hI hti hg h7 (by omega) (by omega) (by omega) hR
end
theorem ALoop.ovC{P:Program}{c:Code}{Q:AExit→List AV→zaa→Prop}{F:List AV}{H:zaa}{id j:Nat}{cs:List AV}(e size:Nat)(hid:H[id]?=some (.cells cs))(hj:cs[j]?=some .snil)(h:ALoop P c Q F (H.set id (.cells (cs.set j (.ov H.length 0)))++[.vec e size 0 []])):ALoop P c Q F H:=by
 intro B w G a hH hF hd;obtain⟨G',hE,hH'⟩:=hH.ovCell e size hid hj;refine wp_mono (h B w G' a hH' (hF.ext hE) hd) λe a' w' hp=>?_;obtain⟨F'',H'',G'',e'',rfl,k1,k2,k3,k4,k5⟩:=hp;exact⟨F'',H'',G'',e'',rfl,hE.trans k1,k2,k3,k4,k5⟩
def newB(data:List Dat)(kk:Int)(L:Nat):zaa:=[.map [],.mapP [],.cells [.sl (data.map Dat.cs) .none,.int .i64 kk,.map L,.snil,.snil,.snil,.map (L+1)]]
def zcM(L M:Nat):SI:=⟨L+2,L,M,M+1,M+2,L+1⟩
def S0:SS:=⟨[],[],[],[]⟩
def zb0(data:List Dat)(kk:Int)(L M:Nat):zaa:=[.map [],.mapP [],.cells [.sl (data.map Dat.cs) .none,.int .i64 kk,.map L,.ov M 0,.ov (M+1) 0,.ov (M+2) 0,.map (L+1)]]
def zce:zaa:=[.vec zbk 3 0 [],.vec zfg 1 0 [],.vec zff 1 0 []]
theorem zx9(data:List Dat)(kk:Int)(H:zaa)(K:Kt)(hK:K (.ptr (H.length+2) 0) (H++newB data kk H.length)):ACalls tP zkE [.sl (data.map Dat.cs) .none,.int .i64 kk] H K:=by refine ACalls.out (zSb λhs=>?_);simp[zC9,zd1,zeE,zar,zaL,AV.known,ag];refine Out.at (J:=[]) (H2:=H++newB data kk H.length) (by simp[newB]) (by simp) (hs.append ?_) .rfl' rfl (by simp[AV.scV,AV.scA,AV.scB,newB]) hK;simp[newB,AB.sc,AV.scA,AV.scB]
section
variable {data:List Dat} {kk:Int} {A J:zaa} {L:Nat} (hL:L=A.length)
include hL
theorem zht(x y z:AV)(V:zaa):∀(x':AB),(A++(.map []::.mapP []::.cells [.sl (data.map Dat.cs) .none,.int .i64 kk,.map L,x,y,z,.map (L+1)]::V)).set (L+2) x'=A++(.map []::.mapP []::x'::V):=λx'=>by rw[ai _ _ (by omega),hL];simp[show A.length+2-A.length=2 by omega]
theorem zx8(V:zaa)(M:Nat)(hM:M=L+3+V.length):ShS data kk (zcM L M) S0 (A++(zb0 data kk L M++V++zce)):=by
 refine⟨⟨?_,?_,?_,?_,?_,?_,?_,?_,?_,?_,?_,?_,?_,?_,?_⟩,λx b hb=>?_,rfl,rfl⟩
 all_goals first|(simp only[zcM];omega)|skip
 have gA:∀(k:Nat),(A++(zb0 data kk L M++V++zce))[L+k]?=(zb0 data kk L M++V++zce)[k]?:=λk=>by rw[List.getElem?_append_right (by omega),hL];congr 1;omega
 have g0:=gA 0;have g1:=gA 1;have g2:=gA 2;have g3:=gA (3+V.length);have g4:=gA (3+V.length+1);have g5:=gA (3+V.length+2);rw[show L+(3+V.length)=M by omega]at g3;rw[show L+(3+V.length+1)=M+1 by omega]at g4;rw[show L+(3+V.length+2)=M+2 by omega]at g5;have e3:∀k,(zb0 data kk L M++V++zce)[3+V.length+k]?=zce[k]?:=λk=>by rw[List.getElem?_append_right (by simp[zb0];omega)];congr 1;simp[zb0];omega
 rw[show 3+V.length=3+V.length+0 by omega,e3]at g3;rw[e3]at g4 g5;simp only[zb0,List.cons_append,List.getElem?_cons_zero,List.getElem?_cons_succ,Nat.add_zero]at g0 g1 g2;unfold za3 zcM S0 at hb;simp only[List.length_nil,zct,zbQ,zdF,zaH,cm,List.flatten_nil]at hb;split at hb
 ·rename_i e;subst e;rw[←bM hb];exact g2
 ·split at hb
  ·rename_i e;subst e;rw[←bM hb];exact g0
  ·split at hb
   ·rename_i e;subst e;rw[←bM hb];exact g3
   ·split at hb
    ·rename_i e;subst e;rw[←bM hb];exact g4
    ·split at hb
     ·rename_i e;subst e;rw[←bM hb];exact g5
     ·split at hb
      ·rename_i e;subst e;rw[←bM hb];exact g1
      ·cases hb
theorem zIo{f:FuncId}{args:List AV}{K:Kt}(V:zaa){M:Nat}(hM:M=L+3+V.length)(h:ACalls tP f args (A++(zb0 data kk L M++V++zce)) K):ACalls tP f args (A++(newB data kk L++V)) K:=by
 unfold newB;simp only[List.cons_append,List.nil_append];have g:∀(x:AB) (V':zaa),(A++(AB.map []::AB.mapP []::x::V'))[L+2]?=some x:=λx V'=>by rw[List.getElem?_append_right (by omega),hL];simp[show A.length+2-A.length=2 by omega]
 refine ACalls.ovC (id:=L+2) (j:=3) zbk 3 (g _ _) rfl ?_;rw[zht hL,ah];simp only[List.set,List.cons_append,ao,List.length_cons,←hL];refine ACalls.ovC (id:=L+2) (j:=4) zfg 1 (g _ _) rfl ?_;rw[zht hL,ah];simp only[List.set,List.cons_append,ao,List.length_cons,←hL];refine ACalls.ovC (id:=L+2) (j:=5) zff 1 (g _ _) rfl ?_;rw[zht hL,ah];simp only[List.set,List.cons_append,ao,List.length_cons,List.length_nil,←hL];have e1:L+(V.length+1+1+1)=M:=by omega
 have e2:L+(V.length+(0+1)+1+1+1)=M+1:=by omega
 have e3:L+(V.length+(0+1)+(0+1)+1+1+1)=M+2:=by omega
 rw[e1,e2,e3];simpa[zb0,zce]using h
theorem zIp{c:Code}{Q:AExit→List AV→zaa→Prop}{F:List AV}(V:zaa){M:Nat}(hM:M=L+3+V.length)(h:ALoop tP c Q F (A++(zb0 data kk L M++V++zce))):ALoop tP c Q F (A++(newB data kk L++V)):=by
 unfold newB;simp only[List.cons_append,List.nil_append];have g:∀(x:AB) (V':zaa),(A++(AB.map []::AB.mapP []::x::V'))[L+2]?=some x:=λx V'=>by rw[List.getElem?_append_right (by omega),hL];simp[show A.length+2-A.length=2 by omega]
 refine ALoop.ovC (id:=L+2) (j:=3) zbk 3 (g _ _) rfl ?_;rw[zht hL,ah];simp only[List.set,List.cons_append,ao,List.length_cons,←hL];refine ALoop.ovC (id:=L+2) (j:=4) zfg 1 (g _ _) rfl ?_;rw[zht hL,ah];simp only[List.set,List.cons_append,ao,List.length_cons,←hL];refine ALoop.ovC (id:=L+2) (j:=5) zff 1 (g _ _) rfl ?_;rw[zht hL,ah];simp only[List.set,List.cons_append,ao,List.length_cons,List.length_nil,←hL];have e1:L+(V.length+1+1+1)=M:=by omega
 have e2:L+(V.length+(0+1)+1+1+1)=M+1:=by omega
 have e3:L+(V.length+(0+1)+(0+1)+1+1+1)=M+2:=by omega
 rw[e1,e2,e3];simpa[zb0,zce]using h
end
theorem zvL(data:List Dat)(kk:Nat)(X:List VT):za0 data kk X S0:=⟨rfl,rfl,List.nodup_nil,by simp[S0],by simp[S0],by simp[S0],by simp[S0]⟩
def zbc(a:List VT)(b:List (List VT)):List (List VT):=a.flatMap λv=>b.map λr=>v::r
theorem zfZ(a:List VT)(b:List (List VT)):(zbc a b).length=a.length*b.length:=by
 induction a with
 |nil=>simp[zbc]
 |cons v a ih=>unfold zbc at ih ⊢;rw[bg,ao,ih,aS,List.length_cons,cp];omega
def lsL(g:VT→Nat→List VT):List VT→Nat→List (List VT)
 |[],n=>if n=0 then [[]] else []
 |t::ts,n=>(List.range n).flatMap λs=>zbc (g t (s+1)) (lsL g ts (n-(s+1)))
def arF(g:Nat→List VT):Nat→Nat→List (List VT)
 |0,n=>if n=0 then [[]] else []
 |f+1,n=>if n=0 then [[]] else (List.range n).flatMap λs=>zbc (g (s+1)) (arF g f (n-(s+1)))
def zf0(k:Int):Int:=if k=5 then 5 else if k=6 then 4 else 7
def zdi(data:List Dat)(xs:List Int):Nat→VT→Nat→List VT
 |0,_,_=>[]
 | f+1,t,n=>if n=0 then [] else if t.kind=3 then (if n=1 then [.mk 1 0 []] else []) else if t.kind=2 then (if n=1 then [.mk 2 0 [],.mk 2 1 []] else []) else if t.kind=1 then (if n=1 then xs.map λx=>.mk 3 x [] else []) else
  if t.kind=7 then (arF (zdi data xs f (zcp t)) (n-1) (n-1)).map λks=>.mk 6 0 ks else (zaW data t).flatMap λw=>(lsL (zdi data xs f) w.2 (n-1)).map λks=>.mk (zf0 t.kind) w.1 ks
theorem zfX{α β:Type}{l:List α}{f g:α→List β}(h:∀a∈l,f a=g a):l.flatMap f=l.flatMap g:=by
 induction l with
 |nil=>rfl
 |cons a l ih=>rw[bg,bg,h a (by simp),ih λb hb=>h b (by simp[hb])]
theorem zp3{g g':VT→Nat→List VT}:∀ (ts:List VT) (n:Nat),(∀ t s,s≤n→g t s=g' t s)→lsL g ts n=lsL g' ts n
 |[],_,_=>rfl
 |t::ts,n,h=>by rw[lsL,lsL];refine zfX λs hs=>?_;have:=be.1 hs;rw[h t (s+1) (by omega),zp3 ts _ λt s' hs'=>h t s' (by omega)]
theorem zpi{g g':Nat→List VT}:∀ (f n:Nat),(∀ s,s≤n→g s=g' s)→arF g f n=arF g' f n
 |0,_,_=>rfl
 |f+1,n,h=>by
  rw[arF,arF];split
  ·rfl
  ·refine zfX λs hs=>?_;have:=be.1 hs;rw[h (s+1) (by omega),zpi f _ λs' hs'=>h s' (by omega)]
theorem zFW(g:Nat→List VT):∀(n f f':Nat),n≤f→n≤f'→arF g f n=arF g f' n:=by
 intro n;induction n using Nat.strongRecOn with
 |ind n ih=>
  intro f f' h1 h2;cases n with
  |zero=>cases f <;> cases f' <;> simp[arF]
  |succ n=>obtain⟨f,rfl⟩:∃e,f=e+1:=⟨f-1,by omega⟩;obtain⟨f',rfl⟩:∃e,f'=e+1:=⟨f'-1,by omega⟩;rw[arF,arF];simp only[bO,cg,dp,aT];refine zfX λs hs=>?_;rw[ih _ (by omega) f f' (by omega) (by omega)]
def arL(g:Nat→List VT)(n:Nat):List (List VT):=arF g n n
theorem zwh(g:Nat→List VT):arL g 0=[[]]:=rfl
theorem zjC(g:Nat→List VT)(n:Nat):arL g (n+1)=(List.range (n+1)).flatMap λs=>zbc (g (s+1)) (arL g (n+1-(s+1))):=by unfold arL;rw[arF];simp only[bO,cg,dp,aT];refine zfX λs hs=>?_;rw[zFW g _ n _ (by omega) (aa _)]
theorem zlx(data:List Dat)(xs:List Int)(f:Nat)(t:VT):zdi data xs f t 0=[]:=by cases f <;> simp[zdi]
theorem zKz(data:List Dat)(xs:List Int):∀(f f':Nat) (t:VT) (n:Nat),n≤f→n≤f'→zdi data xs f t n=zdi data xs f' t n:=by
 intro f;induction f with
 |zero=>
  intro f' t n h _;obtain rfl:n=0:=by omega
  rw[zlx,zlx]
 |succ f ih=>
  intro f' t n h1 h2;cases n with
  |zero=>rw[zlx,zlx]
  |succ n=>obtain⟨f',rfl⟩:∃e,f'=e+1:=⟨f'-1,by omega⟩;have e1:∀t s,s≤n→zdi data xs f t s=zdi data xs f' t s:=λt s hs=>ih f' t s (by omega) (by omega);rw[zdi,zdi];simp only[bo];rw[zpi n n λs hs=>e1 (zcp t) s hs];rw[zfX λw _=>by rw[zp3 w.2 n e1]]
def vV(data:List Dat)(xs:List Int)(t:VT)(n:Nat):List VT:=zdi data xs n t n
theorem zrY(data:List Dat)(xs:List Int)(t:VT):vV data xs t 0=[]:=rfl
theorem ziU(data:List Dat)(xs:List Int)(t:VT)(n:Nat):vV data xs t (n+1)=if t.kind=3 then (if n=0 then [.mk 1 0 []] else []) else if t.kind=2 then (if n=0 then [.mk 2 0 [],.mk 2 1 []] else []) else if t.kind=1 then (if n=0 then xs.map λx=>.mk 3 x [] else []) else
  if t.kind=7 then (arL (vV data xs (zcp t)) n).map λks=>.mk 6 0 ks else (zaW data t).flatMap λw=>(lsL (vV data xs) w.2 n).map λks=>.mk (zf0 t.kind) w.1 ks:=by
 have e1:∀t s,s≤n→zdi data xs n t s=vV data xs t s:=λt s hs=>zKz data xs n s t s hs (aa _);unfold vV;rw[zdi];simp only[bO,cg,dp,aT,bo,Nat.add_eq_right];unfold arL;rw[zpi n n λs hs=>e1 (zcp t) s hs];rw[zfX λw _=>by rw[zp3 w.2 n e1]];rfl
theorem zg0{α:Type}(n:Nat)(f:Nat→List α):((List.range n).flatMap f).length=sm n λs=>(f s).length:=by
 induction n with
 |zero=>rfl
 |succ n ih=>rw[cb,bt,ao,ih,sm];simp
theorem zj9{g:VT→Nat→List VT}{c:VT→Nat→Nat}(h0:∀ t,c t 0=0):∀ (ts:List VT) (n:Nat),(∀ t∈ts,∀ s,s≤n→(g t s).length=c t s)→(lsL g ts n).length=cL c ts n
 |[],n,_=>by rw[lsL,cL];split <;> rfl
 |t::ts,n,h=>by rw[lsL,cL,zg0,zfw,h0,bx,aF];refine zb8 λs hs=>?_;rw[zfZ,h t (by simp) (s+1) (by omega),zj9 h0 ts _ λt ht s' hs'=>h t (by simp[ht]) s' (by omega)]
theorem zwg{g:Nat→List VT}{c:Nat→Nat}(h0:c 0=0):∀(n:Nat),(∀s,s≤n→(g s).length=c s)→(arL g n).length=cA c n:=by
 intro n;induction n using Nat.strongRecOn with
 |ind n ih=>
  intro h;cases n with
  |zero=>rfl
  |succ n=>
   rw[zjC,zgU h0,zg0]
   conv=>rhs;rw[zfw,h0,bx,aF]
   refine zb8 λs hs=>?_;rw[zfZ,h (s+1) (by omega),ih _ (by omega) λs' hs'=>h s' (by omega)]
theorem zwZ{α β:Type}(l:List α)(f:α→List β)(c:α→Nat)(h:∀a∈l,(f a).length=c a):(l.flatMap f).length=(l.map c).sum:=by
 induction l with
 |nil=>rfl
 |cons a l ih=>rw[bg,ao,h a (by simp),ih λb hb=>h b (by simp[hb]),aA,List.sum_cons]
theorem zeX(data:List Dat)(xs:List Int):∀(n:Nat) (t:VT),(vV data xs t n).length=cV data xs.length t n:=by
 intro n;induction n using Nat.strongRecOn with
 |ind n ih=>
  intro t;cases n with
  |zero=>rfl
  |succ n=>
   rw[ziU,zc7];split
   ·split <;> rfl
   ·split
    ·split <;> rfl
    ·split
     ·split <;> simp
     ·split
      ·rw[aS,zwg (zb3 data xs.length (zcp t)) n λs hs=>ih s (by omega) _]
      ·refine zwZ _ _ _ λw _=>?_;rw[aS,zj9 (zb3 data xs.length) w.2 n λt _ s hs=>ih s (by omega) t]
section
variable (t0 t1 t2 t5 t7 t8 t9 t10 t11 t12 t15 t16 t17 t18 t51 t52 t53 t62 t63 t64 t95 t96 t97 t121 t122 t123:AV) (H:zaa) (K:Kt) (Kb3 Kb5 Kb7 Kb9 Kb23 Kb29:Lt)
def zgB:Nat→List Bool|3=>rl false [1,1,3,1,4,3,19]|6=>rl false [1,1,3,1,1,1,2,3,3,3,13]|_=>[]
noncomputable def zvl:=Tryz.f88.body.getD .skip
noncomputable def zWk:=Tryz.f88.results.toList
def zoA:=ux 1 (t1::ux 3 (t5::ux 4 (t10::t11::t12::ux 19 [])))
def zEQ:=zgB 3
noncomputable def zvm:=zas [1,1,0,1,0,0] zvl
def zEO:=zat tP zgB [1,1,0,1,0] zvl (zaA tP zWk K)
def zvn:=ALoop tP zvm (zEO K) (zoA t1 t5 t10 t11 t12) H
def zju:=ux 1 (t1::ux 3 (t5::ux 1 (t7::ux 2 (t10::t11::t12::ux 3 (t16::t17::t18::ux 13 [])))))
def zWi:=zgB 6
noncomputable def zWf:=zas [1,1,0,0,1,1,0,0] zvm
def zWe:=zat tP zgB [1,1,0,0,1,1,0] zvm (zbp zEQ Kb3 (zEO K))
def zEP:=ALoop tP zWf (zWe K Kb3) (zju t1 t5 t7 t10 t11 t12 t16 t17 t18) H
def zvk(t1 t5 t7 t10 t11 t12 t16 t17 t18:AV)(H:zaa)(K:Kt)(Kb3:Lt)(Kb6:Lt):Prop:=zab .lss false t18 t17 λt19=>zag t19 (zai 1 t16 t18 λt20=>zae false 1 t20 H λt21=>zae true 3 t7 H λt23=>zau 3 [(.int .i64 0),(.int .i64 0),.snil] 1 [(0,t23)] λt24=>zax zaP 3 40 t24 t21 H λt26 H=>zau 1 [.snil] 1 [(0,t26)] λt27=>zax zbj 1 24 t5 t27 H λt28 H=>zab .add false t18 (.int .i64 1) λt29=>Kb6 (zju t1 t28 t7 t10 t11 t12 t16 t17 t29) H) (zab .add false t12 (.int .i64 1) λt30=>Kb3 (zoA t1 t5 t10 t11 t30) H)
def zvj:=zab .lss false t12 t11 λt13=>zag t13 (zai 3 t10 t12 λt14=>zae true 3 t14 H λt15=>zay [(.int .i64 0),(.int .i64 0),.snil] H λt7 H=>zam 3 t7 t15 H λH=>zah 1 t1 λt17=>zEP t1 t5 t7 t10 t11 t12 t1 t17 (.int .i64 0) H K Kb3) (K t5 H)
def zEN:=zah 1 t0 λt11=>zvn t1 .snil t0 t11 (.int .i64 0) H K
def zmc:Nat→List Bool|5=>rl false [0,3,4,2,44]|_=>[]
noncomputable def zsI:=Tryz.f118.body.getD .skip
noncomputable def zML:=Tryz.f118.results.toList
def zmd:=t0::t1::t2::ux 4 (t7::t8::ux 44 [])
def zMK:=zmc 5
noncomputable def zMI:=zas [1,1,1,0,1,0,0] zsI
def zMH:=zat tP zmc [1,1,1,0,1,0] zsI (zaA tP zML K)
def zsJ:=ALoop tP zMI (zMH K) (zmd t0 t1 t2 t7 t8) H
def zA1(t0 t1 t2 t7 t8:AV)(H:zaa)(K:Kt)(Kb5:Lt):Prop:=zab .add false t8 (.int .i64 1) λt16=>Kb5 (zmd t0 t1 t2 t7 t16) H
def zme:=zA1 t0 t1 t2 t7 t8 H K Kb5
def zsH:=zab .leq false t8 t2 λt14=>zag t14 (zaM t0 λt18=>zaf 0 t18 λt19=>zae false 1 t19 H λt20=>ACalls tP zf7 [t20,t1,t8] H λt23 H=>ACalls tP zfr [t23] H λt24 H=>zab .eql false t24 (.int .i64 0) λt25=>zac t25 false H (λK'=>K' t0 H) λt27 H=>zac t25 false H (λK'=>zaM t27 (K' · H)) λt28 H=>zac t25 false H (λK'=>zaf 0 t28 (K' · H)) λt29 H=>zac t25 false H (λK'=>zae false 1 t29 H (K' · H)) λt30 H=>zac t25 false H (λK'=>K' t1 H) λt31 H=>zac t25 false H (λK'=>K' t2 H) λt32 H=>zac t25 false H (λK'=>K' t8 H) λt33 H=>zac t25 false H (λK'=>zab .sub false t32 t33 (K' · H)) λt34 H=>zac t25 false H (λK'=>ACalls tP ziA [t30,t31,t34] H K') λt35 H=>zac t25 false H (λK'=>ACalls tP zfr [t35] H K') λt36 H=>zac t25 false H (λK'=>zab .eql false t36 (.int .i64 0) (K' · H)) λt37 H=>zak t25 (.bool true) t37 λt38=>zag t38 (zme t0 t1 t2 t7 t8 H K Kb5) (ACalls tP zkS [t0,t1,t8] H λt43 H=>zab .sub false t2 t8 λt48=>ACalls tP zki [t0,t1,t48] H λt49 H=>ACalls tP zkR [t43,t49] H λt50 H=>zax zbj 1 24 t7 t50 H λt51 H=>zme t0 t1 t2 t51 t8 H K Kb5)) (K t7 H)
def zsG:=zab .eql false t2 (.int .i64 0) λt10=>zag t10 (zau 1 [.snil] 1 [(0,.snil)] λt11=>K t11 H) (zsJ t0 t1 t2 .snil (.int .i64 1) H K)
def znB:Nat→List Bool|7=>rl false [0,3,4,2,53]|200009=>rl false [0,1]|200010=>rl false [0,1]|_=>[]
noncomputable def zul:=Tryz.f47.body.getD .skip
noncomputable def zS3:=Tryz.f47.results.toList
def znC:=t0::t1::t2::ux 4 (t7::t8::ux 53 [])
def zS2:=znB 7
noncomputable def zS0:=zas [1,1,1,0,1,0,0] zul
def zSZ:=zat tP znB [1,1,1,0,1,0] zul (zaA tP zS3 K)
def zum:=ALoop tP zS0 (zSZ K) (znC t0 t1 t2 t7 t8) H
def zDv(t0 t1 t2 t7 t8:AV)(H:zaa)(K:Kt)(Kb7:Lt):Prop:=zab .add false t8 (.int .i64 1) λt19=>Kb7 (znC t0 t1 t2 t7 t19) H
def znD:=zDv t0 t1 t2 t7 t8 H K Kb7
def zuk:=zab .leq false t8 t2 λt17=>zag t17 (apm H t0 λt20=>apu H (zaM t20) λt21=>apu H (zaf 0 t21) λt22=>apu H (zan false 1 t22 H) λt23=>apm H t1 λt24=>apu H (zai 1 t24 (.int .i64 0)) λt25=>apu H (zan false 1 t25 H) λt26=>apm H t8 λt27=>zbl .w false H (λK'=>ACalls tP zf7 [t23,t26,t27] H K') λt28 H=>zbl .w false H (λK'=>ACalls tP zfr [t28] H K') λt29 H=>apu H (zab .eql false t29 (.int .i64 0)) λt30=>apm H t30 λt31=>zac t31 false H (λK'=>zad H (λK''=>K'' t0 H) (K' · H)) λt32 H=>zac t31 false H (λK'=>zad H (λK''=>zaM t32 (K'' · H)) (K' · H)) λt33 H=>zac t31 false H (λK'=>zad H (λK''=>zaf 0 t33 (K'' · H)) (K' · H)) λt34 H=>zac t31 false H (λK'=>zad H (λK''=>zan false 1 t34 H (K'' · H)) (K' · H)) λt35 H=>zac t31 false H (λK'=>zad H (λK''=>K'' t1 H) (K' · H)) λt36 H=>zac t31 false H (λK'=>zad H (λK''=>za1 1 1 t36 (some (.int .i64 1)) none (K'' · H)) (K' · H)) λt37 H=>zac t31 false H (λK'=>zad H (λK''=>K'' t2 H) (K' · H)) λt38 H=>zac t31 false H (λK'=>zad H (λK''=>K'' t8 H) (K' · H)) λt39 H=>zac t31 false H (λK'=>zad H (λK''=>zab .sub false t38 t39 (K'' · H)) (K' · H)) λt40 H=>zac t31 false H (λK'=>zbl .w false H (λK''=>ACalls tP zhd [t35,t37,t40] H K'') K') λt41 H=>zac t31 false H (λK'=>zbl .w false H (λK''=>ACalls tP zfr [t41] H K'') K') λt42 H=>zac t31 false H (λK'=>zad H (λK''=>zab .eql false t42 (.int .i64 0) (K'' · H)) (K' · H)) λt43 H=>apu H (zak t31 (.bool true) t43) λt44=>zag t44 (znD t0 t1 t2 t7 t8 H K Kb7) (apm H t7 λt45=>apm H t0 λt46=>apm H t1 λt47=>apu H (zai 1 t47 (.int .i64 0)) λt48=>apu H (zan false 1 t48 H) λt49=>apm H t8 λt50=>zbl .w false H (λK'=>ACalls tP zkS [t46,t49,t50] H K') λt51 H=>apm H t0 λt52=>apm H t1 λt53=>zad H (λK'=>za1 1 1 t53 (some (.int .i64 1)) none (K' · H)) λt54=>apm H t2 λt55=>apm H t8 λt56=>apu H (zab .sub false t55 t56) λt57=>zbl .w false H (λK'=>ACalls tP ziw [t52,t54,t57] H K') λt58 H=>zbl .w false H (λK'=>ACalls tP zkR [t51,t58] H K') λt59 H=>zbl .w false H (λK'=>zax zbj 1 24 t45 t59 H K') λt60 H=>apm H t60 λt7=>znD t0 t1 t2 t7 t8 H K Kb7)) (K t7 H)
def zuj:=zah 1 t1 λt10=>zab .eql false t10 (.int .i64 0) λt11=>zag t11 (zab .eql false t2 (.int .i64 0) λt13=>zag t13 (zau 1 [.snil] 1 [(0,.snil)] λt14=>K t14 H) (K .snil H)) (zum t0 t1 t2 .snil (.int .i64 1) H K)
def zdk:Nat→List Bool|23=>rl false [0,3,6,1,85,3,44]|200028=>rl false [0,1]|29=>rl false [0,3,6,1,111,3,18]|9=>rl false [0,3,6,2,4,1,35,3,88]|12=>rl false [0,3,6,2,4,1,1,1,33,3,8,3,77]|_=>[]
noncomputable def zgC:=Tryz.f89.body.getD .skip
noncomputable def zvw:=Tryz.f89.results.toList
def zET:=zaM t0 λt134=>zaf 2 t134 λt135=>zae false 1 t135 H λt136=>zar [(.int .i64 0),(.int .i64 0)] [(0,1),(1,1)] [(0,t1),(1,t2)] λt139=>zdo t136 t139 t9 H λH=>K t9 H
def zfL:=zET t0 t1 t2 t9 H K
def zoC:=t0::t1::t2::ux 6 (t9::ux 85 (t95::t96::t97::ux 44 []))
def zWw:=zdk 23
noncomputable def zWp:=zas [1,1,1,0,1,1,0,1,1,1,1,1,0,1,0,0] zgC
def zWm:=zat tP zdk [1,1,1,0,1,1,0,1,1,1,1,1,0,1,0] zgC (zaA tP zvw K)
def zvt:=ALoop tP zWp (zWm K) (zoC t0 t1 t2 t9 t95 t96 t97) H
def zvp:=zab .lss false t97 t96 λt98=>zag t98 (zai 1 t95 t97 λt99=>zae false 1 t99 H λt100=>zar [(.int .i64 0),(.int .i64 0),.snil] [(0,1),(1,1),(2,1)] [(0,(.int .i64 3)),(1,t100)] λt103=>zau 3 [(.int .i64 0),(.int .i64 0),.snil] 1 [(0,t103)] λt104=>zax zaP 3 40 t9 t104 H λt105 H=>zab .add false t97 (.int .i64 1) λt106=>Kb23 (zoC t0 t1 t2 t105 t95 t96 t106) H) (zfL t0 t1 t2 t9 H K)
def zoD:=t0::t1::t2::ux 6 (t9::ux 111 (t121::t122::t123::ux 18 []))
def zWx:=zdk 29
noncomputable def zWq:=zas [1,1,1,0,1,1,0,1,1,1,1,1,1,1,0,1,0,0] zgC
def zWn:=zat tP zdk [1,1,1,0,1,1,0,1,1,1,1,1,1,1,0,1,0] zgC (zaA tP zvw K)
def zvu:=ALoop tP zWq (zWn K) (zoD t0 t1 t2 t9 t121 t122 t123) H
def zvq:=zab .lss false t123 t122 λt124=>zag t124 (zai 1 t121 t123 λt125=>zae false 1 t125 H λt126=>zar [(.int .i64 0),(.int .i64 0),.snil] [(0,1),(1,1),(2,1)] [(0,(.int .i64 6)),(2,t126)] λt129=>zau 3 [(.int .i64 0),(.int .i64 0),.snil] 1 [(0,t129)] λt130=>zax zaP 3 40 t9 t130 H λt131 H=>zab .add false t123 (.int .i64 1) λt132=>Kb29 (zoD t0 t1 t2 t131 t121 t122 t132) H) (zfL t0 t1 t2 t9 H K)
def zoE:=t0::t1::t2::ux 6 (t9::t10::ux 4 (t15::ux 35 (t51::t52::t53::ux 88 [])))
def zEV:=zdk 9
noncomputable def zvs:=zas [1,1,1,0,1,1,0,1,1,1,1,1,1,1,1,1,1,0,0] zgC
def zES:=zat tP zdk [1,1,1,0,1,1,0,1,1,1,1,1,1,1,1,1,1,0] zgC (zaA tP zvw K)
def zvv:=ALoop tP zvs (zES K) (zoE t0 t1 t2 t9 t10 t15 t51 t52 t53) H
def zoB:=t0::t1::t2::ux 6 (t9::t10::ux 4 (t15::ux 1 (t17::ux 33 (t51::t52::t53::ux 8 (t62::t63::t64::ux 77 [])))))
def zWv:=zdk 12
noncomputable def zWo:=zas [1,1,0,0,1,1,0,0] zvs
def zWl:=zat tP zdk [1,1,0,0,1,1,0] zvs (zbp zEV Kb9 (zES K))
def zEU:=ALoop tP zWo (zWl K Kb9) (zoB t0 t1 t2 t9 t10 t15 t17 t51 t52 t53 t62 t63 t64) H
def zvo(t0 t1 t2 t9 t10 t15 t17 t51 t52 t53 t62 t63 t64:AV)(H:zaa)(K:Kt)(Kb9:Lt)(Kb12:Lt):Prop:=zab .lss false t64 t63 λt65=>zag t65 (zai 1 t62 t64 λt66=>zae false 1 t66 H λt67=>apm H t9 λt68=>apu H (zaf 0 t10) λt69=>apu H (zan false 1 t69 H) λt70=>apu H (zai 1 (zfV 9 t15) t70) λt71=>apu H (zan false 1 t71 H) λt72=>apu H (zaf 0 t17) λt73=>apu H (zan false 1 t73 H) λt74=>apm H t67 λt75=>apu H (zar [(.int .i64 0),(.int .i64 0),.snil] [(0,1),(1,1),(2,1)] [(0,t72),(1,t74),(2,t75)]) λt76=>apu H (zau 3 [(.int .i64 0),(.int .i64 0),.snil] 1 [(0,t76)]) λt77=>zax zaP 3 40 t68 t77 H λt78 H=>apm H t78 λt9=>zab .add false t64 (.int .i64 1) λt79=>Kb12 (zoB t0 t1 t2 t9 t10 t15 t17 t51 t52 t53 t62 t63 t79) H) (zab .add false t53 (.int .i64 1) λt80=>Kb9 (zoE t0 t1 t2 t9 t10 t15 t51 t52 t80) H)
def zvr:=zab .lss false t53 t52 λt54=>zag t54 (zai 2 t51 t53 λt55=>zae true 2 t55 H λt56=>zay [(.int .i64 0),.snil] H λt17 H=>zam 2 t17 t56 H λH=>zaf 1 t17 λt58=>zae false 1 t58 H λt59=>zab .sub false t2 (.int .i64 1) λt61=>ACalls tP ziw [t0,t59,t61] H λt62 H=>zah 1 t62 λt63=>zEU t0 t1 t2 t9 t10 t15 t17 t51 t52 t53 t62 t63 (.int .i64 0) H K Kb9) (zfL t0 t1 t2 t9 H K)
def zjv:=zaM t0 λt22=>zaf 2 t22 λt23=>zae false 1 t23 H λt24=>zar [(.int .i64 0),(.int .i64 0)] [(0,1),(1,1)] [(0,t1),(1,t2)] λt27=>zeC .snil true t24 t27 H λt28=>zaI t28 0 λt29=>zaI t28 1 λt30=>zag t30 (K t29 H) (zaM t0 λt34=>zaf 0 t34 λt35=>zae false 1 t35 H λt36=>zaM t36 λt37=>zaf 3 t37 λt38=>zae false 1 t38 H λt39=>zai 3 t39 t1 λt41=>zae true 3 t41 H λt42=>zay [(.int .i64 0),(.int .i64 0),.snil] H λt10 H=>zam 3 t10 t42 H λH=>zaf 0 t10 λt43=>zae false 1 t43 H λt44=>zab .eql false t44 (.int .i64 3) λt82=>zag t82 (zar [(.int .i64 0),(.int .i64 0),.snil] [(0,1),(1,1),(2,1)] [(0,(.int .i64 1))] λt83=>zau 3 [(.int .i64 0),(.int .i64 0),.snil] 1 [(0,t83)] λt84=>zfL t0 t1 t2 t84 H K) (zab .eql false t44 (.int .i64 2) λt86=>zag t86 (zar [(.int .i64 0),(.int .i64 0),.snil] [(0,1),(1,1),(2,1)] [(0,(.int .i64 2))] λt87=>zar [(.int .i64 0),(.int .i64 0),.snil] [(0,1),(1,1),(2,1)] [(0,(.int .i64 2)),(1,(.int .i64 1))] λt88=>zau 3 [(.int .i64 0),(.int .i64 0),.snil] 2 [(0,t87),(1,t88)] λt89=>zfL t0 t1 t2 t89 H K) (zab .eql false t44 (.int .i64 1) λt91=>zag t91 (zaM t0 λt93=>zaf 1 t93 λt94=>zae false 1 t94 H λt95=>zah 1 t95 λt96=>zvt t0 t1 t2 .snil t95 t96 (.int .i64 0) H K) (zab .eql false t44 (.int .i64 7) λt108=>zag t108 (apm H t0 λt109=>apm H t0 λt110=>apu H (zaM t110) λt111=>apu H (zaf 0 t111) λt112=>apu H (zan false 1 t112 H) λt113=>apu H (zaf 2 t10) λt114=>apu H (zan false 1 t114 H) λt115=>apu H (zai 3 t115 (.int .i64 0)) λt116=>apu H (zan true 3 t116 H) λt117=>zbl .w false H (λK'=>ACalls tP zf8 [t113,t117] H K') λt118 H=>apm H t2 λt119=>apu H (zab .sub false t119 (.int .i64 1)) λt120=>zbl .w false H (λK'=>ACalls tP zki [t109,t118,t120] H K') λt121 H=>apu H (zah 1 t121) λt122=>apm H (.int .i64 0) λt123=>zvu t0 t1 t2 .snil t121 t122 t123 H K) (zar [(.int .i64 0),(.int .i64 0),(.int .i64 0),(.int .i64 0),(.int .i64 0),(.int .i64 0),(.int .i64 0),(.int .i64 0),(.int .i64 0)] [(0,1),(1,1),(2,1),(3,1),(4,1),(5,1),(6,1),(7,1),(8,1)] [(5,(.int .i64 5)),(6,(.int .i64 4)),(8,(.int .i64 7))] λt45=>zay [(.int .i64 0),(.int .i64 0),(.int .i64 0),(.int .i64 0),(.int .i64 0),(.int .i64 0),(.int .i64 0),(.int .i64 0),(.int .i64 0)] H λt15 H=>zam 9 t15 t45 H λH=>zaM t0 λt47=>zaf 0 t47 λt48=>zae false 1 t48 H λt49=>ACalls tP ziB [t49,t1] H λt51 H=>zah 1 t51 λt52=>zvv t0 t1 t2 .snil t10 t15 t51 t52 (.int .i64 0) H K)))))
variable {t0 t1 t2 t5 t7 t8 t9 t10 t11 t12 t15 t16 t17 t18 t51 t52 t53 t62 t63 t64 t95 t96 t97 t121 t122 t123} {H} {K} {Kb3 Kb5 Kb7 Kb9 Kb23 Kb29}
theorem zWh:Lo2 (λt5 t18=>zju t1 t5 t7 t10 t11 t12 t16 t17 t18) (λt5 t18 H Kb6=>zvk t1 t5 t7 t10 t11 t12 t16 t17 t18 H K Kb3 Kb6) t5 t18 H (zEP t1 t5 t7 t10 t11 t12 t16 t17 t18 H K Kb3):=lq2 zgB zWi
theorem zWg:Lo2 (λt5 t12=>zoA t1 t5 t10 t11 t12) (λt5 t12 H Kb3=>zvj t1 t5 t10 t11 t12 H K Kb3) t5 t12 H (zvn t1 t5 t10 t11 t12 H K):=lq2 zgB zEQ
theorem zWj(h:HSc H→zEN t0 t1 H K):ACalls tP zkR [t0,t1] H K:=
 acb zgB Tryz.func88 zvl h
theorem zMJ:Lo2 (λt7 t8=>zmd t0 t1 t2 t7 t8) (λt7 t8 H Kb5=>zsH t0 t1 t2 t7 t8 H K Kb5) t7 t8 H (zsJ t0 t1 t2 t7 t8 H K):=lq2 zmc zMK
theorem zA2(h:HSc H→zsG t0 t1 t2 H K):ACalls tP zki [t0,t1,t2] H K:=
 acb zmc Tryz.func118 zsI h
theorem zS1:Lo2 (λt7 t8=>znC t0 t1 t2 t7 t8) (λt7 t8 H Kb7=>zuk t0 t1 t2 t7 t8 H K Kb7) t7 t8 H (zum t0 t1 t2 t7 t8 H K):=lq2 znB zS2
theorem zDw(h:HSc H→zuj t0 t1 t2 H K):ACalls tP ziw [t0,t1,t2] H K:=
 acb znB Tryz.func47 zul h
theorem zWs:Lo2 (λt9 t97=>zoC t0 t1 t2 t9 t95 t96 t97) (λt9 t97 H Kb23=>zvp t0 t1 t2 t9 t95 t96 t97 H K Kb23) t9 t97 H (zvt t0 t1 t2 t9 t95 t96 t97 H K):=lq2 zdk zWw
theorem zWt:Lo2 (λt9 t123=>zoD t0 t1 t2 t9 t121 t122 t123) (λt9 t123 H Kb29=>zvq t0 t1 t2 t9 t121 t122 t123 H K Kb29) t9 t123 H (zvu t0 t1 t2 t9 t121 t122 t123 H K):=lq2 zdk zWx
theorem zWr:Lo2 (λt9 t64=>zoB t0 t1 t2 t9 t10 t15 t17 t51 t52 t53 t62 t63 t64) (λt9 t64 H Kb12=>zvo t0 t1 t2 t9 t10 t15 t17 t51 t52 t53 t62 t63 t64 H K Kb9 Kb12) t9 t64 H (zEU t0 t1 t2 t9 t10 t15 t17 t51 t52 t53 t62 t63 t64 H K Kb9):=lq2 zdk zWv
theorem zWu:Lo2 (λt9 t53=>zoE t0 t1 t2 t9 t10 t15 t51 t52 t53) (λt9 t53 H Kb9=>zvr t0 t1 t2 t9 t10 t15 t51 t52 t53 H K Kb9) t9 t53 H (zvv t0 t1 t2 t9 t10 t15 t51 t52 t53 H K):=lq2 zdk zEV
theorem zoF(h:HSc H→zjv t0 t1 t2 H K):ACalls tP zkS [t0,t1,t2] H K:=
 acb zdk Tryz.func89 zgC h
end
end Go.Proofs.YtaifokkaaahdoaaGreatDoor
