import Derived.Test.YtaifokkaaahdoaaGreatDoorLH3
import Derived.Test.YtaifokkaaahdoaaGreatDoorKNum
import Derived.Test.YtaifokkaaahdoaaGreatDoorProg
import Derived.KernelRfl
set_option linter.unusedSectionVars false
set_option linter.unusedSimpArgs false
set_option linter.unusedVariables false
set_option maxRecDepth 8000
namespace Go.Proofs.YtaifokkaaahdoaaGreatDoor
open Go Go.Abs
def zeV(data:List Dat)(xs:List Int)(t:VT)(ts:List VT)(n s:Nat):List (List VT):=(List.range s).flatMap λs'=>zbe (vV data xs t (s'+1)) (lsL (vV data xs) ts (n-(s'+1)))
theorem zBU(data:List Dat)(xs:List Int)(t:VT)(ts:List VT)(n s:Nat):zeV data xs t ts n (s+1)=zeV data xs t ts n s++zbe (vV data xs t (s+1)) (lsL (vV data xs) ts (n-(s+1))):=by unfold zeV;rw[List.range_succ,List.flatMap_append];simp
theorem ztD(data:List Dat)(xs:List Int)(t:VT)(ts:List VT)(n:Nat):zeV data xs t ts n n=lsL (vV data xs) (t::ts) n:=rfl
theorem zBT(data:List Dat)(xs:List Int)(t:VT)(ts:List VT)(n:Nat){s s':Nat}(h:s≤s'):(zeV data xs t ts n s).length≤(zeV data xs t ts n s').length:=by unfold zeV;rw[zgt,zgt];exact zkG h _
theorem zB0(l:List ((Int×Int)×AV)):All2 (λp q=>p.1=q.1∧WkA p.2 q.2) l l:=by
 induction l with
 |nil=>trivial
 |cons a l ih=>exact⟨⟨rfl,.refl _⟩,ih⟩
section
variable {data:List Dat} (hD:zaD data=true) (hk:Kpt data) {xs:List Int} (hxs:xs.length≤8) {X:List VT} (hX:X.length≤1000000000000) {Z:BI}
include hD hk hxs hX
theorem zvd{N:Nat}(hN:N≤14)(hV:∀ m,m≤N→zel data xs.length xs X Z m):∀ (ts:List VT) (is:List Nat),ts.length≤1000→∀ (n:Nat) (B:BS),n≤N→InvB data xs.length xs X B→IdxOk B.s.types ts is→(∀ (p:Nat) (h:p<ts.length),Rch data X (n-p) ts[p])→cL (cV data xs.length) ts n≤2000 →
  ∃B',InvB data xs.length xs X B'∧B.s.types <+: B'.s.types∧zgd data xs.length xs Z B B' is n (lsL (vV data xs) ts n):=by
 intro ts;induction ts with
 |nil=>
  intro is htl n B hn hB hix hR hl;have his:is=[]:=List.eq_nil_of_length_eq_zero (by simpa using hix.len);subst his;refine⟨B,hB,List.prefix_rfl,λH hS h0 K hK=>?_⟩;refine ACalls.out (zz1 λhs=>?_);rw[hS.self]at hK;simp[zsk];rw[lsL]at hK;by_cases h:n=0
  ·subst h;simp at hK ⊢;simp[zas,zbh,plain,AV.pd];exact Out.at (J:=[]) (by simp) (Nat.le_refl _) hs (.atom (.sl _ _)) rfl rfl hK
  ·rw[if_neg h]at hK;have hb:((n:Int) == 0)=false:=by simp;omega
   simp[hb];exact Out.at (J:=[]) (by simp) (Nat.le_refl _) hs (.atom .snil) rfl rfl hK
 |cons t ts ih0=>
  intro is htl n B hn hB hix hR hl;obtain⟨i,is,rfl⟩:∃i is',is=i::is':=by
   cases is with
   |nil=>have:=hix.len;simp at this
   |cons i is=>exact⟨i,is,rfl⟩
  have htl':ts.length≤1000:=by simp at htl;omega
  obtain⟨σ,hσ0,hσI,hσR⟩:=zDY hD hk hxs hX (show n≤14 by omega) (λm hm=>hV m (by omega)) htl' (λm B hm=>ih0 is htl' m B (by omega)) hB hix hR hl;have hlast:=hσI n (Nat.le_refl _);refine⟨σ n,hlast.1,hlast.2,λH hS h0 K hK=>?_⟩;refine ACalls.out (zz1 λhs=>?_);have hlt0:0<H.length:=(List.getElem?_eq_some_iff.1 h0).1;have lbp:=(List.getElem?_eq_some_iff.1 hS.bpa).1;have hall:=zhJ hD hk hxs hX (t::ts) n;simp[zsk];have hlen:(((is.length:Int)+1) == 0)=false:=by simp;omega
  refine ALoop.own 7 zbj 1 rfl ?_;obtain⟨L,hL⟩:∃L,L=H.length:=⟨_,rfl⟩;obtain⟨acc,hacc⟩:∃acc:Nat→List (List VT),acc=zeV data xs t ts n:=⟨_,rfl⟩;have hac0:acc 0=[]:=by rw[hacc];rfl
  have hle:∀s,s≤n→(acc s).length≤2000:=λs hs=>by have:=zBT data xs t ts n hs;rw[ztD,hall]at this;rw[hacc];omega
  obtain⟨G,hG⟩:∃G:BS→Nat→zaa,G=λB' k=>shB data xs.length Z B' H++[.perm zbj 1 k]:=⟨_,rfl⟩;have hGl:∀B' k,(G B' k).length=L+1:=λB' k=>by rw[hG,hL];simp
  have hGs:∀B' k,HSc (G B' k):=λB' k=>by rw[hG];exact(hS.scs hs).snoc rfl
  have hGS:∀B' k,zaZ data xs.length X B'.s→ShB data xs.length xs Z B' (G B' k):=λB' k hB'=>by rw[hG];exact(hS.next hB'.ml hB'.cl).app
  have hG0:∀B' k,(G B' k)[0]?=some .nodr:=λB' k=>by rw[hG];simp only;rw[List.getElem?_append_left (by simpa using hlt0)];exact hS.nodr h0
  have hGm:∀B' B'' k,zaZ data xs.length X B'.s→shB data xs.length Z B'' (G B' k)=G B'' k:=λB' B'' k hB'=>by rw[hG];simp only;rw[(hS.next hB'.ml hB'.cl).shB_app,hS.shB_shB]
  have hGn:∀B' S' k,zaZ data xs.length X B'.s→shS data xs.length Z.i S' (G B' k)=G ⟨S',B'.m⟩ k:=λB' S' k hB'=>by rw[(hGS B' k hB').shS_eq,hGm _ _ _ hB']
  have hGp:∀B' k,(G B' k)[L]?=some (.perm zbj 1 k):=λB' k=>by rw[hG,hL];simp
  have hGset:∀B' k k',(G B' k).set L (.perm zbj 1 k')=G B' k':=λB' k k'=>by rw[hG,hL];simp only;rw[List.set_append_right _ _ (by simp)];simp
  rw[←hL];show zsn (.ptr Z.bp 0) (.sl (za6 (i::is)) .none) (.int .i64 n) (.sl [] (.own L)) (.int .i64 1) (H++[.perm zbj 1 0]) _;refine zNq (Inv:=λq t7 t8 H'=>∃s s1:Nat,s1=s+1∧s≤n∧n-s=q∧t8=.int .i64 s1∧t7=.sl (llA (acc s)) (.own L)∧H'=G (σ s) (acc s).length) n ?_ ?_
  ·intro _;refine⟨0,1,rfl,by omega,rfl,rfl,by rw[hac0];rfl,?_⟩;rw[hac0,hσ0,hG];simp only;rw[hS.self];rfl
  ·rintro q t7 t8 H' ⟨s,s1,hs1,hsn,rfl,rfl,rfl,rfl⟩ hsc7 hlen7 hsF7 Kb7 hKb7;have hIs:=hσI s hsn;by_cases hlt:s<n
   ·have hle1:s1≤n:=by omega
    obtain⟨o1,S1,c1,v1,I1,hrest⟩:=hσR s hlt;rw[←hs1]at c1 v1;have hj:acc (s+1)=acc s++zbe (vV data xs t s1) (lsL (vV data xs) ts (n-s1)):=by rw[hacc,zBU,hs1]
    have fin:∀(a:AV),a=.sl (llA (acc (s+1))) (.own L)→zmK (.ptr Z.bp 0) (.sl (za6 (i::is)) .none) (.int .i64 n) a (.int .i64 s1) (G (σ (s+1)) (acc (s+1)).length) (Out L K) Kb7:=by rintro a rfl;unfold zmK zz0;simp;rw[wr (by omega)];refine hKb7 _ _ ⟨n-(s+1),by omega,Back.here (by rw[hGl];simp[hL]) (hGs _ _) ?_ ⟨_,_,rfl,s+1,s1+1,by omega,by omega,rfl,rfl,rfl,rfl⟩⟩;rw[hGl];simp[zmJ,ux,AV.sc,AV.scA,AV.scB,AV.scV];omega
    have g0:∀h:0<(za6 (i::is)).length,(za6 (i::is))[0]'h=[AV.int .i64 (i:Nat)]:=λh=>by simp[za6]
    simp[zsl,hle1,(hGS _ _ hIs.1.s).bpa,g0];have b1:vO o1<1000000000 ^ 30:=by rw[v1];exact zhp hk hxs t (by omega)
    refine zcF (.agg (zal o1)) (G ⟨S1,(σ s).m⟩ (acc s).length) (c1 _ (hGS _ _ hIs.1.s).sh (hG0 _ _) _ ⟨rfl,hGn _ _ _ hIs.1.s⟩) ?_;refine zcF (.int .i64 (if vO o1=0 then 0 else 1)) _ (zhe o1 b1 _ _ ⟨rfl,rfl⟩) ?_;rcases hrest with ⟨e1,hst⟩|⟨e1,o2,S2,c2,v2,I2,hrest⟩
    ·simp[e1];have:acc s=acc (s+1):=by rw[hj,zxk hD hk hxs hX (by rw[←v1];exact e1)];simp[zbe]
     rw[←hst,this];exact fin _ rfl
    ·have hB1:=hGS ⟨S1,(σ s).m⟩ (acc s).length I1;have htail:(List.take (is.length+1) (za6 (i::is))).tail=za6 is:=by rw[List.take_of_length_le (by simp)];rfl
     have hone:∀c∈za6 (i::is),c.length=1:=by simp[za6]
     have hw:IntKind.i64.wrap ((n:Int)-(s1:Int))=((n-s1:Nat):Int):=by rw[zav (by omega) (by omega)];omega
     simp[e1,hB1.bpa,htail,hw];refine⟨hone,?_⟩;rw[←hs1]at c2 v2;have b2:vO o2<1000000000 ^ 30:=by rw[v2];exact znV hk hxs ts (by omega)
     refine zcF (.agg (zal o2)) (G ⟨S2,(σ s).m⟩ (acc s).length) (c2 _ hB1.sh (hG0 _ _) _ ⟨rfl,hGn _ _ _ I1⟩) ?_;refine zcF (.int .i64 (if vO o2=0 then 0 else 1)) _ (zhe o2 b2 _ _ ⟨rfl,rfl⟩) ?_;rcases hrest with ⟨e2,hst⟩|⟨e2,B3,c3,I3,c4⟩
     ·simp[e2];have hnil:lsL (vV data xs) ts (n-s1)=[]:=List.eq_nil_of_length_eq_zero (by rw[zhJ hD hk hxs hX,←v2,e2]);have:acc s=acc (s+1):=by rw[hj,hnil,zu6];simp
      rw[←hst,this];exact fin _ rfl
     ·simp[e2];have c4':zgd data xs.length xs Z B3 (σ (s+1)) is (n-s1) (lsL (vV data xs) ts (n-s1)):=by rw[hs1];exact c4
      rw[←hs1]at c3;have hB2:=hGS ⟨S2,(σ s).m⟩ (acc s).length I2;have hB3:=hGS B3 (acc s).length I3.s;refine zcF (.sl (VT.css (vV data xs t s1)) .none) (G B3 (acc s).length) (c3 _ hB2 (hG0 _ _) _ ⟨rfl,hGm _ _ _ I2⟩) ?_;refine⟨hone,?_⟩;refine zcF (.sl (llA (lsL (vV data xs) ts (n-s1))) .none) (G (σ (s+1)) (acc s).length) (c4' _ hB3 (hG0 _ _) _ ⟨rfl,hGm _ _ _ I3.s⟩) ?_;have hjl:=congrArg List.length hj;rw[List.length_append,zfH]at hjl;have hl1:=hle (s+1) (by omega);have la:(vV data xs t s1).length=vO o1:=by rw[zeL,v1]
      have lb:(lsL (vV data xs) ts (n-s1)).length=vO o2:=by rw[zhJ hD hk hxs hX,v2]
      have hprod:(vV data xs t s1).length*(lsL (vV data xs) ts (n-s1)).length≤2000:=by omega
      have la2:(vV data xs t s1).length≤2000:=Nat.le_trans (Nat.le_mul_of_pos_right _ (by omega)) hprod;have lb2:(lsL (vV data xs) ts (n-s1)).length≤2000:=Nat.le_trans (Nat.le_mul_of_pos_left _ (by omega)) hprod;refine zcF (.sl (llA (zbe (vV data xs t s1) (lsL (vV data xs) ts (n-s1)))) .none) _ (zA6 _ _ (by omega) (by omega) (λr hr=>by rw[zvi ts _ r hr];omega) _ _ ⟨rfl,rfl⟩) ?_;refine zcF (.sl (llA (acc (s+1))) (.own L)) (G (σ (s+1)) (acc (s+1)).length) ?_ (fin _ rfl);simp only[zax,zbc,za2,zgv,zfH];refine⟨by simp[llA],hGp _ _,⟨by omega,by omega⟩,?_,?_⟩
      ·rw[hj,zoB]
      ·rw[hGset,hjl]
   ·obtain rfl:s=n:=by omega
    have hgt:¬s1≤s:=by omega
    simp[zsl,hgt];have hfin:acc s=lsL (vV data xs) (t::ts) s:=by rw[hacc,ztD]
    rw[hfin,hG];exact Out.at rfl (by simp[hL]) (hS.scs hs) (.atom (.sl _ _)) rfl rfl hK
end
theorem zB9{g:Nat→List VT}:∀(n:Nat),∀r∈arL g n,r.length≤n:=by
 intro n;induction n using Nat.strongRecOn with
 |ind n ih=>
  intro r h;cases n with
  |zero=>rw[znP]at h;simp at h;subst h;exact Nat.le_refl _
  |succ n=>rw[zjj]at h;obtain⟨s,_,h⟩:=List.mem_flatMap.1 h;unfold zbe at h;obtain⟨v,_,h⟩:=List.mem_flatMap.1 h;obtain⟨r',hr',rfl⟩:=List.mem_map.1 h;have:=ih _ (by omega) r' hr';rw[List.length_cons];omega
def zfx(data:List Dat)(xs:List Int)(t:VT)(n s:Nat):List (List VT):=(List.range s).flatMap λs'=>zbe (vV data xs t (s'+1)) (arL (vV data xs t) (n-(s'+1)))
theorem zBS(data:List Dat)(xs:List Int)(t:VT)(n s:Nat):zfx data xs t n (s+1)=zfx data xs t n s++zbe (vV data xs t (s+1)) (arL (vV data xs t) (n-(s+1))):=by unfold zfx;rw[List.range_succ,List.flatMap_append];simp
theorem zBR(data:List Dat)(xs:List Int)(t:VT)(n:Nat){s s':Nat}(h:s≤s'):(zfx data xs t n s).length≤(zfx data xs t n s').length:=by unfold zfx;rw[zgt,zgt];exact zkG h _
def zBr(data:List Dat)(kk:Nat)(I:SI)(S S':SS)(i n:Nat)(o:Option Nat):Prop:=∀H,ShS data kk I S H→H[0]?=some .nodr→∀K:Kt,K (.agg (zal o)) (shS data kk I S' H)→ACalls tP zh5 [.ptr I.p 0,.int .i64 i,.int .i64 n] H K
def RLA(data:List Dat)(xs:List Int)(X:List VT)(Z:BI)(t:VT)(i n s:Nat)(B B':BS):Prop:=
 ∃ o1 S1,zej data xs.length Z.i B.s S1 i (s+1) o1∧vO o1=cV data xs.length t (s+1)∧zaZ data xs.length X S1 ∧
  ((vO o1=0∧B'=⟨S1,B.m⟩)∨(vO o1≠0∧∃ o2 S2,zBr data xs.length Z.i S1 S2 i (n-(s+1)) o2∧vO o2=cA (cV data xs.length t) (n-(s+1))∧zaZ data xs.length X S2 ∧
    ((vO o2=0∧B'=⟨S2,B.m⟩)∨(vO o2≠0∧∃B3,zfq data xs.length xs Z ⟨S2,B.m⟩ B3 i (s+1) (vV data xs t (s+1))∧InvB data xs.length xs X B3∧zja data xs.length xs Z B3 B' i (n-(s+1)) (arL (vV data xs t) (n-(s+1)))))))
section
variable {data:List Dat} (hD:zaD data=true) (hk:Kpt data) {xs:List Int} (hxs:xs.length≤8) {X:List VT} (hX:X.length≤1000000000000) {Z:BI}
include hD hk hxs hX
theorem zjk(t:VT)(n:Nat):(arL (vV data xs t) n).length=cA (cV data xs.length t) n:=
 ztN (zb2 data xs.length t) n λs _=>zeL data xs s t
theorem zCe{n:Nat}(hn:n≤14)(hV:∀ m,m≤n→zel data xs.length xs X Z m){t:VT}{i:Nat}(ih:∀ (m:Nat) (B:BS),m<n→InvB data xs.length xs X B→B.s.types[i]?=some t→Rch data X m t→cA (cV data xs.length t) m≤2000→∃ B',InvB data xs.length xs X B'∧B.s.types <+: B'.s.types∧zja data xs.length xs Z B B' i m (arL (vV data xs t) m)){B:BS}(hB:InvB data xs.length xs X B)(hti:B.s.types[i]?=some t)(hR:Rch data X n t)(hl:cA (cV data xs.length t) n≤2000):
  ∃ σ:Nat→BS,σ 0=B∧(∀s≤n,InvB data xs.length xs X (σ s)∧B.s.types <+: (σ s).s.types)∧∀s<n,RLA data xs X Z t i n s (σ s) (σ (s+1)):=by
 have hC:∀m,m≤n→zcD data xs.length X Z.i m:=λm hm=>zn1 hD hk hxs hX m (by omega);refine zdY (λs (B':BS)=>InvB data xs.length xs X B'∧B.s.types <+: B'.s.types) (λs B B'=>RLA data xs X Z t i n s B B') n (λs hs B1 hB1=>?_) _ ⟨hB,List.prefix_rfl⟩;obtain⟨h1,h2⟩:=hB1;obtain⟨S1,o1,k1,k2,k3,k4⟩:=hC (s+1) (by omega) B1.s i t h1.s (zc6 h2 hti) (hR.le _ (by omega));by_cases e1:vO o1=0
 ·exact⟨⟨S1,B1.m⟩,⟨o1,S1,k4,k3,k1,.inl ⟨e1,rfl⟩⟩,InvB.mk' hD hk hxs hX h1 k1 k2,h2.trans k2⟩
 ·obtain⟨S2,o2,j1,j2,j3,j4⟩:=zwy hD hk hxs hX (show n-(s+1)≤14 by omega) (λm hm=>hC m (by omega)) k1 (zc6 (h2.trans k2) hti) (hR.le _ (by omega));by_cases e2:vO o2=0
  ·exact⟨⟨S2,B1.m⟩,⟨o1,S1,k4,k3,k1,.inr ⟨e1,o2,S2,j4,j3,j1,.inl ⟨e2,rfl⟩⟩⟩,InvB.mk' hD hk hxs hX h1 j1 (k2.trans j2),h2.trans (k2.trans j2)⟩
  ·have hterm:cV data xs.length t (s+1)*cA (cV data xs.length t) (n-(s+1))≤2000:=by obtain⟨m,rfl⟩:∃ m,n=m+1:=⟨n-1,by omega⟩;rw[zjo (zb2 data xs.length t)]at hl;exact Nat.le_trans (zwD (f:=λs=>cV data xs.length t s*cA (cV data xs.length t) (m+1-s)) (show s+1<m+2 by omega)) hl
   rw[k3]at e1;rw[j3]at e2;have c1:cV data xs.length t (s+1)≤2000:=Nat.le_trans (Nat.le_mul_of_pos_right _ (by omega)) hterm;have c2:cA (cV data xs.length t) (n-(s+1))≤2000:=Nat.le_trans (Nat.le_mul_of_pos_left _ (by omega)) hterm;have hB2:=InvB.mk' hD hk hxs hX h1 j1 (k2.trans j2);obtain⟨B3,v1,v2,v3⟩:=hV (s+1) (by omega) ⟨S2,B1.m⟩ i t hB2 (zc6 (h2.trans (k2.trans j2)) hti) (hR.le _ (by omega)) e1 c1;obtain⟨B4,w1,w2,w3⟩:=ih (n-(s+1)) B3 (by omega) v1 (zc6 (h2.trans (k2.trans (j2.trans v2))) hti) (hR.le _ (by omega)) c2;exact⟨B4,⟨o1,S1,k4,k3,k1,.inr ⟨by rw[k3];exact e1,o2,S2,j4,j3,j1,.inr ⟨by rw[j3];exact e2,B3,v3,v1,w3⟩⟩⟩,w1,h2.trans (k2.trans (j2.trans (v2.trans w2)))⟩
theorem zCd{N:Nat}(hN:N≤14)(hV:∀ m,m≤N→zel data xs.length xs X Z m){t:VT}{i:Nat}:∀ (n:Nat) (B:BS),n≤N→InvB data xs.length xs X B→B.s.types[i]?=some t→Rch data X n t→cA (cV data xs.length t) n≤2000 →
  ∃B',InvB data xs.length xs X B'∧B.s.types <+: B'.s.types∧zja data xs.length xs Z B B' i n (arL (vV data xs t) n):=by
 intro n;induction n using Nat.strongRecOn with
 |ind n ih0=>
  intro B hn hB hti hR hl;by_cases hz:n=0
  ·subst hz;refine⟨B,hB,List.prefix_rfl,λH hS h0 K hK=>?_⟩;refine ACalls.out (zxN λhs=>?_);rw[hS.self]at hK;simp[zqK];simp[zas,zbh,plain,AV.pd];exact Out.at (J:=[]) (by simp) (Nat.le_refl _) hs (.atom (.sl _ _)) rfl rfl hK
  ·obtain⟨σ,hσ0,hσI,hσR⟩:=zCe hD hk hxs hX (show n≤14 by omega) (λm hm=>hV m (by omega)) (λm B hm=>ih0 m hm B (by omega)) hB hti hR hl;have hlast:=hσI n (Nat.le_refl _);refine⟨σ n,hlast.1,hlast.2,λH hS h0 K hK=>?_⟩;refine ACalls.out (zxN λhs=>?_);have hlt0:0<H.length:=(List.getElem?_eq_some_iff.1 h0).1;have lbp:=(List.getElem?_eq_some_iff.1 hS.bpa).1;have hall:=zjk hD hk hxs hX t n;have hb:((n:Int) == 0)=false:=by simp;omega
   simp[zqK,hb];refine ALoop.own 7 zbj 1 rfl ?_;obtain⟨L,hL⟩:∃L,L=H.length:=⟨_,rfl⟩;obtain⟨acc,hacc⟩:∃acc:Nat→List (List VT),acc=zfx data xs t n:=⟨_,rfl⟩;have hac0:acc 0=[]:=by rw[hacc];rfl
   have haccn:acc n=arL (vV data xs t) n:=by rw[hacc];obtain⟨m,rfl⟩:∃m,n=m+1:=⟨n-1,by omega⟩;rw[zjj];rfl
   have hle:∀s,s≤n→(acc s).length≤2000:=λs hs=>by have:=zBR data xs t n hs;rw[←hacc,haccn,hall]at this;omega
   obtain⟨G,hG⟩:∃G:BS→Nat→zaa,G=λB' k=>shB data xs.length Z B' H++[.perm zbj 1 k]:=⟨_,rfl⟩;have hGl:∀B' k,(G B' k).length=L+1:=λB' k=>by rw[hG,hL];simp
   have hGs:∀B' k,HSc (G B' k):=λB' k=>by rw[hG];exact(hS.scs hs).snoc rfl
   have hGS:∀B' k,zaZ data xs.length X B'.s→ShB data xs.length xs Z B' (G B' k):=λB' k hB'=>by rw[hG];exact(hS.next hB'.ml hB'.cl).app
   have hG0:∀B' k,(G B' k)[0]?=some .nodr:=λB' k=>by rw[hG];simp only;rw[List.getElem?_append_left (by simpa using hlt0)];exact hS.nodr h0
   have hGm:∀B' B'' k,zaZ data xs.length X B'.s→shB data xs.length Z B'' (G B' k)=G B'' k:=λB' B'' k hB'=>by rw[hG];simp only;rw[(hS.next hB'.ml hB'.cl).shB_app,hS.shB_shB]
   have hGn:∀B' S' k,zaZ data xs.length X B'.s→shS data xs.length Z.i S' (G B' k)=G ⟨S',B'.m⟩ k:=λB' S' k hB'=>by rw[(hGS B' k hB').shS_eq,hGm _ _ _ hB']
   have hGp:∀B' k,(G B' k)[L]?=some (.perm zbj 1 k):=λB' k=>by rw[hG,hL];simp
   have hGset:∀B' k k',(G B' k).set L (.perm zbj 1 k')=G B' k':=λB' k k'=>by rw[hG,hL];simp only;rw[List.set_append_right _ _ (by simp)];simp
   rw[←hL];show zqN (.ptr Z.bp 0) (.int .i64 i) (.int .i64 n) (.sl [] (.own L)) (.int .i64 1) (H++[.perm zbj 1 0]) _;refine zIc (Inv:=λq t7 t8 H'=>∃s s1:Nat,s1=s+1∧s≤n∧n-s=q∧t8=.int .i64 s1∧t7=.sl (llA (acc s)) (.own L)∧H'=G (σ s) (acc s).length) n ?_ ?_
   ·intro _;refine⟨0,1,rfl,by omega,rfl,rfl,by rw[hac0];rfl,?_⟩;rw[hac0,hσ0,hG];simp only;rw[hS.self];rfl
   ·rintro q t7 t8 H' ⟨s,s1,hs1,hsn,rfl,rfl,rfl,rfl⟩ hsc7 hlen7 hsF7 Kb7 hKb7;have hIs:=hσI s hsn;by_cases hlt:s<n
    ·have hle1:s1≤n:=by omega
     obtain⟨o1,S1,c1,v1,I1,hrest⟩:=hσR s hlt;rw[←hs1]at c1 v1;have hj:acc (s+1)=acc s++zbe (vV data xs t s1) (arL (vV data xs t) (n-s1)):=by rw[hacc,zBS,hs1]
     have fin:∀(a:AV),a=.sl (llA (acc (s+1))) (.own L)→zlv (.ptr Z.bp 0) (.int .i64 i) (.int .i64 n) a (.int .i64 s1) (G (σ (s+1)) (acc (s+1)).length) (Out L K) Kb7:=by rintro a rfl;unfold zlv zxM;simp;rw[wr (by omega)];refine hKb7 _ _ ⟨n-(s+1),by omega,Back.here (by rw[hGl];simp[hL]) (hGs _ _) ?_ ⟨_,_,rfl,s+1,s1+1,by omega,by omega,rfl,rfl,rfl,rfl⟩⟩;rw[hGl];simp[zlu,ux,AV.sc,AV.scA,AV.scB,AV.scV];omega
     simp[zqL,hle1,(hGS _ _ hIs.1.s).bpa];have b1:vO o1<1000000000 ^ 30:=by rw[v1];exact zhp hk hxs t (by omega)
     refine c1 _ (hGS _ _ hIs.1.s).sh (hG0 _ _) _ ?_;rw[hGn _ _ _ hIs.1.s];refine zhe o1 b1 _ _ ?_;rcases hrest with ⟨e1,hst⟩|⟨e1,o2,S2,c2,v2,I2,hrest⟩
     ·simp[e1];have:acc s=acc (s+1):=by rw[hj,zxk hD hk hxs hX (by rw[←v1];exact e1)];simp[zbe]
      rw[←hst,this];exact fin _ rfl
     ·have hB1:=hGS ⟨S1,(σ s).m⟩ (acc s).length I1;have hw:IntKind.i64.wrap ((n:Int)-(s1:Int))=((n-s1:Nat):Int):=by rw[zav (by omega) (by omega)];omega
      simp[e1,hB1.bpa,hw];rw[←hs1]at c2 v2;have b2:vO o2<1000000000 ^ 30:=by rw[v2];exact zt0 hk hxs t (by omega)
      refine c2 _ hB1.sh (hG0 _ _) _ ?_;rw[hGn _ _ _ I1];refine zhe o2 b2 _ _ ?_;rcases hrest with ⟨e2,hst⟩|⟨e2,B3,c3,I3,c4⟩
      ·simp[e2];have hnil:arL (vV data xs t) (n-s1)=[]:=List.eq_nil_of_length_eq_zero (by rw[zjk hD hk hxs hX,←v2,e2]);have:acc s=acc (s+1):=by rw[hj,hnil,zu6];simp
       rw[←hst,this];exact fin _ rfl
      ·simp[e2];have c4':zja data xs.length xs Z B3 (σ (s+1)) i (n-s1) (arL (vV data xs t) (n-s1)):=by rw[hs1];exact c4
       rw[←hs1]at c3;have hB2:=hGS ⟨S2,(σ s).m⟩ (acc s).length I2;have hB3:=hGS B3 (acc s).length I3.s;refine c3 _ hB2 (hG0 _ _) _ ?_;rw[hGm _ _ _ I2];refine c4' _ hB3 (hG0 _ _) _ ?_;rw[hGm _ _ _ I3.s];have hjl:=congrArg List.length hj;rw[List.length_append,zfH]at hjl;have hl1:=hle (s+1) (by omega);have la:(vV data xs t s1).length=vO o1:=by rw[zeL,v1]
       have lb:(arL (vV data xs t) (n-s1)).length=vO o2:=by rw[zjk hD hk hxs hX,v2]
       have hprod:(vV data xs t s1).length*(arL (vV data xs t) (n-s1)).length≤2000:=by omega
       have la2:(vV data xs t s1).length≤2000:=Nat.le_trans (Nat.le_mul_of_pos_right _ (by omega)) hprod;have lb2:(arL (vV data xs t) (n-s1)).length≤2000:=Nat.le_trans (Nat.le_mul_of_pos_left _ (by omega)) hprod;refine zA6 _ _ (by omega) (by omega) (λr hr=>by have:=zB9 _ r hr;omega) _ _ ?_;simp only[zax,zbc,za2,zgv,zfH];refine⟨by simp[llA],hGp _ _,⟨by omega,by omega⟩,?_⟩;rw[hGset,←hjl];exact fin _ (by rw[hj,zoB])
    ·obtain rfl:s=n:=by omega
     have hgt:¬s1≤s:=by omega
     simp[zqL,hgt];rw[haccn,hG];exact Out.at rfl (by simp[hL]) (hS.scs hs) (.atom (.sl _ _)) rfl rfl hK
end
def zfa:List ((Int × Int) × List VT)→Int × Int→List VT→List ((Int × Int) × List VT)
 |[],s,x=>[(s,x)]
 | p::l,s,x=>match p.1 == s with
  |true=>(s,x)::l
  |false=>p::zfa l s x
def zdF:List ((Int × Int) × List VT)→Int × Int→Option (List VT)
 |[],_=>none
 | p::l,s=>match p.1 == s with
  |true=>some p.2
  |false=>zdF l s
theorem zv9(s:Int × Int)(x:List VT)(tk:Tok):∀ l:List ((Int × Int) × List VT),All2 (λp q=>p.1=q.1∧WkA p.2 q.2) (zcG (zdI l) s (.sl (VT.css x) tk)) (zdI (zfa l s x))
 |[]=>⟨⟨rfl,.sl _ _⟩,trivial⟩
 |p::l=>by
  have ih:=zv9 s x tk l;unfold zdI at ih ⊢;rw[List.map_cons,zcG,zfa];simp only;cases p.1 == s with
  |true=>exact⟨⟨rfl,.sl _ _⟩,zB0 _⟩
  |false=>exact⟨⟨rfl,.refl _⟩,ih⟩
theorem zhA(s:Int × Int):∀ l:List ((Int × Int) × List VT),zb9 (zdI l) s=(zdF l s).map λo=>.sl (VT.css o) .none
 |[]=>rfl
 |p::l=>by
  have ih:=zhA s l;unfold zdI at ih ⊢;rw[List.map_cons,zb9,zdF];simp only;cases p.1 == s with
  |true=>rfl
  |false=>exact ih
theorem zuG{s:Int × Int}{o:List VT}:∀ {l:List ((Int × Int) × List VT)},zdF l s=some o→(s,o)∈l
 |[],h=>by cases h
 |p::l,h=>by
  rw[zdF]at h;cases hb:p.1 == s with
  |true=>rw[hb]at h;simp at h hb;subst h hb;simp
  |false=>rw[hb]at h;exact List.mem_cons_of_mem _ (zuG h)
theorem zwa{s:Int × Int}{o:List VT}{e:(Int × Int) × List VT}:∀ {l:List ((Int × Int) × List VT)},e∈zfa l s o→e=(s,o)∨e∈l
 |[],h=>by simp[zfa]at h;exact .inl h
 |p::l,h=>by
  rw[zfa]at h;cases hb:p.1 == s with
  |true=>
   rw[hb]at h;rcases List.mem_cons.1 h with h|h
   ·exact .inl h
   ·exact .inr (List.mem_cons_of_mem _ h)
  |false=>
   rw[hb]at h;rcases List.mem_cons.1 h with rfl|h
   ·exact .inr (by simp)
   ·rcases zwa h with h | h
    ·exact .inl h
    ·exact .inr (List.mem_cons_of_mem _ h)
theorem zji{id k:Nat}{l:List VT}{v:VT}{tk:Tok}{H:zaa}{K:Kt}(hk:k=l.length)(h:H[id]?=some (.perm zaO 3 k))(hl:k≤1000000)(hK:K (.sl (VT.css (l++[v])) (.own id)) (H.set id (.perm zaO 3 (k+1)))):
  zax zaO 3 40 (.sl (VT.css l) (.own id)) (.sl [v.cs] tk) H K:=by
 subst hk;simp only[zax,zbc,za2,VT.css_len,List.length_cons,List.length_nil];refine⟨by simp,h,⟨by omega,by omega⟩,?_⟩;have:VT.css l++[v.cs]=VT.css (l++[v]):=by simp[VT.css_map]
 rw[this];exact hK
def zeA(B:BS)(k:Int×Int)(l:List VT):BS:=⟨B.s,zfa B.m k l⟩
section
variable {data:List Dat} {xs:List Int} {X:List VT} {Z:BI}
theorem zpB{B:BS}(h:InvB data xs.length xs X B){i m:Nat}{t:VT}(ht:B.s.types[i]?=some t):InvB data xs.length xs X (zeA B ((i:Int),(m:Int)) (vV data xs t m)):=
 ⟨h.s,λe he=>by
  rcases zwa he with rfl|he
  ·exact⟨i,m,t,rfl,ht,rfl⟩
  ·exact h.m e he⟩
theorem zqh{T:BS}{H J:zaa}(hT:ShB data xs.length xs Z T H)(hs:HSc H){i m:Nat}{l:List VT}{tk:Tok}{n0:Nat}(hn:n0=H.length){K:Kt}(hK:K (.sl (VT.css l) .none) (shB data xs.length Z (zeA T ((i:Int),(m:Int)) l) H)):
  zfp (.ptr Z.bp 0) (.int .i64 i) (.int .i64 m) (.sl (VT.css l) tk) (H++J) (zeS n0 K):=by
 subst hn;have lbm:=(List.getElem?_eq_some_iff.1 hT.bma).1;have hbp:=(hT.app (J:=J)).bpa;have hbm:=(hT.app (J:=J)).bma;unfold zfp zA8;simp[hbp,hbm,zao,zaM,AV.known];rw[List.set_append_left _ _ lbm];refine⟨.sl (VT.css l) .none,_,shB data xs.length Z (zeA T ((i:Int),(m:Int)) l) H,J,rfl,by simp,?_,by simp,hT.scs hs,.one (.wk (.atom (.sl _ _)) rfl rfl),hK⟩;have hset:shB data xs.length Z (zeA T ((i:Int),(m:Int)) l) H=H.set Z.bm (.mapP (zdI (zfa T.m ((i:Int),(m:Int)) l))):=by unfold shB zeA;simp only;rw[hT.sh.self]
 rw[hset];intro x a b ha hb;by_cases e:Z.bm=x
 ·subst e;rw[List.getElem?_set_self lbm]at ha hb;cases ha;cases hb;exact .mapP (zv9 _ _ _ _)
 ·rw[List.getElem?_set_ne e]at ha hb;rw[ha]at hb;cases hb;exact .refl _
end
section
variable {data:List Dat} (hD:zaD data=true) (hk:Kpt data) {xs:List Int} (hxs:xs.length≤8) {X:List VT} (hX:X.length≤1000000000000) {Z:BI}
include hD hk hxs hX
theorem zGG{n:Nat}{B:BS}{i:Nat}{t:VT}(hB:InvB data xs.length xs X B)(hti:B.s.types[i]?=some t){l:List VT}(hg:zdF B.m ((i:Int),(n:Int))=some l):
  zfq data xs.length xs Z B B i n (vV data xs t n):=by
 have hl:l=vV data xs t n:=by
  obtain⟨i',m',t',h1,h2,h3⟩:=hB.m _ (zuG hg);simp only[Prod.mk.injEq]at h1;obtain⟨e1,e2⟩:=h1;have e1':i=i':=by omega
  have e2':n=m':=by omega
  subst e1' e2';rw[hti]at h2;cases h2;exact h3
 subst hl;intro H hS h0 K hK;refine ACalls.out (zno λhs=>?_);rw[hS.self]at hK;simp[zi7,hS.bpa,hS.bma,zao,zaM,AV.known,zhA,hg];exact Out.at (J:=[]) (by simp) (Nat.le_refl _) hs (.atom (.sl _ _)) rfl rfl hK
theorem zGH{n:Nat}{B:BS}{i:Nat}{t:VT}(hB:InvB data xs.length xs X B)(hti:B.s.types[i]?=some t)(hg:zdF B.m ((i:Int),((n+1:Nat):Int))=none)(hk123:t.kind=1∨t.kind=2∨t.kind=3)(hc:cV data xs.length t (n+1)≠0):
  zfq data xs.length xs Z B (zeA B ((i:Int),((n+1:Nat):Int)) (vV data xs t (n+1))) i (n+1) (vV data xs t (n+1)):=by
 have hn0:n=0:=by
  rw[zeX]at hc;by_cases h:n=0
  ·exact h
  ·exfalso;rcases hk123 with h'|h'|h' <;> simp[h',h]at hc
 subst hn0;intro H hS h0 K hK;refine ACalls.outH (zno λhs=>?_);have lbp:=(List.getElem?_eq_some_iff.1 hS.bpa).1;have hil:=(List.getElem?_eq_some_iff.1 hti).1;have hta:=zfg B.s.types i _ hti;have htl:=zfh B.s.types;have hkn:=VT.cs_known t;have hvv:vV data xs t 1=if t.kind=3 then [.mk 1 0 []] else if t.kind=2 then [.mk 2 0 [],.mk 2 1 []] else xs.map λx=>.mk 3 x []:=by rw[zgW];rcases hk123 with h|h|h <;> simp[h]
 obtain⟨k,m,ks⟩:=t;have hkd:(VT.mk k m ks).kind=k:=rfl;rw[hkd]at hvv hk123;have hg2:(H++[AB.cells (VT.cs (.mk k m ks))])[H.length]?=some (.cells (VT.cs (.mk k m ks))):=by simp
 have hset2:(H++[AB.cells [AV.int .i64 0,AV.int .i64 0,AV.snil]]).set H.length (.cells (VT.cs (.mk k m ks)))=H++[.cells (VT.cs (.mk k m ks))]:=by rw[List.set_append_right _ _ (Nat.le_refl _)];simp
 have hmp:zdF B.m ((i:Int),1)=none:=hg;simp[zi7,hS.bpa,hS.bma,hS.sh.hp,hS.sh.hit,zao,zaM,AV.known,zhA,hmp,hil,hta,hkn,hset2,hg2];refine⟨by omega,?_⟩;have fin:∀(v:List VT) (tk:Tok) (J:zaa),v=vV data xs (.mk k m ks) 1→zfp (.ptr Z.bp 0) (.int .i64 i) (.int .i64 1) (.sl (VT.css v) tk) (H++J) (zeS H.length K):=by rintro v tk J rfl;exact zqh (m:=1) hS hs rfl hK
 have hbp1:=(hS.app (J:=[.cells (VT.cs (.mk k m ks))])).bpa;rcases hk123 with rfl|rfl|rfl
 ·simp[VT.cs]at hbp1 ⊢;rw[hbp1];simp;refine ALoop.own 9 zaO 3 rfl ?_;obtain⟨L,hL⟩:∃ L,L=H.length+1:=⟨_,rfl⟩;have hL':(H++[AB.cells [AV.int .i64 1,.int .i64 m,.sl (VT.css ks) .none]]).length=L:=by rw[hL];simp
  rw[hL',List.append_assoc];show ztc (.ptr Z.bp 0) (.int .i64 i) (.int .i64 1) (.sl [] (.own L)) (.sl (ints xs) .none) (.int .i64 xs.length) (.int .i64 0) (H++[.cells [.int .i64 1,.int .i64 m,.sl (VT.css ks) .none],.perm zaO 3 0]) _;refine zPY (Inv:=λq t9 t97 H'=>∃j:Nat,j≤xs.length∧xs.length-j=q∧t97=.int .i64 j∧t9=.sl (VT.css ((xs.map λx=>VT.mk 3 x []).take j)) (.own L)∧H'=H++[.cells [.int .i64 1,.int .i64 m,.sl (VT.css ks) .none],.perm zaO 3 j]) xs.length ?_ ?_
  ·intro _;exact⟨0,by omega,rfl,rfl,rfl,rfl⟩
  ·rintro q t9 t97 H' ⟨j,hj,rfl,rfl,rfl,rfl⟩ hsc' hlen hsF Kb hKb;by_cases hlt:j<xs.length
   ·have hgj:∀ h:j<(ints xs).length,(ints xs)[j]'h=[.int .i64 xs[j]]:=λh=>by simp[ints]
    simp[zs8,hlt,hgj,zao,zaM,AV.known,zas,zbh,plain,AV.pd];have hgp:(H++[AB.cells [AV.int .i64 1,.int .i64 m,.sl (VT.css ks) .none],AB.perm zaO 3 j])[L]?=some (.perm zaO 3 j):=by rw[hL];simp[List.getElem?_append]
    refine zji (v:=.mk 3 xs[j] []) (by simp;omega) hgp (by omega) ?_;have hst:(xs.map λx=>VT.mk 3 x []).take j++[VT.mk 3 xs[j] []]=(xs.map λx=>VT.mk 3 x []).take (j+1):=by rw[List.take_succ_eq_append_getElem (by simpa using hlt)];simp
    rw[hst,wr (by omega)];have hset:(H++[AB.cells [AV.int .i64 1,.int .i64 m,.sl (VT.css ks) .none],AB.perm zaO 3 j]).set L (.perm zaO 3 (j+1))=H++[.cells [.int .i64 1,.int .i64 m,.sl (VT.css ks) .none],.perm zaO 3 (j+1)]:=by rw[hL,List.set_append_right _ _ (by omega)];simp
    rw[hset];refine hKb _ _ ⟨xs.length-(j+1),by omega,Back.here (by simp) (hs.append (by simp[AB.sc,AV.scA,AV.scB])) ?_ ⟨_,_,rfl,j+1,by omega,rfl,rfl,rfl,rfl⟩⟩;simp[znl,ux,AV.sc,AV.scA,AV.scB,AV.scV];omega
   ·obtain rfl:j=xs.length:=by omega
    simp[zs8];rw[List.take_of_length_le (by simp)];exact fin (xs.map λx=>VT.mk 3 x []) _ _ (by rw[hvv];simp)
 ·simp[VT.cs,zas,zbh,plain,AV.pd];exact fin [.mk 2 0 [],.mk 2 1 []] _ _ (by rw[hvv];simp)
 ·simp[VT.cs,zas,zbh,plain,AV.pd];exact fin [.mk 1 0 []] _ _ (by rw[hvv];simp)
end
section
variable {data:List Dat} (hD:zaD data=true) (hk:Kpt data) {xs:List Int} (hxs:xs.length≤8) {X:List VT} (hX:X.length≤1000000000000) {Z:BI}
include hD hk hxs hX
theorem zGF{n:Nat}(hn:n<14)(hV:∀ m,m≤n→zel data xs.length xs X Z m){B:BS}{i:Nat}{t:VT}(hB:InvB data xs.length xs X B)(hti:B.s.types[i]?=some t)(hg:zdF B.m ((i:Int),((n+1:Nat):Int))=none)(hk7:t.kind=7)(hR:Rch data X (n+1) t)(hl:cV data xs.length t (n+1)≤2000):
  ∃B',InvB data xs.length xs X B'∧B.s.types <+: B'.s.types∧zfq data xs.length xs Z B B' i (n+1) (vV data xs t (n+1)):=by
 have hv:=hB.s.vd t (List.mem_of_getElem? hti);obtain⟨k,m,ks⟩:=t;change k=7 at hk7;subst hk7;have hkl:ks.length=1:=by have hs:=zdN hv;unfold okT at hs;rw[zaz,Bool.and_eq_true]at hs;have hs:=hs.1;simp[zaC]at hs;exact hs.2
 obtain⟨u,rfl⟩:∃u,ks=[u]:=by
  match ks,hkl with
  |[u],_=>exact⟨u,rfl⟩
 have hR1:Rch data X n u:=by
  cases hR with
  |arr _ _ h=>exact h
  |mk _ h _=>exact absurd rfl h
 have hu:=zed hv u (by simp);have hI1:=zoq hD hB.s hu hR1.mem;have he1:=zoo hD (S:=B.s) u;have hg1:=zop hD hB.s hu;have hB1:=InvB.mk' hD hk hxs hX hB hI1 he1;have hl':cA (cV data xs.length u) n≤2000:=by rw[zeX]at hl;simpa[VT.kind,zcn]using hl
 obtain⟨B2,h1,h2,h4⟩:=zCd hD hk hxs hX (show n≤14 by omega) hV n _ (Nat.le_refl _) hB1 hg1 hR1 hl';have hti2:=zc6 (he1.trans h2) hti;obtain⟨N,hN⟩:∃N,N=n+1:=⟨_,rfl⟩;have hvv:vV data xs (.mk 7 m [u]) N=(arL (vV data xs u) n).map λks=>.mk 6 0 ks:=by rw[hN,zgW];simp[VT.kind,zcn]
 refine⟨zeA B2 ((i:Int),((n+1:Nat):Int)) (vV data xs (.mk 7 m [u]) (n+1)),zpB h1 hti2,he1.trans h2,?_⟩;rw[←hN]at hg ⊢;obtain⟨rows,hrows⟩:∃rows,rows=arL (vV data xs u) n:=⟨_,rfl⟩;have hrl:rows.length≤2000:=by rw[hrows,zjk hD hk hxs hX];exact hl'
 rw[←hrows]at hvv h4;intro H hS h0 K hK;refine ACalls.outH (zno λhs=>?_);have hlt0:0<H.length:=(List.getElem?_eq_some_iff.1 h0).1;have lbp:=(List.getElem?_eq_some_iff.1 hS.bpa).1;have hil:=(List.getElem?_eq_some_iff.1 hti).1;have hta:=zfg B.s.types i _ hti;have htl:=zfh B.s.types;obtain⟨C,hC⟩:∃C,C=VT.cs (.mk 7 m [u]):=⟨_,rfl⟩;have hkn:C.all AV.known=true:=by rw[hC];exact VT.cs_known _
 have hCe:C=[.int .i64 7,.int .i64 m,.sl [u.cs] .none]:=by rw[hC];rfl
 rw[←hC]at hta;have hg2:(H++[AB.cells C])[H.length]?=some (.cells C):=by simp
 have hset2:(H++[AB.cells [AV.int .i64 0,AV.int .i64 0,AV.snil]]).set H.length (.cells C)=H++[.cells C]:=by rw[List.set_append_right _ _ (Nat.le_refl _)];simp
 have hl3:C.length=3:=by rw[hC];simp
 simp[zi7,hS.bpa,hS.bma,hS.sh.hp,hS.sh.hit,zao,zaM,AV.known,zhA,hg,hil,hta,hkn,hset2,hg2,hl3];refine⟨by omega,?_⟩;have hbp1:=(hS.app (J:=[.cells C])).bpa;obtain⟨x1,x2,x3,hvx,hxa,hxb,hxc⟩:=zaL u;have C0:C[0]?=some (.int .i64 7):=by rw[hCe];rfl
 have C2:C[2]?=some (.sl [[x1,x2,x3]] .none):=by rw[hCe,←hvx];rfl
 simp[zdc _ C0,zdc _ C2,hbp1];rw[←hvx];have hSJ:=hS.app (J:=[.cells C]);have hlen:=hB.s.len;have hwn:IntKind.i64.wrap ((N:Int)-1)=(n:Int):=by rw[zav (by omega) (by omega)];omega
 rw[hwn];have hs1:shS data xs.length Z.i (idS data B.s u) (H++[.cells C])=shB data xs.length Z ⟨idS data B.s u,B.m⟩ H++[.cells C]:=by rw[hSJ.shS_eq,hS.shB_app]
 refine zcF (.int .i64 (idN data B.s u)) (shB data xs.length Z ⟨idS data B.s u,B.m⟩ H++[.cells C]) (zkD hD hSJ.sh (by rw[List.getElem?_append_left hlt0];exact h0) u hu (by omega) _ ⟨rfl,hs1⟩) ?_;have hS1:=hS.next (B':=⟨idS data B.s u,B.m⟩) hI1.ml hI1.cl;have hs2:shB data xs.length Z B2 (shB data xs.length Z ⟨idS data B.s u,B.m⟩ H++[.cells C])=shB data xs.length Z B2 H++[.cells C]:=by rw[hS1.shB_app,hS.shB_shB]
 refine zcF (.sl (llA rows) .none) (shB data xs.length Z B2 H++[.cells C]) (h4 _ hS1.app (by rw[List.getElem?_append_left (by simpa using hlt0)];exact hS.nodr h0) _ ⟨rfl,hs2⟩) ?_;simp only[zen,zgv];have hS2:=hS.next (B':=B2) h1.s.ml h1.s.cl;obtain⟨A,hA⟩:∃A,A=shB data xs.length Z B2 H:=⟨_,rfl⟩;have hAl:A.length=H.length:=by rw[hA];simp
 have hAs:HSc A:=by rw[hA];exact hS.scs hs
 rw[←hA]at hS2 ⊢;have hK':K (.sl (VT.css (vV data xs (.mk 7 m [u]) N)) .none) (shB data xs.length Z (zeA B2 ((i:Int),(N:Int)) (vV data xs (.mk 7 m [u]) N)) A):=by rw[hA,hS.shB_shB];exact hK
 refine ALoop.own 9 zaO 3 rfl ?_;obtain⟨L,hL⟩:∃L,L=H.length+1:=⟨_,rfl⟩;have hL':(A++[AB.cells C]).length=L:=by rw[hL];simp[hAl]
 rw[hL',List.append_assoc];show ztd (.ptr Z.bp 0) (.int .i64 i) (.int .i64 N) (.sl [] (.own L)) (.sl (llA rows) .none) (.int .i64 rows.length) (.int .i64 0) (A++[.cells C,.perm zaO 3 0]) _;have hps:∀j,HSc (A++[.cells C,.perm zaO 3 j]):=λj=>hAs.append (by rw[hC];simp[AB.sc]);refine zPZ (Inv:=λq t9 t97 H'=>∃j:Nat,j≤rows.length∧rows.length-j=q∧t97=.int .i64 j∧t9=.sl (VT.css ((rows.map λks=>VT.mk 6 0 ks).take j)) (.own L)∧H'=A++[.cells C,.perm zaO 3 j]) rows.length ?_ ?_
 ·intro _;exact⟨0,by omega,rfl,rfl,rfl,rfl⟩
 ·rintro q t9 t97 H' ⟨j,hj,rfl,rfl,rfl,rfl⟩ hsc' hlen' hsF Kb hKb;by_cases hlt:j<rows.length
  ·have hgj:∀ h:j<(llA rows).length,(llA rows)[j]'h=[.sl (VT.css rows[j]) .none]:=λh=>by simp[llA]
   simp[zs9,hlt,hgj,zao,zaM,AV.known,zas,zbh,plain,AV.pd];have hgp:(A++[AB.cells C,AB.perm zaO 3 j])[L]?=some (.perm zaO 3 j):=by rw[hL,←hAl];simp[List.getElem?_append]
   refine zji (v:=.mk 6 0 rows[j]) (by simp;omega) hgp (by omega) ?_;have hst:(rows.map λks=>VT.mk 6 0 ks).take j++[VT.mk 6 0 rows[j]]=(rows.map λks=>VT.mk 6 0 ks).take (j+1):=by rw[List.take_succ_eq_append_getElem (by simpa using hlt)];simp
   rw[hst,wr (by omega)];have hset:(A++[AB.cells C,AB.perm zaO 3 j]).set L (.perm zaO 3 (j+1))=A++[.cells C,.perm zaO 3 (j+1)]:=by rw[hL,List.set_append_right _ _ (by omega),hAl];simp
   rw[hset];refine hKb _ _ ⟨rows.length-(j+1),by omega,Back.here (by simp) (hps _) ?_ ⟨_,_,rfl,j+1,by omega,rfl,rfl,rfl,rfl⟩⟩;simp[znm,ux,AV.sc,AV.scA,AV.scB,AV.scV];omega
  ·obtain rfl:j=rows.length:=by omega
   simp[zs9];rw[List.take_of_length_le (by simp),←hvv];exact zqh hS2 hAs hAl.symm hK'
end
def zin(data:List Dat)(xs:List Int)(k:Int)(n:Nat)(w:Int×List VT):List VT:=(lsL (vV data xs) w.2 n).map λks=>.mk (zfJ k) w.1 ks
def zd3:List AV:=[.int .i64 0,.int .i64 0,.int .i64 0,.int .i64 0,.int .i64 0,.int .i64 5,.int .i64 4,.int .i64 0,.int .i64 7]
section
variable {data:List Dat} (hD:zaD data=true) (hk:Kpt data) {xs:List Int} (hxs:xs.length≤8) {X:List VT} (hX:X.length≤1000000000000) {Z:BI}
include hD hk hxs hX
theorem zGQ(k:Int)(n:Nat)(w:Int×List VT):(zin data xs k n w).length=cL (cV data xs.length) w.2 n:=by unfold zin;rw[List.length_map,zhJ hD hk hxs hX]
theorem zGV{n:Nat}(hn:n≤14)(hV:∀ m,m≤n→zel data xs.length xs X Z m){B:BS}(hB:InvB data xs.length xs X B){ws:List (Int × List VT)}{cs:List (Int × List Nat)}(hc:ConOk B.s.types ws cs)(hwl:∀ w∈ws,w.2.length≤1000)(hR:∀ w∈ws,∀ (p:Nat) (h:p<w.2.length),Rch data X (n-p) w.2[p])(hl:(ws.map λw=>cL (cV data xs.length) w.2 n).sum≤2000):
  ∃ σ:Nat→BS,σ 0=B∧(∀k≤ws.length,InvB data xs.length xs X (σ k)∧B.s.types <+: (σ k).s.types)∧∀k<ws.length,zgd data xs.length xs Z (σ k) (σ (k+1)) (cs.getD k (0,[])).2 n (lsL (vV data xs) (ws.getD k (0,[])).2 n):=by
 refine zdY (λk (a:BS)=>InvB data xs.length xs X a∧B.s.types <+: a.s.types) (λk (a a':BS)=>zgd data xs.length xs Z a a' (cs.getD k (0,[])).2 n (lsL (vV data xs) (ws.getD k (0,[])).2 n)) ws.length (λk hkl a ha=>?_) _ ⟨hB,List.prefix_rfl⟩;obtain⟨h1,h2⟩:=ha;have hcl:=hc.len;obtain⟨h4,h5⟩:=hc.at' k hkl (by omega);have e1:ws.getD k (0,[])=ws[k]:=by rw[List.getD_eq_getElem?_getD,List.getElem?_eq_getElem hkl];rfl
 have e2:cs.getD k (0,[])=cs[k]:=by rw[List.getD_eq_getElem?_getD,List.getElem?_eq_getElem (by omega)];rfl
 have hle:cL (cV data xs.length) ws[k].2 n≤2000:=by have h1:=zwT (f:=λw:Int×List VT=>cL (cV data xs.length) w.2 n) hkl;have h2:=zpY (f:=λw:Int×List VT=>cL (cV data xs.length) w.2 n) (ws:=ws) (k+1);omega
 obtain⟨B',h6,h7,h8⟩:=zvd hD hk hxs hX hn hV ws[k].2 cs[k].2 (hwl _ (List.getElem_mem hkl)) n a (Nat.le_refl _) h1 (h5.mono h2) (hR _ (List.getElem_mem hkl)) hle;exact⟨B',by rw[e1,e2];exact h8,h6,h2.trans h7⟩
theorem zGJ{n:Nat}(hn:n<14)(hV:∀ m,m≤n→zel data xs.length xs X Z m){B:BS}{i:Nat}{t:VT}(hB:InvB data xs.length xs X B)(hti:B.s.types[i]?=some t)(hg:zdF B.m ((i:Int),((n+1:Nat):Int))=none)(h7:t.kind≠7)(h1':t.kind≠1)(h2':t.kind≠2)(h3':t.kind≠3)(hR:Rch data X (n+1) t)(hl:cV data xs.length t (n+1)≤2000):
  ∃B',InvB data xs.length xs X B'∧B.s.types <+: B'.s.types∧zfq data xs.length xs Z B B' i (n+1) (vV data xs t (n+1)):=by
 have hv:=hB.s.vd t (List.mem_of_getElem? hti);have hRw:∀w∈zaU data t,∀(p:Nat) (h:p<w.2.length),Rch data X (n-p) w.2[p]:=by
  cases hR with
  |arr _ h _=>exact absurd h h7
  |mk _ _ h=>exact h
 have htX:∀w∈zaU data t,∀x∈w.2,x∈X:=λw hw x hx=>by obtain⟨p,hp,rfl⟩:=List.mem_iff_getElem.1 hx;exact(hRw w hw p hp).mem
 obtain⟨hI1,he1,hc1⟩:=zxo hD hB.s hti htX;have hwl:∀w∈zaU data t,w.2.length≤1000:=λw hw=>by
  obtain⟨k,m,ks⟩:=t;have hnod:=zfU hv;have hll:=VT.len_le ks;simp[VT.nodes]at hnod;rw[zaU]at hw;split at hw
  ·simp at hw;subst hw;show ks.length≤1000;omega
  ·split at hw
   ·obtain⟨c,_,hc⟩:=List.mem_filterMap.1 hw;cases hf:zbq data (.mk k m ks) c with
    |none=>rw[hf]at hc;cases hc
    |some l=>rw[hf]at hc;simp at hc;subst hc;have:=zn7 hk hf;show l.length≤1000;omega
   ·simp at hw
 have hB1:=InvB.mk' hD hk hxs hX hB hI1 he1;have hsum:((zaU data t).map λw=>cL (cV data xs.length) w.2 n).sum≤2000:=by rw[zeX,if_neg h3',if_neg h2',if_neg h1',if_neg h7]at hl;exact hl
 obtain⟨σ,hσ0,hσ1,hσ2⟩:=zGV (Z:=Z) hD hk hxs hX (show n≤14 by omega) hV hB1 hc1 hwl hRw hsum;obtain⟨N,hN⟩:∃N,N=n+1:=⟨_,rfl⟩;obtain⟨ws,hws⟩:∃ws,ws=zaU data t:=⟨_,rfl⟩;obtain⟨cs,hcs⟩:∃cs,cs=(zdy data B.s i).1:=⟨_,rfl⟩;obtain⟨S1,hS1d⟩:∃S1,S1=(zdy data B.s i).2:=⟨_,rfl⟩;rw[←hws]at hσ1 hσ2 hsum;rw[←hcs]at hσ2;rw[←hS1d]at hσ0 hσ1 he1 hI1;rw[←hcs,←hws,←hS1d]at hc1;have hcl:=hc1.len;have hw3:=zk2 hk t;rw[←hws]at hw3;have hlast:=hσ1 ws.length (Nat.le_refl _);have hvv:vV data xs t N=ws.flatMap (zin data xs t.kind n):=by rw[hN,zgW,if_neg h3',if_neg h2',if_neg h1',if_neg h7,hws];rfl
 have hti2:=zc6 (he1.trans hlast.2) hti;obtain⟨acc,hacc⟩:∃acc:Nat→List VT,acc=λk=>(ws.take k).flatMap (zin data xs t.kind n):=⟨_,rfl⟩;have hac0:acc 0=[]:=by rw[hacc];rfl
 have hacs:∀k (h:k<ws.length),acc (k+1)=acc k++zin data xs t.kind n ws[k]:=λk h=>by rw[hacc];simp only;rw[List.take_succ_eq_append_getElem h,List.flatMap_append];simp
 have hacl:∀k,k≤ws.length→(acc k).length≤2000:=λk hk'=>by rw[hacc];simp only;rw[zux _ _ (λw=>cL (cV data xs.length) w.2 n) λw _=>zGQ hD hk hxs hX _ _ w];exact Nat.le_trans (zpY k) hsum
 refine⟨zeA (σ ws.length) ((i:Int),((n+1:Nat):Int)) (vV data xs t (n+1)),zpB hlast.1 hti2,he1.trans hlast.2,?_⟩;rw[←hN]at hg ⊢;intro H hS h0 K hK;refine ACalls.outH (zno λhs=>?_);have hlt0:0<H.length:=(List.getElem?_eq_some_iff.1 h0).1;have lbp:=(List.getElem?_eq_some_iff.1 hS.bpa).1;have hil:=(List.getElem?_eq_some_iff.1 hti).1;have hta:=zfg B.s.types i _ hti;have htl:=zfh B.s.types;obtain⟨C,hC⟩:∃C,C=t.cs:=⟨_,rfl⟩;have hkn:C.all AV.known=true:=by rw[hC];exact VT.cs_known _
 have C0:C[0]?=some (.int .i64 t.kind):=by obtain⟨k,m,ks⟩:=t;rw[hC];rfl
 rw[←hC]at hta;have hg2:(H++[AB.cells C])[H.length]?=some (.cells C):=by simp
 have hset2:(H++[AB.cells [AV.int .i64 0,AV.int .i64 0,AV.snil]]).set H.length (.cells C)=H++[.cells C]:=by rw[List.set_append_right _ _ (Nat.le_refl _)];simp
 have hl3:C.length=3:=by rw[hC];simp
 simp[zi7,hS.bpa,hS.bma,hS.sh.hp,hS.sh.hit,zao,zaM,AV.known,zhA,hg,hil,hta,hkn,hset2,hg2,hl3];refine⟨by omega,?_⟩;have hbp1:=(hS.app (J:=[.cells C,.cells zd3])).bpa;have b1:(t.kind == 1)=false:=by simpa using h1'
 have b2:(t.kind == 2)=false:=by simpa using h2'
 have b3:(t.kind == 3)=false:=by simpa using h3'
 have b7:(t.kind == 7)=false:=by simpa using h7
 simp[zdc _ C0,b1,b2,b3,b7];change zgi false 1 0 (H++[.cells C,.cells zd3])[Z.bp]? _;rw[hbp1];simp;have hSJ:=hS.app (J:=[.cells C,.cells zd3]);change ACalls tP zh6 _ (H++[.cells C,.cells zd3]) _;refine zwz hD hX hSJ.sh hB.s (by rw[List.getElem?_append_left hlt0];exact h0) hti htX _ ?_;rw[←hcs,←hS1d,hSJ.shS_eq,hS.shB_app];have hcR:(zbW cs).length=cs.length:=by simp[zbW]
 simp only[zco,zen,hcR];obtain⟨L,hL⟩:∃L,L=H.length:=⟨_,rfl⟩;rw[←hL];refine ALoop.own 9 zaO 3 rfl ?_;have hLe:(shB data xs.length Z ⟨S1,B.m⟩ H++[AB.cells C,.cells zd3]).length=L+2:=by rw[hL];simp
 rw[hLe,List.append_assoc];show zte (.ptr Z.bp 0) (.int .i64 i) (.int .i64 N) (.sl [] (.own (L+2))) (.ptr L 0) (.ptr (L+1) 0) (.sl (zbW cs) .none) (.int .i64 cs.length) (.int .i64 0) (shB data xs.length Z ⟨S1,B.m⟩ H++[.cells C,.cells zd3,.perm zaO 3 0]) _;obtain⟨G,hG⟩:∃G:BS→Nat→zaa,G=λB' k=>shB data xs.length Z B' H++[.cells C,.cells zd3,.perm zaO 3 k]:=⟨_,rfl⟩;have hGl:∀B' k,(G B' k).length=L+3:=λB' k=>by rw[hG,hL];simp
 have hGs:∀B' k,HSc (G B' k):=λB' k=>by rw[hG];exact(hS.scs hs).append (by rw[hC];simp[AB.sc,zd3,AV.scA,AV.scB])
 have hGS:∀B' k,zaZ data xs.length X B'.s→ShB data xs.length xs Z B' (G B' k):=λB' k hB'=>by rw[hG];exact(hS.next hB'.ml hB'.cl).app
 have hG0:∀B' k,(G B' k)[0]?=some .nodr:=λB' k=>by rw[hG];simp only;rw[List.getElem?_append_left (by simpa using hlt0)];exact hS.nodr h0
 have hGm:∀B' B'' k J,zaZ data xs.length X B'.s→shB data xs.length Z B'' (G B' k++J)=G B'' k++J:=λB' B'' k J hB'=>by rw[hG];simp only;rw[List.append_assoc,(hS.next hB'.ml hB'.cl).shB_app,hS.shB_shB,List.append_assoc]
 have hGp:∀B' k J,(G B' k++J)[L+2]?=some (.perm zaO 3 k):=λB' k J=>by rw[hG,hL];simp[List.getElem?_append]
 have hGk:∀B' k J,(G B' k++J)[L+1]?=some (.cells zd3):=λB' k J=>by rw[hG,hL];simp[List.getElem?_append]
 have hGc:∀B' k J,(G B' k++J)[L]?=some (.cells C):=λB' k J=>by rw[hG,hL];simp[List.getElem?_append]
 have hGset:∀B' k k' J,(G B' k++J).set (L+2) (.perm zaO 3 k')=G B' k'++J:=λB' k k' J=>by rw[hG,hL];simp only;rw[List.append_assoc,List.set_append_right _ _ (by simp),List.append_assoc];simp
 refine zP0 (Inv:=λq t9 t53 H'=>∃k:Nat,k≤cs.length∧cs.length-k=q∧t53=.int .i64 k∧t9=.sl (VT.css (acc k)) (.own (L+2))∧H'=G (σ k) (acc k).length) cs.length ?_ ?_
 ·intro _;refine⟨0,by omega,rfl,rfl,by rw[hac0];rfl,?_⟩;rw[hσ0,hac0,hG];rfl
 ·rintro q t9 t53 H' ⟨k,hk',rfl,rfl,rfl,rfl⟩ hsc9 hlen9 hsF9 Kb9 hKb9;have hσk:=hσ1 k (by omega);by_cases hlt:k<cs.length
  ·have hkw:k<ws.length:=by omega
   have hc9:=hσ2 k hkw;have e1:ws.getD k (0,[])=ws[k]:=by rw[List.getD_eq_getElem?_getD,List.getElem?_eq_getElem hkw];rfl
   have e2:cs.getD k (0,[])=cs[k]:=by rw[List.getD_eq_getElem?_getD,List.getElem?_eq_getElem hlt];rfl
   rw[e1,e2]at hc9;have hwc:=(hc1.at' k hkw hlt).1;have hgk:∀h:k<(zbW cs).length,(zbW cs)[k]'h=[.int .i64 (cs[k]).1,.sl (za6 (cs[k]).2) .none]:=λh=>by simp[zbW,za6]
   have hwn:IntKind.i64.wrap ((N:Int)-1)=(n:Int):=by rw[zav (by omega) (by omega)];omega
   simp[zta,hlt,hcR,hgk,hGl];rw[hwn];obtain⟨J,hJ⟩:∃J:zaa,J=[.cells [.int .i64 (cs[k]).1,.sl (za6 (cs[k]).2) .none]]:=⟨_,rfl⟩;rw[←hJ];refine hc9 _ (hGS _ _ hσk.1.s).app (by rw[List.getElem?_append_left (by rw[hGl];omega)];exact hG0 _ _) _ ?_;rw[hGm _ _ _ _ hσk.1.s];obtain⟨rows,hrows⟩:∃rows,rows=lsL (vV data xs) ws[k].2 n:=⟨_,rfl⟩;rw[←hrows];simp only[zen,zgv];have hkind:t.kind=5∨t.kind=6∨t.kind=8:=by
    obtain⟨tk,tn,tks⟩:=t;rw[hws,zaU]at hkw;show tk=5∨tk=6∨tk=8;split at hkw
    ·omega
    ·split at hkw
     ·omega
     ·simp at hkw
   have hkg:∃j:Nat,t.kind=(j:Int)∧j<9∧zd3[j]?=some (.int .i64 (zfJ t.kind)):=by
    rcases hkind with h|h|h <;> rw[h]
    ·exact⟨5,rfl,by omega,rfl⟩
    ·exact⟨6,rfl,by omega,rfl⟩
    ·exact⟨8,rfl,by omega,rfl⟩
   obtain⟨kj,hkj1,hkj2,hkj3⟩:=hkg;obtain⟨V,hV'⟩:∃V:List VT,V=rows.map λks=>VT.mk (zfJ t.kind) ws[k].1 ks:=⟨_,rfl⟩;have hVa:acc (k+1)=acc k++V:=by rw[hacs k hkw,hV',hrows];rfl
   have hVl:V.length=rows.length:=by rw[hV'];simp
   have hal:=hacl (k+1) (by omega);rw[hVa,List.length_append]at hal;have hJs:∀M,J.all (AB.sc M)=true:=λM=>by rw[hJ];rfl
   have hJl:J.length=1:=by rw[hJ];rfl
   have hGJs:∀B' k',HSc (G B' k'++J):=λB' k'=>(hGs B' k').append (hJs _);have hGJ:∀B' k',(G B' k'++J)[L+3]?=some (.cells [.int .i64 (cs[k]).1,.sl (za6 (cs[k]).2) .none]):=λB' k'=>by rw[List.getElem?_append_right (by rw[hGl];omega),hGl,hJ];simp
   refine zPX (Inv:=λq t9 t64 H'=>∃j:Nat,j≤rows.length∧rows.length-j=q∧t64=.int .i64 j∧t9=.sl (VT.css (acc k++V.take j)) (.own (L+2))∧H'=G (σ (k+1)) ((acc k).length+j)++J) rows.length ?_ ?_
   ·intro _;exact⟨0,by omega,rfl,rfl,by simp,rfl⟩
   ·rintro q t9 t64 H' ⟨j,hj,rfl,rfl,rfl,rfl⟩ hsc12 hlen12 hsF12 Kb12 hKb12;by_cases hlj:j<rows.length
    ·have hgj:∀ h:j<(llA rows).length,(llA rows)[j]'h=[.sl (VT.css rows[j]) .none]:=λh=>by simp[llA]
     simp[zs7,hlj,hgj,hGc,zdc _ C0,hkj1,zfy,hkj2,hGk,zdc _ hkj3,hGJ,zao,zaM,AV.known,zas,zbh,plain,AV.pd];rw[←hkj1];refine⟨by omega,?_⟩;have hgp:=hGp (σ (k+1)) ((acc k).length+j) J;refine zji (v:=.mk (zfJ t.kind) (cs[k]).1 rows[j]) (by rw[List.length_append,List.length_take,hVl];omega) hgp (by omega) ?_;have hst:acc k++V.take j++[VT.mk (zfJ t.kind) (cs[k]).1 rows[j]]=acc k++V.take (j+1):=by rw[List.take_succ_eq_append_getElem (by rw[hVl];exact hlj),List.append_assoc];simp[hV',hwc]
     rw[hst,wr (by omega),hGset];refine hKb12 _ _ ⟨rows.length-(j+1),by omega,Back.here (by simp[hGl,hJl]) (hGJs _ _) ?_ ⟨_,_,rfl,j+1,by omega,rfl,rfl,rfl,by rw[Nat.add_assoc]⟩⟩;rw[List.length_append,hGl,hJl];simp[znk,ux,AV.sc,AV.scA,AV.scB,AV.scV];omega
    ·obtain rfl:j=rows.length:=by omega
     simp[zs7];rw[wr (by omega)];have hVt:acc k++V.take rows.length=acc (k+1):=by rw[hVa,←hVl,List.take_length]
     refine hKb9 _ _ ⟨cs.length-(k+1),by omega,Back.at (H2:=G (σ (k+1)) (acc (k+1)).length) (J:=J) (by rw[hVa,List.length_append,hVl]) (by rw[hGl];simp[hL]) (hGs _ _) ?_ ⟨_,_,rfl,k+1,by omega,rfl,rfl,by rw[hVt],rfl⟩⟩;rw[hGl];simp[znn,ux,AV.sc,AV.scA,AV.scB,AV.scV];omega
  ·obtain rfl:k=cs.length:=by omega
   simp[zta];have hfin:acc cs.length=vV data xs t N:=by rw[hvv,hacc,hcl];simp
   rw[hfin,hcl,hG];have hSe:=hS.next (B':=σ ws.length) hlast.1.s.ml hlast.1.s.cl;refine zqh hSe (hS.scs hs) (by simp[hL]) ?_;rw[hS.shB_shB];exact hK
theorem zGI:∀n:Nat,n≤14→zel data xs.length xs X Z n:=by
 intro n;induction n using Nat.strongRecOn with
 |ind n ih=>
  intro hn;intro B i t hB hti hR hc hl;cases n with
  |zero=>exact absurd (zb2 data xs.length t) hc
  |succ n=>
   have ih':∀m,m≤n→zel data xs.length xs X Z m:=λm hm=>ih m (by omega) (by omega);cases hg:zdF B.m ((i:Int),((n+1:Nat):Int)) with
   |some o=>exact⟨B,hB,List.prefix_rfl,zGG hD hk hxs hX hB hti hg⟩
   |none=>
    by_cases h123:t.kind=1∨t.kind=2∨t.kind=3
    ·exact⟨_,zpB hB hti,List.prefix_rfl,zGH hD hk hxs hX hB hti hg h123 hc⟩
    ·by_cases h7:t.kind=7
     ·exact zGF hD hk hxs hX (by omega) ih' hB hti hg h7 hR hl
     ·exact zGJ hD hk hxs hX (by omega) ih' hB hti hg h7 (by omega) (by omega) (by omega) hR hl
end
end Go.Proofs.YtaifokkaaahdoaaGreatDoor
namespace Go.Proofs.YtaifokkaaahdoaaGreatDoor
open Go Go.Abs
set_option maxRecDepth 100000
def zmL:Nat→List Bool
 |300001=>rl false [0,1]
 |3=>rl false [3,1,5,3,17]
 |_=>[]
noncomputable def zsp:Code:=Tryz.f48.body.getD .skip
noncomputable def zNw:List ResultVar:=Tryz.f48.results.toList
def zmN(t3 t9 t10 t11:AV):List AV:=ux 3 (t3::ux 5 (t9::t10::t11::ux 17 []))
def zNv:List Bool:=zmL 3
noncomputable def zNu:Code:=zaq [1,1,0,1,0,0] zsp
def zNt(K:Kt):AExit→List AV→zaa→Prop:=zar tP zmL [1,1,0,1,0] zsp (zaB tP zNw K)
def zz2(t3 t9 t10 t11:AV)(H:zaa)(K:Kt):Prop:=ALoop tP zNu (zNt K) (zmN t3 t9 t10 t11) H
def zmO(t3 t5 t9 t10 t11:AV)(H:zaa)(K:Kt)(Kb3:Lt):Prop:=
 zae true 3 t5 H λt24=>
 zas 3 [(.int .i64 0),(.int .i64 0),.snil] 1 [(0,t24)] λt25=>
 zax zaO 3 40 t3 t25 H λt26 H=>
 zac .add false t11 (.int .i64 1) λt27=>
 Kb3 (zmN t26 t9 t10 t27) H
def zmM(t3 t9 t10 t11:AV)(H:zaa)(K:Kt)(Kb3:Lt):Prop:=
 zac .lss false t11 t10 λt12=>
 zag t12
 (zaj 3 t9 t11 λt13=>
 zae true 3 t13 H λt14=>
 zay [(.int .i64 0),(.int .i64 0),.snil] H λt5 H=>
 zak 3 t5 t14 H λH=>
 zaf 2 t5 λt15=>
 zae false 1 t15 H λt16=>
 zah 1 t16 λt17=>
 zac .gtr false t17 (.int .i64 0) λt18=>
 zag t18
 (zaf 2 t5 λt19=>
 zae false 1 t19 H λt20=>
 ACalls tP zj8 [t20] H λt21 H=>
 zaf 2 t5 λt22=>
 zak 1 t22 t21 H λH=>
 zmO t3 t5 t9 t10 t11 H K Kb3)
 (zmO t3 t5 t9 t10 t11 H K Kb3))
 (K t3 H)
def zso(t0:AV)(H:zaa)(K:Kt):Prop:=
 zah 1 t0 λt7=>
 zep zaO 3 40 t7 H λt8 H=>
 zah 1 t0 λt10=>
 zz2 t8 t0 t10 (.int .i64 0) H K
theorem zz3{t3 t9 t10 t11:AV}{H:zaa}{K:Kt}(Inv:Nat→AV→AV→zaa→Prop)(n:Nat)(h0:HSc H→Inv n t3 t11 H)(round:Rd2 (λt3=>λt11=>zmN t3 t9 t10 t11) (λt3=>λt11=>λH Kb3=>zmM t3 t9 t10 t11 H K Kb3) H Inv):zz2 t3 t9 t10 t11 H K:=
 lp2 (M:=zmL) zNv t3 t11 (by kernel_rfl) Inv n h0 round
theorem zz4{t0:AV}{H:zaa}{K:Kt}(h:HSc H→zso t0 H K):ACalls tP zj8 [t0] H K:=
 zan (M:=zmL) Tryz.func48 (c:=zsp) (by kernel_rfl) (λhs=>Eq.mpr (by kernel_rfl) (h hs))
def zll:Nat→List Bool
 |6=>rl false [12,1,14,3,11]
 |_=>[]
noncomputable def zqE:Code:=Tryz.f12.body.getD .skip
noncomputable def zHW:List ResultVar:=Tryz.f12.results.toList
def zlm(t12 t27 t28 t29:AV):List AV:=ux 12 (t12::ux 14 (t27::t28::t29::ux 11 []))
def zHU:List Bool:=zll 6
noncomputable def zHS:Code:=zaq [1,1,1,1,0,1,0,0] zqE
def zHR(K:Kt):AExit→List AV→zaa→Prop:=zar tP zll [1,1,1,1,0,1,0] zqE (zaB tP zHW K)
def zqF(t12 t27 t28 t29:AV)(H:zaa)(K:Kt):Prop:=ALoop tP zHS (zHR K) (zlm t12 t27 t28 t29) H
def zqD(t12 t27 t28 t29:AV)(H:zaa)(K:Kt)(Kb6:Lt):Prop:=
 zac .lss false t29 t28 λt30=>
 zag t30
 (zaj 1 t27 t29 λt31=>
 zae false 1 t31 H λt32=>
 zaj 3 t32 (.int .i64 0) λt35=>
 zae true 3 t35 H λt36=>
 zas 3 [(.int .i64 0),(.int .i64 0),.snil] 1 [(0,t36)] λt37=>
 zax zaO 3 40 t12 t37 H λt38 H=>
 zac .add false t29 (.int .i64 1) λt39=>
 Kb6 (zlm t38 t27 t28 t39) H)
 (zbb [t12,(.int .i64 0)] (K · H))
def zxw(t0 t1 t2 t3:AV)(H:zaa)(K:Kt):Prop:=
 zaw t1 H λt5 H=>
 zae true 3 t5 H λt17=>
 zas 3 [(.int .i64 0),(.int .i64 0),.snil] 1 [(0,t17)] λt18=>
 ACalls tP zo2 [t0,t18,t2,t3] H λt21 H=>
 zaN t21 0 λt22=>
 zaN t21 1 λt23=>
 zac .neq false t23 (.int .i64 0) λt25=>
 zag t25
 (zbb [.snil,t23] (K · H))
 (zah 1 t22 λt28=>
 zqF .snil t22 t28 (.int .i64 0) H K)
theorem zHT{t12 t27 t28 t29:AV}{H:zaa}{K:Kt}(Inv:Nat→AV→AV→zaa→Prop)(n:Nat)(h0:HSc H→Inv n t12 t29 H)(round:Rd2 (λt12=>λt29=>zlm t12 t27 t28 t29) (λt12=>λt29=>λH Kb6=>zqD t12 t27 t28 t29 H K Kb6) H Inv):zqF t12 t27 t28 t29 H K:=
 lp2 (M:=zll) zHU t12 t29 (by kernel_rfl) Inv n h0 round
theorem zHV{t0 t1 t2 t3:AV}{H:zaa}{K:Kt}(h:HSc H→zxw t0 t1 t2 t3 H K):ACalls tP ze7 [t0,t1,t2,t3] H K:=
 zan (M:=zll) Tryz.func12 (c:=zqE) (by kernel_rfl) (λhs=>Eq.mpr (by kernel_rfl) (h hs))
def zee:Nat→List Bool
 |4=>rl false [0,4,18,3,71]
 |14=>rl false [2,1,9,2,38,3,41]
 |200016=>rl false [0,1]
 |22=>rl false [16,1,64,3,12]
 |_=>[]
noncomputable def zf0:Code:=Tryz.f17.body.getD .skip
noncomputable def zrE:List ResultVar:=Tryz.f17.results.toList
def zl8(t0 t1 t2 t3 t22 t23 t24:AV):List AV:=t0::t1::t2::t3::ux 18 (t22::t23::t24::ux 71 [])
def zKK:List Bool:=zee 4
noncomputable def zKE:Code:=zaq [1,1,0,1,0,0] zf0
def zKB(K:Kt):AExit→List AV→zaa→Prop:=zar tP zee [1,1,0,1,0] zf0 (zaB tP zrE K)
def zyO(t0 t1 t2 t3 t22 t23 t24:AV)(H:zaa)(K:Kt):Prop:=ALoop tP zKE (zKB K) (zl8 t0 t1 t2 t3 t22 t23 t24) H
def zl6(t2 t12 t13 t52 t53 t54:AV):List AV:=ux 2 (t2::ux 9 (t12::t13::ux 38 (t52::t53::t54::ux 41 [])))
def zKI:List Bool:=zee 14
noncomputable def zKC:Code:=zaq [1,1,1,1,1,1,0,1,0,0] zf0
def zKz(K:Kt):AExit→List AV→zaa→Prop:=zar tP zee [1,1,1,1,1,1,0,1,0] zf0 (zaB tP zrE K)
def zl9(t2 t12 t13 t52 t53 t54:AV)(H:zaa)(K:Kt):Prop:=ALoop tP zKC (zKz K) (zl6 t2 t12 t13 t52 t53 t54) H
def zl7(t16 t81 t82 t83:AV):List AV:=ux 16 (t16::ux 64 (t81::t82::t83::ux 12 []))
def zKJ:List Bool:=zee 22
noncomputable def zKD:Code:=zaq [1,1,1,1,1,1,1,1,1,0,1,0,0] zf0
def zKA(K:Kt):AExit→List AV→zaa→Prop:=zar tP zee [1,1,1,1,1,1,1,1,1,0,1,0] zf0 (zaB tP zrE K)
def zma(t16 t81 t82 t83:AV)(H:zaa)(K:Kt):Prop:=ALoop tP zKD (zKA K) (zl7 t16 t81 t82 t83) H
def zrD(t16 t81 t82 t83:AV)(H:zaa)(K:Kt)(Kb22:Lt):Prop:=
 zac .lss false t83 t82 λt84=>
 zag t84
 (zaj 1 t81 t83 λt85=>
 zae false 1 t85 H λt86=>
 ACalls tP zj8 [t86] H λt89 H=>
 zas 1 [.snil] 1 [(0,t89)] λt90=>
 zax zbj 1 24 t16 t90 H λt91 H=>
 zac .add false t83 (.int .i64 1) λt92=>
 Kb22 (zl7 t91 t81 t82 t92) H)
 (ACalls tP zEl [t16,(.fn zpi [])] H λt94 H=>
 zbb [t16,(.int .i64 0)] (K · H))
def zrC(t2 t12 t13 t52 t53 t54:AV)(H:zaa)(K:Kt)(Kb14:Lt):Prop:=
 zac .lss false t54 t53 λt55=>
 zag t55
 (zaj 3 t52 t54 λt56=>
 zae true 3 t56 H λt57=>
 zay [(.int .i64 0),(.int .i64 0),.snil] H λt15 H=>
 zak 3 t15 t57 H λH=>
 zad H (λK'=>K' t13 H) λt58=>
 zad H (λK'=>K' t12 H) λt59=>
 zad H (λK'=>zaG t59 (K' · H)) λt60=>
 zad H (λK'=>zaf 0 t60 (K' · H)) λt61=>
 zad H (λK'=>zam false 1 t61 H (K' · H)) λt62=>
 zad H (λK'=>zam true 3 t15 H (K' · H)) λt63=>
 zbl .w false H (λK'=>ACalls tP zgC [t62,t63] H K') λt64 H=>
 zad H (λK'=>zas 1 [(.int .i64 0)] 1 [(0,t64)] (K' · H)) λt65=>
 zbl .w false H (λK'=>zax zcZ 1 8 t58 t65 H K') λt66 H=>
 zad H (λK'=>K' t66 H) λt13=>
 zac .add false t54 (.int .i64 1) λt67=>
 Kb14 (zl6 t2 t12 t13 t52 t53 t67) H)
 (zaG t12 λt69=>
 zaf 0 t69 λt70=>
 zae false 1 t70 H λt71=>
 ACalls tP zgD [t71,t13,t2] H λt74 H=>
 ACalls tP ze8 [(.int .i64 2000)] H λt75 H=>
 ACalls tP zph [t74,t75] H λt76 H=>
 zac .gtr false t76 (.int .i64 0) λt77=>
 zag t77
 (zbb [.snil,(.int .i64 9)] (K · H))
 (ACalls tP zh0 [t12,t13,t2] H λt81 H=>
 zah 1 t81 λt82=>
 zma .snil t81 t82 (.int .i64 0) H K))
def ziE(t0 t1 t2 t3 t22 t23 t24:AV)(H:zaa)(K:Kt)(Kb4:Lt):Prop:=
 zac .lss false t24 t23 λt25=>
 zag t25
 (zaj 3 t22 t24 λt26=>
 zae true 3 t26 H λt27=>
 zay [(.int .i64 0),(.int .i64 0),.snil] H λt11 H=>
 zak 3 t11 t27 H λH=>
 zae true 3 t11 H λt29=>
 ACalls tP zpe [t0,t29] H λt30 H=>
 aUn .not t30 λt31=>
 zag t31
 (zbb [.snil,(.int .i64 6)] (K · H))
 (zac .add false t24 (.int .i64 1) λt32=>
 Kb4 (zl8 t0 t1 t2 t3 t22 t23 t32) H))
 (zac .lss false t2 (.int .i64 0) λt34=>
 zab t34 false H (λK'=>K' t2 H) λt36 H=>
 zab t34 false H (λK'=>zac .gtr false t36 (.int .i64 24) (K' · H)) λt37 H=>
 zai t34 (.bool true) t37 λt38=>
 zab t38 false H (λK'=>K' t3 H) λt40 H=>
 zab t38 false H (λK'=>ACalls tP zpg [t40] H K') λt41 H=>
 zab t38 false H (λK'=>aUn .not t41 (K' · H)) λt42 H=>
 zai t38 (.bool true) t42 λt43=>
 zag t43
 (zbb [.snil,(.int .i64 8)] (K · H))
 (zah 1 t3 λt46=>
 ACalls tP zpf [t0,t46] H λt47 H=>
 zeq H λt49 H=>
 zao [.nilp,.snil,.unk] [(0,1),(1,1),(2,1)] [(0,t47),(1,t3),(2,t49)] λt50=>
 zaw t50 H λt51 H=>
 zah 1 t1 λt53=>
 zl9 t2 t51 .snil t1 t53 (.int .i64 0) H K))
def zyI(t0 t1 t2 t3:AV)(H:zaa)(K:Kt):Prop:=
 zah 1 t1 λt20=>
 zac .gtr false t20 (.int .i64 6) λt21=>
 zag t21
 (zbb [.snil,(.int .i64 5)] (K · H))
 (zah 1 t1 λt23=>
 zyO t0 t1 t2 t3 t1 t23 (.int .i64 0) H K)
theorem zKG{t16 t81 t82 t83:AV}{H:zaa}{K:Kt}(Inv:Nat→AV→AV→zaa→Prop)(n:Nat)(h0:HSc H→Inv n t16 t83 H)(round:Rd2 (λt16=>λt83=>zl7 t16 t81 t82 t83) (λt16=>λt83=>λH Kb22=>zrD t16 t81 t82 t83 H K Kb22) H Inv):zma t16 t81 t82 t83 H K:=
 lp2 (M:=zee) zKJ t16 t83 (by kernel_rfl) Inv n h0 round
theorem zKF{t2 t12 t13 t52 t53 t54:AV}{H:zaa}{K:Kt}(Inv:Nat→AV→AV→zaa→Prop)(n:Nat)(h0:HSc H→Inv n t13 t54 H)(round:Rd2 (λt13=>λt54=>zl6 t2 t12 t13 t52 t53 t54) (λt13=>λt54=>λH Kb14=>zrC t2 t12 t13 t52 t53 t54 H K Kb14) H Inv):zl9 t2 t12 t13 t52 t53 t54 H K:=
 lp2 (M:=zee) zKI t13 t54 (by kernel_rfl) Inv n h0 round
theorem zKH{t0 t1 t2 t3 t22 t23 t24:AV}{H:zaa}{K:Kt}(Inv:Nat→AV→zaa→Prop)(n:Nat)(h0:HSc H→Inv n t24 H)(round:Rd1 (λt24=>zl8 t0 t1 t2 t3 t22 t23 t24) (λt24=>λH Kb4=>ziE t0 t1 t2 t3 t22 t23 t24 H K Kb4) H Inv):zyO t0 t1 t2 t3 t22 t23 t24 H K:=
 lp1 (M:=zee) zKK t24 (by kernel_rfl) Inv n h0 round
theorem zKL{t0 t1 t2 t3:AV}{H:zaa}{K:Kt}(h:HSc H→zyI t0 t1 t2 t3 H K):ACalls tP zo2 [t0,t1,t2,t3] H K:=
 zan (M:=zee) Tryz.func17 (c:=zf0) (by kernel_rfl) (λhs=>Eq.mpr (by kernel_rfl) (h hs))
def zNy(_:Nat):List Bool:=[]
noncomputable def zNz:Code:=Tryz.f50.body.getD .skip
def zz5(t0 t1:AV)(H:zaa)(K:Kt):Prop:=
 ACalls tP zj7 [t0,t1,(.fn zfN [])] H λt7 H=>
 K t7 H
theorem zNA{t0 t1:AV}{H:zaa}{K:Kt}(h:HSc H→zz5 t0 t1 H K):ACalls tP zpi [t0,t1] H K:=
 zan (M:=zNy) Tryz.func50 (c:=zNz) (by kernel_rfl) (λhs=>Eq.mpr (by kernel_rfl) (h hs))
def zIf(_:Nat):List Bool:=[]
noncomputable def zIg:Code:=Tryz.f13.body.getD .skip
def zxI(t0 t1:AV)(H:zaa)(K:Kt):Prop:=
 zaw t0 H λt2 H=>
 zaw t1 H λt3 H=>
 zad H (λK'=>zaf 0 t2 (K' · H)) λt6=>
 zad H (λK'=>zam false 1 t6 H (K' · H)) λt7=>
 zad H (λK'=>zaf 0 t3 (K' · H)) λt8=>
 zad H (λK'=>zam false 1 t8 H (K' · H)) λt9=>
 zaQ H (λH K'=>ACalls tP zj6 [t7,t9] H K') λt10=>
 zad H (λK'=>zaf 1 t2 (K' · H)) λt11=>
 zad H (λK'=>zam false 1 t11 H (K' · H)) λt12=>
 zad H (λK'=>zaf 1 t3 (K' · H)) λt13=>
 zad H (λK'=>zam false 1 t13 H (K' · H)) λt14=>
 zaQ H (λH K'=>ACalls tP zpd [t12,t14] H K') λt15=>
 zad H (λK'=>zaf 2 t2 (K' · H)) λt16=>
 zad H (λK'=>zam false 1 t16 H (K' · H)) λt17=>
 zad H (λK'=>zah 1 t17 (K' · H)) λt18=>
 zad H (λK'=>zaf 2 t3 (K' · H)) λt19=>
 zad H (λK'=>zam false 1 t19 H (K' · H)) λt20=>
 zad H (λK'=>zah 1 t20 (K' · H)) λt21=>
 zaQ H (λH K'=>ACalls tP zj6 [t18,t21] H K') λt22=>
 zad H (λK'=>zas 1 [(.int .i64 0)] 3 [(0,t10),(1,t15),(2,t22)] (K' · H)) λt23=>
 zaQ H (λH K'=>ACalls tP zpc [t23] H K') λt24=>
 zad H (λK'=>K' t24 H) λt5=>
 zac .neq false t5 (.int .i64 0) λt26=>
 zag t26
 (K t5 H)
 (zaf 2 t2 λt28=>
 zae false 1 t28 H λt29=>
 zaf 2 t3 λt30=>
 zae false 1 t30 H λt31=>
 ACalls tP zj7 [t29,t31,(.fn zfN [])] H λt32 H=>
 K t32 H)
theorem zIh{t0 t1:AV}{H:zaa}{K:Kt}(h:HSc H→zxI t0 t1 H K):ACalls tP zfN [t0,t1] H K:=
 zan (M:=zIf) Tryz.func13 (c:=zIg) (by kernel_rfl) (λhs=>Eq.mpr (by kernel_rfl) (h hs))
def zmw:Nat→List Bool
 |3=>rl false [3,1,2,3,9]
 |_=>[]
noncomputable def zr8:Code:=Tryz.f30.body.getD .skip
noncomputable def zMA:List ResultVar:=Tryz.f30.results.toList
def zmy(t3 t6 t7 t8:AV):List AV:=ux 3 (t3::ux 2 (t6::t7::t8::ux 9 []))
def zMy:List Bool:=zmw 3
noncomputable def zMw:Code:=zaq [1,1,0,1,0,0] zr8
def zMv(K:Kt):AExit→List AV→zaa→Prop:=zar tP zmw [1,1,0,1,0] zr8 (zaB tP zMA K)
def zzD(t3 t6 t7 t8:AV)(H:zaa)(K:Kt):Prop:=ALoop tP zMw (zMv K) (zmy t3 t6 t7 t8) H
def zmx(t3 t6 t7 t8:AV)(H:zaa)(K:Kt)(Kb3:Lt):Prop:=
 zac .lss false t8 t7 λt9=>
 zag t9
 (zaj 1 t6 t8 λt10=>
 zae false 1 t10 H λt11=>
 zac .neq false t11 t3 λt14=>
 zag t14
 (K t11 H)
 (zac .add false t8 (.int .i64 1) λt16=>
 Kb3 (zmy t3 t6 t7 t16) H))
 (K t3 H)
def zzC(t0:AV)(H:zaa)(K:Kt):Prop:=
 zah 1 t0 λt7=>
 zzD (.int .i64 0) t0 t7 (.int .i64 0) H K
theorem zMx{t3 t6 t7 t8:AV}{H:zaa}{K:Kt}(Inv:Nat→AV→zaa→Prop)(n:Nat)(h0:HSc H→Inv n t8 H)(round:Rd1 (λt8=>zmy t3 t6 t7 t8) (λt8=>λH Kb3=>zmx t3 t6 t7 t8 H K Kb3) H Inv):zzD t3 t6 t7 t8 H K:=
 lp1 (M:=zmw) zMy t8 (by kernel_rfl) Inv n h0 round
theorem zMz{t0:AV}{H:zaa}{K:Kt}(h:HSc H→zzC t0 H K):ACalls tP zpc [t0] H K:=
 zan (M:=zmw) Tryz.func30 (c:=zr8) (by kernel_rfl) (λhs=>Eq.mpr (by kernel_rfl) (h hs))
def zMB(_:Nat):List Bool:=[]
noncomputable def zMC:Code:=Tryz.f31.body.getD .skip
def zzE(t0 t1:AV)(H:zaa)(K:Kt):Prop:=
 ACalls tP zke [t0] H λt8 H=>
 ACalls tP zke [t1] H λt10 H=>
 zag t8
 (zag t10
 (K (.int .i64 0) H)
 (K (.int .i64 (-1)) H))
 (zag t10
 (K (.int .i64 1) H)
 (zac .lss false t0 t1 λt16=>
 zag t16
 (K (.int .i64 (-1)) H)
 (zac .gtr false t0 t1 λt19=>
 zag t19
 (K (.int .i64 1) H)
 (K (.int .i64 0) H))))
theorem zMD{t0 t1:AV}{H:zaa}{K:Kt}(h:HSc H→zzE t0 t1 H K):ACalls tP zj6 [t0,t1] H K:=
 zan (M:=zMB) Tryz.func31 (c:=zMC) (by kernel_rfl) (λhs=>Eq.mpr (by kernel_rfl) (h hs))
def zME(_:Nat):List Bool:=[]
noncomputable def zMF:Code:=Tryz.f32.body.getD .skip
def zzF(t0 t1:AV)(H:zaa)(K:Kt):Prop:=
 ACalls tP zkf [t0] H λt8 H=>
 ACalls tP zkf [t1] H λt10 H=>
 zag t8
 (zag t10
 (K (.int .i64 0) H)
 (K (.int .i64 (-1)) H))
 (zag t10
 (K (.int .i64 1) H)
 (zac .lss false t0 t1 λt16=>
 zag t16
 (K (.int .i64 (-1)) H)
 (zac .gtr false t0 t1 λt19=>
 zag t19
 (K (.int .i64 1) H)
 (K (.int .i64 0) H))))
theorem zMG{t0 t1:AV}{H:zaa}{K:Kt}(h:HSc H→zzF t0 t1 H K):ACalls tP zpd [t0,t1] H K:=
 zan (M:=zME) Tryz.func32 (c:=zMF) (by kernel_rfl) (λhs=>Eq.mpr (by kernel_rfl) (h hs))
def zmz:Nat→List Bool
 |2=>rl false [0,3,8,3,25]
 |_=>[]
noncomputable def zr9:Code:=Tryz.f33.body.getD .skip
noncomputable def zMM:List ResultVar:=Tryz.f33.results.toList
def zmA(t0 t1 t2 t11 t12 t13:AV):List AV:=t0::t1::t2::ux 8 (t11::t12::t13::ux 25 [])
def zMK:List Bool:=zmz 2
noncomputable def zMI:Code:=zaq [1,0,1,0,0] zr9
def zMH(K:Kt):AExit→List AV→zaa→Prop:=zar tP zmz [1,0,1,0] zr9 (zaB tP zMM K)
def zzH(t0 t1 t2 t11 t12 t13:AV)(H:zaa)(K:Kt):Prop:=ALoop tP zMI (zMH K) (zmA t0 t1 t2 t11 t12 t13) H
def ziP(t0 t1 t2 t11 t12 t13:AV)(H:zaa)(K:Kt)(Kb2:Lt):Prop:=
 zac .lss false t13 t12 λt14=>
 zag t14
 (zaj 3 t11 t13 λt16=>
 zae true 3 t16 H λt17=>
 zay [(.int .i64 0),(.int .i64 0),.snil] H λt8 H=>
 zak 3 t8 t17 H λH=>
 zah 1 t1 λt20=>
 zac .geq false t13 t20 λt21=>
 zag t21
 (K (.int .i64 1) H)
 (zaj 3 t1 t13 λt24=>
 zae true 3 t24 H λt25=>
 zay [(.int .i64 0),(.int .i64 0),.snil] H λt9 H=>
 zak 3 t9 t25 H λH=>
 zae true 3 t8 H λt27=>
 zae true 3 t9 H λt28=>
 aCallV tP t2 [t27,t28] H λt29 H=>
 zac .neq false t29 (.int .i64 0) λt31=>
 zag t31
 (K t29 H)
 (zac .add false t13 (.int .i64 1) λt33=>
 Kb2 (zmA t0 t1 t2 t11 t12 t33) H)))
 (zah 1 t0 λt35=>
 zah 1 t1 λt37=>
 zac .lss false t35 t37 λt38=>
 zag t38
 (K (.int .i64 (-1)) H)
 (K (.int .i64 0) H))
def zzG(t0 t1 t2:AV)(H:zaa)(K:Kt):Prop:=
 zah 1 t0 λt12=>
 zzH t0 t1 t2 t0 t12 (.int .i64 0) H K
theorem zMJ{t0 t1 t2 t11 t12 t13:AV}{H:zaa}{K:Kt}(Inv:Nat→AV→zaa→Prop)(n:Nat)(h0:HSc H→Inv n t13 H)(round:Rd1 (λt13=>zmA t0 t1 t2 t11 t12 t13) (λt13=>λH Kb2=>ziP t0 t1 t2 t11 t12 t13 H K Kb2) H Inv):zzH t0 t1 t2 t11 t12 t13 H K:=
 lp1 (M:=zmz) zMK t13 (by kernel_rfl) Inv n h0 round
theorem zML{t0 t1 t2:AV}{H:zaa}{K:Kt}(h:HSc H→zzG t0 t1 t2 H K):ACalls tP zj7 [t0,t1,t2] H K:=
 zan (M:=zmz) Tryz.func33 (c:=zr9) (by kernel_rfl) (λhs=>Eq.mpr (by kernel_rfl) (h hs))
def zOn(_:Nat):List Bool:=[]
noncomputable def zOo:Code:=Tryz.f69.body.getD .skip
def zAu(t0:AV)(H:zaa)(K:Kt):Prop:=
 zac .neq false t0 t0 λt5=>
 K t5 H
theorem zOp{t0:AV}{H:zaa}{K:Kt}(h:HSc H→zAu t0 H K):ACalls tP zke [t0] H K:=
 zan (M:=zOn) Tryz.func69 (c:=zOo) (by kernel_rfl) (λhs=>Eq.mpr (by kernel_rfl) (h hs))
def zOq(_:Nat):List Bool:=[]
noncomputable def zOr:Code:=Tryz.f70.body.getD .skip
def zAv(t0:AV)(H:zaa)(K:Kt):Prop:=
 zac .neq false t0 t0 λt5=>
 K t5 H
theorem zOs{t0:AV}{H:zaa}{K:Kt}(h:HSc H→zAv t0 H K):ACalls tP zkf [t0] H K:=
 zan (M:=zOq) Tryz.func70 (c:=zOr) (by kernel_rfl) (λhs=>Eq.mpr (by kernel_rfl) (h hs))
end Go.Proofs.YtaifokkaaahdoaaGreatDoor
