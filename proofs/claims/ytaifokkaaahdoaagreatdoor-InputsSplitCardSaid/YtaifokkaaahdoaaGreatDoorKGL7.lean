import Derived.Test.YtaifokkaaahdoaaGreatDoorLH2
import Derived.Test.YtaifokkaaahdoaaGreatDoorKNum
import Derived.Test.YtaifokkaaahdoaaGreatDoorProg
import Derived.KernelRfl
set_option linter.unusedSectionVars false
set_option linter.unusedSimpArgs false
set_option linter.unusedVariables false
set_option maxRecDepth 8000
namespace Go.Proofs.YtaifokkaaahdoaaGreatDoor
open Go Go.Abs
theorem zuy(a:List VT):za4 a []=[]:=by unfold za4;induction a with
 |nil=>rfl
 |cons v a ih=>rw[List.flatMap_cons,ih];rfl
theorem zuL{g:VT→Nat→List VT}:∀ (ts:List VT) (n:Nat),∀ r∈lsL g ts n,r.length=ts.length
 |[],n,r,h=>by
  rw[lsL]at h;split at h
  ·simp at h;subst h;rfl
  ·simp at h
 |t::ts,n,r,h=>by rw[lsL]at h;obtain⟨s,_,h⟩:=List.mem_flatMap.1 h;unfold za4 at h;obtain⟨v,_,h⟩:=List.mem_flatMap.1 h;obtain⟨r',hr',rfl⟩:=List.mem_map.1 h;rw[List.length_cons,List.length_cons,zuL ts _ r' hr']
section
variable (data:List Dat) (xs:List Int) (X:List VT) (Z:BI)
def RL(t:VT)(ts:List VT)(i:Nat)(is:List Nat)(n s:Nat)(B B':BS):Prop:=
 ∃ o1 S1,zd5 data xs.length Z.i B.s S1 i (s+1) o1∧vO o1=cV data xs.length t (s+1)∧zaV data xs.length X S1 ∧
  ((vO o1=0∧B'=⟨S1,B.m⟩)∨(vO o1≠0∧∃ o2 S2,zm5 data xs.length Z.i S1 S2 is (n-(s+1)) o2∧vO o2=cL (cV data xs.length) ts (n-(s+1))∧zaV data xs.length X S2 ∧
    ((vO o2=0∧B'=⟨S2,B.m⟩)∨(vO o2≠0∧∃B3,zff data xs.length xs Z ⟨S2,B.m⟩ B3 i (s+1) (vV data xs t (s+1))∧InvB data xs.length xs X B3∧zfY data xs.length xs Z B3 B' is (n-(s+1)) (lsL (vV data xs) ts (n-(s+1)))))))
end
section
variable {data:List Dat} (hD:zaE data=true) (hk:Kpt data) {xs:List Int} (hxs:xs.length≤8) {X:List VT} (hX:X.length≤1000000000000) {Z:BI}
include hD hk hxs hX
theorem InvB.mk'{S':SS}{B:BS}(hB:InvB data xs.length xs X B)(h:zaV data xs.length X S')(hp:B.s.types <+: S'.types):InvB data xs.length xs X ⟨S',B.m⟩:=
 ⟨h,λe he=>by
  obtain⟨i,n,t,h1,h2,h3⟩:=hB.m e he;exact⟨i,n,t,h1,zcS hp h2,h3⟩⟩
theorem zwS{t:VT}{n:Nat}(h:cV data xs.length t n=0):vV data xs t n=[]:=by have:=zdZ data xs n t;rw[h]at this;exact List.eq_nil_of_length_eq_zero this
theorem zhm(ts:List VT)(n:Nat):(lsL (vV data xs) ts n).length=cL (cV data xs.length) ts n:=
 zhl (zbF data xs.length) ts n λt _ s _=>zdZ data xs s t
theorem zDe{n:Nat}(hn:n≤14)(hV:∀ m,m≤n→zd6 data xs.length xs X Z m){t:VT}{ts:List VT}{i:Nat}{is:List Nat}(htl:ts.length≤1000)(ih:∀ (m:Nat) (B:BS),m≤n→InvB data xs.length xs X B→IdxOk B.s.types ts is→(∀ (p:Nat) (h:p<ts.length),Rch data X (m-p) ts[p])→cL (cV data xs.length) ts m≤2000→∃ B',InvB data xs.length xs X B'∧B.s.types <+: B'.s.types∧zfY data xs.length xs Z B B' is m (lsL (vV data xs) ts m)){B:BS}(hB:InvB data xs.length xs X B)(hix:IdxOk B.s.types (t::ts) (i::is))(hR:∀ (p:Nat) (h:p<(t::ts).length),Rch data X (n-p) (t::ts)[p])(hl:cL (cV data xs.length) (t::ts) n≤2000):
  ∃ σ:Nat→BS,σ 0=B∧(∀s≤n,InvB data xs.length xs X (σ s)∧B.s.types <+: (σ s).s.types)∧∀s<n,RL data xs X Z t ts i is n s (σ s) (σ (s+1)):=by
 have hC:∀m,m≤n→zcp data xs.length X Z.i m:=λm hm=>ziQ hD hk hxs hX m (by omega);simp only[IdxOk,List.map_cons,List.cons.injEq]at hix;have hR0:Rch data X n t:=hR 0 (by simp);refine zdK (λs (B':BS)=>InvB data xs.length xs X B'∧B.s.types <+: B'.s.types) (λs B B'=>RL data xs X Z t ts i is n s B B') n (λs hs B1 hB1=>?_) _ ⟨hB,List.prefix_rfl⟩;obtain⟨h1,h2⟩:=hB1;obtain⟨S1,o1,k1,k2,k3,k4⟩:=hC (s+1) (by omega) B1.s i t h1.s (zcS h2 hix.1) (hR0.le _ (by omega));by_cases e1:vO o1=0
 ·exact⟨⟨S1,B1.m⟩,⟨o1,S1,k4,k3,k1,.inl ⟨e1,rfl⟩⟩,InvB.mk' hD hk hxs hX h1 k1 k2,h2.trans k2⟩
 ·have hRt:∀ (p:Nat) (h:p<ts.length),Rch data X (n-(s+1)-p) ts[p]:=λp hp=>by have:=hR (p+1) (by simpa using hp);simp only[List.getElem_cons_succ]at this;exact this.le _ (by omega)
  obtain⟨S2,o2,j1,j2,j3,j4⟩:=zph hD hk hxs hX (show n-(s+1)≤14 by omega) (λm hm=>hC m (by omega)) htl k1 (IdxOk.mono (h2.trans k2) hix.2) hRt;by_cases e2:vO o2=0
  ·exact⟨⟨S2,B1.m⟩,⟨o1,S1,k4,k3,k1,.inr ⟨e1,o2,S2,j4,j3,j1,.inl ⟨e2,rfl⟩⟩⟩,InvB.mk' hD hk hxs hX h1 j1 (k2.trans j2),h2.trans (k2.trans j2)⟩
  ·have hterm:cV data xs.length t (s+1)*cL (cV data xs.length) ts (n-(s+1))≤2000:=by rw[cL]at hl;exact Nat.le_trans (zv7 (f:=λs=>cV data xs.length t s*cL (cV data xs.length) ts (n-s)) (show s+1<n+1 by omega)) hl
   rw[k3]at e1;rw[j3]at e2;have c1:cV data xs.length t (s+1)≤2000:=Nat.le_trans (Nat.le_mul_of_pos_right _ (by omega)) hterm;have c2:cL (cV data xs.length) ts (n-(s+1))≤2000:=Nat.le_trans (Nat.le_mul_of_pos_left _ (by omega)) hterm;have hB2:=InvB.mk' hD hk hxs hX h1 j1 (k2.trans j2);obtain⟨B3,v1,v2,v3⟩:=hV (s+1) (by omega) ⟨S2,B1.m⟩ i t hB2 (zcS (h2.trans (k2.trans j2)) hix.1) (hR0.le _ (by omega)) e1 c1;obtain⟨B4,w1,w2,w3⟩:=ih (n-(s+1)) B3 (by omega) v1 (IdxOk.mono (h2.trans (k2.trans (j2.trans v2))) hix.2) hRt c2;exact⟨B4,⟨o1,S1,k4,k3,k1,.inr ⟨by rw[k3];exact e1,o2,S2,j4,j3,j1,.inr ⟨by rw[j3];exact e2,B3,v3,v1,w3⟩⟩⟩,w1,h2.trans (k2.trans (j2.trans (v2.trans w2)))⟩
end
def zeD(data:List Dat)(xs:List Int)(t:VT)(ts:List VT)(n s:Nat):List (List VT):=(List.range s).flatMap λs'=>za4 (vV data xs t (s'+1)) (lsL (vV data xs) ts (n-(s'+1)))
theorem zBq(data:List Dat)(xs:List Int)(t:VT)(ts:List VT)(n s:Nat):zeD data xs t ts n (s+1)=zeD data xs t ts n s++za4 (vV data xs t (s+1)) (lsL (vV data xs) ts (n-(s+1))):=by unfold zeD;rw[List.range_succ,List.flatMap_append];simp
theorem zs2(data:List Dat)(xs:List Int)(t:VT)(ts:List VT)(n:Nat):zeD data xs t ts n n=lsL (vV data xs) (t::ts) n:=rfl
theorem zBp(data:List Dat)(xs:List Int)(t:VT)(ts:List VT)(n:Nat){s s':Nat}(h:s≤s'):(zeD data xs t ts n s).length≤(zeD data xs t ts n s').length:=by unfold zeD;rw[zgc,zgc];exact zj7 h _
theorem zBw(l:List ((Int×Int)×AV)):All2 (λp q=>p.1=q.1∧WkA p.2 q.2) l l:=by
 induction l with
 |nil=>trivial
 |cons a l ih=>exact⟨⟨rfl,.refl _⟩,ih⟩
section
variable {data:List Dat} (hD:zaE data=true) (hk:Kpt data) {xs:List Int} (hxs:xs.length≤8) {X:List VT} (hX:X.length≤1000000000000) {Z:BI}
include hD hk hxs hX
theorem zuH{N:Nat}(hN:N≤14)(hV:∀ m,m≤N→zd6 data xs.length xs X Z m):∀ (ts:List VT) (is:List Nat),ts.length≤1000→∀ (n:Nat) (B:BS),n≤N→InvB data xs.length xs X B→IdxOk B.s.types ts is→(∀ (p:Nat) (h:p<ts.length),Rch data X (n-p) ts[p])→cL (cV data xs.length) ts n≤2000 →
  ∃B',InvB data xs.length xs X B'∧B.s.types <+: B'.s.types∧zfY data xs.length xs Z B B' is n (lsL (vV data xs) ts n):=by
 intro ts;induction ts with
 |nil=>
  intro is htl n B hn hB hix hR hl;have his:is=[]:=List.eq_nil_of_length_eq_zero (by simpa using hix.len);subst his;refine⟨B,hB,List.prefix_rfl,λH hS h0 K hK=>?_⟩;refine ACalls.out (zzu λhs=>?_);rw[hS.self]at hK;simp[zrv];rw[lsL]at hK;by_cases h:n=0
  ·subst h;simp at hK ⊢;simp[zar,za3,plain,AV.pd];exact Out.at (J:=[]) (by simp) (Nat.le_refl _) hs (.atom (.sl _ _)) rfl rfl hK
  ·rw[if_neg h]at hK;have hb:((n:Int) == 0)=false:=by simp;omega
   simp[hb];exact Out.at (J:=[]) (by simp) (Nat.le_refl _) hs (.atom .snil) rfl rfl hK
 |cons t ts ih0=>
  intro is htl n B hn hB hix hR hl;obtain⟨i,is,rfl⟩:∃i is',is=i::is':=by
   cases is with
   |nil=>have:=hix.len;simp at this
   |cons i is=>exact⟨i,is,rfl⟩
  have htl':ts.length≤1000:=by simp at htl;omega
  obtain⟨σ,hσ0,hσI,hσR⟩:=zDe hD hk hxs hX (show n≤14 by omega) (λm hm=>hV m (by omega)) htl' (λm B hm=>ih0 is htl' m B (by omega)) hB hix hR hl;have hlast:=hσI n (Nat.le_refl _);refine⟨σ n,hlast.1,hlast.2,λH hS h0 K hK=>?_⟩;refine ACalls.out (zzu λhs=>?_);have hlt0:0<H.length:=(List.getElem?_eq_some_iff.1 h0).1;have lbp:=(List.getElem?_eq_some_iff.1 hS.bpa).1;have hall:=zhm hD hk hxs hX (t::ts) n;simp[zrv];have hlen:(((is.length:Int)+1) == 0)=false:=by simp;omega
  refine ALoop.own 7 zbd 1 rfl ?_;obtain⟨L,hL⟩:∃L,L=H.length:=⟨_,rfl⟩;obtain⟨acc,hacc⟩:∃acc:Nat→List (List VT),acc=zeD data xs t ts n:=⟨_,rfl⟩;have hac0:acc 0=[]:=by rw[hacc];rfl
  have hle:∀s,s≤n→(acc s).length≤2000:=λs hs=>by have:=zBp data xs t ts n hs;rw[zs2,hall]at this;rw[hacc];omega
  obtain⟨G,hG⟩:∃G:BS→Nat→zaa,G=λB' k=>shB data xs.length Z B' H++[.perm zbd 1 k]:=⟨_,rfl⟩;have hGl:∀B' k,(G B' k).length=L+1:=λB' k=>by rw[hG,hL];simp
  have hGs:∀B' k,HSc (G B' k):=λB' k=>by rw[hG];exact(hS.scs hs).snoc rfl
  have hGS:∀B' k,zaV data xs.length X B'.s→ShB data xs.length xs Z B' (G B' k):=λB' k hB'=>by rw[hG];exact(hS.next hB'.ml hB'.cl).app
  have hG0:∀B' k,(G B' k)[0]?=some .nodr:=λB' k=>by rw[hG];simp only;rw[List.getElem?_append_left (by simpa using hlt0)];exact hS.nodr h0
  have hGm:∀B' B'' k,zaV data xs.length X B'.s→shB data xs.length Z B'' (G B' k)=G B'' k:=λB' B'' k hB'=>by rw[hG];simp only;rw[(hS.next hB'.ml hB'.cl).shB_app,hS.shB_shB]
  have hGn:∀B' S' k,zaV data xs.length X B'.s→shS data xs.length Z.i S' (G B' k)=G ⟨S',B'.m⟩ k:=λB' S' k hB'=>by rw[(hGS B' k hB').shS_eq,hGm _ _ _ hB']
  have hGp:∀B' k,(G B' k)[L]?=some (.perm zbd 1 k):=λB' k=>by rw[hG,hL];simp
  have hGset:∀B' k k',(G B' k).set L (.perm zbd 1 k')=G B' k':=λB' k k'=>by rw[hG,hL];simp only;rw[List.set_append_right _ _ (by simp)];simp
  rw[←hL];show zry (.ptr Z.bp 0) (.sl (zaZ (i::is)) .none) (.int .i64 n) (.sl [] (.own L)) (.int .i64 1) (H++[.perm zbd 1 0]) _;refine zMD (Inv:=λq t7 t8 H'=>∃s s1:Nat,s1=s+1∧s≤n∧n-s=q∧t8=.int .i64 s1∧t7=.sl (llA (acc s)) (.own L)∧H'=G (σ s) (acc s).length) n ?_ ?_
  ·intro _;refine⟨0,1,rfl,by omega,rfl,rfl,by rw[hac0];rfl,?_⟩;rw[hac0,hσ0,hG];simp only;rw[hS.self];rfl
  ·rintro q t7 t8 H' ⟨s,s1,hs1,hsn,rfl,rfl,rfl,rfl⟩ hsc7 hlen7 hsF7 Kb7 hKb7;have hIs:=hσI s hsn;by_cases hlt:s<n
   ·have hle1:s1≤n:=by omega
    obtain⟨o1,S1,c1,v1,I1,hrest⟩:=hσR s hlt;rw[←hs1]at c1 v1;have hj:acc (s+1)=acc s++za4 (vV data xs t s1) (lsL (vV data xs) ts (n-s1)):=by rw[hacc,zBq,hs1]
    have fin:∀(a:AV),a=.sl (llA (acc (s+1))) (.own L)→zlW (.ptr Z.bp 0) (.sl (zaZ (i::is)) .none) (.int .i64 n) a (.int .i64 s1) (G (σ (s+1)) (acc (s+1)).length) (Out L K) Kb7:=by rintro a rfl;unfold zlW zzt;simp;rw[wr (by omega)];refine hKb7 _ _ ⟨n-(s+1),by omega,Back.here (by rw[hGl];simp[hL]) (hGs _ _) ?_ ⟨_,_,rfl,s+1,s1+1,by omega,by omega,rfl,rfl,rfl,rfl⟩⟩;rw[hGl];simp[zlV,ux,AV.sc,AV.scA,AV.scB,AV.scV];omega
    have g0:∀h:0<(zaZ (i::is)).length,(zaZ (i::is))[0]'h=[AV.int .i64 (i:Nat)]:=λh=>by simp[zaZ]
    simp[zrw,hle1,(hGS _ _ hIs.1.s).bpa,g0];have b1:vO o1<1000000000 ^ 30:=by rw[v1];exact zeG hk hxs t (by omega)
    refine zcq (.agg (zal o1)) (G ⟨S1,(σ s).m⟩ (acc s).length) (c1 _ (hGS _ _ hIs.1.s).sh (hG0 _ _) _ ⟨rfl,hGn _ _ _ hIs.1.s⟩) ?_;refine zcq (.int .i64 (if vO o1=0 then 0 else 1)) _ (zgO o1 b1 _ _ ⟨rfl,rfl⟩) ?_;rcases hrest with ⟨e1,hst⟩|⟨e1,o2,S2,c2,v2,I2,hrest⟩
    ·simp[e1];have:acc s=acc (s+1):=by rw[hj,zwS hD hk hxs hX (by rw[←v1];exact e1)];simp[za4]
     rw[←hst,this];exact fin _ rfl
    ·have hB1:=hGS ⟨S1,(σ s).m⟩ (acc s).length I1;have htail:(List.take (is.length+1) (zaZ (i::is))).tail=zaZ is:=by rw[List.take_of_length_le (by simp)];rfl
     have hone:∀c∈zaZ (i::is),c.length=1:=by simp[zaZ]
     have hw:IntKind.i64.wrap ((n:Int)-(s1:Int))=((n-s1:Nat):Int):=by rw[zaB (by omega) (by omega)];omega
     simp[e1,hB1.bpa,htail,hw];refine⟨hone,?_⟩;rw[←hs1]at c2 v2;have b2:vO o2<1000000000 ^ 30:=by rw[v2];exact znt hk hxs ts (by omega)
     refine zcq (.agg (zal o2)) (G ⟨S2,(σ s).m⟩ (acc s).length) (c2 _ hB1.sh (hG0 _ _) _ ⟨rfl,hGn _ _ _ I1⟩) ?_;refine zcq (.int .i64 (if vO o2=0 then 0 else 1)) _ (zgO o2 b2 _ _ ⟨rfl,rfl⟩) ?_;rcases hrest with ⟨e2,hst⟩|⟨e2,B3,c3,I3,c4⟩
     ·simp[e2];have hnil:lsL (vV data xs) ts (n-s1)=[]:=List.eq_nil_of_length_eq_zero (by rw[zhm hD hk hxs hX,←v2,e2]);have:acc s=acc (s+1):=by rw[hj,hnil,zuy];simp
      rw[←hst,this];exact fin _ rfl
     ·simp[e2];have c4':zfY data xs.length xs Z B3 (σ (s+1)) is (n-s1) (lsL (vV data xs) ts (n-s1)):=by rw[hs1];exact c4
      rw[←hs1]at c3;have hB2:=hGS ⟨S2,(σ s).m⟩ (acc s).length I2;have hB3:=hGS B3 (acc s).length I3.s;refine zcq (.sl (VT.css (vV data xs t s1)) .none) (G B3 (acc s).length) (c3 _ hB2 (hG0 _ _) _ ⟨rfl,hGm _ _ _ I2⟩) ?_;refine⟨hone,?_⟩;refine zcq (.sl (llA (lsL (vV data xs) ts (n-s1))) .none) (G (σ (s+1)) (acc s).length) (c4' _ hB3 (hG0 _ _) _ ⟨rfl,hGm _ _ _ I3.s⟩) ?_;have hjl:=congrArg List.length hj;rw[List.length_append,zfs]at hjl;have hl1:=hle (s+1) (by omega);have la:(vV data xs t s1).length=vO o1:=by rw[zdZ,v1]
      have lb:(lsL (vV data xs) ts (n-s1)).length=vO o2:=by rw[zhm hD hk hxs hX,v2]
      have hprod:(vV data xs t s1).length*(lsL (vV data xs) ts (n-s1)).length≤2000:=by omega
      have la2:(vV data xs t s1).length≤2000:=Nat.le_trans (Nat.le_mul_of_pos_right _ (by omega)) hprod;have lb2:(lsL (vV data xs) ts (n-s1)).length≤2000:=Nat.le_trans (Nat.le_mul_of_pos_left _ (by omega)) hprod;refine zcq (.sl (llA (za4 (vV data xs t s1) (lsL (vV data xs) ts (n-s1)))) .none) _ (zAD _ _ (by omega) (by omega) (λr hr=>by rw[zuL ts _ r hr];omega) _ _ ⟨rfl,rfl⟩) ?_;refine zcq (.sl (llA (acc (s+1))) (.own L)) (G (σ (s+1)) (acc (s+1)).length) ?_ (fin _ rfl);simp only[zay,zbb,za0,zgi,zfs];refine⟨by simp[llA],hGp _ _,⟨by omega,by omega⟩,?_,?_⟩
      ·rw[hj,zn1]
      ·rw[hGset,hjl]
   ·obtain rfl:s=n:=by omega
    have hgt:¬s1≤s:=by omega
    simp[zrw,hgt];have hfin:acc s=lsL (vV data xs) (t::ts) s:=by rw[hacc,zs2]
    rw[hfin,hG];exact Out.at rfl (by simp[hL]) (hS.scs hs) (.atom (.sl _ _)) rfl rfl hK
end
theorem zBG{g:Nat→List VT}:∀(n:Nat),∀r∈arL g n,r.length≤n:=by
 intro n;induction n using Nat.strongRecOn with
 |ind n ih=>
  intro r h;cases n with
  |zero=>rw[ziF]at h;simp at h;subst h;exact Nat.le_refl _
  |succ n=>rw[zgY]at h;obtain⟨s,_,h⟩:=List.mem_flatMap.1 h;unfold za4 at h;obtain⟨v,_,h⟩:=List.mem_flatMap.1 h;obtain⟨r',hr',rfl⟩:=List.mem_map.1 h;have:=ih _ (by omega) r' hr';rw[List.length_cons];omega
def zfn(data:List Dat)(xs:List Int)(t:VT)(n s:Nat):List (List VT):=(List.range s).flatMap λs'=>za4 (vV data xs t (s'+1)) (arL (vV data xs t) (n-(s'+1)))
theorem zBo(data:List Dat)(xs:List Int)(t:VT)(n s:Nat):zfn data xs t n (s+1)=zfn data xs t n s++za4 (vV data xs t (s+1)) (arL (vV data xs t) (n-(s+1))):=by unfold zfn;rw[List.range_succ,List.flatMap_append];simp
theorem zBn(data:List Dat)(xs:List Int)(t:VT)(n:Nat){s s':Nat}(h:s≤s'):(zfn data xs t n s).length≤(zfn data xs t n s').length:=by unfold zfn;rw[zgc,zgc];exact zj7 h _
def zA2(data:List Dat)(kk:Nat)(I:SI)(S S':SS)(i n:Nat)(o:Option Nat):Prop:=∀H,ShS data kk I S H→H[0]?=some .nodr→∀K:Kt,K (.agg (zal o)) (shS data kk I S' H)→ACalls tP zhF [.ptr I.p 0,.int .i64 i,.int .i64 n] H K
def RLA(data:List Dat)(xs:List Int)(X:List VT)(Z:BI)(t:VT)(i n s:Nat)(B B':BS):Prop:=
 ∃ o1 S1,zd5 data xs.length Z.i B.s S1 i (s+1) o1∧vO o1=cV data xs.length t (s+1)∧zaV data xs.length X S1 ∧
  ((vO o1=0∧B'=⟨S1,B.m⟩)∨(vO o1≠0∧∃ o2 S2,zA2 data xs.length Z.i S1 S2 i (n-(s+1)) o2∧vO o2=cA (cV data xs.length t) (n-(s+1))∧zaV data xs.length X S2 ∧
    ((vO o2=0∧B'=⟨S2,B.m⟩)∨(vO o2≠0∧∃B3,zff data xs.length xs Z ⟨S2,B.m⟩ B3 i (s+1) (vV data xs t (s+1))∧InvB data xs.length xs X B3∧ziz data xs.length xs Z B3 B' i (n-(s+1)) (arL (vV data xs t) (n-(s+1)))))))
section
variable {data:List Dat} (hD:zaE data=true) (hk:Kpt data) {xs:List Int} (hxs:xs.length≤8) {X:List VT} (hX:X.length≤1000000000000) {Z:BI}
include hD hk hxs hX
theorem ziG(t:VT)(n:Nat):(arL (vV data xs t) n).length=cA (cV data xs.length t) n:=
 ztd (zbF data xs.length t) n λs _=>zdZ data xs s t
theorem zBM{n:Nat}(hn:n≤14)(hV:∀ m,m≤n→zd6 data xs.length xs X Z m){t:VT}{i:Nat}(ih:∀ (m:Nat) (B:BS),m<n→InvB data xs.length xs X B→B.s.types[i]?=some t→Rch data X m t→cA (cV data xs.length t) m≤2000→∃ B',InvB data xs.length xs X B'∧B.s.types <+: B'.s.types∧ziz data xs.length xs Z B B' i m (arL (vV data xs t) m)){B:BS}(hB:InvB data xs.length xs X B)(hti:B.s.types[i]?=some t)(hR:Rch data X n t)(hl:cA (cV data xs.length t) n≤2000):
  ∃ σ:Nat→BS,σ 0=B∧(∀s≤n,InvB data xs.length xs X (σ s)∧B.s.types <+: (σ s).s.types)∧∀s<n,RLA data xs X Z t i n s (σ s) (σ (s+1)):=by
 have hC:∀m,m≤n→zcp data xs.length X Z.i m:=λm hm=>ziQ hD hk hxs hX m (by omega);refine zdK (λs (B':BS)=>InvB data xs.length xs X B'∧B.s.types <+: B'.s.types) (λs B B'=>RLA data xs X Z t i n s B B') n (λs hs B1 hB1=>?_) _ ⟨hB,List.prefix_rfl⟩;obtain⟨h1,h2⟩:=hB1;obtain⟨S1,o1,k1,k2,k3,k4⟩:=hC (s+1) (by omega) B1.s i t h1.s (zcS h2 hti) (hR.le _ (by omega));by_cases e1:vO o1=0
 ·exact⟨⟨S1,B1.m⟩,⟨o1,S1,k4,k3,k1,.inl ⟨e1,rfl⟩⟩,InvB.mk' hD hk hxs hX h1 k1 k2,h2.trans k2⟩
 ·obtain⟨S2,o2,j1,j2,j3,j4⟩:=zv2 hD hk hxs hX (show n-(s+1)≤14 by omega) (λm hm=>hC m (by omega)) k1 (zcS (h2.trans k2) hti) (hR.le _ (by omega));by_cases e2:vO o2=0
  ·exact⟨⟨S2,B1.m⟩,⟨o1,S1,k4,k3,k1,.inr ⟨e1,o2,S2,j4,j3,j1,.inl ⟨e2,rfl⟩⟩⟩,InvB.mk' hD hk hxs hX h1 j1 (k2.trans j2),h2.trans (k2.trans j2)⟩
  ·have hterm:cV data xs.length t (s+1)*cA (cV data xs.length t) (n-(s+1))≤2000:=by obtain⟨m,rfl⟩:∃ m,n=m+1:=⟨n-1,by omega⟩;rw[ziJ (zbF data xs.length t)]at hl;exact Nat.le_trans (zv7 (f:=λs=>cV data xs.length t s*cA (cV data xs.length t) (m+1-s)) (show s+1<m+2 by omega)) hl
   rw[k3]at e1;rw[j3]at e2;have c1:cV data xs.length t (s+1)≤2000:=Nat.le_trans (Nat.le_mul_of_pos_right _ (by omega)) hterm;have c2:cA (cV data xs.length t) (n-(s+1))≤2000:=Nat.le_trans (Nat.le_mul_of_pos_left _ (by omega)) hterm;have hB2:=InvB.mk' hD hk hxs hX h1 j1 (k2.trans j2);obtain⟨B3,v1,v2,v3⟩:=hV (s+1) (by omega) ⟨S2,B1.m⟩ i t hB2 (zcS (h2.trans (k2.trans j2)) hti) (hR.le _ (by omega)) e1 c1;obtain⟨B4,w1,w2,w3⟩:=ih (n-(s+1)) B3 (by omega) v1 (zcS (h2.trans (k2.trans (j2.trans v2))) hti) (hR.le _ (by omega)) c2;exact⟨B4,⟨o1,S1,k4,k3,k1,.inr ⟨by rw[k3];exact e1,o2,S2,j4,j3,j1,.inr ⟨by rw[j3];exact e2,B3,v3,v1,w3⟩⟩⟩,w1,h2.trans (k2.trans (j2.trans (v2.trans w2)))⟩
theorem zBL{N:Nat}(hN:N≤14)(hV:∀ m,m≤N→zd6 data xs.length xs X Z m){t:VT}{i:Nat}:∀ (n:Nat) (B:BS),n≤N→InvB data xs.length xs X B→B.s.types[i]?=some t→Rch data X n t→cA (cV data xs.length t) n≤2000 →
  ∃B',InvB data xs.length xs X B'∧B.s.types <+: B'.s.types∧ziz data xs.length xs Z B B' i n (arL (vV data xs t) n):=by
 intro n;induction n using Nat.strongRecOn with
 |ind n ih0=>
  intro B hn hB hti hR hl;by_cases hz:n=0
  ·subst hz;refine⟨B,hB,List.prefix_rfl,λH hS h0 K hK=>?_⟩;refine ACalls.out (zxi λhs=>?_);rw[hS.self]at hK;simp[zp0];simp[zar,za3,plain,AV.pd];exact Out.at (J:=[]) (by simp) (Nat.le_refl _) hs (.atom (.sl _ _)) rfl rfl hK
  ·obtain⟨σ,hσ0,hσI,hσR⟩:=zBM hD hk hxs hX (show n≤14 by omega) (λm hm=>hV m (by omega)) (λm B hm=>ih0 m hm B (by omega)) hB hti hR hl;have hlast:=hσI n (Nat.le_refl _);refine⟨σ n,hlast.1,hlast.2,λH hS h0 K hK=>?_⟩;refine ACalls.out (zxi λhs=>?_);have hlt0:0<H.length:=(List.getElem?_eq_some_iff.1 h0).1;have lbp:=(List.getElem?_eq_some_iff.1 hS.bpa).1;have hall:=ziG hD hk hxs hX t n;have hb:((n:Int) == 0)=false:=by simp;omega
   simp[zp0,hb];refine ALoop.own 7 zbd 1 rfl ?_;obtain⟨L,hL⟩:∃L,L=H.length:=⟨_,rfl⟩;obtain⟨acc,hacc⟩:∃acc:Nat→List (List VT),acc=zfn data xs t n:=⟨_,rfl⟩;have hac0:acc 0=[]:=by rw[hacc];rfl
   have haccn:acc n=arL (vV data xs t) n:=by rw[hacc];obtain⟨m,rfl⟩:∃m,n=m+1:=⟨n-1,by omega⟩;rw[zgY];rfl
   have hle:∀s,s≤n→(acc s).length≤2000:=λs hs=>by have:=zBn data xs t n hs;rw[←hacc,haccn,hall]at this;omega
   obtain⟨G,hG⟩:∃G:BS→Nat→zaa,G=λB' k=>shB data xs.length Z B' H++[.perm zbd 1 k]:=⟨_,rfl⟩;have hGl:∀B' k,(G B' k).length=L+1:=λB' k=>by rw[hG,hL];simp
   have hGs:∀B' k,HSc (G B' k):=λB' k=>by rw[hG];exact(hS.scs hs).snoc rfl
   have hGS:∀B' k,zaV data xs.length X B'.s→ShB data xs.length xs Z B' (G B' k):=λB' k hB'=>by rw[hG];exact(hS.next hB'.ml hB'.cl).app
   have hG0:∀B' k,(G B' k)[0]?=some .nodr:=λB' k=>by rw[hG];simp only;rw[List.getElem?_append_left (by simpa using hlt0)];exact hS.nodr h0
   have hGm:∀B' B'' k,zaV data xs.length X B'.s→shB data xs.length Z B'' (G B' k)=G B'' k:=λB' B'' k hB'=>by rw[hG];simp only;rw[(hS.next hB'.ml hB'.cl).shB_app,hS.shB_shB]
   have hGn:∀B' S' k,zaV data xs.length X B'.s→shS data xs.length Z.i S' (G B' k)=G ⟨S',B'.m⟩ k:=λB' S' k hB'=>by rw[(hGS B' k hB').shS_eq,hGm _ _ _ hB']
   have hGp:∀B' k,(G B' k)[L]?=some (.perm zbd 1 k):=λB' k=>by rw[hG,hL];simp
   have hGset:∀B' k k',(G B' k).set L (.perm zbd 1 k')=G B' k':=λB' k k'=>by rw[hG,hL];simp only;rw[List.set_append_right _ _ (by simp)];simp
   rw[←hL];show zp3 (.ptr Z.bp 0) (.int .i64 i) (.int .i64 n) (.sl [] (.own L)) (.int .i64 1) (H++[.perm zbd 1 0]) _;refine zG9 (Inv:=λq t7 t8 H'=>∃s s1:Nat,s1=s+1∧s≤n∧n-s=q∧t8=.int .i64 s1∧t7=.sl (llA (acc s)) (.own L)∧H'=G (σ s) (acc s).length) n ?_ ?_
   ·intro _;refine⟨0,1,rfl,by omega,rfl,rfl,by rw[hac0];rfl,?_⟩;rw[hac0,hσ0,hG];simp only;rw[hS.self];rfl
   ·rintro q t7 t8 H' ⟨s,s1,hs1,hsn,rfl,rfl,rfl,rfl⟩ hsc7 hlen7 hsF7 Kb7 hKb7;have hIs:=hσI s hsn;by_cases hlt:s<n
    ·have hle1:s1≤n:=by omega
     obtain⟨o1,S1,c1,v1,I1,hrest⟩:=hσR s hlt;rw[←hs1]at c1 v1;have hj:acc (s+1)=acc s++za4 (vV data xs t s1) (arL (vV data xs t) (n-s1)):=by rw[hacc,zBo,hs1]
     have fin:∀(a:AV),a=.sl (llA (acc (s+1))) (.own L)→zkJ (.ptr Z.bp 0) (.int .i64 i) (.int .i64 n) a (.int .i64 s1) (G (σ (s+1)) (acc (s+1)).length) (Out L K) Kb7:=by rintro a rfl;unfold zkJ zxh;simp;rw[wr (by omega)];refine hKb7 _ _ ⟨n-(s+1),by omega,Back.here (by rw[hGl];simp[hL]) (hGs _ _) ?_ ⟨_,_,rfl,s+1,s1+1,by omega,by omega,rfl,rfl,rfl,rfl⟩⟩;rw[hGl];simp[zkI,ux,AV.sc,AV.scA,AV.scB,AV.scV];omega
     simp[zp1,hle1,(hGS _ _ hIs.1.s).bpa];have b1:vO o1<1000000000 ^ 30:=by rw[v1];exact zeG hk hxs t (by omega)
     refine c1 _ (hGS _ _ hIs.1.s).sh (hG0 _ _) _ ?_;rw[hGn _ _ _ hIs.1.s];refine zgO o1 b1 _ _ ?_;rcases hrest with ⟨e1,hst⟩|⟨e1,o2,S2,c2,v2,I2,hrest⟩
     ·simp[e1];have:acc s=acc (s+1):=by rw[hj,zwS hD hk hxs hX (by rw[←v1];exact e1)];simp[za4]
      rw[←hst,this];exact fin _ rfl
     ·have hB1:=hGS ⟨S1,(σ s).m⟩ (acc s).length I1;have hw:IntKind.i64.wrap ((n:Int)-(s1:Int))=((n-s1:Nat):Int):=by rw[zaB (by omega) (by omega)];omega
      simp[e1,hB1.bpa,hw];rw[←hs1]at c2 v2;have b2:vO o2<1000000000 ^ 30:=by rw[v2];exact ztp hk hxs t (by omega)
      refine c2 _ hB1.sh (hG0 _ _) _ ?_;rw[hGn _ _ _ I1];refine zgO o2 b2 _ _ ?_;rcases hrest with ⟨e2,hst⟩|⟨e2,B3,c3,I3,c4⟩
      ·simp[e2];have hnil:arL (vV data xs t) (n-s1)=[]:=List.eq_nil_of_length_eq_zero (by rw[ziG hD hk hxs hX,←v2,e2]);have:acc s=acc (s+1):=by rw[hj,hnil,zuy];simp
       rw[←hst,this];exact fin _ rfl
      ·simp[e2];have c4':ziz data xs.length xs Z B3 (σ (s+1)) i (n-s1) (arL (vV data xs t) (n-s1)):=by rw[hs1];exact c4
       rw[←hs1]at c3;have hB2:=hGS ⟨S2,(σ s).m⟩ (acc s).length I2;have hB3:=hGS B3 (acc s).length I3.s;refine c3 _ hB2 (hG0 _ _) _ ?_;rw[hGm _ _ _ I2];refine c4' _ hB3 (hG0 _ _) _ ?_;rw[hGm _ _ _ I3.s];have hjl:=congrArg List.length hj;rw[List.length_append,zfs]at hjl;have hl1:=hle (s+1) (by omega);have la:(vV data xs t s1).length=vO o1:=by rw[zdZ,v1]
       have lb:(arL (vV data xs t) (n-s1)).length=vO o2:=by rw[ziG hD hk hxs hX,v2]
       have hprod:(vV data xs t s1).length*(arL (vV data xs t) (n-s1)).length≤2000:=by omega
       have la2:(vV data xs t s1).length≤2000:=Nat.le_trans (Nat.le_mul_of_pos_right _ (by omega)) hprod;have lb2:(arL (vV data xs t) (n-s1)).length≤2000:=Nat.le_trans (Nat.le_mul_of_pos_left _ (by omega)) hprod;refine zAD _ _ (by omega) (by omega) (λr hr=>by have:=zBG _ r hr;omega) _ _ ?_;simp only[zay,zbb,za0,zgi,zfs];refine⟨by simp[llA],hGp _ _,⟨by omega,by omega⟩,?_⟩;rw[hGset,←hjl];exact fin _ (by rw[hj,zn1])
    ·obtain rfl:s=n:=by omega
     have hgt:¬s1≤s:=by omega
     simp[zp1,hgt];rw[haccn,hG];exact Out.at rfl (by simp[hL]) (hS.scs hs) (.atom (.sl _ _)) rfl rfl hK
end
def zeY:List ((Int × Int) × List VT)→Int × Int→List VT→List ((Int × Int) × List VT)
 |[],s,x=>[(s,x)]
 | p::l,s,x=>match p.1 == s with
  |true=>(s,x)::l
  |false=>p::zeY l s x
def zdo:List ((Int × Int) × List VT)→Int × Int→Option (List VT)
 |[],_=>none
 | p::l,s=>match p.1 == s with
  |true=>some p.2
  |false=>zdo l s
theorem zvz(s:Int × Int)(x:List VT)(tk:Tok):∀ l:List ((Int × Int) × List VT),All2 (λp q=>p.1=q.1∧WkA p.2 q.2) (zcr (zdq l) s (.sl (VT.css x) tk)) (zdq (zeY l s x))
 |[]=>⟨⟨rfl,.sl _ _⟩,trivial⟩
 |p::l=>by
  have ih:=zvz s x tk l;unfold zdq at ih ⊢;rw[List.map_cons,zcr,zeY];simp only;cases p.1 == s with
  |true=>exact⟨⟨rfl,.sl _ _⟩,zBw _⟩
  |false=>exact⟨⟨rfl,.refl _⟩,ih⟩
theorem zhe(s:Int × Int):∀ l:List ((Int × Int) × List VT),zbZ (zdq l) s=(zdo l s).map λo=>.sl (VT.css o) .none
 |[]=>rfl
 |p::l=>by
  have ih:=zhe s l;unfold zdq at ih ⊢;rw[List.map_cons,zbZ,zdo];simp only;cases p.1 == s with
  |true=>rfl
  |false=>exact ih
theorem zt5{s:Int × Int}{o:List VT}:∀ {l:List ((Int × Int) × List VT)},zdo l s=some o→(s,o)∈l
 |[],h=>by cases h
 |p::l,h=>by
  rw[zdo]at h;cases hb:p.1 == s with
  |true=>rw[hb]at h;simp at h hb;subst h hb;simp
  |false=>rw[hb]at h;exact List.mem_cons_of_mem _ (zt5 h)
theorem zvA{s:Int × Int}{o:List VT}{e:(Int × Int) × List VT}:∀ {l:List ((Int × Int) × List VT)},e∈zeY l s o→e=(s,o)∨e∈l
 |[],h=>by simp[zeY]at h;exact .inl h
 |p::l,h=>by
  rw[zeY]at h;cases hb:p.1 == s with
  |true=>
   rw[hb]at h;rcases List.mem_cons.1 h with h|h
   ·exact .inl h
   ·exact .inr (List.mem_cons_of_mem _ h)
  |false=>
   rw[hb]at h;rcases List.mem_cons.1 h with rfl|h
   ·exact .inr (by simp)
   ·rcases zvA h with h | h
    ·exact .inl h
    ·exact .inr (List.mem_cons_of_mem _ h)
theorem ziE{id k:Nat}{l:List VT}{v:VT}{tk:Tok}{H:zaa}{K:Kt}(hk:k=l.length)(h:H[id]?=some (.perm zaL 3 k))(hl:k≤1000000)(hK:K (.sl (VT.css (l++[v])) (.own id)) (H.set id (.perm zaL 3 (k+1)))):
  zay zaL 3 40 (.sl (VT.css l) (.own id)) (.sl [v.cs] tk) H K:=by
 subst hk;simp only[zay,zbb,za0,VT.css_len,List.length_cons,List.length_nil];refine⟨by simp,h,⟨by omega,by omega⟩,?_⟩;have:VT.css l++[v.cs]=VT.css (l++[v]):=by simp[VT.css_map]
 rw[this];exact hK
def zel(B:BS)(k:Int×Int)(l:List VT):BS:=⟨B.s,zeY B.m k l⟩
section
variable {data:List Dat} {xs:List Int} {X:List VT} {Z:BI}
theorem zo6{B:BS}(h:InvB data xs.length xs X B){i m:Nat}{t:VT}(ht:B.s.types[i]?=some t):InvB data xs.length xs X (zel B ((i:Int),(m:Int)) (vV data xs t m)):=
 ⟨h.s,λe he=>by
  rcases zvA he with rfl|he
  ·exact⟨i,m,t,rfl,ht,rfl⟩
  ·exact h.m e he⟩
theorem zpD{T:BS}{H J:zaa}(hT:ShB data xs.length xs Z T H)(hs:HSc H){i m:Nat}{l:List VT}{tk:Tok}{n0:Nat}(hn:n0=H.length){K:Kt}(hK:K (.sl (VT.css l) .none) (shB data xs.length Z (zel T ((i:Int),(m:Int)) l) H)):
  zfe (.ptr Z.bp 0) (.int .i64 i) (.int .i64 m) (.sl (VT.css l) tk) (H++J) (zeA n0 K):=by
 subst hn;have lbm:=(List.getElem?_eq_some_iff.1 hT.bma).1;have hbp:=(hT.app (J:=J)).bpa;have hbm:=(hT.app (J:=J)).bma;unfold zfe zAF;simp[hbp,hbm,zaq,zaN,AV.known];rw[List.set_append_left _ _ lbm];refine⟨.sl (VT.css l) .none,_,shB data xs.length Z (zel T ((i:Int),(m:Int)) l) H,J,rfl,by simp,?_,by simp,hT.scs hs,.one (.wk (.atom (.sl _ _)) rfl rfl),hK⟩;have hset:shB data xs.length Z (zel T ((i:Int),(m:Int)) l) H=H.set Z.bm (.mapP (zdq (zeY T.m ((i:Int),(m:Int)) l))):=by unfold shB zel;simp only;rw[hT.sh.self]
 rw[hset];intro x a b ha hb;by_cases e:Z.bm=x
 ·subst e;rw[List.getElem?_set_self lbm]at ha hb;cases ha;cases hb;exact .mapP (zvz _ _ _ _)
 ·rw[List.getElem?_set_ne e]at ha hb;rw[ha]at hb;cases hb;exact .refl _
end
section
variable {data:List Dat} (hD:zaE data=true) (hk:Kpt data) {xs:List Int} (hxs:xs.length≤8) {X:List VT} (hX:X.length≤1000000000000) {Z:BI}
include hD hk hxs hX
theorem zFS{n:Nat}{B:BS}{i:Nat}{t:VT}(hB:InvB data xs.length xs X B)(hti:B.s.types[i]?=some t){l:List VT}(hg:zdo B.m ((i:Int),(n:Int))=some l):
  zff data xs.length xs Z B B i n (vV data xs t n):=by
 have hl:l=vV data xs t n:=by
  obtain⟨i',m',t',h1,h2,h3⟩:=hB.m _ (zt5 hg);simp only[Prod.mk.injEq]at h1;obtain⟨e1,e2⟩:=h1;have e1':i=i':=by omega
  have e2':n=m':=by omega
  subst e1' e2';rw[hti]at h2;cases h2;exact h3
 subst hl;intro H hS h0 K hK;refine ACalls.out (zmQ λhs=>?_);rw[hS.self]at hK;simp[ziy,hS.bpa,hS.bma,zaq,zaN,AV.known,zhe,hg];exact Out.at (J:=[]) (by simp) (Nat.le_refl _) hs (.atom (.sl _ _)) rfl rfl hK
theorem zFT{n:Nat}{B:BS}{i:Nat}{t:VT}(hB:InvB data xs.length xs X B)(hti:B.s.types[i]?=some t)(hg:zdo B.m ((i:Int),((n+1:Nat):Int))=none)(hk123:t.kind=1∨t.kind=2∨t.kind=3)(hc:cV data xs.length t (n+1)≠0):
  zff data xs.length xs Z B (zel B ((i:Int),((n+1:Nat):Int)) (vV data xs t (n+1))) i (n+1) (vV data xs t (n+1)):=by
 have hn0:n=0:=by
  rw[zeH]at hc;by_cases h:n=0
  ·exact h
  ·exfalso;rcases hk123 with h'|h'|h' <;> simp[h',h]at hc
 subst hn0;intro H hS h0 K hK;refine ACalls.outH (zmQ λhs=>?_);have lbp:=(List.getElem?_eq_some_iff.1 hS.bpa).1;have hil:=(List.getElem?_eq_some_iff.1 hti).1;have hta:=ze8 B.s.types i _ hti;have htl:=ze9 B.s.types;have hkn:=VT.cs_known t;have hvv:vV data xs t 1=if t.kind=3 then [.mk 1 0 []] else if t.kind=2 then [.mk 2 0 [],.mk 2 1 []] else xs.map λx=>.mk 3 x []:=by rw[zfH];rcases hk123 with h|h|h <;> simp[h]
 obtain⟨k,m,ks⟩:=t;have hkd:(VT.mk k m ks).kind=k:=rfl;rw[hkd]at hvv hk123;have hg2:(H++[AB.cells (VT.cs (.mk k m ks))])[H.length]?=some (.cells (VT.cs (.mk k m ks))):=by simp
 have hset2:(H++[AB.cells [AV.int .i64 0,AV.int .i64 0,AV.snil]]).set H.length (.cells (VT.cs (.mk k m ks)))=H++[.cells (VT.cs (.mk k m ks))]:=by rw[List.set_append_right _ _ (Nat.le_refl _)];simp
 have hmp:zdo B.m ((i:Int),1)=none:=hg;simp[ziy,hS.bpa,hS.bma,hS.sh.hp,hS.sh.hit,zaq,zaN,AV.known,zhe,hmp,hil,hta,hkn,hset2,hg2];refine⟨by omega,?_⟩;have fin:∀(v:List VT) (tk:Tok) (J:zaa),v=vV data xs (.mk k m ks) 1→zfe (.ptr Z.bp 0) (.int .i64 i) (.int .i64 1) (.sl (VT.css v) tk) (H++J) (zeA H.length K):=by rintro v tk J rfl;exact zpD (m:=1) hS hs rfl hK
 have hbp1:=(hS.app (J:=[.cells (VT.cs (.mk k m ks))])).bpa;rcases hk123 with rfl|rfl|rfl
 ·simp[VT.cs]at hbp1 ⊢;rw[hbp1];simp;refine ALoop.own 9 zaL 3 rfl ?_;obtain⟨L,hL⟩:∃ L,L=H.length+1:=⟨_,rfl⟩;have hL':(H++[AB.cells [AV.int .i64 1,.int .i64 m,.sl (VT.css ks) .none]]).length=L:=by rw[hL];simp
  rw[hL',List.append_assoc];show zsv (.ptr Z.bp 0) (.int .i64 i) (.int .i64 1) (.sl [] (.own L)) (.sl (ints xs) .none) (.int .i64 xs.length) (.int .i64 0) (H++[.cells [.int .i64 1,.int .i64 m,.sl (VT.css ks) .none],.perm zaL 3 0]) _;refine zPK (Inv:=λq t9 t97 H'=>∃j:Nat,j≤xs.length∧xs.length-j=q∧t97=.int .i64 j∧t9=.sl (VT.css ((xs.map λx=>VT.mk 3 x []).take j)) (.own L)∧H'=H++[.cells [.int .i64 1,.int .i64 m,.sl (VT.css ks) .none],.perm zaL 3 j]) xs.length ?_ ?_
  ·intro _;exact⟨0,by omega,rfl,rfl,rfl,rfl⟩
  ·rintro q t9 t97 H' ⟨j,hj,rfl,rfl,rfl,rfl⟩ hsc' hlen hsF Kb hKb;by_cases hlt:j<xs.length
   ·have hgj:∀ h:j<(ints xs).length,(ints xs)[j]'h=[.int .i64 xs[j]]:=λh=>by simp[ints]
    simp[zsr,hlt,hgj,zaq,zaN,AV.known,zar,za3,plain,AV.pd];have hgp:(H++[AB.cells [AV.int .i64 1,.int .i64 m,.sl (VT.css ks) .none],AB.perm zaL 3 j])[L]?=some (.perm zaL 3 j):=by rw[hL];simp[List.getElem?_append]
    refine ziE (v:=.mk 3 xs[j] []) (by simp;omega) hgp (by omega) ?_;have hst:(xs.map λx=>VT.mk 3 x []).take j++[VT.mk 3 xs[j] []]=(xs.map λx=>VT.mk 3 x []).take (j+1):=by rw[List.take_succ_eq_append_getElem (by simpa using hlt)];simp
    rw[hst,wr (by omega)];have hset:(H++[AB.cells [AV.int .i64 1,.int .i64 m,.sl (VT.css ks) .none],AB.perm zaL 3 j]).set L (.perm zaL 3 (j+1))=H++[.cells [.int .i64 1,.int .i64 m,.sl (VT.css ks) .none],.perm zaL 3 (j+1)]:=by rw[hL,List.set_append_right _ _ (by omega)];simp
    rw[hset];refine hKb _ _ ⟨xs.length-(j+1),by omega,Back.here (by simp) (hs.append (by simp[AB.sc,AV.scA,AV.scB])) ?_ ⟨_,_,rfl,j+1,by omega,rfl,rfl,rfl,rfl⟩⟩;simp[zmN,ux,AV.sc,AV.scA,AV.scB,AV.scV];omega
   ·obtain rfl:j=xs.length:=by omega
    simp[zsr];rw[List.take_of_length_le (by simp)];exact fin (xs.map λx=>VT.mk 3 x []) _ _ (by rw[hvv];simp)
 ·simp[VT.cs,zar,za3,plain,AV.pd];exact fin [.mk 2 0 [],.mk 2 1 []] _ _ (by rw[hvv];simp)
 ·simp[VT.cs,zar,za3,plain,AV.pd];exact fin [.mk 1 0 []] _ _ (by rw[hvv];simp)
end
section
variable {data:List Dat} (hD:zaE data=true) (hk:Kpt data) {xs:List Int} (hxs:xs.length≤8) {X:List VT} (hX:X.length≤1000000000000) {Z:BI}
include hD hk hxs hX
theorem zFR{n:Nat}(hn:n<14)(hV:∀ m,m≤n→zd6 data xs.length xs X Z m){B:BS}{i:Nat}{t:VT}(hB:InvB data xs.length xs X B)(hti:B.s.types[i]?=some t)(hg:zdo B.m ((i:Int),((n+1:Nat):Int))=none)(hk7:t.kind=7)(hR:Rch data X (n+1) t)(hl:cV data xs.length t (n+1)≤2000):
  ∃B',InvB data xs.length xs X B'∧B.s.types <+: B'.s.types∧zff data xs.length xs Z B B' i (n+1) (vV data xs t (n+1)):=by
 have hv:=hB.s.vd t (List.mem_of_getElem? hti);obtain⟨k,m,ks⟩:=t;change k=7 at hk7;subst hk7;have hkl:ks.length=1:=by have hs:=zdz hv;unfold okT at hs;rw[zaH,Bool.and_eq_true]at hs;have hs:=hs.1;simp[zaR]at hs;exact hs.2
 obtain⟨u,rfl⟩:∃u,ks=[u]:=by
  match ks,hkl with
  |[u],_=>exact⟨u,rfl⟩
 have hR1:Rch data X n u:=by
  cases hR with
  |arr _ _ h=>exact h
  |mk _ h _=>exact absurd rfl h
 have hu:=ze7 hv u (by simp);have hI1:=zi0 hD hB.s hu hR1.mem;have he1:=znR hD (S:=B.s) u;have hg1:=ziZ hD hB.s hu;have hB1:=InvB.mk' hD hk hxs hX hB hI1 he1;have hl':cA (cV data xs.length u) n≤2000:=by rw[zeH]at hl;simpa[VT.kind,zb9]using hl
 obtain⟨B2,h1,h2,h4⟩:=zBL hD hk hxs hX (show n≤14 by omega) hV n _ (Nat.le_refl _) hB1 hg1 hR1 hl';have hti2:=zcS (he1.trans h2) hti;obtain⟨N,hN⟩:∃N,N=n+1:=⟨_,rfl⟩;have hvv:vV data xs (.mk 7 m [u]) N=(arL (vV data xs u) n).map λks=>.mk 6 0 ks:=by rw[hN,zfH];simp[VT.kind,zb9]
 refine⟨zel B2 ((i:Int),((n+1:Nat):Int)) (vV data xs (.mk 7 m [u]) (n+1)),zo6 h1 hti2,he1.trans h2,?_⟩;rw[←hN]at hg ⊢;obtain⟨rows,hrows⟩:∃rows,rows=arL (vV data xs u) n:=⟨_,rfl⟩;have hrl:rows.length≤2000:=by rw[hrows,ziG hD hk hxs hX];exact hl'
 rw[←hrows]at hvv h4;intro H hS h0 K hK;refine ACalls.outH (zmQ λhs=>?_);have hlt0:0<H.length:=(List.getElem?_eq_some_iff.1 h0).1;have lbp:=(List.getElem?_eq_some_iff.1 hS.bpa).1;have hil:=(List.getElem?_eq_some_iff.1 hti).1;have hta:=ze8 B.s.types i _ hti;have htl:=ze9 B.s.types;obtain⟨C,hC⟩:∃C,C=VT.cs (.mk 7 m [u]):=⟨_,rfl⟩;have hkn:C.all AV.known=true:=by rw[hC];exact VT.cs_known _
 have hCe:C=[.int .i64 7,.int .i64 m,.sl [u.cs] .none]:=by rw[hC];rfl
 rw[←hC]at hta;have hg2:(H++[AB.cells C])[H.length]?=some (.cells C):=by simp
 have hset2:(H++[AB.cells [AV.int .i64 0,AV.int .i64 0,AV.snil]]).set H.length (.cells C)=H++[.cells C]:=by rw[List.set_append_right _ _ (Nat.le_refl _)];simp
 have hl3:C.length=3:=by rw[hC];simp
 simp[ziy,hS.bpa,hS.bma,hS.sh.hp,hS.sh.hit,zaq,zaN,AV.known,zhe,hg,hil,hta,hkn,hset2,hg2,hl3];refine⟨by omega,?_⟩;have hbp1:=(hS.app (J:=[.cells C])).bpa;obtain⟨x1,x2,x3,hvx,hxa,hxb,hxc⟩:=zaO u;have C0:C[0]?=some (.int .i64 7):=by rw[hCe];rfl
 have C2:C[2]?=some (.sl [[x1,x2,x3]] .none):=by rw[hCe,←hvx];rfl
 simp[zcZ _ C0,zcZ _ C2,hbp1];rw[←hvx];have hSJ:=hS.app (J:=[.cells C]);have hlen:=hB.s.len;have hwn:IntKind.i64.wrap ((N:Int)-1)=(n:Int):=by rw[zaB (by omega) (by omega)];omega
 rw[hwn];have hs1:shS data xs.length Z.i (idS data B.s u) (H++[.cells C])=shB data xs.length Z ⟨idS data B.s u,B.m⟩ H++[.cells C]:=by rw[hSJ.shS_eq,hS.shB_app]
 refine zcq (.int .i64 (idN data B.s u)) (shB data xs.length Z ⟨idS data B.s u,B.m⟩ H++[.cells C]) (zhS hD hSJ.sh (by rw[List.getElem?_append_left hlt0];exact h0) u hu (by omega) _ ⟨rfl,hs1⟩) ?_;have hS1:=hS.next (B':=⟨idS data B.s u,B.m⟩) hI1.ml hI1.cl;have hs2:shB data xs.length Z B2 (shB data xs.length Z ⟨idS data B.s u,B.m⟩ H++[.cells C])=shB data xs.length Z B2 H++[.cells C]:=by rw[hS1.shB_app,hS.shB_shB]
 refine zcq (.sl (llA rows) .none) (shB data xs.length Z B2 H++[.cells C]) (h4 _ hS1.app (by rw[List.getElem?_append_left (by simpa using hlt0)];exact hS.nodr h0) _ ⟨rfl,hs2⟩) ?_;simp only[zdF,zgi];have hS2:=hS.next (B':=B2) h1.s.ml h1.s.cl;obtain⟨A,hA⟩:∃A,A=shB data xs.length Z B2 H:=⟨_,rfl⟩;have hAl:A.length=H.length:=by rw[hA];simp
 have hAs:HSc A:=by rw[hA];exact hS.scs hs
 rw[←hA]at hS2 ⊢;have hK':K (.sl (VT.css (vV data xs (.mk 7 m [u]) N)) .none) (shB data xs.length Z (zel B2 ((i:Int),(N:Int)) (vV data xs (.mk 7 m [u]) N)) A):=by rw[hA,hS.shB_shB];exact hK
 refine ALoop.own 9 zaL 3 rfl ?_;obtain⟨L,hL⟩:∃L,L=H.length+1:=⟨_,rfl⟩;have hL':(A++[AB.cells C]).length=L:=by rw[hL];simp[hAl]
 rw[hL',List.append_assoc];show zsw (.ptr Z.bp 0) (.int .i64 i) (.int .i64 N) (.sl [] (.own L)) (.sl (llA rows) .none) (.int .i64 rows.length) (.int .i64 0) (A++[.cells C,.perm zaL 3 0]) _;have hps:∀j,HSc (A++[.cells C,.perm zaL 3 j]):=λj=>hAs.append (by rw[hC];simp[AB.sc]);refine zPL (Inv:=λq t9 t97 H'=>∃j:Nat,j≤rows.length∧rows.length-j=q∧t97=.int .i64 j∧t9=.sl (VT.css ((rows.map λks=>VT.mk 6 0 ks).take j)) (.own L)∧H'=A++[.cells C,.perm zaL 3 j]) rows.length ?_ ?_
 ·intro _;exact⟨0,by omega,rfl,rfl,rfl,rfl⟩
 ·rintro q t9 t97 H' ⟨j,hj,rfl,rfl,rfl,rfl⟩ hsc' hlen' hsF Kb hKb;by_cases hlt:j<rows.length
  ·have hgj:∀ h:j<(llA rows).length,(llA rows)[j]'h=[.sl (VT.css rows[j]) .none]:=λh=>by simp[llA]
   simp[zss,hlt,hgj,zaq,zaN,AV.known,zar,za3,plain,AV.pd];have hgp:(A++[AB.cells C,AB.perm zaL 3 j])[L]?=some (.perm zaL 3 j):=by rw[hL,←hAl];simp[List.getElem?_append]
   refine ziE (v:=.mk 6 0 rows[j]) (by simp;omega) hgp (by omega) ?_;have hst:(rows.map λks=>VT.mk 6 0 ks).take j++[VT.mk 6 0 rows[j]]=(rows.map λks=>VT.mk 6 0 ks).take (j+1):=by rw[List.take_succ_eq_append_getElem (by simpa using hlt)];simp
   rw[hst,wr (by omega)];have hset:(A++[AB.cells C,AB.perm zaL 3 j]).set L (.perm zaL 3 (j+1))=A++[.cells C,.perm zaL 3 (j+1)]:=by rw[hL,List.set_append_right _ _ (by omega),hAl];simp
   rw[hset];refine hKb _ _ ⟨rows.length-(j+1),by omega,Back.here (by simp) (hps _) ?_ ⟨_,_,rfl,j+1,by omega,rfl,rfl,rfl,rfl⟩⟩;simp[zmO,ux,AV.sc,AV.scA,AV.scB,AV.scV];omega
  ·obtain rfl:j=rows.length:=by omega
   simp[zss];rw[List.take_of_length_le (by simp),←hvv];exact zpD hS2 hAs hAl.symm hK'
end
def zh3(data:List Dat)(xs:List Int)(k:Int)(n:Nat)(w:Int×List VT):List VT:=(lsL (vV data xs) w.2 n).map λks=>.mk (zdO k) w.1 ks
def zdP:List AV:=[.int .i64 0,.int .i64 0,.int .i64 0,.int .i64 0,.int .i64 0,.int .i64 5,.int .i64 4,.int .i64 0,.int .i64 7]
section
variable {data:List Dat} (hD:zaE data=true) (hk:Kpt data) {xs:List Int} (hxs:xs.length≤8) {X:List VT} (hX:X.length≤1000000000000) {Z:BI}
include hD hk hxs hX
theorem zF1(k:Int)(n:Nat)(w:Int×List VT):(zh3 data xs k n w).length=cL (cV data xs.length) w.2 n:=by unfold zh3;rw[List.length_map,zhm hD hk hxs hX]
theorem zF6{n:Nat}(hn:n≤14)(hV:∀ m,m≤n→zd6 data xs.length xs X Z m){B:BS}(hB:InvB data xs.length xs X B){ws:List (Int × List VT)}{cs:List (Int × List Nat)}(hc:ConOk B.s.types ws cs)(hwl:∀ w∈ws,w.2.length≤1000)(hR:∀ w∈ws,∀ (p:Nat) (h:p<w.2.length),Rch data X (n-p) w.2[p])(hl:(ws.map λw=>cL (cV data xs.length) w.2 n).sum≤2000):
  ∃ σ:Nat→BS,σ 0=B∧(∀k≤ws.length,InvB data xs.length xs X (σ k)∧B.s.types <+: (σ k).s.types)∧∀k<ws.length,zfY data xs.length xs Z (σ k) (σ (k+1)) (cs.getD k (0,[])).2 n (lsL (vV data xs) (ws.getD k (0,[])).2 n):=by
 refine zdK (λk (a:BS)=>InvB data xs.length xs X a∧B.s.types <+: a.s.types) (λk (a a':BS)=>zfY data xs.length xs Z a a' (cs.getD k (0,[])).2 n (lsL (vV data xs) (ws.getD k (0,[])).2 n)) ws.length (λk hkl a ha=>?_) _ ⟨hB,List.prefix_rfl⟩;obtain⟨h1,h2⟩:=ha;have hcl:=hc.len;obtain⟨h4,h5⟩:=hc.at' k hkl (by omega);have e1:ws.getD k (0,[])=ws[k]:=by rw[List.getD_eq_getElem?_getD,List.getElem?_eq_getElem hkl];rfl
 have e2:cs.getD k (0,[])=cs[k]:=by rw[List.getD_eq_getElem?_getD,List.getElem?_eq_getElem (by omega)];rfl
 have hle:cL (cV data xs.length) ws[k].2 n≤2000:=by have h1:=zwq (f:=λw:Int×List VT=>cL (cV data xs.length) w.2 n) hkl;have h2:=zpn (f:=λw:Int×List VT=>cL (cV data xs.length) w.2 n) (ws:=ws) (k+1);omega
 obtain⟨B',h6,h7,h8⟩:=zuH hD hk hxs hX hn hV ws[k].2 cs[k].2 (hwl _ (List.getElem_mem hkl)) n a (Nat.le_refl _) h1 (h5.mono h2) (hR _ (List.getElem_mem hkl)) hle;exact⟨B',by rw[e1,e2];exact h8,h6,h2.trans h7⟩
theorem zFV{n:Nat}(hn:n<14)(hV:∀ m,m≤n→zd6 data xs.length xs X Z m){B:BS}{i:Nat}{t:VT}(hB:InvB data xs.length xs X B)(hti:B.s.types[i]?=some t)(hg:zdo B.m ((i:Int),((n+1:Nat):Int))=none)(h7:t.kind≠7)(h1':t.kind≠1)(h2':t.kind≠2)(h3':t.kind≠3)(hR:Rch data X (n+1) t)(hl:cV data xs.length t (n+1)≤2000):
  ∃B',InvB data xs.length xs X B'∧B.s.types <+: B'.s.types∧zff data xs.length xs Z B B' i (n+1) (vV data xs t (n+1)):=by
 have hv:=hB.s.vd t (List.mem_of_getElem? hti);have hRw:∀w∈zaS data t,∀(p:Nat) (h:p<w.2.length),Rch data X (n-p) w.2[p]:=by
  cases hR with
  |arr _ h _=>exact absurd h h7
  |mk _ _ h=>exact h
 have htX:∀w∈zaS data t,∀x∈w.2,x∈X:=λw hw x hx=>by obtain⟨p,hp,rfl⟩:=List.mem_iff_getElem.1 hx;exact(hRw w hw p hp).mem
 obtain⟨hI1,he1,hc1⟩:=zwW hD hB.s hti htX;have hwl:∀w∈zaS data t,w.2.length≤1000:=λw hw=>by
  obtain⟨k,m,ks⟩:=t;have hnod:=zfG hv;have hll:=VT.len_le ks;simp[VT.nodes]at hnod;rw[zaS]at hw;split at hw
  ·simp at hw;subst hw;show ks.length≤1000;omega
  ·split at hw
   ·obtain⟨c,_,hc⟩:=List.mem_filterMap.1 hw;cases hf:zbi data (.mk k m ks) c with
    |none=>rw[hf]at hc;cases hc
    |some l=>rw[hf]at hc;simp at hc;subst hc;have:=znE hk hf;show l.length≤1000;omega
   ·simp at hw
 have hB1:=InvB.mk' hD hk hxs hX hB hI1 he1;have hsum:((zaS data t).map λw=>cL (cV data xs.length) w.2 n).sum≤2000:=by rw[zeH,if_neg h3',if_neg h2',if_neg h1',if_neg h7]at hl;exact hl
 obtain⟨σ,hσ0,hσ1,hσ2⟩:=zF6 (Z:=Z) hD hk hxs hX (show n≤14 by omega) hV hB1 hc1 hwl hRw hsum;obtain⟨N,hN⟩:∃N,N=n+1:=⟨_,rfl⟩;obtain⟨ws,hws⟩:∃ws,ws=zaS data t:=⟨_,rfl⟩;obtain⟨cs,hcs⟩:∃cs,cs=(zdg data B.s i).1:=⟨_,rfl⟩;obtain⟨S1,hS1d⟩:∃S1,S1=(zdg data B.s i).2:=⟨_,rfl⟩;rw[←hws]at hσ1 hσ2 hsum;rw[←hcs]at hσ2;rw[←hS1d]at hσ0 hσ1 he1 hI1;rw[←hcs,←hws,←hS1d]at hc1;have hcl:=hc1.len;have hw3:=zkm hk t;rw[←hws]at hw3;have hlast:=hσ1 ws.length (Nat.le_refl _);have hvv:vV data xs t N=ws.flatMap (zh3 data xs t.kind n):=by rw[hN,zfH,if_neg h3',if_neg h2',if_neg h1',if_neg h7,hws];rfl
 have hti2:=zcS (he1.trans hlast.2) hti;obtain⟨acc,hacc⟩:∃acc:Nat→List VT,acc=λk=>(ws.take k).flatMap (zh3 data xs t.kind n):=⟨_,rfl⟩;have hac0:acc 0=[]:=by rw[hacc];rfl
 have hacs:∀k (h:k<ws.length),acc (k+1)=acc k++zh3 data xs t.kind n ws[k]:=λk h=>by rw[hacc];simp only;rw[List.take_succ_eq_append_getElem h,List.flatMap_append];simp
 have hacl:∀k,k≤ws.length→(acc k).length≤2000:=λk hk'=>by rw[hacc];simp only;rw[ztW _ _ (λw=>cL (cV data xs.length) w.2 n) λw _=>zF1 hD hk hxs hX _ _ w];exact Nat.le_trans (zpn k) hsum
 refine⟨zel (σ ws.length) ((i:Int),((n+1:Nat):Int)) (vV data xs t (n+1)),zo6 hlast.1 hti2,he1.trans hlast.2,?_⟩;rw[←hN]at hg ⊢;intro H hS h0 K hK;refine ACalls.outH (zmQ λhs=>?_);have hlt0:0<H.length:=(List.getElem?_eq_some_iff.1 h0).1;have lbp:=(List.getElem?_eq_some_iff.1 hS.bpa).1;have hil:=(List.getElem?_eq_some_iff.1 hti).1;have hta:=ze8 B.s.types i _ hti;have htl:=ze9 B.s.types;obtain⟨C,hC⟩:∃C,C=t.cs:=⟨_,rfl⟩;have hkn:C.all AV.known=true:=by rw[hC];exact VT.cs_known _
 have C0:C[0]?=some (.int .i64 t.kind):=by obtain⟨k,m,ks⟩:=t;rw[hC];rfl
 rw[←hC]at hta;have hg2:(H++[AB.cells C])[H.length]?=some (.cells C):=by simp
 have hset2:(H++[AB.cells [AV.int .i64 0,AV.int .i64 0,AV.snil]]).set H.length (.cells C)=H++[.cells C]:=by rw[List.set_append_right _ _ (Nat.le_refl _)];simp
 have hl3:C.length=3:=by rw[hC];simp
 simp[ziy,hS.bpa,hS.bma,hS.sh.hp,hS.sh.hit,zaq,zaN,AV.known,zhe,hg,hil,hta,hkn,hset2,hg2,hl3];refine⟨by omega,?_⟩;have hbp1:=(hS.app (J:=[.cells C,.cells zdP])).bpa;have b1:(t.kind == 1)=false:=by simpa using h1'
 have b2:(t.kind == 2)=false:=by simpa using h2'
 have b3:(t.kind == 3)=false:=by simpa using h3'
 have b7:(t.kind == 7)=false:=by simpa using h7
 simp[zcZ _ C0,b1,b2,b3,b7];change zfj false 1 0 (H++[.cells C,.cells zdP])[Z.bp]? _;rw[hbp1];simp;have hSJ:=hS.app (J:=[.cells C,.cells zdP]);change ACalls tP zhG _ (H++[.cells C,.cells zdP]) _;refine zv3 hD hX hSJ.sh hB.s (by rw[List.getElem?_append_left hlt0];exact h0) hti htX _ ?_;rw[←hcs,←hS1d,hSJ.shS_eq,hS.shB_app];have hcR:(zbM cs).length=cs.length:=by simp[zbM]
 simp only[zca,zdF,hcR];obtain⟨L,hL⟩:∃L,L=H.length:=⟨_,rfl⟩;rw[←hL];refine ALoop.own 9 zaL 3 rfl ?_;have hLe:(shB data xs.length Z ⟨S1,B.m⟩ H++[AB.cells C,.cells zdP]).length=L+2:=by rw[hL];simp
 rw[hLe,List.append_assoc];show zsx (.ptr Z.bp 0) (.int .i64 i) (.int .i64 N) (.sl [] (.own (L+2))) (.ptr L 0) (.ptr (L+1) 0) (.sl (zbM cs) .none) (.int .i64 cs.length) (.int .i64 0) (shB data xs.length Z ⟨S1,B.m⟩ H++[.cells C,.cells zdP,.perm zaL 3 0]) _;obtain⟨G,hG⟩:∃G:BS→Nat→zaa,G=λB' k=>shB data xs.length Z B' H++[.cells C,.cells zdP,.perm zaL 3 k]:=⟨_,rfl⟩;have hGl:∀B' k,(G B' k).length=L+3:=λB' k=>by rw[hG,hL];simp
 have hGs:∀B' k,HSc (G B' k):=λB' k=>by rw[hG];exact(hS.scs hs).append (by rw[hC];simp[AB.sc,zdP,AV.scA,AV.scB])
 have hGS:∀B' k,zaV data xs.length X B'.s→ShB data xs.length xs Z B' (G B' k):=λB' k hB'=>by rw[hG];exact(hS.next hB'.ml hB'.cl).app
 have hG0:∀B' k,(G B' k)[0]?=some .nodr:=λB' k=>by rw[hG];simp only;rw[List.getElem?_append_left (by simpa using hlt0)];exact hS.nodr h0
 have hGm:∀B' B'' k J,zaV data xs.length X B'.s→shB data xs.length Z B'' (G B' k++J)=G B'' k++J:=λB' B'' k J hB'=>by rw[hG];simp only;rw[List.append_assoc,(hS.next hB'.ml hB'.cl).shB_app,hS.shB_shB,List.append_assoc]
 have hGp:∀B' k J,(G B' k++J)[L+2]?=some (.perm zaL 3 k):=λB' k J=>by rw[hG,hL];simp[List.getElem?_append]
 have hGk:∀B' k J,(G B' k++J)[L+1]?=some (.cells zdP):=λB' k J=>by rw[hG,hL];simp[List.getElem?_append]
 have hGc:∀B' k J,(G B' k++J)[L]?=some (.cells C):=λB' k J=>by rw[hG,hL];simp[List.getElem?_append]
 have hGset:∀B' k k' J,(G B' k++J).set (L+2) (.perm zaL 3 k')=G B' k'++J:=λB' k k' J=>by rw[hG,hL];simp only;rw[List.append_assoc,List.set_append_right _ _ (by simp),List.append_assoc];simp
 refine zPM (Inv:=λq t9 t53 H'=>∃k:Nat,k≤cs.length∧cs.length-k=q∧t53=.int .i64 k∧t9=.sl (VT.css (acc k)) (.own (L+2))∧H'=G (σ k) (acc k).length) cs.length ?_ ?_
 ·intro _;refine⟨0,by omega,rfl,rfl,by rw[hac0];rfl,?_⟩;rw[hσ0,hac0,hG];rfl
 ·rintro q t9 t53 H' ⟨k,hk',rfl,rfl,rfl,rfl⟩ hsc9 hlen9 hsF9 Kb9 hKb9;have hσk:=hσ1 k (by omega);by_cases hlt:k<cs.length
  ·have hkw:k<ws.length:=by omega
   have hc9:=hσ2 k hkw;have e1:ws.getD k (0,[])=ws[k]:=by rw[List.getD_eq_getElem?_getD,List.getElem?_eq_getElem hkw];rfl
   have e2:cs.getD k (0,[])=cs[k]:=by rw[List.getD_eq_getElem?_getD,List.getElem?_eq_getElem hlt];rfl
   rw[e1,e2]at hc9;have hwc:=(hc1.at' k hkw hlt).1;have hgk:∀h:k<(zbM cs).length,(zbM cs)[k]'h=[.int .i64 (cs[k]).1,.sl (zaZ (cs[k]).2) .none]:=λh=>by simp[zbM,zaZ]
   have hwn:IntKind.i64.wrap ((N:Int)-1)=(n:Int):=by rw[zaB (by omega) (by omega)];omega
   simp[zst,hlt,hcR,hgk,hGl];rw[hwn];obtain⟨J,hJ⟩:∃J:zaa,J=[.cells [.int .i64 (cs[k]).1,.sl (zaZ (cs[k]).2) .none]]:=⟨_,rfl⟩;rw[←hJ];refine hc9 _ (hGS _ _ hσk.1.s).app (by rw[List.getElem?_append_left (by rw[hGl];omega)];exact hG0 _ _) _ ?_;rw[hGm _ _ _ _ hσk.1.s];obtain⟨rows,hrows⟩:∃rows,rows=lsL (vV data xs) ws[k].2 n:=⟨_,rfl⟩;rw[←hrows];simp only[zdF,zgi];have hkind:t.kind=5∨t.kind=6∨t.kind=8:=by
    obtain⟨tk,tn,tks⟩:=t;rw[hws,zaS]at hkw;show tk=5∨tk=6∨tk=8;split at hkw
    ·omega
    ·split at hkw
     ·omega
     ·simp at hkw
   have hkg:∃j:Nat,t.kind=(j:Int)∧j<9∧zdP[j]?=some (.int .i64 (zdO t.kind)):=by
    rcases hkind with h|h|h <;> rw[h]
    ·exact⟨5,rfl,by omega,rfl⟩
    ·exact⟨6,rfl,by omega,rfl⟩
    ·exact⟨8,rfl,by omega,rfl⟩
   obtain⟨kj,hkj1,hkj2,hkj3⟩:=hkg;obtain⟨V,hV'⟩:∃V:List VT,V=rows.map λks=>VT.mk (zdO t.kind) ws[k].1 ks:=⟨_,rfl⟩;have hVa:acc (k+1)=acc k++V:=by rw[hacs k hkw,hV',hrows];rfl
   have hVl:V.length=rows.length:=by rw[hV'];simp
   have hal:=hacl (k+1) (by omega);rw[hVa,List.length_append]at hal;have hJs:∀M,J.all (AB.sc M)=true:=λM=>by rw[hJ];rfl
   have hJl:J.length=1:=by rw[hJ];rfl
   have hGJs:∀B' k',HSc (G B' k'++J):=λB' k'=>(hGs B' k').append (hJs _);have hGJ:∀B' k',(G B' k'++J)[L+3]?=some (.cells [.int .i64 (cs[k]).1,.sl (zaZ (cs[k]).2) .none]):=λB' k'=>by rw[List.getElem?_append_right (by rw[hGl];omega),hGl,hJ];simp
   refine zPJ (Inv:=λq t9 t64 H'=>∃j:Nat,j≤rows.length∧rows.length-j=q∧t64=.int .i64 j∧t9=.sl (VT.css (acc k++V.take j)) (.own (L+2))∧H'=G (σ (k+1)) ((acc k).length+j)++J) rows.length ?_ ?_
   ·intro _;exact⟨0,by omega,rfl,rfl,by simp,rfl⟩
   ·rintro q t9 t64 H' ⟨j,hj,rfl,rfl,rfl,rfl⟩ hsc12 hlen12 hsF12 Kb12 hKb12;by_cases hlj:j<rows.length
    ·have hgj:∀ h:j<(llA rows).length,(llA rows)[j]'h=[.sl (VT.css rows[j]) .none]:=λh=>by simp[llA]
     simp[zsq,hlj,hgj,hGc,zcZ _ C0,hkj1,zfo,hkj2,hGk,zcZ _ hkj3,hGJ,zaq,zaN,AV.known,zar,za3,plain,AV.pd];rw[←hkj1];refine⟨by omega,?_⟩;have hgp:=hGp (σ (k+1)) ((acc k).length+j) J;refine ziE (v:=.mk (zdO t.kind) (cs[k]).1 rows[j]) (by rw[List.length_append,List.length_take,hVl];omega) hgp (by omega) ?_;have hst:acc k++V.take j++[VT.mk (zdO t.kind) (cs[k]).1 rows[j]]=acc k++V.take (j+1):=by rw[List.take_succ_eq_append_getElem (by rw[hVl];exact hlj),List.append_assoc];simp[hV',hwc]
     rw[hst,wr (by omega),hGset];refine hKb12 _ _ ⟨rows.length-(j+1),by omega,Back.here (by simp[hGl,hJl]) (hGJs _ _) ?_ ⟨_,_,rfl,j+1,by omega,rfl,rfl,rfl,by rw[Nat.add_assoc]⟩⟩;rw[List.length_append,hGl,hJl];simp[zmM,ux,AV.sc,AV.scA,AV.scB,AV.scV];omega
    ·obtain rfl:j=rows.length:=by omega
     simp[zsq];rw[wr (by omega)];have hVt:acc k++V.take rows.length=acc (k+1):=by rw[hVa,←hVl,List.take_length]
     refine hKb9 _ _ ⟨cs.length-(k+1),by omega,Back.at (H2:=G (σ (k+1)) (acc (k+1)).length) (J:=J) (by rw[hVa,List.length_append,hVl]) (by rw[hGl];simp[hL]) (hGs _ _) ?_ ⟨_,_,rfl,k+1,by omega,rfl,rfl,by rw[hVt],rfl⟩⟩;rw[hGl];simp[zmP,ux,AV.sc,AV.scA,AV.scB,AV.scV];omega
  ·obtain rfl:k=cs.length:=by omega
   simp[zst];have hfin:acc cs.length=vV data xs t N:=by rw[hvv,hacc,hcl];simp
   rw[hfin,hcl,hG];have hSe:=hS.next (B':=σ ws.length) hlast.1.s.ml hlast.1.s.cl;refine zpD hSe (hS.scs hs) (by simp[hL]) ?_;rw[hS.shB_shB];exact hK
theorem zFU:∀n:Nat,n≤14→zd6 data xs.length xs X Z n:=by
 intro n;induction n using Nat.strongRecOn with
 |ind n ih=>
  intro hn;intro B i t hB hti hR hc hl;cases n with
  |zero=>exact absurd (zbF data xs.length t) hc
  |succ n=>
   have ih':∀m,m≤n→zd6 data xs.length xs X Z m:=λm hm=>ih m (by omega) (by omega);cases hg:zdo B.m ((i:Int),((n+1:Nat):Int)) with
   |some o=>exact⟨B,hB,List.prefix_rfl,zFS hD hk hxs hX hB hti hg⟩
   |none=>
    by_cases h123:t.kind=1∨t.kind=2∨t.kind=3
    ·exact⟨_,zo6 hB hti,List.prefix_rfl,zFT hD hk hxs hX hB hti hg h123 hc⟩
    ·by_cases h7:t.kind=7
     ·exact zFR hD hk hxs hX (by omega) ih' hB hti hg h7 hR hl
     ·exact zFV hD hk hxs hX (by omega) ih' hB hti hg h7 (by omega) (by omega) (by omega) hR hl
end
end Go.Proofs.YtaifokkaaahdoaaGreatDoor
namespace Go.Proofs.YtaifokkaaahdoaaGreatDoor
open Go Go.Abs
set_option maxRecDepth 100000
def zlX:Nat→List Bool
 |300001=>rl false [0,1]
 |3=>rl false [3,1,5,3,17]
 |_=>[]
noncomputable def zrA:Code:=Tryz.f48.body.getD .skip
noncomputable def zMJ:List ResultVar:=Tryz.f48.results.toList
def zlZ(t3 t9 t10 t11:AV):List AV:=ux 3 (t3::ux 5 (t9::t10::t11::ux 17 []))
def zMI:List Bool:=zlX 3
noncomputable def zMH:Code:=zat [1,1,0,1,0,0] zrA
def zMG(K:Kt):AExit→List AV→zaa→Prop:=zau tP zlX [1,1,0,1,0] zrA (zaz tP zMJ K)
def zzv(t3 t9 t10 t11:AV)(H:zaa)(K:Kt):Prop:=ALoop tP zMH (zMG K) (zlZ t3 t9 t10 t11) H
def zl0(t3 t5 t9 t10 t11:AV)(H:zaa)(K:Kt)(Kb3:Lt):Prop:=
 zae true 3 t5 H λt24=>
 zar 3 [(.int .i64 0),(.int .i64 0),.snil] 1 [(0,t24)] λt25=>
 zay zaL 3 40 t3 t25 H λt26 H=>
 zac .add false t11 (.int .i64 1) λt27=>
 Kb3 (zlZ t26 t9 t10 t27) H
def zlY(t3 t9 t10 t11:AV)(H:zaa)(K:Kt)(Kb3:Lt):Prop:=
 zac .lss false t11 t10 λt12=>
 zag t12
 (zai 3 t9 t11 λt13=>
 zae true 3 t13 H λt14=>
 zaw [(.int .i64 0),(.int .i64 0),.snil] H λt5 H=>
 zak 3 t5 t14 H λH=>
 zaf 2 t5 λt15=>
 zae false 1 t15 H λt16=>
 zah 1 t16 λt17=>
 zac .gtr false t17 (.int .i64 0) λt18=>
 zag t18
 (zaf 2 t5 λt19=>
 zae false 1 t19 H λt20=>
 ACalls tP zjC [t20] H λt21 H=>
 zaf 2 t5 λt22=>
 zak 1 t22 t21 H λH=>
 zl0 t3 t5 t9 t10 t11 H K Kb3)
 (zl0 t3 t5 t9 t10 t11 H K Kb3))
 (K t3 H)
def zrz(t0:AV)(H:zaa)(K:Kt):Prop:=
 zah 1 t0 λt7=>
 zd9 zaL 3 40 t7 H λt8 H=>
 zah 1 t0 λt10=>
 zzv t8 t0 t10 (.int .i64 0) H K
theorem zzw{t3 t9 t10 t11:AV}{H:zaa}{K:Kt}(Inv:Nat→AV→AV→zaa→Prop)(n:Nat)(h0:HSc H→Inv n t3 t11 H)(round:Rd2 (λt3=>λt11=>zlZ t3 t9 t10 t11) (λt3=>λt11=>λH Kb3=>zlY t3 t9 t10 t11 H K Kb3) H Inv):zzv t3 t9 t10 t11 H K:=
 lp2 (M:=zlX) zMI t3 t11 (by kernel_rfl) Inv n h0 round
theorem zzx{t0:AV}{H:zaa}{K:Kt}(h:HSc H→zrz t0 H K):ACalls tP zjC [t0] H K:=
 zap (M:=zlX) Tryz.func48 (c:=zrA) (by kernel_rfl) (λhs=>Eq.mpr (by kernel_rfl) (h hs))
def zkz:Nat→List Bool
 |6=>rl false [12,1,14,3,11]
 |_=>[]
noncomputable def zpV:Code:=Tryz.f12.body.getD .skip
noncomputable def zGT:List ResultVar:=Tryz.f12.results.toList
def zkA(t12 t27 t28 t29:AV):List AV:=ux 12 (t12::ux 14 (t27::t28::t29::ux 11 []))
def zGR:List Bool:=zkz 6
noncomputable def zGP:Code:=zat [1,1,1,1,0,1,0,0] zpV
def zGO(K:Kt):AExit→List AV→zaa→Prop:=zau tP zkz [1,1,1,1,0,1,0] zpV (zaz tP zGT K)
def zpW(t12 t27 t28 t29:AV)(H:zaa)(K:Kt):Prop:=ALoop tP zGP (zGO K) (zkA t12 t27 t28 t29) H
def zpU(t12 t27 t28 t29:AV)(H:zaa)(K:Kt)(Kb6:Lt):Prop:=
 zac .lss false t29 t28 λt30=>
 zag t30
 (zai 1 t27 t29 λt31=>
 zae false 1 t31 H λt32=>
 zai 3 t32 (.int .i64 0) λt35=>
 zae true 3 t35 H λt36=>
 zar 3 [(.int .i64 0),(.int .i64 0),.snil] 1 [(0,t36)] λt37=>
 zay zaL 3 40 t12 t37 H λt38 H=>
 zac .add false t29 (.int .i64 1) λt39=>
 Kb6 (zkA t38 t27 t28 t39) H)
 (zbf [t12,(.int .i64 0)] (K · H))
def zw3(t0 t1 t2 t3:AV)(H:zaa)(K:Kt):Prop:=
 zas t1 H λt5 H=>
 zae true 3 t5 H λt17=>
 zar 3 [(.int .i64 0),(.int .i64 0),.snil] 1 [(0,t17)] λt18=>
 ACalls tP zjm [t0,t18,t2,t3] H λt21 H=>
 zaG t21 0 λt22=>
 zaG t21 1 λt23=>
 zac .neq false t23 (.int .i64 0) λt25=>
 zag t25
 (zbf [.snil,t23] (K · H))
 (zah 1 t22 λt28=>
 zpW .snil t22 t28 (.int .i64 0) H K)
theorem zGQ{t12 t27 t28 t29:AV}{H:zaa}{K:Kt}(Inv:Nat→AV→AV→zaa→Prop)(n:Nat)(h0:HSc H→Inv n t12 t29 H)(round:Rd2 (λt12=>λt29=>zkA t12 t27 t28 t29) (λt12=>λt29=>λH Kb6=>zpU t12 t27 t28 t29 H K Kb6) H Inv):zpW t12 t27 t28 t29 H K:=
 lp2 (M:=zkz) zGR t12 t29 (by kernel_rfl) Inv n h0 round
theorem zGS{t0 t1 t2 t3:AV}{H:zaa}{K:Kt}(h:HSc H→zw3 t0 t1 t2 t3 H K):ACalls tP zeU [t0,t1,t2,t3] H K:=
 zap (M:=zkz) Tryz.func12 (c:=zpV) (by kernel_rfl) (λhs=>Eq.mpr (by kernel_rfl) (h hs))
def zd0:Nat→List Bool
 |4=>rl false [0,4,18,3,71]
 |14=>rl false [2,1,9,2,38,3,41]
 |200016=>rl false [0,1]
 |22=>rl false [16,1,64,3,12]
 |_=>[]
noncomputable def zfL:Code:=Tryz.f17.body.getD .skip
noncomputable def zqL:List ResultVar:=Tryz.f17.results.toList
def zlh(t0 t1 t2 t3 t22 t23 t24:AV):List AV:=t0::t1::t2::t3::ux 18 (t22::t23::t24::ux 71 [])
def zJv:List Bool:=zd0 4
noncomputable def zJp:Code:=zat [1,1,0,1,0,0] zfL
def zJm(K:Kt):AExit→List AV→zaa→Prop:=zau tP zd0 [1,1,0,1,0] zfL (zaz tP zqL K)
def zyh(t0 t1 t2 t3 t22 t23 t24:AV)(H:zaa)(K:Kt):Prop:=ALoop tP zJp (zJm K) (zlh t0 t1 t2 t3 t22 t23 t24) H
def zlf(t2 t12 t13 t52 t53 t54:AV):List AV:=ux 2 (t2::ux 9 (t12::t13::ux 38 (t52::t53::t54::ux 41 [])))
def zJt:List Bool:=zd0 14
noncomputable def zJn:Code:=zat [1,1,1,1,1,1,0,1,0,0] zfL
def zJk(K:Kt):AExit→List AV→zaa→Prop:=zau tP zd0 [1,1,1,1,1,1,0,1,0] zfL (zaz tP zqL K)
def zli(t2 t12 t13 t52 t53 t54:AV)(H:zaa)(K:Kt):Prop:=ALoop tP zJn (zJk K) (zlf t2 t12 t13 t52 t53 t54) H
def zlg(t16 t81 t82 t83:AV):List AV:=ux 16 (t16::ux 64 (t81::t82::t83::ux 12 []))
def zJu:List Bool:=zd0 22
noncomputable def zJo:Code:=zat [1,1,1,1,1,1,1,1,1,0,1,0,0] zfL
def zJl(K:Kt):AExit→List AV→zaa→Prop:=zau tP zd0 [1,1,1,1,1,1,1,1,1,0,1,0] zfL (zaz tP zqL K)
def zlj(t16 t81 t82 t83:AV)(H:zaa)(K:Kt):Prop:=ALoop tP zJo (zJl K) (zlg t16 t81 t82 t83) H
def zqK(t16 t81 t82 t83:AV)(H:zaa)(K:Kt)(Kb22:Lt):Prop:=
 zac .lss false t83 t82 λt84=>
 zag t84
 (zai 1 t81 t83 λt85=>
 zae false 1 t85 H λt86=>
 ACalls tP zjC [t86] H λt89 H=>
 zar 1 [.snil] 1 [(0,t89)] λt90=>
 zay zbd 1 24 t16 t90 H λt91 H=>
 zac .add false t83 (.int .i64 1) λt92=>
 Kb22 (zlg t91 t81 t82 t92) H)
 (ACalls tP zDA [t16,(.fn zoK [])] H λt94 H=>
 zbf [t16,(.int .i64 0)] (K · H))
def zqJ(t2 t12 t13 t52 t53 t54:AV)(H:zaa)(K:Kt)(Kb14:Lt):Prop:=
 zac .lss false t54 t53 λt55=>
 zag t55
 (zai 3 t52 t54 λt56=>
 zae true 3 t56 H λt57=>
 zaw [(.int .i64 0),(.int .i64 0),.snil] H λt15 H=>
 zak 3 t15 t57 H λH=>
 zab H (λK'=>K' t13 H) λt58=>
 zab H (λK'=>K' t12 H) λt59=>
 zab H (λK'=>zaI t59 (K' · H)) λt60=>
 zab H (λK'=>zaf 0 t60 (K' · H)) λt61=>
 zab H (λK'=>zam false 1 t61 H (K' · H)) λt62=>
 zab H (λK'=>zam true 3 t15 H (K' · H)) λt63=>
 zbg .w false H (λK'=>ACalls tP zfz [t62,t63] H K') λt64 H=>
 zab H (λK'=>zar 1 [(.int .i64 0)] 1 [(0,t64)] (K' · H)) λt65=>
 zbg .w false H (λK'=>zay zcL 1 8 t58 t65 H K') λt66 H=>
 zab H (λK'=>K' t66 H) λt13=>
 zac .add false t54 (.int .i64 1) λt67=>
 Kb14 (zlf t2 t12 t13 t52 t53 t67) H)
 (zaI t12 λt69=>
 zaf 0 t69 λt70=>
 zae false 1 t70 H λt71=>
 ACalls tP zgk [t71,t13,t2] H λt74 H=>
 ACalls tP zeV [(.int .i64 2000)] H λt75 H=>
 ACalls tP zoJ [t74,t75] H λt76 H=>
 zac .gtr false t76 (.int .i64 0) λt77=>
 zag t77
 (zbf [.snil,(.int .i64 9)] (K · H))
 (ACalls tP zhA [t12,t13,t2] H λt81 H=>
 zah 1 t81 λt82=>
 zlj .snil t81 t82 (.int .i64 0) H K))
def zid(t0 t1 t2 t3 t22 t23 t24:AV)(H:zaa)(K:Kt)(Kb4:Lt):Prop:=
 zac .lss false t24 t23 λt25=>
 zag t25
 (zai 3 t22 t24 λt26=>
 zae true 3 t26 H λt27=>
 zaw [(.int .i64 0),(.int .i64 0),.snil] H λt11 H=>
 zak 3 t11 t27 H λH=>
 zae true 3 t11 H λt29=>
 ACalls tP zjA [t0,t29] H λt30 H=>
 aUn .not t30 λt31=>
 zag t31
 (zbf [.snil,(.int .i64 6)] (K · H))
 (zac .add false t24 (.int .i64 1) λt32=>
 Kb4 (zlh t0 t1 t2 t3 t22 t23 t32) H))
 (zac .lss false t2 (.int .i64 0) λt34=>
 zad t34 false H (λK'=>K' t2 H) λt36 H=>
 zad t34 false H (λK'=>zac .gtr false t36 (.int .i64 24) (K' · H)) λt37 H=>
 zao t34 (.bool true) t37 λt38=>
 zad t38 false H (λK'=>K' t3 H) λt40 H=>
 zad t38 false H (λK'=>ACalls tP zoI [t40] H K') λt41 H=>
 zad t38 false H (λK'=>aUn .not t41 (K' · H)) λt42 H=>
 zao t38 (.bool true) t42 λt43=>
 zag t43
 (zbf [.snil,(.int .i64 8)] (K · H))
 (zah 1 t3 λt46=>
 ACalls tP zjB [t0,t46] H λt47 H=>
 zea H λt49 H=>
 zaq [.nilp,.snil,.unk] [(0,1),(1,1),(2,1)] [(0,t47),(1,t3),(2,t49)] λt50=>
 zas t50 H λt51 H=>
 zah 1 t1 λt53=>
 zli t2 t51 .snil t1 t53 (.int .i64 0) H K))
def zyb(t0 t1 t2 t3:AV)(H:zaa)(K:Kt):Prop:=
 zah 1 t1 λt20=>
 zac .gtr false t20 (.int .i64 6) λt21=>
 zag t21
 (zbf [.snil,(.int .i64 5)] (K · H))
 (zah 1 t1 λt23=>
 zyh t0 t1 t2 t3 t1 t23 (.int .i64 0) H K)
theorem zJr{t16 t81 t82 t83:AV}{H:zaa}{K:Kt}(Inv:Nat→AV→AV→zaa→Prop)(n:Nat)(h0:HSc H→Inv n t16 t83 H)(round:Rd2 (λt16=>λt83=>zlg t16 t81 t82 t83) (λt16=>λt83=>λH Kb22=>zqK t16 t81 t82 t83 H K Kb22) H Inv):zlj t16 t81 t82 t83 H K:=
 lp2 (M:=zd0) zJu t16 t83 (by kernel_rfl) Inv n h0 round
theorem zJq{t2 t12 t13 t52 t53 t54:AV}{H:zaa}{K:Kt}(Inv:Nat→AV→AV→zaa→Prop)(n:Nat)(h0:HSc H→Inv n t13 t54 H)(round:Rd2 (λt13=>λt54=>zlf t2 t12 t13 t52 t53 t54) (λt13=>λt54=>λH Kb14=>zqJ t2 t12 t13 t52 t53 t54 H K Kb14) H Inv):zli t2 t12 t13 t52 t53 t54 H K:=
 lp2 (M:=zd0) zJt t13 t54 (by kernel_rfl) Inv n h0 round
theorem zJs{t0 t1 t2 t3 t22 t23 t24:AV}{H:zaa}{K:Kt}(Inv:Nat→AV→zaa→Prop)(n:Nat)(h0:HSc H→Inv n t24 H)(round:Rd1 (λt24=>zlh t0 t1 t2 t3 t22 t23 t24) (λt24=>λH Kb4=>zid t0 t1 t2 t3 t22 t23 t24 H K Kb4) H Inv):zyh t0 t1 t2 t3 t22 t23 t24 H K:=
 lp1 (M:=zd0) zJv t24 (by kernel_rfl) Inv n h0 round
theorem zJw{t0 t1 t2 t3:AV}{H:zaa}{K:Kt}(h:HSc H→zyb t0 t1 t2 t3 H K):ACalls tP zjm [t0,t1,t2,t3] H K:=
 zap (M:=zd0) Tryz.func17 (c:=zfL) (by kernel_rfl) (λhs=>Eq.mpr (by kernel_rfl) (h hs))
def zML(_:Nat):List Bool:=[]
noncomputable def zMM:Code:=Tryz.f50.body.getD .skip
def zzy(t0 t1:AV)(H:zaa)(K:Kt):Prop:=
 ACalls tP zjz [t0,t1,(.fn zfw [])] H λt7 H=>
 K t7 H
theorem zMN{t0 t1:AV}{H:zaa}{K:Kt}(h:HSc H→zzy t0 t1 H K):ACalls tP zoK [t0,t1] H K:=
 zap (M:=zML) Tryz.func50 (c:=zMM) (by kernel_rfl) (λhs=>Eq.mpr (by kernel_rfl) (h hs))
end Go.Proofs.YtaifokkaaahdoaaGreatDoor
