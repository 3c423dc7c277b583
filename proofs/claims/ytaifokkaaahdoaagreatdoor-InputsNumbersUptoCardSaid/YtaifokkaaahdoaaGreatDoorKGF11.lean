import Derived.Test.YtaifokkaaahdoaaGreatDoorKGL2
import Derived.Test.YtaifokkaaahdoaaGreatDoorLA1
import Derived.Test.YtaifokkaaahdoaaGreatDoorKC1
import Derived.Test.YtaifokkaaahdoaaGreatDoorKNum
import Derived.Test.YtaifokkaaahdoaaGreatDoorProg
import Derived.KernelRfl
import Derived.Test.YtaifokkaaahdoaaGreatDoorAbsQ1
set_option linter.unusedSimpArgs false
set_option linter.unusedVariables false
set_option linter.unusedSectionVars false
set_option maxRecDepth 100000
namespace Go.Proofs.YtaifokkaaahdoaaGreatDoor
def zcL(data:List Dat)(n:Int):List UInt8:=(data.getD n.toNat ⟨[],0,[]⟩).name
def zcl(l:List (List UInt8)):List UInt8:=Lib.join l [44,32]
def zb5(l:List (List UInt8)):List UInt8:=40::(zcl l++[41])
def zbL(data:List Dat)(k n:Int)(l:List (List UInt8)):List UInt8:=
 if k=1 then [105,110,116] else if k=2 then [98,111,111,108] else if k=3 then [117,110,105,116]
 else if k=7 then [97,114,114,97,121]++zb5 l else if k=8 then [114,101,102]++zb5 l
 else if k=9 then [102,110,40]++zcl (l.take (l.length-1))++[41,32,45,62,32]++l.getD (l.length-1) []
 else if k=5 then (if l=[] then zcL data n else zcL data n++zb5 l) else zb5 l
mutual
def txt(data:List Dat):VT→List UInt8
 |.mk k n ks=>zbL data k n (zaU data ks)
def zaU(data:List Dat):List VT→List (List UInt8)
 |[]=>[]
 |v::vs=>txt data v::zaU data vs
end
theorem zeV(data:List Dat):∀ ks,zaU data ks=ks.map (txt data)
 |[]=>rfl
 |v::vs=>by rw[zaU,zeV data vs];rfl
theorem zxD(sep:List UInt8):∀ r:List (List UInt8),(Lib.joinTail sep r).length=(r.map List.length).sum+sep.length*r.length
 |[]=>by simp[Lib.joinTail]
 |x::r=>by have:=zxD sep r;unfold Lib.joinTail at this ⊢;simp only[aA,List.flatten_cons,ao,List.sum_cons,List.length_cons,df,bK];omega
theorem zpR(l:List (List UInt8)):(zcl l).length≤(l.map List.length).sum+2*l.length:=by
 cases l with
 |nil=>simp[zcl,Lib.join_nil]
 |cons x r=>unfold zcl;rw[Lib.join_cons,ao,zxD];simp;omega
theorem zHo(l:List (List UInt8)):(zb5 l).length≤(l.map List.length).sum+2*l.length+2:=by have:=zpR l;simp[zb5];omega
theorem zJ6(l:List (List UInt8))(k:Nat):((l.take k).map List.length).sum≤(l.map List.length).sum:=by
 induction l generalizing k with
 |nil=>simp
 |cons a l ih=>
  cases k with
  |zero=>simp
  |succ k=>have:=ih k;simp only[List.take_succ_cons,aA,List.sum_cons];omega
theorem zHc(l:List (List UInt8))(k:Nat):(l.getD k []).length≤(l.map List.length).sum:=by
 induction l generalizing k with
 |nil=>simp
 |cons a l ih=>
  cases k with
  |zero=>simp
  |succ k=>have:=ih k;simp at this ⊢;omega
theorem zKc(l:List (List UInt8)):((l.take (l.length-1)).map List.length).sum+(l.getD (l.length-1) []).length≤(l.map List.length).sum:=by
 cases h:l.length with
 |zero=>have:=az h;subst this;simp
 |succ m=>
  have e:l=l.take m++[l.getD m []]:=by
   have hm:m<l.length:=by omega
   conv=>lhs;rw[←aN m l]
   rw[af hm,aK (by omega)];simp[List.getD_eq_getElem?_getD,hm]
  conv=>rhs;rw[e]
  simp
theorem zKo{data:List Dat}{B:Nat}(hB:∀D∈data,D.name.length≤B)(k n:Int)(l:List (List UInt8)):(zbL data k n l).length≤(l.map List.length).sum+2*l.length+B+20:=by
 have h1:=zHo l;have h2:=zpR (l.take (l.length-1));have h3:=zKc l;have h4:(zcL data n).length≤B:=by
  unfold zcL;rw[List.getD_eq_getElem?_getD];cases hd:data[n.toNat]? with
  |none=>simp
  |some D=>exact hB D (aQ hd)
 unfold zbL
 repeat' split
 all_goals simp at *
 all_goals omega
mutual
theorem zKq{data:List Dat}{B:Nat}(hB:∀ D∈data,D.name.length≤B):∀ v:VT,(txt data v).length+2≤v.nodes*(B+24)
 |.mk k n ks=>by
  have h1:=zln hB ks;have h2:=zKo hB k n (zaU data ks);rw[txt];have h3:(zaU data ks).length=ks.length:=by rw[zeV];simp
  have e:(VT.mk k n ks).nodes*(B+24)=VT.nodesL ks*(B+24)+(B+24):=by rw[VT.nodes,bb,Nat.one_mul]
  rw[e];omega
theorem zln{data:List Dat}{B:Nat}(hB:∀ D∈data,D.name.length≤B):∀ ks:List VT,((zaU data ks).map List.length).sum+2*ks.length≤VT.nodesL ks*(B+24)
 |[]=>by simp[zaU]
 |v::vs=>by have h1:=zKq hB v;have h2:=zln hB vs;simp only[zaU,aA,List.sum_cons,VT.nodesL,bb,List.length_cons]at *;omega
end
theorem zKr{data:List Dat}{B:Nat}(hB:∀D∈data,D.name.length≤B)(ks:List VT)(k:Nat):(zcl ((zaU data ks).take k)).length≤VT.nodesL ks*(B+24):=by
 have h1:=zln hB ks;have h2:=zpR ((zaU data ks).take k);have h3:=zJ6 (zaU data ks) k;have h4:(zaU data ks).length=ks.length:=by rw[zeV];simp
 have h5:((zaU data ks).take k).length≤ks.length:=by rw[aM];omega
 omega
theorem zKw(n k:Nat)(hn:n≤200)(hk:k≤1024):n*k≤204800:=bI hn hk
theorem zLO{data:List Dat}(hD:zaB data=true)(hB:∀ D∈data,D.name.length≤1000):∀ (m:Nat) (v:VT),v.nodes≤m→v.nodes≤200→zaG data 0 v=true→∀ (H:zaa),H[0]?=some .nodr→∀ K:Kt,K (.str (txt data v)) H →
  ACalls tP zkg [.sl (data.map Dat.cs) .none,.agg v.cs] H K:=by
 intro m;induction m with
 |zero=>intro v h;have:=v.nodes_pos;omega
 |succ m ih=>
  intro v hm hn hok H h0 K hK;obtain⟨k,n,ks⟩:=v;have hnn:(VT.mk k n ks).nodes=VT.nodesL ks+1:=by simp[VT.nodes]
  have hll:=VT.len_le ks;have hlt0:0<H.length:=(List.getElem?_eq_some_iff.1 h0).1;refine ACalls.out (zLM λhs=>?_);simp only[zaG,ac]at hok;have hkid:=zlp hok.2;simp[zAv,VT.cs,ag];unfold zlQ;refine ALoop.own 5 zbx 1 rfl ?_;have hH1:(H++[AB.cells [.int .i64 k,.int .i64 n,.sl (VT.css ks) .none]]).length=H.length+1:=by simp
  rw[hH1,ah];show zlQ _ _ (.sl (zbH ((zaU data ks).take 0)) (.own (H.length+1))) _ _ _ (H++[.cells [.int .i64 k,.int .i64 n,.sl (VT.css ks) .none],.perm zbx 1 0]) _;have hp3:∀n',HSc (H++[.cells [.int .i64 k,.int .i64 n,.sl (VT.css ks) .none],.perm zbx 1 n']):=λn'=>hs.append (by simp[AB.sc,AV.scA,AV.scB]);have htl:(zaU data ks).length=ks.length:=by rw[zeV];simp
  refine zLK (Inv:=λq t5 t13 H'=>∃j:Nat,j≤ks.length∧ks.length-j=q∧t13=.int .i64 j∧t5=.sl (zbH ((zaU data ks).take j)) (.own (H.length+1))∧H'=H++[.cells [.int .i64 k,.int .i64 n,.sl (VT.css ks) .none],.perm zbx 1 j]) ks.length ?_ ?_
  ·intro _;exact⟨0,by omega,rfl,rfl,rfl,rfl⟩
  ·rintro q t5 t13 H' ⟨j,hj,rfl,rfl,rfl,rfl⟩ hsc' hlen hsF Kb hKb;by_cases hlt:j<ks.length
   ·have hki:=VT.kid_lt (k:=k) (n:=n) hlt;obtain⟨x1,x2,x3,hvx,hxa,hxb,hxc⟩:=zaO ks[j];simp[zsm,hlt,hvx,ag];refine⟨⟨hxa,hxb,hxc⟩,?_⟩;rw[←hvx];refine ih ks[j] (by omega) (by omega) (hkid _ (ae hlt)) _ (by rw[List.getElem?_append_left hlt0];exact h0) _ ?_;simp[zau,za4,plain,AV.pd];simp only[zax,za6,zaZ];have hsl:(zbH ((zaU data ks).take j)).length=j:=by simp;omega
    simp[ai,hsl];refine⟨⟨by omega,by omega⟩,?_⟩;have hst:zbH ((zaU data ks).take j)++[[AV.str (txt data ks[j])]]=zbH ((zaU data ks).take (j+1)):=by rw[zeV,←bX,←bX,aj hlt];simp only[zbH,bj,aA,cm]
    rw[hst,zaz (by omega) (by omega)];exact hKb _ _ ⟨ks.length-(j+1),by omega,Back.at (J:=[.cells (ks[j]).cs]) (H2:=H++[.cells [.int .i64 k,.int .i64 n,.sl (VT.css ks) .none],.perm zbx 1 (j+1)]) (by simp) (by simp) (hp3 _) (by simp[zlP,ux,AV.sc,AV.scA,AV.scB,AV.scV]) ⟨_,_,rfl,j+1,by omega,rfl,rfl,rfl,rfl⟩⟩
   ·obtain rfl:j=ks.length:=by omega
    rw[ak (by omega)];simp[zsm];have hb1:=zKw (VT.nodesL ks) 1024 (by omega) (by omega);have hJl:∀k',(zcl ((zaU data ks).take k')).length≤204800:=λk'=>aC (zKr hB ks k') hb1;have hS0:((zaU data ks).map List.length).sum≤204800:=by have h1:=zln hB ks;omega
    have hJ0:=hJl ks.length;rw[ak (by omega)]at hJ0;obtain⟨J,hJ⟩:∃J:zaa,J=[.cells [.int .i64 k,.int .i64 n,.sl (VT.css ks) .none],.perm zbx 1 ks.length]:=⟨_,rfl⟩;rw[←hJ];have h0J:(H++J)[0]?=some .nodr:=by rw[List.getElem?_append_left hlt0];exact h0
    have hO:∀s,txt data (.mk k n ks)=s→Out H.length K (.str s) (H++J):=λs he=>by subst he;exact Out.at rfl (aa _) hs .rfl' rfl rfl hK
    have hg:(H++J)[H.length]?=some (.cells [.int .i64 k,.int .i64 n,.sl (VT.css ks) .none]):=by rw[hJ];simp
    rw[txt]at hO;generalize zaU data ks=L at *;have e40:(40:UInt8)::(zcl L++[41])=zb5 L:=rfl;refine ACalls.wk (args':=[.sl (zbH L) .none,.str [44,32]]) (zB5 L [44,32] (by omega) (by have:(Lib.join L [44,32]).length≤204800:=hJ0;omega) _ h0J _ ?_) ⟨.atom (.sl _ _),.rfl',trivial⟩;change (λt25 H_1=>_) (AV.str (zcl L)) (H++J);have hJ1:(Lib.join L [44,32]).length≤204800:=hJ0;simp[hg];refine⟨by omega,by omega,?_⟩;by_cases k1:k=1
    ·simp[k1];exact hO _ (by simp[zbL,k1])
    by_cases k2:k=2
    ·simp[k2];exact hO _ (by simp[zbL,k2])
    by_cases k3:k=3
    ·simp[k3];exact hO _ (by simp[zbL,k3])
    have b1:(k == 1)=false:=by simpa using k1
    have b2:(k == 2)=false:=by simpa using k2
    have b3:(k == 3)=false:=by simpa using k3
    have k4:k≠4:=by rintro rfl;have:=hok.1;simp[zaK]at this;omega
    have b4:(k == 4)=false:=by simpa using k4
    by_cases k7:k=7
    ·simp[k7];refine⟨by omega,?_⟩;exact hO _ (by simp[zbL,k7,zb5,zcl])
    by_cases k8:k=8
    ·simp[k8];refine⟨by omega,?_⟩;exact hO _ (by simp[zbL,k8,zb5,zcl])
    have b7:(k == 7)=false:=by simpa using k7
    have b8:(k == 8)=false:=by simpa using k8
    simp[b1,b2,b3,b4,b7,b8];by_cases k9:k=9
    ·have hpos:1≤ks.length:=by have:=hok.1;rw[k9]at this;simp[zaK]at this;omega
     obtain⟨q,hq⟩:∃q,L.length=q+1:=⟨L.length-1,by omega⟩;have w1:IntKind.i64.wrap (q:Int)=q:=zaz (by omega) (by omega);have hsl:∀(c:List AV),c∈zbH L→c.length=1:=λc hc=>by obtain⟨s,_,rfl⟩:=aV.1 hc;rfl
     have hq2:q<L.length:=by omega
     have hgq:(zbH L)[q]'(by simpa using hq2)=[.str L[q]]:=by simp[zbH]
     have htk:(zbH L).take q=zbH (L.take q):=by simp[zbH]
     have hJq:=hJl q;have hLq:=hq2;simp[k9,hq,w1];refine⟨⟨by omega,hsl⟩,?_⟩;rw[htk];refine zaC (.str (zcl (L.take q))) (λJ'=>zB5 (L.take q) [44,32] (by simp;omega) (by have:(Lib.join (L.take q) [44,32]).length≤204800:=hJq;omega) _ (by rw[List.getElem?_append_left (by simp;omega)];exact h0J) _ ⟨rfl,rfl⟩) ?_;have hLl:L[q].length≤204800:=by
      have h1:=zHc L q;have h2:L.getD q []=L[q]:=by simp[List.getD_eq_getElem?_getD,hq2]
      rw[h2]at h1;omega
     simp[hgq];refine⟨by omega,by omega,by omega,by omega,?_⟩;exact hO _ (by simp[zbL,k9,hq,List.getD_eq_getElem?_getD,hq2])
    have b9:(k == 9)=false:=by simpa using k9
    simp[b9];by_cases k5:k=5
    ·have hnum:0≤n∧n.toNat<data.length:=by
      have:=hok.1;rw[k5]at this;simp[zaK]at this;refine⟨this.1,?_⟩;cases hd:data[n.toNat]? with
      |none=>rw[hd]at this;simp at this
      |some d=>exact(List.getElem?_eq_some_iff.1 hd).1
     obtain⟨p,rfl⟩:∃p:Nat,n=p:=⟨n.toNat,by omega⟩;have hp:p<data.length:=by have:=hnum.2;simpa using this
     have e1:(data.map Dat.cs)[p]?=some (data[p]).cs:=by simp[hp]
     have hna:zcL data p=(data[p]).name:=by simp[zcL,List.getD_eq_getElem?_getD,hp]
     simp[k5,hg,hp,e1,Dat.cs];by_cases hL0:L=[]
     ·subst hL0;simp;exact hO _ (by simp[zbL,k5,hna])
     ·have hne:((L.length:Int) == 0)=false:=by have:L.length≠0:=λh=>hL0 (az h);simp;omega
      have hnl:=hB _ (ae hp);simp[hne];refine⟨by omega,?_⟩;exact hO _ (by simp[zbL,k5,hL0,hna,zb5,zcl])
    have b5:(k == 5)=false:=by simpa using k5
    simp[b5];exact hO _ (by simp[zbL,k1,k2,k3,k5,k7,k8,k9,zb5,zcl])
theorem zlm(kw:List UInt8→Bool):∀(m:Nat) (r:List UInt8) (p:Nat) (l:List Tk),r.length≤m→zbn kw r p=.ok l→∀t∈l,t.text.length≤r.length:=by
 intro m;induction m with
 |zero=>intro r p l hm h t ht;have:r=[]:=az (by omega);subst this;unfold zbn at h;cases h;simp at ht;subst ht;simp
 |succ m ih=>
  intro r p l hm h t ht;unfold zbn at h;split at h
  ·cases h;simp at ht;subst ht;simp
  ·rename_i b r';simp at hm;split at h
   ·have:=ih r' _ l (by omega) h t ht;simp;omega
   ·split at h
    ·have h1:=(cj (p:=(· != 10)) (l:=r')).length_le;have:=ih _ _ l (by omega) h t ht;simp;omega
    ·split at h
     ·cases h
     ·rename_i k n hk;split at h
      ·cases h
      ·rename_i l2 hl2;cases h;rcases aZ.1 ht with rfl | ht
       ·simp[aM];omega
       ·have:=ih _ _ l2 (by simp;omega) hl2 t ht;simp at this ⊢;omega
theorem zKe{kw:List UInt8→Bool}{s:List UInt8}{a e:Tk}(h:zbn kw s 0=.ok [a,e])(hk:a.kind=2)(ht:a.text=s):s≠[]∧∀b∈s,bIn b=true:=by
 unfold zbn at h;split at h
 ·cases h
 ·rename_i b r;refine⟨by simp,?_⟩;split at h
  ·have:=zlm kw _ r _ _ (aa _) h a (by simp);rw[ht]at this;simp only[List.length_cons]at this;omega
  ·split at h
   ·have h1:=(cj (p:=(· != 10)) (l:=r)).length_le;have:=zlm kw _ _ _ _ (aa _) h a (by simp);rw[ht]at this;simp at this;omega
   ·split at h
    ·cases h
    ·rename_i k n hkn;split at h
     ·cases h
     ·rename_i l2 hl2;injection h with h
      injection h with h1 h2
      subst h1;simp only at hk ht;subst hk;unfold tok at hkn;split at hkn
      ·rename_i hb;simp only at hkn;split at hkn
       ·cases hkn
       ·simp only[Except.ok.injEq,dd]at hkn;obtain⟨hk2,rfl⟩:=hkn;have hall:r.takeWhile bIn=r:=by
         have:((b::r).take ((r.takeWhile bIn).length+1)).length=(b::r).length:=by rw[ht]
         simp only[aM,List.length_cons]at this;have hle:=(du (p:=bIn) (l:=r)).length_le;exact(du (p:=bIn) (l:=r)).eq_of_length (by omega)
        have hbi:bIn b=true:=by unfold bIn;simp only[bB]at hb ⊢;rcases hb with hb|hb <;> simp[hb]
        intro x hx;rcases aZ.1 hx with rfl|hx
        ·exact hbi
        ·rw[←hall]at hx;exact am.1 cT x hx
      ·split at hkn
       ·simp only at hkn;split at hkn
        ·cases hkn
        ·split at hkn <;> simp at hkn
       ·simp only at hkn;split at hkn <;> simp at hkn
theorem zz7{s:List UInt8}(h:zcg s=true):s≠[]∧∀b∈s,bIn b=true:=by
 unfold zcg zbR zeS at h;split at h
 ·simp at h
 ·split at h
  ·simp at h
  ·rename_i l hl;simp only[ac]at h;obtain⟨_,h⟩:=h
   match l,hl,h with
   |[a,e],hl,h=>simp only[ac,aY]at h;exact zKe hl h.1 h.2
   |[],_,h=>cases h
   |[_],_,h=>cases h
   |_::_::_::_,_,h=>cases h
theorem zKf{kw:List UInt8→Bool}{s:List UInt8}{a e:Tk}(h:zbn kw s 0=.ok [a,e])(hk:a.kind=2)(ht:a.text=s):s.length≤24∧∃b r,s=b::r∧bUp b=true:=by
 unfold zbn at h;split at h
 ·cases h
 ·rename_i b r;split at h
  ·have:=zlm kw _ r _ _ (aa _) h a (by simp);rw[ht]at this;simp only[List.length_cons]at this;omega
  ·split at h
   ·have h1:=(cj (p:=(· != 10)) (l:=r)).length_le;have:=zlm kw _ _ _ _ (aa _) h a (by simp);rw[ht]at this;simp at this;omega
   ·split at h
    ·cases h
    ·rename_i k n hkn;split at h
     ·cases h
     ·rename_i l2 hl2;injection h with h
      injection h with h1 h2
      subst h1;simp only at hk ht;subst hk;unfold tok at hkn;split at hkn
      ·rename_i hb;simp only at hkn;split at hkn
       ·cases hkn
       ·rename_i h24;simp only[Except.ok.injEq,dd]at hkn;obtain⟨hk2,rfl⟩:=hkn;have hle:(b::r).length≤(r.takeWhile bIn).length+1:=by
         have:((b::r).take ((r.takeWhile bIn).length+1)).length=(b::r).length:=by rw[ht]
         rw[aM]at this;omega
        refine⟨by omega,b,r,rfl,?_⟩;by_cases hu:bUp b=true
        ·exact hu
        ·rw[ap hu]at hk2;split at hk2 <;> simp at hk2
      ·split at hkn
       ·simp only at hkn;split at hkn
        ·cases hkn
        ·split at hkn <;> simp at hkn
       ·simp only at hkn;split at hkn <;> simp at hkn
theorem zrV{s:List UInt8}(h:zcg s=true):s.length≤24∧∃b r,s=b::r∧bUp b=true:=by
 unfold zcg zbR zeS at h;split at h
 ·simp at h
 ·split at h
  ·simp at h
  ·rename_i l hl;simp only[ac]at h;obtain⟨_,h⟩:=h
   match l,hl,h with
   |[a,e],hl,h=>simp only[ac,aY]at h;exact zKf hl h.1 h.2
   |[],_,h=>cases h
   |[_],_,h=>cases h
   |_::_::_::_,_,h=>cases h
theorem zh6{data:List Dat}(hD:zaB data=true){i:Nat}(hi:i<data.length):zcg (data[i]).name=true:=by
 have h1:zck data data 0=true:=by simp[zaB]at hD;exact hD.1.1.2
 have h2:=zjM data 0 i hi h1;simp only[zca,ac]at h2;exact h2.1.1.1.1.1
theorem zGQ{data:List Dat}(hD:zaB data=true){i j:Nat}(hi:i<data.length)(hj:j<data.length)(h:(data[i]).name=(data[j]).name):i=j:=by
 have hr:zcf (zbo data)=false:=by simp[zaB]at hD;exact hD.1.2
 have key:∀a b:Nat,∀(ha:a<data.length) (hb:b<a),(data[a]).name≠(data[b]'(by omega)).name:=λa b ha hb e=>by have:=zyT (l:=zbo data) (i:=a) (j:=b) (by simpa[zbo]using ha) hb (by simpa[zbo]using e);rw[hr]at this;cases this
 rcases c9 i j with h1|h1|h1
 ·exact absurd h.symm (key j i hj h1)
 ·exact h1
 ·exact absurd h (key i j hi h1)
def Dlm(r:List UInt8):Prop:=r=[]∨∃b r',r=b::r'∧(b=41∨b=44)
def okT(data:List Dat)(t:VT):Prop:=zaG data 0 t=true
theorem zwn{b:UInt8}(h:b=41∨b=44∨b=40):bIn b=false:=by rcases h with rfl|rfl|rfl <;> decide
theorem zH8{s t r1 r2:List UInt8}(hs:∀b∈s,bIn b=true)(ht:∀b∈t,bIn b=true)(h1:∀b r',r1=b::r'→bIn b=false)(h2:∀b r',r2=b::r'→bIn b=false)(h:s++r1=t++r2):s=t∧r1=r2:=by
 induction s generalizing t with
 |nil=>
  cases t with
  |nil=>exact⟨rfl,h⟩
  |cons b t=>have:=h1 b (t++r2) (by simpa using h);rw[ht b (by simp)]at this;cases this
 |cons a s ih=>
  cases t with
  |nil=>have:=h2 a (s++r1) (by simpa using h.symm);rw[hs a (by simp)]at this;cases this
  |cons b t=>simp only[List.cons_append,bk]at h;obtain⟨h3,h4⟩:=ih (t:=t) (λx hx=>hs x (by simp[hx])) (λx hx=>ht x (by simp[hx])) h.2;exact⟨by rw[h.1,h3],h4⟩
def zpK(b:UInt8):Int:=if b=105 then 1 else if b=98 then 2 else if b=117 then 3 else if b=97 then 7 else if b=114 then 8 else if b=102 then 9 else if b=40 then 6 else 5
theorem zxj{b:UInt8}(h:bUp b=true):zpK b=5:=by
 have h1:65≤b.toNat∧b.toNat≤90:=by unfold bUp at h;simp at h;omega
 unfold zpK;have:∀n:UInt8,(n.toNat<65∨90<n.toNat)→b≠n:=λn hn e=>by subst e;omega
 rw[ap (this _ (by decide)),ap (this _ (by decide)),ap (this _ (by decide)),ap (this _ (by decide)),ap (this _ (by decide)),ap (this _ (by decide)),ap (this _ (by decide))]
theorem zeK{data:List Dat}{k n:Int}{ks:List VT}(h:okT data (.mk k n ks)):(k=1∨k=2∨k=3)∧n=0∧ks=[]∨k=5∧0≤n∧(∃hn:n.toNat<data.length,(ks.length:Int)=(data[n.toNat]).vars)∨(k=6∨k=7∨k=8)∧n=0∨k=9∧n=0∧1≤ks.length:=by
 unfold okT at h;simp only[zaG,ac]at h;have hs:=h.1;unfold zaK at hs;by_cases h123:(k == 1 || k == 2 || k == 3)=true
 ·rw[aB h123]at hs;simp at hs h123;exact .inl ⟨by omega,hs.1,hs.2⟩
 rw[ap h123]at hs;by_cases h4:(k == 4)=true
 ·rw[aB h4]at hs;simp at hs;omega
 rw[ap h4]at hs;by_cases h5:(k == 5)=true
 ·rw[aB h5]at hs;simp at h5 hs;refine .inr (.inl ⟨h5,hs.1,?_⟩);cases hd:data[n.toNat]? with
  |none=>rw[hd]at hs;simp at hs
  |some d=>rw[hd]at hs;obtain⟨hn,hd2⟩:=List.getElem?_eq_some_iff.1 hd;exact⟨hn,by rw[hd2];simpa using hs.2⟩
 rw[ap h5]at hs;by_cases h6:(k == 6)=true
 ·rw[aB h6]at hs;simp at h6 hs;exact .inr (.inr (.inl ⟨.inl h6,hs.1.1⟩))
 rw[ap h6]at hs;by_cases h78:(k == 7 || k == 8)=true
 ·rw[aB h78]at hs;simp at h78 hs;exact .inr (.inr (.inl ⟨by omega,hs.1⟩))
 rw[ap h78]at hs;by_cases h9:(k == 9)=true
 ·rw[aB h9]at hs;simp at h9 hs;exact .inr (.inr (.inr ⟨h9,hs.1.1,hs.1.2⟩))
 ·rw[ap h9]at hs;cases hs
theorem zq4{data:List Dat}{k n:Int}{ks:List VT}(h:okT data (.mk k n ks)):∀x∈ks,okT data x:=by unfold okT at h;simp only[zaG,ac]at h;exact zlp h.2
theorem zrM{data:List Dat}(hD:zaB data=true){k n:Int}{ks:List VT}(h:okT data (.mk k n ks)):∃b r,txt data (.mk k n ks)=b::r∧zpK b=k:=by
 rw[txt];rcases zeK h with ⟨hk,_⟩|⟨rfl,h0,hn,_⟩|⟨hk,_⟩|⟨rfl,_⟩
 ·rcases hk with rfl | rfl | rfl
  ·exact⟨105,_,rfl,rfl⟩
  ·exact⟨98,_,rfl,rfl⟩
  ·exact⟨117,_,rfl,rfl⟩
 ·obtain⟨_,b,r,hb,hu⟩:=zrV (zh6 hD hn);have e:zcL data n=b::r:=by simp[zcL,List.getD_eq_getElem?_getD,hn,hb]
  by_cases hl:zaU data ks=[]
  ·exact⟨b,r,by simp[zbL,hl,e],zxj hu⟩
  ·exact⟨b,r++zb5 (zaU data ks),by simp[zbL,hl,e],zxj hu⟩
 ·rcases hk with rfl | rfl | rfl
  ·exact⟨40,_,rfl,rfl⟩
  ·exact⟨97,_,rfl,rfl⟩
  ·exact⟨114,_,rfl,rfl⟩
 ·exact⟨102,_,by simp only[zbL];rfl,rfl⟩
theorem zxk{data:List Dat}(hD:zaB data=true){t:VT}(h:okT data t):∀r1 r2:List UInt8,txt data t++r1≠41::r2:=λr1 r2 e=>by
 obtain⟨k,n,ks⟩:=t;obtain⟨b,r,hb,hk⟩:=zrM hD h;rw[hb]at e;simp only[List.cons_append,bk]at e;rw[e.1]at hk;have hk5:k=5:=by rw[←hk];rfl
 subst hk5;rcases zeK h with ⟨h1,_⟩|⟨_,h0,hn,_⟩|⟨h1,_⟩|⟨h1,_⟩
 ·omega
 ·obtain⟨_,b',r',hb',hu⟩:=zrV (zh6 hD hn);have e2:zcL data n=b'::r':=by simp[zcL,List.getD_eq_getElem?_getD,hn,hb']
  have:b=b':=by
   rw[txt]at hb;by_cases hl:zaU data ks=[]
   ·simp[zbL,hl,e2]at hb;exact hb.1.symm
   ·simp[zbL,hl,e2]at hb;exact hb.1.symm
  rw[←this,e.1]at hu;exact absurd hu (by decide)
 ·omega
 ·omega
theorem zGV{r:List UInt8}(h:Dlm r):∀b r',r=b::r'→bIn b=false:=λb r' e=>by
 rcases h with h|⟨b',r'',h,hb⟩
 ·rw[h]at e;cases e
 ·rw[h]at e;cases e;exact zwn (by rcases hb with hb|hb <;> simp[hb])
def zhR(data:List Dat)(t:VT):Prop:=∀(u:VT) (r1 r2:List UInt8),okT data u→Dlm r1→Dlm r2→txt data t++r1=txt data u++r2→t=u∧r1=r2
theorem zpS(sep:List UInt8):Lib.joinTail sep []=[]:=rfl
theorem zj3(sep x:List UInt8)(r:List (List UInt8)):Lib.joinTail sep (x::r)=sep++x++Lib.joinTail sep r:=by simp[Lib.joinTail]
theorem zlj(l:List (List UInt8))(r:List UInt8):Dlm (Lib.joinTail [44,32] l++41::r):=by
 cases l with
 |nil=>exact .inr ⟨41,r,rfl,.inl rfl⟩
 |cons x l=>exact .inr ⟨44,_,by rw[zj3];rfl,.inr rfl⟩
theorem zxw{data:List Dat}:∀ (ks ls:List VT) (r1 r2:List UInt8),(∀ x∈ks,zhR data x)→(∀ x∈ls,okT data x)→Lib.joinTail [44,32] (zaU data ks)++41::r1=Lib.joinTail [44,32] (zaU data ls)++41::r2→ks=ls∧r1=r2
 |[],[],r1,r2,_,_,h=>by simp[zaU,zpS]at h;exact⟨rfl,h⟩
 |[],b::ls,r1,r2,_,_,h=>by simp[zaU,zpS,zj3]at h
 |a::ks,[],r1,r2,_,_,h=>by simp[zaU,zpS,zj3]at h
 |a::ks,b::ls,r1,r2,hk,hl,h=>by simp only[zaU,zj3,ah,List.cons_append,List.nil_append,bk,cU]at h;obtain⟨h1,h2⟩:=hk a (by simp) b _ _ (hl b (by simp)) (zlj _ _) (zlj _ _) h;obtain⟨h3,h4⟩:=zxw ks ls r1 r2 (λx hx=>hk x (by simp[hx])) (λx hx=>hl x (by simp[hx])) h2;exact⟨by rw[h1,h3],h4⟩
theorem zxv{data:List Dat}(hD:zaB data=true)(ks ls:List VT)(r1 r2:List UInt8)(hi:∀x∈ks,zhR data x)(hk:∀x∈ks,okT data x)(hl:∀x∈ls,okT data x)(h:zcl (zaU data ks)++41::r1=zcl (zaU data ls)++41::r2):ks=ls∧r1=r2:=by
 unfold zcl at h;cases ks with
 |nil=>
  cases ls with
  |nil=>simp[zaU,Lib.join_nil]at h;exact⟨rfl,h⟩
  |cons b ls=>simp only[zaU,Lib.join_nil,Lib.join_cons,List.nil_append,ah]at h;exact absurd h.symm (zxk hD (hl b (by simp)) _ _)
 |cons a ks=>
  cases ls with
  |nil=>simp only[zaU,Lib.join_nil,Lib.join_cons,List.nil_append,ah]at h;exact absurd h (zxk hD (hk a (by simp)) _ _)
  |cons b ls=>simp only[zaU,Lib.join_cons,ah]at h;obtain⟨h1,h2⟩:=hi a (by simp) b _ _ (hl b (by simp)) (zlj _ _) (zlj _ _) h;obtain⟨h3,h4⟩:=zxw ks ls r1 r2 (λx hx=>hi x (by simp[hx])) (λx hx=>hl x (by simp[hx])) h2;exact⟨by rw[h1,h3],h4⟩
theorem zxu{data:List Dat}(hD:zaB data=true)(ks ls:List VT)(r1 r2:List UInt8)(hi:∀x∈ks,zhR data x)(hk:∀x∈ks,okT data x)(hl:∀x∈ls,okT data x)(h:zb5 (zaU data ks)++r1=zb5 (zaU data ls)++r2):ks=ls∧r1=r2:=by unfold zb5 at h;simp only[List.cons_append,ah,bk,cU,List.nil_append]at h;exact zxv hD ks ls r1 r2 hi hk hl h
theorem zzP(data:List Dat)(ks:List VT)(k:Nat):(zaU data ks).take k=zaU data (ks.take k):=by rw[zeV,zeV,bX]
theorem zrN(data:List Dat)(ks:List VT):(zaU data ks).length=ks.length:=by rw[zeV];simp
theorem zzq{ks:List VT}(h:1≤ks.length):∃x,ks=ks.take (ks.length-1)++[x]∧x∈ks∧∀data:List Dat,(zaU data ks).getD ((zaU data ks).length-1) []=txt data x:=by
 have hm:ks.length-1<ks.length:=by omega
 refine⟨ks[ks.length-1],?_,ae hm,λdata=>?_⟩
 ·conv=>lhs;rw[←aN (ks.length-1) ks]
  rw[af hm,aK (by omega)]
 ·rw[zrN,zeV];simp[List.getD_eq_getElem?_getD,hm]
theorem zzO{data:List Dat}(hD:zaB data=true):∀ (m:Nat) (t:VT),t.nodes≤m→okT data t→zhR data t
 |0,t,h,_=>by have:=t.nodes_pos;omega
 |m+1,.mk k n ks,hm,ht=>by
  rintro⟨k',n',ls⟩ r1 r2 hu d1 d2 h;obtain⟨b,r,hb,hbk⟩:=zrM hD ht;obtain⟨b',r',hb',hbk'⟩:=zrM hD hu;have hkk:k=k':=by rw[hb,hb']at h;simp only[List.cons_append,bk]at h;rw[←hbk,←hbk',h.1]
  subst hkk;have kids:=zq4 ht;have kidsU:=zq4 hu;have ih:∀x∈ks,zhR data x:=λx hx=>zzO hD m x (by
   obtain⟨i,hi,rfl⟩:=aO.1 hx;have:=VT.kid_lt (k:=k) (n:=n) hi;omega) (kids x hx)
  rw[txt,txt]at h;rcases zeK ht with ⟨hk,hn,he⟩|⟨rfl,h0,hn,hv⟩|⟨hk,hn⟩|⟨rfl,hn,hl⟩
  ·rcases zeK hu with ⟨_,hn',he'⟩ | ⟨h1,_⟩ | ⟨h1,_⟩ | ⟨h1,_⟩
   ·subst hn hn' he he';refine⟨rfl,?_⟩;rcases hk with rfl|rfl|rfl <;> simpa[zbL]using h
   all_goals omega
  ·rcases zeK hu with ⟨h1,_⟩ | ⟨_,h0',hn',hv'⟩ | ⟨h1,_⟩ | ⟨h1,_⟩
   ·omega
   ·have e1:zcL data n=(data[n.toNat]).name:=by simp[zcL,List.getD_eq_getElem?_getD,hn]
    have e2:zcL data n'=(data[n'.toNat]).name:=by simp[zcL,List.getD_eq_getElem?_getD,hn']
    have s1:=(zz7 (zh6 hD hn)).2;have s2:=(zz7 (zh6 hD hn')).2;have f:∀(ls:List VT) (n:Int),zbL data 5 n (zaU data ls)=zcL data n++(if ls=[] then [] else zb5 (zaU data ls)):=λls n=>by
     cases ls with
     |nil=>simp[zbL,zaU]
     |cons a l=>simp[zbL,zaU]
    rw[f,f,e1,e2,ah,ah]at h;have g:∀(ls:List VT) (r:List UInt8),Dlm r→∀b r',(if ls=[] then ([]:List UInt8) else zb5 (zaU data ls))++r=b::r'→bIn b=false:=λls r hd b r' e=>by
     by_cases hl:ls=[]
     ·rw[aB hl,List.nil_append]at e;exact zGV hd b r' e
     ·rw[ap hl]at e;unfold zb5 at e;simp only[List.cons_append,bk]at e;rw[←e.1];exact zwn (.inr (.inr rfl))
    obtain⟨g1,g2⟩:=zH8 s1 s2 (g ks r1 d1) (g ls r2 d2) h;have hij:=zGQ hD hn hn' g1;have hnn:n=n':=by omega
    subst hnn;have hlen:ks.length=ls.length:=by omega
    by_cases hks:ks=[]
    ·have hls:ls=[]:=by subst hks;exact az (by simpa using hlen.symm)
     subst hks hls;exact⟨rfl,by simpa using g2⟩
    ·have hls:ls≠[]:=λe=>hks (by subst e;exact az (by simpa using hlen));rw[ap hks,ap hls]at g2;obtain⟨q1,q2⟩:=zxu hD ks ls r1 r2 ih kids kidsU g2;exact⟨by rw[q1],q2⟩
   all_goals omega
  ·rcases zeK hu with ⟨h1,_⟩ | ⟨h1,_⟩ | ⟨_,hn'⟩ | ⟨h1,_⟩
   ·omega
   ·omega
   ·subst hn hn';have hq:zb5 (zaU data ks)++r1=zb5 (zaU data ls)++r2:=by rcases hk with rfl | rfl | rfl <;> simpa[zbL]using h
    obtain⟨q1,q2⟩:=zxu hD ks ls r1 r2 ih kids kidsU hq;exact⟨by rw[q1],q2⟩
   ·omega
  ·rcases zeK hu with ⟨h1,_⟩ | ⟨h1,_⟩ | ⟨h1,_⟩ | ⟨_,hn',hl'⟩
   ·omega
   ·omega
   ·omega
   ·subst hn hn';obtain⟨x,ex,hx,gx⟩:=zzq hl;obtain⟨y,ey,hy,gy⟩:=zzq hl';have f:∀ l:List (List UInt8),zbL data 9 0 l=[102,110,40]++zcl (l.take (l.length-1))++[41,32,45,62,32]++l.getD (l.length-1) []:=λl=>by simp[zbL]
    rw[f,f,gx,gy,zrN,zrN,zzP,zzP]at h;simp only[ah,List.cons_append,List.nil_append,bk,cU]at h;obtain⟨q1,q2⟩:=zxv hD _ _ _ _ (λz hz=>ih z (aW hz)) (λz hz=>kids z (aW hz)) (λz hz=>kidsU z (aW hz)) h;simp only[bk,cU]at q2;obtain⟨q3,q4⟩:=ih x hx y r1 r2 (kidsU y hy) d1 d2 q2;exact⟨by rw[ex,ey,q1,q3],q4⟩
theorem zKp{data:List Dat}(hD:zaB data=true){t u:VT}(ht:okT data t)(hu:okT data u)(h:txt data t=txt data u):t=u:=
 (zzO hD _ t (aa _) ht u [] [] hu (.inl rfl) (.inl rfl) (by simpa using h)).1
theorem zyi{data:List Dat}:∀ (m:Nat) (t:VT),t.nodes≤m→okT data t→∀ vars:Int,zaG data vars t=true
 |0,t,h,_,_=>by have:=t.nodes_pos;omega
 |m+1,.mk k n ks,hm,ht,vars=>by
  have kids:=zq4 ht;have k4:(k == 4)=false:=by rcases zeK ht with ⟨h,_⟩|⟨h,_⟩|⟨h,_⟩|⟨h,_⟩ <;> simp <;> omega
  unfold okT at ht;simp only[zaG,ac]at ht ⊢;refine⟨?_,?_⟩
  ·have:=ht.1;unfold zaK at this ⊢;rw[k4]at this ⊢;exact this
  ·have hL:∀l:List VT,(∀x∈l,x.nodes≤m∧okT data x)→zaV data vars l=true:=by
    intro l;induction l with
    |nil=>intro _;rfl
    |cons a l ih=>intro h;simp only[zaV,ac];exact⟨zyi m a (h a (by simp)).1 (h a (by simp)).2 vars,ih λx hx=>h x (by simp[hx])⟩
   exact hL ks λx hx=>⟨by
    obtain⟨i,hi,rfl⟩:=aO.1 hx;have:=VT.kid_lt (k:=k) (n:=n) hi;omega,kids x hx⟩
theorem zep{data:List Dat}{t:VT}(h:zaD data 0 t=true):okT data t:=by simp[zaD]at h;exact h.2
theorem zH9{data:List Dat}(hD:zaB data=true):∀D∈data,D.name.length≤1000:=λD hd=>by obtain⟨i,hi,rfl⟩:=aO.1 hd;have:=(zrV (zh6 hD hi)).1;omega
theorem zVl{data:List Dat}(hD:zaB data=true)(t:VT)(ht:zaD data 0 t=true)(H:zaa)(h0:H[0]?=some .nodr)(K:Kt)(hK:K (.str (txt data t)) H):
  ACalls tP zqW [.sl (data.map Dat.cs) .none,.agg t.cs] H K:=by
 refine ACalls.out (zVk λhs=>?_);have hn:=zfB ht;have hlt0:0<H.length:=(List.getElem?_eq_some_iff.1 h0).1;obtain⟨x,y,z,hvx,hx,hy,hz⟩:=zaO t;simp[zEp,hvx];rw[←hvx];refine zW3 data 101 t (by omega) _ _ ?_;have hv:zaD data 101 t=true:=by have:=zyi t.nodes t (aa _) (zep ht) 101;simp[zaD,this];omega
 rw[hv];simp[hvx];rw[←hvx];refine zLO hD (zH9 hD) t.nodes t (aa _) hn (zep ht) _ (by rw[List.getElem?_append_left hlt0];exact h0) _ ?_;exact Out.at rfl (aa _) hs .rfl' rfl rfl hK
section
variable (t0 t1 t4 t5 t6 t8 t9 t10 t38 t39 t59 t60:AV) (H:zaa) (K:Kt) (Kb3 Kb12:Lt)
def zR9(_:Nat):List Bool:=[]
noncomputable def zSa:=Tryz.f35.body.getD .skip
def zC9:=zd1 H λt7 H=>zeE H λt8 H=>zar [.snil,(.int .i64 0),.unk,.snil,.snil,.snil,.unk] [(0,1),(1,1),(2,1),(3,1),(4,1),(5,1),(6,1)] [(0,t0),(1,t1),(2,t7),(6,t8)] λt9=>zaw t9 H λt10 H=>K t10 H
def zSl:Nat→List Bool|200007=>rl false [0,9]|_=>[]
noncomputable def zSm:=Tryz.f38.body.getD .skip
def zdz:=zaM t0 λt50=>zaf 4 t50 λt51=>zae false 1 t51 H λt52=>zau 1 [(.bool false)] 1 [(0,(.bool false))] λt53=>zax zfg 1 1 t52 t53 H λt54 H=>zaM t0 λt55=>zaf 4 t55 λt56=>zam 1 t56 t54 H λH=>zaM t0 λt59=>zaf 5 t59 λt60=>zae false 1 t60 H λt61=>zau 1 [.snil] 1 [(0,.snil)] λt62=>zax zff 1 24 t61 t62 H λt63 H=>zaM t0 λt64=>zaf 5 t64 λt65=>zam 1 t65 t63 H λH=>K t8 H
def zDd:=zaw t1 H λt3 H=>apm H t0 λt9=>apu H (zaM t9) λt10=>apu H (zaf 0 t10) λt11=>apu H (zan false 1 t11 H) λt12=>apu H (zan true 3 t3 H) λt13=>zaF H (λH K'=>ACalls tP zqW [t12,t13] H K') λt14=>apm H t14 λt5=>zaM t0 λt17=>zaf 2 t17 λt18=>zae false 1 t18 H λt19=>zdC (.int .i64 0) true t19 t5 H λt21=>zaI t21 0 λt22=>zaI t21 1 λt23=>zag t23 (K t22 H) (zaM t0 λt27=>zaf 3 t27 λt28=>zae false 1 t28 H λt29=>zah 1 t29 λt30=>zaM t0 λt32=>zaf 2 t32 λt33=>zae false 1 t33 H λt34=>zcR t34 t5 t30 H λH=>apm H t0 λt37=>apu H (zaM t37) λt38=>apu H (zaf 3 t38) λt39=>apu H (zan false 1 t39 H) λt40=>apu H (zan true 3 t3 H) λt41=>apu H (zah 1 t40) λt42=>zad H (λK'=>zau 3 [(.int .i64 0),(.int .i64 0),.snil] 1 [(0,(.agg [(.int .i64 0),(.int .i64 0),.snil]))] (K' · H)) λt43=>zax zbk 3 40 t40 t43 H λt44 H=>(zai 3 t44 t42 λt45=>(zam 3 t45 t41 H λH=>zaM t37 λt46=>zaf 3 t46 λt47=>zam 1 t47 t44 H λH=>zdz t0 t30 H K)∧(zaM t37 λt46=>(zam 3 t45 t41 H λH=>zaf 3 t46 λt47=>zam 1 t47 t44 H λH=>zdz t0 t30 H K)∧(zaf 3 t46 λt47=>(zam 3 t45 t41 H λH=>zam 1 t47 t44 H λH=>zdz t0 t30 H K)∧(zam 1 t47 t44 H λH=>zam 3 t45 t41 H λH=>zdz t0 t30 H K))))∧(zaM t37 λt46=>(zai 3 t44 t42 λt45=>(zam 3 t45 t41 H λH=>zaf 3 t46 λt47=>zam 1 t47 t44 H λH=>zdz t0 t30 H K)∧(zaf 3 t46 λt47=>(zam 3 t45 t41 H λH=>zam 1 t47 t44 H λH=>zdz t0 t30 H K)∧(zam 1 t47 t44 H λH=>zam 3 t45 t41 H λH=>zdz t0 t30 H K)))∧(zaf 3 t46 λt47=>(zai 3 t44 t42 λt45=>(zam 3 t45 t41 H λH=>zam 1 t47 t44 H λH=>zdz t0 t30 H K)∧(zam 1 t47 t44 H λH=>zam 3 t45 t41 H λH=>zdz t0 t30 H K))∧(zam 1 t47 t44 H λH=>zai 3 t44 t42 λt45=>zam 3 t45 t41 H λH=>zdz t0 t30 H K))))
def zlM:Nat→List Bool|3=>rl false [0,1,4,1,2,3,11]|_=>[]
noncomputable def zsk:=Tryz.f109.body.getD .skip
noncomputable def zLE:=Tryz.f109.results.toList
def zlN:=t0::ux 4 (t5::ux 2 (t8::t9::t10::ux 11 []))
def zLC:=zlM 3
noncomputable def zLA:=zas [1,1,0,1,0,0] zsk
def zLz:=zat tP zlM [1,1,0,1,0] zsk (zaA tP zLE K)
def zsl:=ALoop tP zLA (zLz K) (zlN t0 t5 t8 t9 t10) H
def zsj:=zab .lss false t10 t9 λt11=>zag t11 (zai 3 t8 t10 λt12=>zae true 3 t12 H λt13=>zay [(.int .i64 0),(.int .i64 0),.snil] H λt7 H=>zam 3 t7 t13 H λH=>zae true 3 t7 H λt16=>ACalls tP zf8 [t0,t16] H λt17 H=>zau 1 [(.int .i64 0)] 1 [(0,t17)] λt18=>zax zc9 1 8 t5 t18 H λt19 H=>zab .add false t10 (.int .i64 1) λt20=>Kb3 (zlN t0 t19 t8 t9 t20) H) (K t5 H)
def zAt:=zah 1 t1 λt9=>zsl t0 .snil t1 t9 (.int .i64 0) H K
def zok:Nat→List Bool|12=>rl false [0,2,3,2,52,2,30]|_=>[]
noncomputable def zu1:=Tryz.f76.body.getD .skip
noncomputable def zVe:=Tryz.f76.results.toList
def zu2:=zaM t0 λt84=>zaf 5 t84 λt85=>zae false 1 t85 H λt86=>zai 1 t86 t1 λt89=>zam 1 t89 t6 H λH=>K t6 H
def zhP:=zu2 t0 t1 t6 H K
def zjm:=t0::t1::ux 3 (t5::t6::ux 52 (t59::t60::ux 30 []))
def zVc:=zok 12
noncomputable def zVa:=zas [1,1,1,1,1,0,1,0,1,1,1,0,1,0,0] zu1
def zU9:=zat tP zok [1,1,1,1,1,0,1,0,1,1,1,0,1,0] zu1 (zaA tP zVe K)
def zu4:=ALoop tP zVa (zU9 K) (zjm t0 t1 t5 t6 t59 t60) H
def zu3(t0 t1 t5 t6 t59 t60:AV)(H:zaa)(K:Kt)(Kb12:Lt):Prop:=zab .add false t60 (.int .i64 1) λt82=>Kb12 (zjm t0 t1 t5 t6 t59 t82) H
def zol:=zu3 t0 t1 t5 t6 t59 t60 H K Kb12
def zu0:=zab .lss false t60 t59 λt61=>zag t61 (apm H t0 λt64=>apu H (zaM t64) λt65=>apu H (zaf 0 t65) λt66=>apu H (zan false 1 t66 H) λt67=>apu H (zan true 3 t5 H) λt68=>apm H t60 λt69=>zaF H (λH K'=>ACalls tP zkU [t67,t68,t69] H K') λt70=>apm H t70 λt63=>apu H (zaI t63 0) λt71=>apu H (zaI t63 1) λt72=>apm H t71 λt8=>apm H t72 λt9=>zag t9 (ACalls tP zkf [t0,t8] H λt78 H=>zar [(.int .i64 0),.snil] [(0,1),(1,1)] [(0,t60),(1,t78)] λt79=>zau 2 [(.int .i64 0),.snil] 1 [(0,t79)] λt80=>zax zjO 2 32 t6 t80 H λt81 H=>zol t0 t1 t5 t81 t59 t60 H K Kb12) (zol t0 t1 t5 t6 t59 t60 H K Kb12)) (zhP t0 t1 t6 H K)
def zgz:=zag t39 (zaf 2 t5 λt43=>zae false 1 t43 H λt44=>ACalls tP zkf [t0,t44] H λt45 H=>zar [(.int .i64 0),.snil] [(0,1),(1,1)] [(1,t45)] λt46=>zau 2 [(.int .i64 0),.snil] 1 [(0,t46)] λt47=>zhP t0 t1 t47 H K) (zab .eql false t38 (.int .i64 5) λt49=>zag t49 (apm H t0 λt50=>apu H (zaM t50) λt51=>apu H (zaf 0 t51) λt52=>apu H (zan false 1 t52 H) λt53=>apu H (zaf 1 t5) λt54=>apu H (zan false 1 t54 H) λt55=>apu H (zai 3 t53 t55) λt56=>apu H (zaf 2 t56) λt57=>apu H (zan false 1 t57 H) λt58=>apu H (zah 1 t58) λt59=>apm H (.int .i64 0) λt60=>zu4 t0 t1 t5 t6 t59 t60 H K) (zhP t0 t1 t6 H K))
def zEn:=zaM t0 λt11=>zaf 4 t11 λt12=>zae false 1 t12 H λt13=>zai 1 t13 t1 λt15=>zae false 1 t15 H λt16=>zag t16 (zaM t0 λt18=>zaf 5 t18 λt19=>zae false 1 t19 H λt20=>zai 1 t20 t1 λt22=>zae false 1 t22 H λt23=>K t23 H) (zaM t0 λt25=>zaf 4 t25 λt26=>zae false 1 t26 H λt27=>zai 1 t27 t1 λt29=>zam 1 t29 (.bool true) H λH=>zaM t0 λt31=>zaf 3 t31 λt32=>zae false 1 t32 H λt33=>zai 3 t33 t1 λt35=>zae true 3 t35 H λt36=>zay [(.int .i64 0),(.int .i64 0),.snil] H λt5 H=>zam 3 t5 t36 H λH=>zaf 0 t5 λt37=>zae false 1 t37 H λt38=>zab .eql false t38 (.int .i64 6) λt40=>zag t40 (zgz t0 t1 t5 .snil t38 t40 H K) (zab .eql false t38 (.int .i64 8) λt41=>zgz t0 t1 t5 .snil t38 t41 H K))
def zUY(_:Nat):List Bool:=[]
noncomputable def zUZ:=Tryz.f74.body.getD .skip
def zog:=ACalls tP zfp [t0] H λt8 H=>zam 3 t4 t8 H λH=>zae true 3 t4 H λr0=>K r0 H
def zEg:=zay [(.bool false),.snil,.snil] H λt4 H=>zab .neq false t1 (.int .i64 1) λt6=>zag t6 (zog (.int .i64 0) t4 H K) (zog t0 t4 H K)
variable {t0 t1 t4 t5 t6 t8 t9 t10 t38 t39 t59 t60} {H} {K} {Kb3 Kb12}
theorem zSb(h:HSc H→zC9 t0 t1 H K):ACalls tP zkE [t0,t1] H K:=
 acb zR9 Tryz.func35 zSa h
theorem zSn(h:HSc H→zDd t0 t1 H K):ACalls tP zf8 [t0,t1] H K:=
 acb zSl Tryz.func38 zSm h
theorem zLB:Lo2 (λt5 t10=>zlN t0 t5 t8 t9 t10) (λt5 t10 H Kb3=>zsj t0 t5 t8 t9 t10 H K Kb3) t5 t10 H (zsl t0 t5 t8 t9 t10 H K):=lq2 zlM zLC
theorem zLD(h:HSc H→zAt t0 t1 H K):ACalls tP zkf [t0,t1] H K:=
 acb zlM Tryz.func109 zsk h
theorem zVb:Lo2 (λt6 t60=>zjm t0 t1 t5 t6 t59 t60) (λt6 t60 H Kb12=>zu0 t0 t1 t5 t6 t59 t60 H K Kb12) t6 t60 H (zu4 t0 t1 t5 t6 t59 t60 H K):=lq2 zok zVc
theorem zVd(h:HSc H→zEn t0 t1 H K):ACalls tP ziB [t0,t1] H K:=
 acb zok Tryz.func76 zu1 h
theorem zU0(h:HSc H→zEg t0 t1 H K):ACalls tP zhh [t0,t1] H K:=
 acb zUY Tryz.func74 zUZ h
end
section
open Go.RowKit
variable {P:Program} {B:Nat} {w:World} {G:Gh} {H:zaa}
theorem WkA.vrel{v:Value}{a b:AV}(h:WkA a b)(hr:VRel w G v a):VRel w G v b:=by
 cases h with
 |refl=>exact hr
 |sl es t=>exact VRel.of_a (WkA.arel (.sl es t) hr)
 |snil=>exact VRel.of_a (WkA.arel .snil hr)
theorem zFN{kvs kvs':List ((Int×Int)×AV)}(h:All2 (λp q=>p.1=q.1∧WkA p.2 q.2) kvs kvs'):∀{es:List MapEntry},All2 (ERelP w G) es kvs→All2 (ERelP w G) es kvs':=by
 induction kvs generalizing kvs' with
 |nil=>
  intro es hr;cases kvs' with
  |nil=>exact hr
  |cons b bs=>exact h.elim
 |cons a asx ih=>
  intro es hr;cases kvs' with
  |nil=>exact h.elim
  |cons b bs=>
   cases es with
   |nil=>exact hr.elim
   |cons e es=>exact⟨⟨by rw[hr.1.1,h.1.1],h.1.2.vrel hr.1.2⟩,ih h.2 hr.2⟩
inductive BWk:AB→AB→Prop
 |refl (b:AB):BWk b b
 |cells {cs ds:List AV} (h:All2 WkA cs ds):BWk (.cells cs) (.cells ds)
 |vec {e s n:Nat} {cs ds:List AV} (h:All2 WkA cs ds):BWk (.vec e s n cs) (.vec e s n ds)
 |mapP {kvs kvs':List ((Int×Int)×AV)} (h:All2 (λp q=>p.1=q.1∧WkA p.2 q.2) kvs kvs'):BWk (.mapP kvs) (.mapP kvs')
theorem BWk.ok{a b:AB}{gi:GI}(h:BWk a b)(hk:BlkOK B w G a gi):BlkOK B w G b gi:=by
 cases h with
 |refl=>exact hk
 |cells h=>
  cases gi with
  |blk b=>obtain⟨h1,h2,vs,e,h3,h4⟩:=hk;exact⟨h1,h2,vs,e,h3,h.wk h4⟩
  |own v s n=>exact hk.elim
  |gap=>exact hk.elim
 |mapP h=>
  cases gi with
  |blk b=>obtain⟨h1,h2,es,clk,h3,h4⟩:=hk;exact⟨h1,h2,es,clk,h3,zFN h h4⟩
  |own v s n=>exact hk.elim
  |gap=>exact hk.elim
 |vec h=>
  cases gi with
  |blk b=>exact hk.elim
  |own v s n=>obtain⟨h1,h2,⟨xs,h3,h4⟩,h5⟩:=hk;exact⟨h1,h2,⟨xs,h3,h.wk h4⟩,h5⟩
  |gap=>exact hk.elim
theorem HRel.weak{H':zaa}(h:HRel B w G H)(hl:H'.length=H.length)(hw:∀(i:Nat) (a b:AB),H[i]?=some a→H'[i]?=some b→BWk a b):HRel B w G H':=by
 refine⟨by rw[hl];exact h.len,λid ab gi h1 h2=>?_,h.dist,h.fresh,h.lt,h.base⟩;have hlt:id<H.length:=by rw[←hl];exact(List.getElem?_eq_some_iff.1 h1).1
 exact(hw id _ _ (List.getElem?_eq_getElem hlt) h1).ok (h.ok id _ gi (List.getElem?_eq_getElem hlt) h2)
def ze5(n:Nat)(K:AV→zaa→Prop)(r:AV)(H':zaa):Prop:=∃r2 H1 H2 J,H'=H1++J∧H2.length=H1.length∧(∀(i:Nat) (a b:AB),H1[i]?=some a→H2[i]?=some b→BWk a b)∧n≤H2.length∧HSc H2∧OutT H' H2.length r r2∧K r2 H2
theorem ACalls.outH{f:FuncId}{args:List AV}{K:AV→zaa→Prop}(h:ACalls P f args H (ze5 H.length K)):ACalls P f args H K:=by
 intro B w G vs hH hv;refine(h B w G vs hH hv).mono λe w' ⟨v,r,H',G',h1,h2,h3,h4,h5⟩=>?_;obtain⟨r2,H1,H2,J,hJ,hl,hw,hn,hsc,ho,hk⟩:=h5;subst hJ;have h3':HRel B w' G' (H2++J):=h3.weak (by simp[hl]) λi a b ha hb=>by
  by_cases hi:i<H1.length
  ·rw[List.getElem?_append_left hi]at ha;rw[List.getElem?_append_left (by omega)]at hb;exact hw i a b ha hb
  ·rw[List.getElem?_append_right (by omega)]at ha;rw[List.getElem?_append_right (by omega),hl]at hb;rw[ha]at hb;cases hb;exact .refl _
 refine⟨v,r2,H2,G'.cut w' H2.length,h1,zpv h3' h2 (by rw[hH.len];exact hn),h3'.cut hsc,?_,hk⟩;cases ho with
 |one ho=>exact TRel.of_v (ho.vrel h3 h4)
 |tup ho=>obtain⟨us,hu,hr⟩:=h4;exact⟨us,hu,zyr h3 ho hr⟩
theorem Out.toH{n:Nat}{K:AV→zaa→Prop}{r:AV}(h:Out n K r H):ze5 n K r H:=by obtain⟨r2,H2,J,hJ,hn,hsc,ho,hk⟩:=h;exact⟨r2,H2,H2,J,hJ,rfl,λi a b ha hb=>by rw[ha]at hb;cases hb;exact .refl _,hn,hsc,ho,hk⟩
end
section
variable (t0 t1 t3 t5 t6 t7 t25 t26 t30 t31:AV) (H:zaa) (K:Kt) (Kb2 Kb5 Kb6:Lt)
def zSW(_:Nat):List Bool:=[]
noncomputable def zSX:=Tryz.f46.body.getD .skip
def zDu:=zay [(.bool false),.snil,.snil] H λt2 H=>zab .lss false t0 (.int .i64 0) λt4=>ACalls tP zqX [t0] H λt6 H=>zau 1 [(.int .u32 0)] 1 [(0,(.int .u32 1))] λt7=>zar [(.bool false),.snil,.snil] [(0,1),(1,1),(2,1)] [(0,t4),(1,t6),(2,t7)] λt8=>ACalls tP zhg [t8] H λt9 H=>zam 3 t2 t9 H λH=>zae true 3 t2 H λr0=>K r0 H
def zV8(_:Nat):List Bool:=[]
noncomputable def zV9:=Tryz.f86.body.getD .skip
def zEK:=zaw t0 H λt2 H=>zaw t1 H λt3 H=>zay [(.bool false),.snil,.snil] H λt4 H=>apu H (zan true 3 t2 H) λt7=>zaF H (λH K'=>ACalls tP zdK [t7] H K') λt8=>apu H (zan true 3 t3 H) λt9=>zaF H (λH K'=>ACalls tP zdK [t9] H K') λt10=>zay [(.bool false),.snil,.snil] H λt5 H=>zay [(.bool false),.snil,.snil] H λt6 H=>zam 3 t5 t8 H λH=>zam 3 t6 t10 H λH=>apu H (zaf 0 t5) λt11=>apu H (zan false 1 t11 H) λt12=>apu H (zaf 0 t6) λt13=>apu H (zan false 1 t13 H) λt14=>apu H (zab .neq true t12 t14) λt15=>apu H (zaf 1 t5) λt16=>apu H (zan false 1 t16 H) λt17=>apu H (zaf 1 t6) λt18=>apu H (zan false 1 t18 H) λt19=>zaF H (λH K'=>ACalls tP zcY [t17,t19] H K') λt20=>apu H (zaf 2 t5) λt21=>apu H (zan false 1 t21 H) λt22=>apu H (zaf 2 t6) λt23=>apu H (zan false 1 t23 H) λt24=>zaF H (λH K'=>ACalls tP zcY [t22,t24] H K') λt25=>apu H (zar [(.bool false),.snil,.snil] [(0,1),(1,1),(2,1)] [(0,t15),(1,t20),(2,t25)]) λt26=>zaF H (λH K'=>ACalls tP zhg [t26] H K') λt27=>zam 3 t4 t27 H λH=>zae true 3 t4 H λr0=>K r0 H
def zVf(_:Nat):List Bool:=[]
noncomputable def zVg:=Tryz.f77.body.getD .skip
def zEo:=zaw t0 H λt2 H=>zaw t1 H λt3 H=>zay [(.bool false),.snil,.snil] H λt4 H=>apu H (zan true 3 t2 H) λt5=>zaF H (λH K'=>ACalls tP zdK [t5] H K') λt6=>apu H (zan true 3 t3 H) λt7=>zaF H (λH K'=>ACalls tP zdK [t7] H K') λt8=>zaF H (λH K'=>ACalls tP zqe [t6,t8] H K') λt9=>zaF H (λH K'=>ACalls tP zhg [t9] H K') λt10=>zam 3 t4 t10 H λH=>zae true 3 t4 H λr0=>K r0 H
def zWb(_:Nat):List Bool:=[]
noncomputable def zWc:=Tryz.f87.body.getD .skip
def zEM:=zab .lss false t0 (.int .i64 0) λt4=>zag t4 (zbg .u64 t0 λt6=>aUn .neg t6 λt7=>ACalls tP zkh [t7] H λt8 H=>K t8 H) (zbg .u64 t0 λt10=>ACalls tP zkh [t10] H λt11 H=>K t11 H)
def zUV(_:Nat):List Bool:=[]
noncomputable def zUW:=Tryz.f73.body.getD .skip
def zEf:=zaw t0 H λt1 H=>zay [(.bool false),.snil,.snil] H λt2 H=>zae true 3 t1 H λt4=>ACalls tP zqd [t4] H λt5 H=>zay [(.bool false),.snil,.snil] H λt3 H=>zam 3 t3 t5 H λH=>zaf 0 t3 λt6=>zae false 1 t6 H λt7=>zaf 1 t3 λt8=>zae false 1 t8 H λt9=>zaf 2 t3 λt10=>zae false 1 t10 H λt11=>zar [(.bool false),.snil,.snil] [(0,1),(1,1),(2,1)] [(0,t7),(1,t9),(2,t11)] λt12=>zam 3 t2 t12 H λH=>zae true 3 t2 H λr0=>K r0 H
def zUT(_:Nat):List Bool:=[]
noncomputable def zUU:=Tryz.f72.body.getD .skip
def zuV:=zaw t0 H λt1 H=>zay [(.bool false),.snil,.snil] H λt2 H=>apu H (zaf 1 t1) λt5=>apu H (zan false 1 t5 H) λt6=>zaF H (λH K'=>ACalls tP zil [t6] H K') λt7=>apu H (zaf 2 t1) λt8=>apu H (zan false 1 t8 H) λt9=>zaF H (λH K'=>ACalls tP zil [t9] H K') λt10=>apm H t7 λt3=>apm H t10 λt4=>zah 1 t3 λt12=>zab .eql false t12 (.int .i64 0) λt13=>zac t13 false H (λK'=>K' t4 H) λt15 H=>zac t13 false H (λK'=>zah 1 t15 (K' · H)) λt16 H=>zac t13 false H (λK'=>zab .eql false t16 (.int .i64 0) (K' · H)) λt17 H=>zak t13 (.bool true) t17 λt18=>zag t18 (zau 1 [(.int .u32 0)] 1 [(0,(.int .u32 1))] λt19=>zar [(.bool false),.snil,.snil] [(0,1),(1,1),(2,1)] [(2,t19)] λt20=>zam 3 t2 t20 H λH=>zae true 3 t2 H λr0=>K r0 H) (zaf 0 t1 λt21=>zae false 1 t21 H λt22=>zar [(.bool false),.snil,.snil] [(0,1),(1,1),(2,1)] [(0,t22),(1,t3),(2,t4)] λt25=>zam 3 t2 t25 H λH=>zae true 3 t2 H λr0=>K r0 H)
def zgA:Nat→List Bool|5=>rl false [0,2,3,1,19,2,50]|9=>rl false [0,2,3,3,17,2,3,2,45]|_=>[]
noncomputable def zvh:=Tryz.f84.body.getD .skip
noncomputable def zV4:=Tryz.f84.results.toList
def zoz:=t0::t1::ux 3 (t5::ux 19 (t25::t26::ux 50 []))
def zEI:=zgA 5
noncomputable def zvi:=zas [1,1,1,0,1,0,0] zvh
def zEF:=zat tP zgA [1,1,1,0,1,0] zvh (zaA tP zV4 K)
def zEG:=ALoop tP zvi (zEF K) (zoz t0 t1 t5 t25 t26) H
def zjt:=t0::t1::ux 3 (t5::t6::t7::ux 17 (t25::t26::ux 3 (t30::t31::ux 45 [])))
def zV2:=zgA 9
noncomputable def zVZ:=zas [1,1,0,0,1,1,0,1,0,0] zvi
def zVY:=zat tP zgA [1,1,0,0,1,1,0,1,0] zvi (zbp zEI Kb5 (zEF K))
def zEH:=ALoop tP zVZ (zVY K Kb5) (zjt t0 t1 t5 t6 t7 t25 t26 t30 t31) H
def zvg(t0 t1 t5 t6 t7 t25 t26 t30 t31:AV)(H:zaa)(K:Kt)(Kb5:Lt)(Kb9:Lt):Prop:=zab .lss false t31 t30 λt32=>zag t32 (apm H t0 λt34=>apm H t6 λt35=>apu H (zai 1 t34 t35) λt36=>apu H (zan false 1 t36 H) λt37=>apu H (zbg .u64 t37) λt38=>apm H t1 λt39=>apm H t31 λt40=>apu H (zai 1 t39 t40) λt41=>apu H (zan false 1 t41 H) λt42=>apu H (zbg .u64 t42) λt43=>apu H (zab .mul false t38 t43) λt44=>apm H t5 λt45=>apm H t6 λt46=>apm H t31 λt47=>apu H (zab .add false t46 t47) λt48=>apu H (zai 1 t45 t48) λt49=>apu H (zan false 1 t49 H) λt50=>apu H (zbg .u64 t50) λt51=>apu H (zab .add false t44 t51) λt52=>apm H t7 λt53=>apu H (zab .add false t52 t53) λt54=>apm H t54 λt9=>zab .add false t6 t31 λt58=>zab .rem false t9 (.int .u64 1000000000) λt60=>zbg .u32 t60 λt61=>zai 1 t5 t58 λt62=>zam 1 t62 t61 H λH=>zab .quo false t9 (.int .u64 1000000000) λt64=>zab .add false t31 (.int .i64 1) λt65=>Kb9 (zjt t0 t1 t5 t6 t64 t25 t26 t30 t65) H) (zah 1 t1 λt69=>zab .add false t6 t69 λt70=>zbg .u32 t7 λt72=>zai 1 t5 t70 λt73=>zam 1 t73 t72 H λH=>zab .add false t26 (.int .i64 1) λt74=>Kb5 (zoz t0 t1 t5 t25 t74) H)
def zvf:=zab .lss false t26 t25 λt27=>zag t27 (zah 1 t1 λt30=>zEH t0 t1 t5 t26 (.int .u64 0) t25 t26 t30 (.int .i64 0) H K Kb5) (ACalls tP zg9 [t5] H λt76 H=>K t76 H)
def zoy:=zah 1 t0 λt11=>zab .eql false t11 (.int .i64 0) λt12=>zac t12 false H (λK'=>K' t1 H) λt14 H=>zac t12 false H (λK'=>zah 1 t14 (K' · H)) λt15 H=>zac t12 false H (λK'=>zab .eql false t15 (.int .i64 0) (K' · H)) λt16 H=>zak t12 (.bool true) t16 λt17=>zag t17 (K .snil H) (zah 1 t0 λt19=>zah 1 t1 λt21=>zab .add false t19 t21 λt22=>za9 4 [(.int .u32 0)] t22 t22 H λt23 H=>zah 1 t0 λt25=>zEG t0 t1 t23 t25 (.int .i64 0) H K)
def zLF(_:Nat):List Bool:=[]
noncomputable def zLG:=Tryz.f110.body.getD .skip
def zAu:=zaw t0 H λt2 H=>zaw t1 H λt3 H=>zay [(.bool false),.snil,.snil] H λt4 H=>apu H (zaf 1 t2) λt8=>apu H (zan false 1 t8 H) λt9=>apu H (zaf 2 t3) λt10=>apu H (zan false 1 t10 H) λt11=>zaF H (λH K'=>ACalls tP zcY [t9,t11] H K') λt12=>apu H (zaf 1 t3) λt13=>apu H (zan false 1 t13 H) λt14=>apu H (zaf 2 t2) λt15=>apu H (zan false 1 t15 H) λt16=>zaF H (λH K'=>ACalls tP zcY [t14,t16] H K') λt17=>apm H t12 λt5=>apm H t17 λt6=>zaf 2 t2 λt18=>zae false 1 t18 H λt19=>zaf 2 t3 λt20=>zae false 1 t20 H λt21=>ACalls tP zcY [t19,t21] H λt22 H=>zaf 0 t2 λt23=>zae false 1 t23 H λt24=>zaf 0 t3 λt25=>zae false 1 t25 H λt26=>zab .eql true t24 t26 λt27=>zag t27 (apu H (zaf 0 t2) λt28=>apu H (zan false 1 t28 H) λt29=>apm H t5 λt30=>apm H t6 λt31=>zaF H (λH K'=>ACalls tP zqx [t30,t31] H K') λt32=>apm H t22 λt33=>apu H (zar [(.bool false),.snil,.snil] [(0,1),(1,1),(2,1)] [(0,t29),(1,t32),(2,t33)]) λt34=>zam 3 t4 t34 H λH=>zae true 3 t4 H λr0=>K r0 H) (ACalls tP ziE [t5,t6] H λt37 H=>zab .geq false t37 (.int .i64 0) λt38=>zag t38 (apu H (zaf 0 t2) λt39=>apu H (zan false 1 t39 H) λt40=>apm H t5 λt41=>apm H t6 λt42=>zaF H (λH K'=>ACalls tP zx2 [t41,t42] H K') λt43=>apm H t22 λt44=>apu H (zar [(.bool false),.snil,.snil] [(0,1),(1,1),(2,1)] [(0,t40),(1,t43),(2,t44)]) λt45=>zam 3 t4 t45 H λH=>zae true 3 t4 H λr0=>K r0 H) (apu H (zaf 0 t3) λt46=>apu H (zan false 1 t46 H) λt47=>apm H t6 λt48=>apm H t5 λt49=>zaF H (λH K'=>ACalls tP zx2 [t48,t49] H K') λt50=>apm H t22 λt51=>apu H (zar [(.bool false),.snil,.snil] [(0,1),(1,1),(2,1)] [(0,t47),(1,t50),(2,t51)]) λt52=>zam 3 t4 t52 H λH=>zae true 3 t4 H λr0=>K r0 H))
def zVP(_:Nat):List Bool:=[]
noncomputable def zVQ:=Tryz.f82.body.getD .skip
def zvd:=zaw t0 H λt1 H=>zaf 1 t1 λt4=>zae false 1 t4 H λt5=>zah 1 t5 λt6=>zab .eql false t6 (.int .i64 0) λt7=>zag t7 (K (.int .i64 0) H) (zaf 0 t1 λt9=>zae false 1 t9 H λt10=>zag t10 (K (.int .i64 (-1)) H) (K (.int .i64 1) H))
def zow:Nat→List Bool|6=>rl false [0,2,3,1,37]|_=>[]
noncomputable def zve:=Tryz.f83.body.getD .skip
noncomputable def zVX:=Tryz.f83.results.toList
def zox:=t0::t1::ux 3 (t5::ux 37 [])
def zVV:=zow 6
noncomputable def zVT:=zas [1,1,0,1,0,0] zve
def zVS:=zat tP zow [1,1,0,1,0] zve (zaA tP zVX K)
def zEE:=ALoop tP zVT (zVS K) (zox t0 t1 t5) H
def zjs:=zab .geq false t5 (.int .i64 0) λt20=>zag t20 (apm H t0 λt24=>apm H t5 λt25=>apu H (zai 1 t24 t25) λt26=>apu H (zan false 1 t26 H) λt27=>apm H t1 λt28=>apm H t5 λt29=>apu H (zai 1 t28 t29) λt30=>apu H (zan false 1 t30 H) λt31=>apu H (zab .lss false t27 t31) λt32=>apm H t32 λt23=>zag t23 (K (.int .i64 (-1)) H) (apm H t0 λt34=>apm H t5 λt35=>apu H (zai 1 t34 t35) λt36=>apu H (zan false 1 t36 H) λt37=>apm H t1 λt38=>apm H t5 λt39=>apu H (zai 1 t38 t39) λt40=>apu H (zan false 1 t40 H) λt41=>apu H (zab .gtr false t37 t41) λt42=>apm H t42 λt33=>zag t33 (K (.int .i64 1) H) (zab .sub false t5 (.int .i64 1) λt22=>Kb6 (zox t0 t1 t22) H))) (K (.int .i64 0) H)
def zov:=zah 1 t0 λt7=>zah 1 t1 λt9=>zab .neq false t7 t9 λt10=>zag t10 (zah 1 t0 λt12=>zah 1 t1 λt14=>zab .lss false t12 t14 λt15=>zag t15 (K (.int .i64 (-1)) H) (K (.int .i64 1) H)) (zah 1 t0 λt17=>zab .sub false t17 (.int .i64 1) λt18=>zEE t0 t1 t18 H K)
def zl9:Nat→List Bool|2=>rl false [0,1,2,1,11]|_=>[]
noncomputable def zsF:=Tryz.f117.body.getD .skip
noncomputable def zMG:=Tryz.f117.results.toList
def zma:=t0::ux 2 (t3::ux 11 [])
def zME:=zl9 2
noncomputable def zMC:=zas [1,1,0,0,0] zsF
def zMB:=zat tP zl9 [1,1,0,0] zsF (zaA tP zMG K)
def zmb:=ALoop tP zMC (zMB K) (zma t0 t3) H
def zsE:=zab .gtr false t0 (.int .u64 0) λt5=>zag t5 (zab .rem false t0 (.int .u64 1000000000) λt10=>zbg .u32 t10 λt11=>zau 1 [(.int .u32 0)] 1 [(0,t11)] λt12=>zax zbh 1 4 t3 t12 H λt13 H=>zab .quo false t0 (.int .u64 1000000000) λt7=>Kb2 (zma t7 t13) H) (K t3 H)
def zA0:=zmb t0 .snil H K
def zLw(_:Nat):List Bool:=[]
noncomputable def zLx:=Tryz.f108.body.getD .skip
def zsi:=zaw t0 H λt1 H=>zay [(.bool false),.snil,.snil] H λt2 H=>zaf 1 t1 λt8=>zae false 1 t8 H λt9=>zah 1 t9 λt10=>zab .eql false t10 (.int .i64 0) λt11=>zag t11 (zau 1 [(.int .u32 0)] 1 [(0,(.int .u32 1))] λt12=>zar [(.bool false),.snil,.snil] [(0,1),(1,1),(2,1)] [(2,t12)] λt13=>zam 3 t2 t13 H λH=>zae true 3 t2 H λr0=>K r0 H) (zaf 2 t1 λt14=>zae false 1 t14 H λt15=>ACalls tP zkp [t15] H λt16 H=>zag t16 (zae true 3 t1 H λt17=>zam 3 t2 t17 H λH=>zae true 3 t2 H λr0=>K r0 H) (zaf 1 t1 λt18=>zae false 1 t18 H λt19=>zaf 2 t1 λt20=>zae false 1 t20 H λt21=>ACalls tP zHZ [t19,t21] H λt22 H=>ACalls tP zkp [t22] H λt24 H=>zag t24 (zae true 3 t1 H λt25=>zam 3 t2 t25 H λH=>zae true 3 t2 H λr0=>K r0 H) (zaf 1 t1 λt27=>zae false 1 t27 H λt28=>ACalls tP zx1 [t28,t22] H λt30 H=>zaI t30 0 λt31=>zaI t30 1 λt32=>zaf 2 t1 λt34=>zae false 1 t34 H λt35=>ACalls tP zx1 [t35,t22] H λt37 H=>zaI t37 0 λt38=>zaI t37 1 λt39=>zaf 0 t1 λt40=>zae false 1 t40 H λt41=>zar [(.bool false),.snil,.snil] [(0,1),(1,1),(2,1)] [(0,t41),(1,t31),(2,t38)] λt44=>zam 3 t2 t44 H λH=>zae true 3 t2 H λr0=>K r0 H)))
variable {t0 t1 t3 t5 t6 t7 t25 t26 t30 t31} {H} {K} {Kb2 Kb5 Kb6}
theorem zSY(h:HSc H→zDu t0 H K):ACalls tP zfp [t0] H K:=
 acb zSW Tryz.func46 zSX h
theorem zWa(h:HSc H→zEK t0 t1 H K):ACalls tP zkQ [t0,t1] H K:=
 acb zV8 Tryz.func86 zV9 h
theorem zVh(h:HSc H→zEo t0 t1 H K):ACalls tP ziC [t0,t1] H K:=
 acb zVf Tryz.func77 zVg h
theorem zWd(h:HSc H→zEM t0 H K):ACalls tP zqX [t0] H K:=
 acb zWb Tryz.func87 zWc h
theorem zUX(h:HSc H→zEf t0 H K):ACalls tP zhg [t0] H K:=
 acb zUV Tryz.func73 zUW h
theorem zEe(h:HSc H→zuV t0 H K):ACalls tP zdK [t0] H K:=
 acb zUT Tryz.func72 zUU h
theorem zV1:Lo2 (λt7 t31=>zjt t0 t1 t5 t6 t7 t25 t26 t30 t31) (λt7 t31 H Kb9=>zvg t0 t1 t5 t6 t7 t25 t26 t30 t31 H K Kb5 Kb9) t7 t31 H (zEH t0 t1 t5 t6 t7 t25 t26 t30 t31 H K Kb5):=lq2 zgA zV2
theorem zV0:Lo1 (λt26=>zoz t0 t1 t5 t25 t26) (λt26 H Kb5=>zvf t0 t1 t5 t25 t26 H K Kb5) t26 H (zEG t0 t1 t5 t25 t26 H K):=lq1 zgA zEI
theorem zV3(h:HSc H→zoy t0 t1 H K):ACalls tP zcY [t0,t1] H K:=
 acb zgA Tryz.func84 zvh h
theorem zLH(h:HSc H→zAu t0 t1 H K):ACalls tP zqe [t0,t1] H K:=
 acb zLF Tryz.func110 zLG h
theorem zVR(h:HSc H→zvd t0 H K):ACalls tP ziD [t0] H K:=
 acb zVP Tryz.func82 zVQ h
theorem zVU:Lo1 (λt5=>zox t0 t1 t5) (λt5 H Kb6=>zjs t0 t1 t5 H K Kb6) t5 H (zEE t0 t1 t5 H K):=lq1 zow zVV
theorem zVW(h:HSc H→zov t0 t1 H K):ACalls tP ziE [t0,t1] H K:=
 acb zow Tryz.func83 zve h
theorem zMD:Lo2 (λt0 t3=>zma t0 t3) (λt0 t3 H Kb2=>zsE t0 t3 H K Kb2) t0 t3 H (zmb t0 t3 H K):=lq2 zl9 zME
theorem zMF(h:HSc H→zA0 t0 H K):ACalls tP zkh [t0] H K:=
 acb zl9 Tryz.func117 zsF h
theorem zLy(h:HSc H→zsi t0 H K):ACalls tP zqd [t0] H K:=
 acb zLw Tryz.func108 zLx h
end
section
variable (t0 t1 t3 t4 t5 t6 t12 t13 t21 t22:AV) (H:zaa) (K:Kt) (Kb2 Kb4 Kb6:Lt)
def zlI:Nat→List Bool|300000=>rl false [0,1]|300001=>rl false [0,1]|300002=>rl false [0,1]|300003=>rl false [0,1]|4=>rl false [0,1,2,2,7,2,27]|_=>[]
noncomputable def zsh:=Tryz.f107.body.getD .skip
noncomputable def zLv:=Tryz.f107.results.toList
def zlK:=t0::ux 2 (t3::t4::ux 7 (t12::t13::ux 27 []))
def zLt:=zlI 4
noncomputable def zLr:=zas [1,1,1,0,1,0,0] zsh
def zLq:=zat tP zlI [1,1,1,0,1,0] zsh (zaA tP zLv K)
def zAs:=ALoop tP zLr (zLq K) (zlK t0 t3 t4 t12 t13) H
def zlL:=ACalls tP zg9 [t3] H λt40 H=>K t40 H
def zlJ:=zab .lss false t13 t12 λt14=>zag t14 (zai 1 t0 t13 λt18=>zae false 1 t18 H λt19=>zbg .u64 t19 λt20=>zab .add false t20 t4 λt22=>zab .rem false t22 (.int .u64 1000000000) λt25=>zbg .u32 t25 λt26=>zau 1 [(.int .u32 0)] 1 [(0,t26)] λt27=>zax zbh 1 4 t3 t27 H λt28 H=>zab .quo false t22 (.int .u64 1000000000) λt30=>zab .add false t13 (.int .i64 1) λt31=>Kb4 (zlK t0 t28 t30 t12 t31) H) (zab .gtr false t4 (.int .u64 0) λt33=>zag t33 (zbg .u32 t4 λt36=>zau 1 [(.int .u32 0)] 1 [(0,t36)] λt37=>zax zbh 1 4 t3 t37 H λt38 H=>zlL t38 H K) (zlL t3 H K))
def zAr:=zah 1 t0 λt8=>zab .add false t8 (.int .i64 1) λt9=>zeD zbh 1 4 t9 H λt10 H=>zah 1 t0 λt12=>zAs t0 t10 (.int .u64 0) t12 (.int .i64 0) H K
def zl6:Nat→List Bool|2=>rl false [0,1,2,1,17]|_=>[]
noncomputable def zsD:=Tryz.f116.body.getD .skip
noncomputable def zMA:=Tryz.f116.results.toList
def zl8:=t0::ux 2 (t3::ux 17 [])
def zMy:=zl6 2
noncomputable def zMw:=zas [1,1,0,0,0] zsD
def zMv:=zat tP zl6 [1,1,0,0] zsD (zaA tP zMA K)
def zAZ:=ALoop tP zMw (zMv K) (zl8 t0 t3) H
def zl7:=zab .gtr false t3 (.int .i64 0) λt7=>zac t7 true H (λK'=>K' t0 H) λt9 H=>zac t7 true H (λK'=>K' t3 H) λt10 H=>zac t7 true H (λK'=>zab .sub false t10 (.int .i64 1) (K' · H)) λt11 H=>zac t7 true H (λK'=>zai 1 t9 t11 (K' · H)) λt12 H=>zac t7 true H (λK'=>zae false 1 t12 H (K' · H)) λt13 H=>zac t7 true H (λK'=>zab .eql false t13 (.int .u32 0) (K' · H)) λt14 H=>zak t7 t14 (.bool false) λt15=>zag t15 (zab .sub false t3 (.int .i64 1) λt17=>Kb2 (zl8 t0 t17) H) (za1 1 1 t0 none (some t3) λt20=>K t20 H)
def zAY:=zah 1 t0 λt5=>zAZ t0 t5 H K
def zmN:Nat→List Bool|300000=>rl false [0,1]|300001=>rl false [0,1]|300002=>rl false [0,1]|300003=>rl false [0,1]|300004=>rl false [0,1]|6=>rl false [0,2,3,2,14,2,33]|_=>[]
noncomputable def ztu:=Tryz.f156.body.getD .skip
noncomputable def zPr:=Tryz.f156.results.toList
def zmO:=t0::t1::ux 3 (t5::t6::ux 14 (t21::t22::ux 33 []))
def zPp:=zmN 6
noncomputable def zPn:=zas [1,1,1,1,0,1,0,0] ztu
def zPm:=zat tP zmN [1,1,1,1,0,1,0] ztu (zaA tP zPr K)
def zB4:=ALoop tP zPn (zPm K) (zmO t0 t1 t5 t6 t21 t22) H
def zmQ(t0 t1 t5 t8 t21 t22:AV)(H:zaa)(K:Kt)(Kb6:Lt):Prop:=zab .quo false t8 (.int .u32 1000000000) λt42=>zab .rem false t8 (.int .u32 1000000000) λt45=>zau 1 [(.int .u32 0)] 1 [(0,t45)] λt46=>zax zbh 1 4 t5 t46 H λt47 H=>zab .add false t22 (.int .i64 1) λt48=>Kb6 (zmO t0 t1 t47 t42 t21 t48) H
def zmR:=K t5 H
def zi9:=zab .lss false t22 t21 λt23=>zag t23 (zai 1 t0 t22 λt27=>zae false 1 t27 H λt28=>zab .add false t28 t6 λt30=>zah 1 t1 λt33=>zab .lss false t22 t33 λt34=>zag t34 (zai 1 t1 t22 λt38=>zae false 1 t38 H λt39=>zab .add false t30 t39 λt40=>zmQ t0 t1 t5 t40 t21 t22 H K Kb6) (zmQ t0 t1 t5 t30 t21 t22 H K Kb6)) (zab .gtr false t6 (.int .u32 0) λt50=>zag t50 (zau 1 [(.int .u32 0)] 1 [(0,t6)] λt53=>zax zbh 1 4 t5 t53 H λt54 H=>zmR t54 H K) (zmR t5 H K))
def zmP:=zah 1 t0 λt17=>zab .add false t17 (.int .i64 1) λt18=>zeD zbh 1 4 t18 H λt19 H=>zah 1 t0 λt21=>zB4 t0 t1 t19 (.int .u32 0) t21 (.int .i64 0) H K
def ztt:=zah 1 t0 λt10=>zah 1 t1 λt12=>zab .lss false t10 t12 λt13=>zag t13 (zmP t1 t0 H K) (zmP t0 t1 H K)
def zPj(_:Nat):List Bool:=[]
noncomputable def zPk:=Tryz.f153.body.getD .skip
def zmM:=zah 1 t0 λt4=>zab .eql false t4 (.int .i64 1) λt5=>zac t5 true H (λK'=>K' t0 H) λt7 H=>zac t5 true H (λK'=>zai 1 t7 (.int .i64 0) (K' · H)) λt8 H=>zac t5 true H (λK'=>zae false 1 t8 H (K' · H)) λt9 H=>zac t5 true H (λK'=>zab .eql false t9 (.int .u32 1) (K' · H)) λt10 H=>zak t5 t10 (.bool false) λt11=>K t11 H
variable {t0 t1 t3 t4 t5 t6 t12 t13 t21 t22} {H} {K} {Kb2 Kb4 Kb6}
theorem zLs:Lo3 (λt3 t4 t13=>zlK t0 t3 t4 t12 t13) (λt3 t4 t13 H Kb4=>zlJ t0 t3 t4 t12 t13 H K Kb4) t3 t4 t13 H (zAs t0 t3 t4 t12 t13 H K):=lq3 zlI zLt
theorem zLu(h:HSc H→zAr t0 H K):ACalls tP zil [t0] H K:=
 acb zlI Tryz.func107 zsh h
theorem zMx:Lo1 (λt3=>zl8 t0 t3) (λt3 H Kb2=>zl7 t0 t3 H K Kb2) t3 H (zAZ t0 t3 H K):=lq1 zl6 zMy
theorem zMz(h:HSc H→zAY t0 H K):ACalls tP zg9 [t0] H K:=
 acb zl6 Tryz.func116 zsD h
theorem zPo:Lo3 (λt5 t6 t22=>zmO t0 t1 t5 t6 t21 t22) (λt5 t6 t22 H Kb6=>zi9 t0 t1 t5 t6 t21 t22 H K Kb6) t5 t6 t22 H (zB4 t0 t1 t5 t6 t21 t22 H K):=lq3 zmN zPp
theorem zPq(h:HSc H→ztt t0 t1 H K):ACalls tP zqx [t0,t1] H K:=
 acb zmN Tryz.func156 ztu h
theorem zPl(h:HSc H→zmM t0 H K):ACalls tP zkp [t0] H K:=
 acb zPj Tryz.func153 zPk h
end
section
variable (t0:AV) (H:zaa) (K:Kt)
def zV5(_:Nat):List Bool:=[]
noncomputable def zV6:=Tryz.f85.body.getD .skip
def zEJ:=zaw t0 H λt1 H=>zae true 3 t1 H λt3=>ACalls tP zdK [t3] H λt4 H=>ACalls tP ziD [t4] H λt5 H=>K t5 H
variable {t0} {H} {K}
theorem zV7(h:HSc H→zEJ t0 H K):ACalls tP zfr [t0] H K:=
 acb zV5 Tryz.func85 zV6 h
end
section
variable (t0 t1 t3 t5 t6 t7 t8:AV) (H:zaa) (K:Kt) (Kb2 Kb3 Kb4 Kb6 Kb7:Lt)
def zQc(_:Nat):List Bool:=[]
noncomputable def zQd:=Tryz.f18.body.getD .skip
def zCi:=zay [(.bool false),.snil,.snil] H λt2 H=>zab .lss false t0 (.int .i64 0) λt4=>zag t4 (zab .add false t0 (.int .i64 1) λt6=>aUn .neg t6 λt7=>zbg .u64 t7 λt8=>zab .add false t8 (.int .u64 1) λt9=>ACalls tP zix [t9] H λt10 H=>zau 1 [(.int .u32 0)] 1 [(0,(.int .u32 1))] λt11=>ACalls tP zde [(.bool true),t10,t11] H λt12 H=>zam 3 t2 t12 H λH=>zae true 3 t2 H λr0=>K r0 H) (zbg .u64 t0 λt14=>ACalls tP zix [t14] H λt15 H=>zau 1 [(.int .u32 0)] 1 [(0,(.int .u32 1))] λt16=>ACalls tP zde [(.bool false),t15,t16] H λt17 H=>zam 3 t2 t17 H λH=>zae true 3 t2 H λr0=>K r0 H)
def zQD(_:Nat):List Bool:=[]
noncomputable def zQE:=Tryz.f20.body.getD .skip
def zCs:=zaw t0 H λt2 H=>zaw t1 H λt3 H=>zay [(.bool false),.snil,.snil] H λt4 H=>apu H (zan true 3 t2 H) λt5=>zaF H (λH K'=>ACalls tP zfq [t5] H K') λt6=>apu H (zan true 3 t3 H) λt7=>zaF H (λH K'=>ACalls tP zfq [t7] H K') λt8=>zam 3 t2 t6 H λH=>zam 3 t3 t8 H λH=>apu H (zaf 0 t2) λt9=>apu H (zan false 1 t9 H) λt10=>apu H (zaf 0 t3) λt11=>apu H (zan false 1 t11 H) λt12=>apu H (zab .neq true t10 t12) λt13=>apu H (zaf 1 t2) λt14=>apu H (zan false 1 t14 H) λt15=>apu H (zaf 1 t3) λt16=>apu H (zan false 1 t16 H) λt17=>zaF H (λH K'=>ACalls tP zee [t15,t17] H K') λt18=>apu H (zaf 2 t2) λt19=>apu H (zan false 1 t19 H) λt20=>apu H (zaf 2 t3) λt21=>apu H (zan false 1 t21 H) λt22=>zaF H (λH K'=>ACalls tP zee [t20,t22] H K') λt23=>zaF H (λH K'=>ACalls tP zde [t13,t18,t23] H K') λt24=>zam 3 t4 t24 H λH=>zae true 3 t4 H λr0=>K r0 H
def zQh(_:Nat):List Bool:=[]
noncomputable def zQi:=Tryz.f19.body.getD .skip
def ztF:=zaw t0 H λt2 H=>zaw t1 H λt3 H=>zay [(.bool false),.snil,.snil] H λt4 H=>apu H (zan true 3 t2 H) λt8=>zaF H (λH K'=>ACalls tP zfq [t8] H K') λt9=>apu H (zan true 3 t3 H) λt10=>zaF H (λH K'=>ACalls tP zfq [t10] H K') λt11=>zam 3 t2 t9 H λH=>zam 3 t3 t11 H λH=>apu H (zaf 1 t2) λt12=>apu H (zan false 1 t12 H) λt13=>apu H (zaf 2 t3) λt14=>apu H (zan false 1 t14 H) λt15=>zaF H (λH K'=>ACalls tP zee [t13,t15] H K') λt16=>apu H (zaf 1 t3) λt17=>apu H (zan false 1 t17 H) λt18=>apu H (zaf 2 t2) λt19=>apu H (zan false 1 t19 H) λt20=>zaF H (λH K'=>ACalls tP zee [t18,t20] H K') λt21=>apm H t16 λt5=>apm H t21 λt6=>zaf 2 t2 λt22=>zae false 1 t22 H λt23=>zaf 2 t3 λt24=>zae false 1 t24 H λt25=>ACalls tP zee [t23,t25] H λt26 H=>zaf 0 t2 λt27=>zae false 1 t27 H λt28=>zaf 0 t3 λt29=>zae false 1 t29 H λt30=>zab .eql true t28 t30 λt31=>zag t31 (apu H (zaf 0 t2) λt32=>apu H (zan false 1 t32 H) λt33=>apm H t5 λt34=>apm H t6 λt35=>zaF H (λH K'=>ACalls tP zqS [t34,t35] H K') λt36=>apm H t26 λt37=>zaF H (λH K'=>ACalls tP zde [t33,t36,t37] H K') λt38=>zam 3 t4 t38 H λH=>zae true 3 t4 H λr0=>K r0 H) (ACalls tP zkH [t5,t6] H λt41 H=>zab .geq false t41 (.int .i64 0) λt42=>zag t42 (apu H (zaf 0 t2) λt43=>apu H (zan false 1 t43 H) λt44=>apm H t5 λt45=>apm H t6 λt46=>zaF H (λH K'=>ACalls tP zhe [t45,t46] H K') λt47=>apm H t26 λt48=>zaF H (λH K'=>ACalls tP zde [t44,t47,t48] H K') λt49=>zam 3 t4 t49 H λH=>zae true 3 t4 H λr0=>K r0 H) (apu H (zaf 0 t3) λt50=>apu H (zan false 1 t50 H) λt51=>apm H t6 λt52=>apm H t5 λt53=>zaF H (λH K'=>ACalls tP zhe [t52,t53] H K') λt54=>apm H t26 λt55=>zaF H (λH K'=>ACalls tP zde [t51,t54,t55] H K') λt56=>zam 3 t4 t56 H λH=>zae true 3 t4 H λr0=>K r0 H))
def znJ:Nat→List Bool|2=>rl false [0,1,2,1,11]|_=>[]
noncomputable def zur:=Tryz.f52.body.getD .skip
noncomputable def zTl:=Tryz.f52.results.toList
def znK:=t0::ux 2 (t3::ux 11 [])
def zTj:=znJ 2
noncomputable def zTh:=zas [1,1,0,0,0] zur
def zTg:=zat tP znJ [1,1,0,0] zur (zaA tP zTl K)
def znL:=ALoop tP zTh (zTg K) (znK t0 t3) H
def zuq:=zab .gtr false t0 (.int .u64 0) λt5=>zag t5 (zab .rem false t0 (.int .u64 1000000000) λt8=>zbg .u32 t8 λt9=>zau 1 [(.int .u32 0)] 1 [(0,t9)] λt10=>zax zbh 1 4 t3 t10 H λt11 H=>zab .quo false t0 (.int .u64 1000000000) λt13=>Kb2 (znK t13 t11) H) (K t3 H)
def zDD:=znL t0 .snil H K
def zTm(_:Nat):List Bool:=[]
noncomputable def zTn:=Tryz.f53.body.getD .skip
def zus:=zaw t0 H λt1 H=>zay [(.bool false),.snil,.snil] H λt2 H=>zaf 0 t1 λt3=>zae false 1 t3 H λt4=>zaf 1 t1 λt5=>zae false 1 t5 H λt6=>zaf 2 t1 λt7=>zae false 1 t7 H λt8=>ACalls tP zde [t4,t6,t8] H λt9 H=>zam 3 t2 t9 H λH=>zae true 3 t2 H λr0=>K r0 H
def zgv:Nat→List Bool|3=>rl false [0,2,3,2,63]|7=>rl false [0,2,3,4,61]|_=>[]
noncomputable def zuu:=Tryz.f54.body.getD .skip
noncomputable def zTv:=Tryz.f54.results.toList
def znN:=t0::t1::ux 3 (t5::t6::ux 63 [])
def zDK:=zgv 3
noncomputable def zuv:=zas [1,1,0,1,0,0] zuu
def zDH:=zat tP zgv [1,1,0,1,0] zuu (zaA tP zTv K)
def zDI:=ALoop tP zuv (zDH K) (znN t0 t1 t5 t6) H
def znO:=t0::t1::ux 3 (t5::t6::t7::t8::ux 61 [])
def zTt:=zgv 7
noncomputable def zTq:=zas [1,0,0,1,1,0,0] zuv
def zTp:=zat tP zgv [1,0,0,1,1,0] zuv (zbp zDK Kb3 (zDH K))
def zDJ:=ALoop tP zTq (zTp K Kb3) (znO t0 t1 t5 t6 t7 t8) H
def znP(t0 t1 t5 t6 t7 t8:AV)(H:zaa)(K:Kt)(Kb3:Lt)(Kb7:Lt):Prop:=zab .add false t6 t8 λt61=>zab .rem false t7 (.int .u64 1000000000) λt63=>zbg .u32 t63 λt64=>zai 1 t5 t61 λt65=>zam 1 t65 t64 H λH=>zab .quo false t7 (.int .u64 1000000000) λt67=>zab .add false t8 (.int .i64 1) λt31=>Kb7 (znO t0 t1 t5 t6 t67 t31) H
def znM:=zah 1 t1 λt24=>zab .lss false t8 t24 λt25=>zac t25 false H (λK'=>K' t7 H) λt27 H=>zac t25 false H (λK'=>zab .gtr false t27 (.int .u64 0) (K' · H)) λt28 H=>zak t25 (.bool true) t28 λt29=>zag t29 (zab .add false t6 t8 λt36=>zai 1 t5 t36 λt37=>zae false 1 t37 H λt38=>zbg .u64 t38 λt39=>zab .add false t7 t39 λt40=>zah 1 t1 λt43=>zab .lss false t8 t43 λt44=>zag t44 (apm H t40 λt45=>apm H t0 λt46=>apm H t6 λt47=>apu H (zai 1 t46 t47) λt48=>apu H (zan false 1 t48 H) λt49=>apu H (zbg .u64 t49) λt50=>apm H t1 λt51=>apm H t8 λt52=>apu H (zai 1 t51 t52) λt53=>apu H (zan false 1 t53 H) λt54=>apu H (zbg .u64 t54) λt55=>apu H (zab .mul false t50 t55) λt56=>apu H (zab .add false t45 t56) λt57=>apm H t57 λt7=>znP t0 t1 t5 t6 t7 t8 H K Kb3 Kb7) (znP t0 t1 t5 t6 t40 t8 H K Kb3 Kb7)) (zab .add false t6 (.int .i64 1) λt21=>Kb3 (znN t0 t1 t5 t21) H)
def zut:=zah 1 t0 λt18=>zab .lss false t6 t18 λt19=>zag t19 (zDJ t0 t1 t5 t6 (.int .u64 0) (.int .i64 0) H K Kb3) (ACalls tP zfs [t5] H λt69 H=>K t69 H)
def zDG:=zah 1 t0 λt10=>zah 1 t1 λt12=>zab .add false t10 t12 λt13=>zab .add false t13 (.int .i64 1) λt14=>za9 4 [(.int .u32 0)] t14 t14 H λt15 H=>zDI t0 t1 t15 (.int .i64 0) H K
def znQ:Nat→List Bool|4=>rl false [0,2,3,3,46]|_=>[]
noncomputable def zuw:=Tryz.f55.body.getD .skip
noncomputable def zTC:=Tryz.f55.results.toList
def znR:=t0::t1::ux 3 (t5::t6::t7::ux 46 [])
def zTA:=znQ 4
noncomputable def zTy:=zas [1,1,1,0,1,0,0] zuw
def zTx:=zat tP znQ [1,1,1,0,1,0] zuw (zaA tP zTC K)
def znT:=ALoop tP zTy (zTx K) (znR t0 t1 t5 t6 t7) H
def znS(t0 t1 t5 t7 t8:AV)(H:zaa)(K:Kt)(Kb4:Lt):Prop:=zab .quo false t8 (.int .u32 1000000000) λt47=>zab .rem false t8 (.int .u32 1000000000) λt50=>zau 1 [(.int .u32 0)] 1 [(0,t50)] λt51=>zax zbh 1 4 t5 t51 H λt52 H=>zab .add false t7 (.int .i64 1) λt24=>Kb4 (znR t0 t1 t52 t47 t24) H
def zhN:=zah 1 t1 λt38=>zab .lss false t7 t38 λt39=>zag t39 (zai 1 t1 t7 λt43=>zae false 1 t43 H λt44=>zab .add false t8 t44 λt45=>znS t0 t1 t5 t7 t45 H K Kb4) (znS t0 t1 t5 t7 t8 H K Kb4)
def zhM:=zah 1 t0 λt11=>zab .lss false t7 t11 λt12=>zac t12 false H (λK'=>K' t7 H) λt14 H=>zac t12 false H (λK'=>K' t1 H) λt15 H=>zac t12 false H (λK'=>zah 1 t15 (K' · H)) λt16 H=>zac t12 false H (λK'=>zab .lss false t14 t16 (K' · H)) λt17 H=>zak t12 (.bool true) t17 λt18=>zac t18 false H (λK'=>K' t6 H) λt20 H=>zac t18 false H (λK'=>zab .gtr false t20 (.int .u32 0) (K' · H)) λt21 H=>zak t18 (.bool true) t21 λt22=>zag t22 (zah 1 t0 λt28=>zab .lss false t7 t28 λt29=>zag t29 (zai 1 t0 t7 λt33=>zae false 1 t33 H λt34=>zab .add false t6 t34 λt35=>zhN t0 t1 t5 t7 t35 H K Kb4) (zhN t0 t1 t5 t7 t6 H K Kb4)) (K t5 H)
def zDL:=znT t0 t1 .snil (.int .u32 0) (.int .i64 0) H K
def znV:Nat→List Bool|6=>rl false [0,2,3,1,35]|_=>[]
noncomputable def zux:=Tryz.f56.body.getD .skip
noncomputable def zTI:=Tryz.f56.results.toList
def znW:=t0::t1::ux 3 (t5::ux 35 [])
def zTG:=znV 6
noncomputable def zTE:=zas [1,1,0,1,0,0] zux
def zTD:=zat tP znV [1,1,0,1,0] zux (zaA tP zTI K)
def zDN:=ALoop tP zTE (zTD K) (znW t0 t1 t5) H
def zji:=zab .geq false t5 (.int .i64 0) λt20=>zag t20 (apm H t0 λt23=>apm H t5 λt24=>apu H (zai 1 t23 t24) λt25=>apu H (zan false 1 t25 H) λt26=>apm H t1 λt27=>apm H t5 λt28=>apu H (zai 1 t27 t28) λt29=>apu H (zan false 1 t29 H) λt30=>apu H (zab .lss false t26 t30) λt31=>zag t31 (K (.int .i64 (-1)) H) (apm H t0 λt32=>apm H t5 λt33=>apu H (zai 1 t32 t33) λt34=>apu H (zan false 1 t34 H) λt35=>apm H t1 λt36=>apm H t5 λt37=>apu H (zai 1 t36 t37) λt38=>apu H (zan false 1 t38 H) λt39=>apu H (zab .gtr false t35 t39) λt40=>zag t40 (K (.int .i64 1) H) (zab .sub false t5 (.int .i64 1) λt22=>Kb6 (znW t0 t1 t22) H))) (K (.int .i64 0) H)
def znU:=zah 1 t0 λt7=>zah 1 t1 λt9=>zab .neq false t7 t9 λt10=>zag t10 (zah 1 t0 λt12=>zah 1 t1 λt14=>zab .lss false t12 t14 λt15=>zag t15 (K (.int .i64 (-1)) H) (K (.int .i64 1) H)) (zah 1 t0 λt17=>zab .sub false t17 (.int .i64 1) λt18=>zDN t0 t1 t18 H K)
def znX:Nat→List Bool|4=>rl false [0,2,3,3,48]|_=>[]
noncomputable def zuz:=Tryz.f57.body.getD .skip
noncomputable def zTO:=Tryz.f57.results.toList
def zjj:=t0::t1::ux 3 (t5::t6::t7::ux 48 [])
def zTM:=znX 4
noncomputable def zTK:=zas [1,1,1,0,1,0,0] zuz
def zTJ:=zat tP znX [1,1,1,0,1,0] zuz (zaA tP zTO K)
def zDP:=ALoop tP zTK (zTJ K) (zjj t0 t1 t5 t6 t7) H
def zuA(t0 t1 t5 t6 t7:AV)(H:zaa)(K:Kt)(Kb4:Lt):Prop:=zab .add false t7 (.int .i64 1) λt17=>Kb4 (zjj t0 t1 t5 t6 t17) H
def znZ:=zuA t0 t1 t5 t6 t7 H K Kb4
def zjk:=zai 1 t0 t7 λt31=>zae false 1 t31 H λt32=>zab .geq false t32 t8 λt34=>zag t34 (zai 1 t0 t7 λt39=>zae false 1 t39 H λt40=>zab .sub false t40 t8 λt42=>zai 1 t5 t7 λt43=>zam 1 t43 t42 H λH=>znZ t0 t1 t5 (.int .u32 0) t7 H K Kb4) (zai 1 t0 t7 λt48=>zae false 1 t48 H λt49=>zab .add false t49 (.int .u32 1000000000) λt50=>zab .sub false t50 t8 λt52=>zai 1 t5 t7 λt53=>zam 1 t53 t52 H λH=>znZ t0 t1 t5 (.int .u32 1) t7 H K Kb4)
def znY:=zah 1 t0 λt14=>zab .lss false t7 t14 λt15=>zag t15 (zah 1 t1 λt21=>zab .lss false t7 t21 λt22=>zag t22 (zai 1 t1 t7 λt26=>zae false 1 t26 H λt27=>zab .add false t6 t27 λt28=>zjk t0 t1 t5 t7 t28 H K Kb4) (zjk t0 t1 t5 t7 t6 H K Kb4)) (ACalls tP zfs [t5] H λt55 H=>K t55 H)
def zDO:=zah 1 t0 λt10=>za9 4 [(.int .u32 0)] t10 t10 H λt11 H=>zDP t0 t1 t11 (.int .u32 0) (.int .i64 0) H K
def zSw(_:Nat):List Bool:=[]
noncomputable def zSx:=Tryz.f41.body.getD .skip
def zDg:=zaw t0 H λt1 H=>zae true 3 t1 H λt3=>ACalls tP zfq [t3] H λt4 H=>zam 3 t1 t4 H λH=>zaf 1 t1 λt6=>zae false 1 t6 H λt7=>zah 1 t7 λt8=>zab .eql false t8 (.int .i64 0) λt9=>zag t9 (K (.int .i64 0) H) (zaf 0 t1 λt11=>zae false 1 t11 H λt12=>zag t12 (K (.int .i64 (-1)) H) (K (.int .i64 1) H))
variable {t0 t1 t3 t5 t6 t7 t8} {H} {K} {Kb2 Kb3 Kb4 Kb6 Kb7}
theorem zQe(h:HSc H→zCi t0 H K):ACalls tP zf4 [t0] H K:=
 acb zQc Tryz.func18 zQd h
theorem zQF(h:HSc H→zCs t0 t1 H K):ACalls tP zkt [t0,t1] H K:=
 acb zQD Tryz.func20 zQE h
theorem zCr(h:HSc H→ztF t0 t1 H K):ACalls tP zf5 [t0,t1] H K:=
 acb zQh Tryz.func19 zQi h
theorem zTi:Lo2 (λt0 t3=>znK t0 t3) (λt0 t3 H Kb2=>zuq t0 t3 H K Kb2) t0 t3 H (znL t0 t3 H K):=lq2 znJ zTj
theorem zTk(h:HSc H→zDD t0 H K):ACalls tP zix [t0] H K:=
 acb znJ Tryz.func52 zur h
theorem zDF(h:HSc H→zus t0 H K):ACalls tP zfq [t0] H K:=
 acb zTm Tryz.func53 zTn h
theorem zTs:Lo2 (λt7 t8=>znO t0 t1 t5 t6 t7 t8) (λt7 t8 H Kb7=>znM t0 t1 t5 t6 t7 t8 H K Kb3 Kb7) t7 t8 H (zDJ t0 t1 t5 t6 t7 t8 H K Kb3):=lq2 zgv zTt
theorem zTr:Lo1 (λt6=>znN t0 t1 t5 t6) (λt6 H Kb3=>zut t0 t1 t5 t6 H K Kb3) t6 H (zDI t0 t1 t5 t6 H K):=lq1 zgv zDK
theorem zTu(h:HSc H→zDG t0 t1 H K):ACalls tP zee [t0,t1] H K:=
 acb zgv Tryz.func54 zuu h
theorem zTz:Lo3 (λt5 t6 t7=>znR t0 t1 t5 t6 t7) (λt5 t6 t7 H Kb4=>zhM t0 t1 t5 t6 t7 H K Kb4) t5 t6 t7 H (znT t0 t1 t5 t6 t7 H K):=lq3 znQ zTA
theorem zTB(h:HSc H→zDL t0 t1 H K):ACalls tP zqS [t0,t1] H K:=
 acb znQ Tryz.func55 zuw h
theorem zTF:Lo1 (λt5=>znW t0 t1 t5) (λt5 H Kb6=>zji t0 t1 t5 H K Kb6) t5 H (zDN t0 t1 t5 H K):=lq1 znV zTG
theorem zTH(h:HSc H→znU t0 t1 H K):ACalls tP zkH [t0,t1] H K:=
 acb znV Tryz.func56 zux h
theorem zTL:Lo2 (λt6 t7=>zjj t0 t1 t5 t6 t7) (λt6 t7 H Kb4=>znY t0 t1 t5 t6 t7 H K Kb4) t6 t7 H (zDP t0 t1 t5 t6 t7 H K):=lq2 znX zTM
theorem zTN(h:HSc H→zDO t0 t1 H K):ACalls tP zhe [t0,t1] H K:=
 acb znX Tryz.func57 zuz h
theorem zSy(h:HSc H→zDg t0 H K):ACalls tP ziv [t0] H K:=
 acb zSw Tryz.func41 zSx h
end
end Go.Proofs.YtaifokkaaahdoaaGreatDoor
