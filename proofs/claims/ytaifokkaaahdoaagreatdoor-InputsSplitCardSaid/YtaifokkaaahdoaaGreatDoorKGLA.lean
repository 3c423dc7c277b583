import Derived.Test.YtaifokkaaahdoaaGreatDoorKGL7
import Derived.Test.YtaifokkaaahdoaaGreatDoorLG2
import Derived.Test.YtaifokkaaahdoaaGreatDoorKNum
import Derived.Test.YtaifokkaaahdoaaGreatDoorProg
import Derived.KernelRfl
import Derived.Test.YtaifokkaaahdoaaGreatDoorKGN1
import Derived.Test.YtaifokkaaahdoaaGreatDoorLE2
set_option linter.unusedSectionVars false
set_option linter.unusedSimpArgs false
set_option linter.unusedVariables false
set_option maxRecDepth 8000
namespace Go.Proofs.YtaifokkaaahdoaaGreatDoor
open Go Go.Abs
theorem zv5{f:Nat→Nat}{B:Nat}(h:∀ i,f i≤B):∀ k,sm k f≤k*B
 |0=>by simp[sm]
 |k+1=>by have:=zv5 h k;have:=h k;rw[sm,Nat.succ_mul];omega
def zda(xs:List Int)(L:Nat):zaa:=[.mapP [],.cells [.ptr (L+2) 0,.sl (ints xs) .none,.map (L+3)]]
theorem ztj{data:List Dat}{kk:Int}{L x:Nat}(h1:L≤x)(h:x=L+3∨x=L+4):zaY data kk (zct L (L+5)) S0 x=none:=by
 unfold zaY zct;simp only
 repeat rw[if_neg (by omega)]
theorem zDD(data:List Dat)(xs:List Int)(A:zaa):ShB data xs.length xs ⟨zct A.length (A.length+5),A.length+4,A.length+3⟩ ⟨S0,[]⟩ (A++(zbP data xs.length A.length (A.length+5)++zda xs A.length++zb0)):=by
 have gA:∀(k:Nat),(A++(zbP data xs.length A.length (A.length+5)++zda xs A.length++zb0))[A.length+k]?=(zbP data xs.length A.length (A.length+5)++zda xs A.length++zb0)[k]?:=λk=>by rw[List.getElem?_append_right (by omega)];congr 1;omega
 have g3:=gA 3;have g4:=gA 4;exact⟨zu8 rfl (zda xs A.length) (A.length+5) rfl,g4,g3,ztj (Nat.le_add_right _ _) (.inr rfl),ztj (Nat.le_add_right _ _) (.inl rfl),by simp⟩
theorem zEr{data:List Dat}{kk:Int}{B:BS}{A J:zaa}:∃J',shB data kk ⟨zct A.length (A.length+5),A.length+4,A.length+3⟩ B (A++J)=A++J'∧J'.length=J.length:=by obtain⟨J1,h1,h2⟩:=zu7 (data:=data) (kk:=kk) (S:=B.s) (A:=A) (J:=J) (L:=A.length) (M:=A.length+5) rfl (by omega);refine⟨J1.set 3 (.mapP (zdq B.m)),?_,by simpa using h2⟩;unfold shB;rw[h1,List.set_append_right _ _ (by simp)];simp
section
variable {data:List Dat} (hD:zaE data=true) (hk:Kpt data) {xs:List Int} (hxs:xs.length≤8) {ts:List VT} (htv:∀t∈ts,zaD data 0 t=true) (htl:ts.length≤6) {n:Nat} (hn:n≤14)
include hD hk hxs htv htl hn
theorem zC7{H:zaa}(hs:HSc H)(h0:H[0]?=some .nodr){K:Kt}(hE:2000<cL (cV data xs.length) ts n→K (.tup [.sl [] .none,.int .i64 9]) H)(hK:cL (cV data xs.length) ts n≤2000→∀ L,L.Perm (lsL (vV data xs) ts n)→L.Pairwise cle→K (.tup [.sl (llA L) .none,.int .i64 0]) H):
  zli (.int .i64 n) (.ptr (H.length+4) 0) .snil (.sl (VT.css ts) .none) (.int .i64 ts.length) (.int .i64 0) (H++(newB data xs.length H.length++zda xs H.length)) (Out H.length K):=by
 obtain⟨X,hXl,hR⟩:=zj0 (data:=data) (n:=n) (λm _ t ht=>zvE hD hk m t ht) ts 0 htv;have hR:∀(p:Nat) (h:p<ts.length),Rch data X (n-p) ts[p]:=λp h=>by have:=hR p h;rwa [Nat.zero_add]at this
 have hX:X.length≤1000000000000:=by
  have h1:=zv5 (f:=λp=>gB (n-(0+p))) (B:=gB 14) (λi=>zeN (by omega)) ts.length;have h2:gB 14≤1000000000:=by decide
  have h3:=Nat.mul_le_mul htl h2;omega
 have htX:∀t∈ts,zaD data 0 t=true∧t∈X:=λt ht=>⟨htv t ht,by
  obtain⟨p,hp,rfl⟩:=List.mem_iff_getElem.1 ht;exact(hR p hp).mem⟩
 have hlt0:0<H.length:=(List.getElem?_eq_some_iff.1 h0).1;refine zDQ (L:=H.length) rfl (V:=zda xs H.length) (M:=H.length+5) rfl ?_;obtain⟨Z,hZ⟩:∃Z:BI,Z=⟨zct H.length (H.length+5),H.length+4,H.length+3⟩:=⟨_,rfl⟩;obtain⟨A0,hA0⟩:∃A0,A0=H++(zbP data xs.length H.length (H.length+5)++zda xs H.length++zb0):=⟨_,rfl⟩;have hA0l:A0.length=H.length+8:=by rw[hA0];simp[zbP,zda,zb0]
 have hB0:ShB data xs.length xs Z ⟨S0,[]⟩ A0:=by rw[hZ,hA0];exact zDD data xs H
 have hA0s:HSc A0:=by rw[hA0];refine hs.append ?_;simp[zbP,zda,zb0,AB.sc,AV.scA,AV.scB,zaJ,zbD]
 have h00:A0[0]?=some .nodr:=by rw[hA0,List.getElem?_append_left hlt0];exact h0
 have hsp:∀(B:BS),∃J',shB data xs.length Z B A0=H++J'∧J'.length=8:=λB=>by obtain⟨J',h1,h2⟩:=zEr (data:=data) (kk:=xs.length) (B:=B) (A:=H) (J:=zbP data xs.length H.length (H.length+5)++zda xs H.length++zb0);exact⟨J',by rw[hZ,hA0];exact h1,by rw[h2];simp[zbP,zda,zb0]⟩
 have hbp:Z.bp=H.length+4:=by rw[hZ]
 rw[←hA0,←hbp];refine ALoop.own 13 zcL 1 rfl ?_;rw[hA0l];show zli (.int .i64 n) (.ptr Z.bp 0) (.sl (zaZ (zaK data S0 (ts.take 0)).1) (.own (H.length+8))) (.sl (VT.css ts) .none) (.int .i64 ts.length) (.int .i64 0) (A0++[.perm zcL 1 0]) (Out H.length K);have hok:=λj=>zgV hD (ts.take j) S0 (zsM data xs.length X) λt ht=>htX t (List.mem_of_mem_take ht);obtain⟨G,hG⟩:∃G:BS→Nat→zaa,G=λB' k=>shB data xs.length Z B' A0++[.perm zcL 1 k]:=⟨_,rfl⟩;have hGl:∀B' k,(G B' k).length=H.length+9:=λB' k=>by rw[hG];simp[hA0l]
 have hGs:∀B' k,HSc (G B' k):=λB' k=>by rw[hG];exact(hB0.scs hA0s).snoc rfl
 have hGS:∀B' k,zaV data xs.length X B'.s→ShB data xs.length xs Z B' (G B' k):=λB' k hB'=>by rw[hG];exact(hB0.next hB'.ml hB'.cl).app
 have hG0:∀B' k,(G B' k)[0]?=some .nodr:=λB' k=>by rw[hG];simp only;rw[List.getElem?_append_left (by simp[hA0l])];exact hB0.nodr h00
 have hGm:∀B' B'' k J,zaV data xs.length X B'.s→shB data xs.length Z B'' (G B' k++J)=G B'' k++J:=λB' B'' k J hB'=>by rw[hG];simp only;rw[List.append_assoc,(hB0.next hB'.ml hB'.cl).shB_app,hB0.shB_shB,List.append_assoc]
 have hGn:∀B' S' k J,zaV data xs.length X B'.s→shS data xs.length Z.i S' (G B' k++J)=G ⟨S',B'.m⟩ k++J:=λB' S' k J hB'=>by rw[((hGS B' k hB').app).shS_eq,hGm _ _ _ _ hB']
 have hGp:∀B' k J,(G B' k++J)[H.length+8]?=some (.perm zcL 1 k):=λB' k J=>by rw[hG];simp[List.getElem?_append,hA0l]
 have hGset:∀B' k k' J,(G B' k++J).set (H.length+8) (.perm zcL 1 k')=G B' k'++J:=λB' k k' J=>by rw[hG];simp only;rw[List.append_assoc,List.set_append_right _ _ (by simp[hA0l]),List.append_assoc];simp[hA0l]
 have hlk:=λj=>zng data (ts.take j) S0;refine zJq (Inv:=λq t13 t54 H'=>∃j:Nat,j≤ts.length∧ts.length-j=q∧t54=.int .i64 j∧t13=.sl (zaZ (zaK data S0 (ts.take j)).1) (.own (H.length+8))∧H'=G ⟨(zaK data S0 (ts.take j)).2,[]⟩ j) ts.length ?_ ?_
 ·intro _;refine⟨0,by omega,rfl,rfl,rfl,?_⟩;rw[hG];simp only[List.take_zero,zaK];rw[hB0.self]
 ·rintro q t13 t54 H' ⟨j,hj,rfl,rfl,rfl,rfl⟩ hsc' hlen hsF Kb hKb;obtain⟨S,hSd⟩:∃ S,S=(zaK data S0 (ts.take j)).2:=⟨_,rfl⟩;have hokj:=hok j;have hIj:=hokj.1;rw[←hSd]at hIj;have hsl:(zaZ (zaK data S0 (ts.take j)).1).length=j:=by rw[zum,hlk,List.length_take];omega
  rw[←hSd];by_cases hlt:j<ts.length
  ·obtain⟨x1,x2,x3,hvx,hxa,hxb,hxc⟩:=zaO ts[j];have hv:=htX ts[j] (List.getElem_mem hlt);have hst:zaZ (zaK data S0 (ts.take j)).1++[[AV.int .i64 (idN data S ts[j]:Nat)]]=zaZ (zaK data S0 (ts.take (j+1))).1:=by rw[ziC hlt,←hSd];simp[zaZ]
   have hS1:(zaK data S0 (ts.take (j+1))).2=idS data S ts[j]:=by rw[ziC hlt,←hSd]
   have hgc:∀B' k C,(G B' k++[AB.cells C])[H.length+9]?=some (.cells C):=λB' k C=>by rw[List.getElem?_append_right (by rw[hGl];omega),hGl];simp
   have hbp':=((hGS ⟨S,[]⟩ j hIj).app (J:=[.cells (ts[j]).cs])).bpa;rw[hvx]at hbp';simp[zqJ,hlt,hvx,hGl,hbp',hgc];refine⟨⟨hxa,hxb,hxc⟩,?_⟩;rw[←hvx];have hAp:ShS data xs.length Z.i S (G ⟨S,[]⟩ j++[.cells (ts[j]).cs]):=((hGS ⟨S,[]⟩ j hIj).sh).app;refine zcq (.int .i64 (idN data S ts[j]:Nat)) (G ⟨idS data S ts[j],[]⟩ j++[.cells (ts[j]).cs]) (zhS hD hAp (by rw[List.getElem?_append_left (by rw[hGl];omega)];exact hG0 _ _) ts[j] hv.1 (Nat.le_trans hIj.len hX) _ ⟨rfl,hGn _ _ _ _ hIj⟩) ?_;simp[zar,za3,plain,AV.pd];refine zcq (.sl (zaZ (zaK data S0 (ts.take (j+1))).1) (.own (H.length+8))) (G ⟨idS data S ts[j],[]⟩ (j+1)++[.cells (ts[j]).cs]) ?_ ?_
   ·simp only[zay,zbb,za0,hsl,hGp];refine⟨by simp,trivial,⟨by simp;omega,by simp;omega⟩,?_,?_⟩
    ·rw[hst]
    ·exact hGset _ _ _ _
   ·rw[wr (by omega)];refine hKb _ _ ⟨ts.length-(j+1),by omega,Back.at (J:=[.cells (ts[j]).cs]) (H2:=G ⟨idS data S ts[j],[]⟩ (j+1)) rfl (by rw[hGl];simp[hA0l]) (hGs _ _) (by rw[hGl];simp[zlf,ux,AV.sc,AV.scA,AV.scB,AV.scV,hbp]) ⟨_,_,rfl,j+1,by omega,rfl,rfl,rfl,by rw[hS1]⟩⟩
  ·obtain rfl:j=ts.length:=by omega
   rw[List.take_length]at hokj hSd hsl;have hix:=hokj.2.2;rw[←hSd]at hix;obtain⟨is,his⟩:∃is,is=(zaK data S0 ts).1:=⟨_,rfl⟩;rw[←his]at hix hsl;rw[List.take_length,←his];have hB1:=hGS ⟨S,[]⟩ ts.length hIj;simp[zqJ,hB1.bpa];obtain⟨S2,o,hI2,he2,ho,hc⟩:=zph (I:=Z.i) hD hk hxs hX (show n≤14 from hn) (λm hm=>ziQ hD hk hxs hX m (by omega)) (show ts.length≤1000 by omega) hIj hix hR;refine ACalls.wk (args':=[.ptr Z.i.p 0,.sl (zaZ is) .none,.int .i64 n]) ?_ ⟨.atom (.refl _),.atom (.sl _ _),.atom (.refl _),trivial⟩;refine hc _ hB1.sh (hG0 _ _) _ ?_;have hgn0:=hGn ⟨S,[]⟩ S2 ts.length [] hIj;simp only[List.append_nil]at hgn0;rw[hgn0];refine zfd 2000 (by omega) _ _ ?_;have hov:vO o<1000000000 ^ 30:=by rw[ho];exact znt hk hxs ts hn
   have h2000:zav ((2000:Nat):Int)=zal (some 2000):=rfl;rw[h2000];refine zMn o (some 2000) hov (by decide) _ _ ?_;have hB2:=hGS ⟨S2,[]⟩ ts.length hI2;have hcm:(0<zbh (vO o) (vO (some 2000)))↔2000<cL (cV data xs.length) ts n:=by
    rw[←ho];simp only[vO,zbh,Option.getD_some]
    repeat' split
    all_goals omega
   by_cases hbig:2000<cL (cV data xs.length) ts n
   ·have h2:0<zbh (vO o) (vO (some 2000)):=hcm.2 hbig;simp[h2];obtain⟨J',hJ',_⟩:=hsp ⟨S2,[]⟩;have hGe:G ⟨S2,[]⟩ ts.length=H++(J'++[.perm zcL 1 ts.length]):=by rw[hG];simp only;rw[hJ',List.append_assoc]
    rw[hGe];exact⟨⟨rfl,rfl⟩,@Out.tup H _ K [.snil,.int .i64 9] _ hs (hE hbig) ⟨⟨.atom .snil,rfl,rfl⟩,⟨.rfl',rfl,rfl⟩,trivial⟩⟩
   ·have h2:¬ 0<zbh (vO o) (vO (some 2000)):=λh=>hbig (hcm.1 h);simp[h2];obtain⟨B',hI3,he3,hc3⟩:=zuH hD hk hxs hX (Z:=Z) (N:=n) hn (λm hm=>zFU hD hk hxs hX m (by omega)) ts is (by omega) n ⟨S2,[]⟩ (Nat.le_refl _) ⟨hI2,by simp⟩ (hix.mono he2) hR (by omega);refine ACalls.wk (args':=[.ptr Z.bp 0,.sl (zaZ is) .none,.int .i64 n]) ?_ ⟨.atom (.refl _),.atom (.sl _ _),.atom (.refl _),trivial⟩;refine hc3 _ hB2 (hG0 _ _) _ ?_;have hgm0:=hGm ⟨S2,[]⟩ B' ts.length [] hI2;simp only[List.append_nil]at hgm0;rw[hgm0];obtain⟨J',hJ',_⟩:=hsp B';have hGe:G B' ts.length=H++(J'++[.perm zcL 1 ts.length]):=by rw[hG];simp only;rw[hJ',List.append_assoc]
    have hGsc:=hGs B' ts.length;rw[hGe]at hGsc ⊢;simp only[zdF,zgi];have hll:=zhm hD hk hxs hX ts n;refine zC6 (by rw[hll];omega) (λr hr=>?_) hs hGsc (hK (by omega));rw[zn5 (N:=n) (λt s _=>zh0 data xs s t) ts n (Nat.le_refl _) r hr];omega
end
end Go.Proofs.YtaifokkaaahdoaaGreatDoor
namespace Go.Proofs.YtaifokkaaahdoaaGreatDoor
open Go Go.Abs
open Classical in
noncomputable def zbA(data:List Dat)(ts:List VT)(n:Int)(xs:List Int):Int:=
 if 6<ts.length then 5 else if ∃t∈ts,zbW data t=false then 6 else if n<0∨24<n∨¬zey xs then 8 else if 2000<cL (cV data xs.length) ts n.toNat then 9 else 0
theorem zn0{data:List Dat}{ts:List VT}{n:Int}{xs:List Int}(h:zbA data ts n xs=0):ts.length≤6∧(∀t∈ts,zbW data t=true)∧0≤n∧n≤24∧zey xs∧cL (cV data xs.length) ts n.toNat≤2000:=by
 unfold zbA at h;split at h
 ·omega
 ·split at h
  ·omega
  ·rename_i h1 h2;split at h
   ·omega
   ·rename_i h3;split at h
    ·omega
    ·refine⟨by omega,λt ht=>?_,by omega,by omega,?_,by omega⟩
     ·cases hb:zbW data t with
      |true=>rfl
      |false=>exact absurd ⟨t,ht,hb⟩ h2
     ·exact Classical.byContradiction λhc=>h3 (.inr (.inr hc))
theorem zyi{data:List Dat}(hF:zcY data)(hl:data.length≤1000000)(hk:Kpt data)(ts:List VT)(hts:ts≠[])(htl:ts.length≤1000000)(ht:∀ t∈ts,za1 t)(xs:List Int)(hxl:xs.length≤1000000)(n:Int)(hn:n≤14∨24<n)(H:zaa)(h0:H[0]?=some .nodr)(K:Kt)(hE:zbA data ts n xs≠0→K (.tup [.sl [] .none,.int .i64 (zbA data ts n xs)]) H)(hK:zbA data ts n xs=0→∀ L,L.Perm (lsL (vV data xs) ts n.toNat)→L.Pairwise cle→K (.tup [.sl (llA L) .none,.int .i64 0]) H):
  ACalls tP zjm [.sl (data.map Dat.cs) .none,.sl (VT.css ts) .none,.int .i64 n,.sl (ints xs) .none] H K:=by
 refine ACalls.out (zJw λhs=>?_);simp only[zyb,zdF,VT.css_len];have hout:∀(e:Int) J,zbA data ts n xs=e→e≠0→Out H.length K (.tup [.snil,.int .i64 e]) (H++J):=λe J h he=>by subst h;exact @Out.tup H _ K [.snil,.int .i64 _] _ hs (hE he) ⟨⟨.atom .snil,rfl,rfl⟩,⟨.rfl',rfl,rfl⟩,trivial⟩
 have hout0:∀(e:Int),zbA data ts n xs=e→e≠0→Out H.length K (.tup [.snil,.int .i64 e]) H:=λe h he=>by have:=hout e [] h he;simpa using this
 by_cases h6:6<ts.length
 ·have h6':(6:Int)<ts.length:=by omega
  simp[h6'];exact⟨⟨rfl,rfl⟩,hout0 5 (by unfold zbA;rw[if_pos h6]) (by omega)⟩
 have h6':¬(6:Int)<ts.length:=by omega
 simp[h6'];refine zJs (Inv:=λq t24 H'=>∃i:Nat,i≤ts.length∧ts.length-i=q∧t24=.int .i64 i∧(∀t∈ts.take i,zbW data t=true)∧H'=H) ts.length ?_ ?_
 ·intro _;exact⟨0,by omega,rfl,rfl,by simp,rfl⟩
 ·rintro q t24 H' ⟨i,hi,rfl,rfl,hf,rfl⟩ hsc hlen hsF Kb hKb;by_cases hlt:i<ts.length
  ·obtain⟨x,y,z,hvx,hx,hy,hz⟩:=zaO ts[i];simp[zid,hlt,hvx,hx,hy,hz];rw[←hvx];refine zy7 hF hl ts[i] (ht _ (List.getElem_mem hlt)) _ _ ?_;cases hb:zbW data ts[i] with
   |false=>simp;exact⟨⟨rfl,rfl⟩,hout 6 _ (by unfold zbA;rw[if_neg h6,if_pos ⟨ts[i],List.getElem_mem hlt,hb⟩]) (by omega)⟩
   |true=>
    simp;rw[wr (by omega)];refine hKb _ _ ⟨ts.length-(i+1),by omega,Back.at (J:=[.cells (ts[i]).cs]) (H2:=H') rfl (Nat.le_refl _) hs ?_ ⟨_,rfl,i+1,by omega,rfl,rfl,λt htm=>?_,rfl⟩⟩
    ·simp[zlh,ux,AV.sc,AV.scA,AV.scB,AV.scV]
    ·rw[List.take_succ_eq_append_getElem hlt]at htm;rcases List.mem_append.1 htm with h | h
     ·exact hf t h
     ·simp at h;rw[h];exact hb
  ·obtain rfl:i=ts.length:=by omega
   rw[List.take_length]at hf;have hne:¬ ∃t∈ts,zbW data t=false:=λ⟨t,h1,h2⟩=>by rw[hf t h1]at h2;cases h2
   have bad8:(n<0∨24<n∨¬zey xs)→zbA data ts n xs=8:=λh=>by unfold zbA;rw[if_neg h6,if_neg hne,if_pos h]
   by_cases c1:n<0
   ·simp[zid,c1];exact⟨⟨rfl,rfl⟩,hout0 8 (bad8 (.inl c1)) (by omega)⟩
   by_cases c2:24<n
   ·simp[zid,c1,c2];exact⟨⟨rfl,rfl⟩,hout0 8 (bad8 (.inr (.inl c2))) (by omega)⟩
   have hn14:n≤14:=by omega
   obtain⟨N,rfl⟩:∃N:Nat,n=N:=⟨n.toNat,by omega⟩;simp only[zid];simp[c1,c2];refine zMl xs hxl _ _ λb hb=>?_;cases b with
   |false=>
    have hni:¬zey xs:=λh=>by have:=hb.2 h;cases this
    simp;exact⟨⟨rfl,rfl⟩,hout0 8 (bad8 (.inr (.inr hni))) (by omega)⟩
   |true=>
    have hix:=hb.1 rfl;simp[zdp];refine zu9 data xs.length _ _ ?_;simp[zea,zaq,zaN,AV.known,newB];have hlE:zbA data ts N xs=if 2000<cL (cV data xs.length) ts N then 9 else 0:=by unfold zbA;rw[if_neg h6,if_neg hne,if_neg (λh=>h.elim c1 λh=>h.elim c2 λh=>h hix)];simp
    have hgo:∀t∈ts,zaD data 0 t=true:=λt h=>(zha (hf t h)).2;have hD:zaE data=true:=by obtain⟨t,h⟩:=List.exists_mem_of_ne_nil ts hts;exact(zha (hf t h)).1
    have:=zC7 hD hk hix.1 hgo (by omega) (n:=N) (by omega) hs h0 (K:=K) (λh=>by
     have:=hE (by rw[hlE,if_pos h];omega);rwa [hlE,if_pos h]at this) (λh=>by
     have:=hK (by rw[hlE,if_neg (by omega)]);simpa using this)
    simpa[newB,zda]using this
end Go.Proofs.YtaifokkaaahdoaaGreatDoor
namespace Go.Proofs.YtaifokkaaahdoaaGreatDoor
open Go Go.Abs
def vle(a b:VT):Prop:=¬VT.cmp b a<0
theorem zuN(g:VT→Nat→List VT)(t:VT)(h0:g t 0=[]):∀ n,lsL g [t] n=(g t n).map λv=>[v]
 |0=>by rw[h0];rfl
 |n+1=>by
  have h1:∀s,s<n→za4 (g t (s+1)) (lsL g [] (n+1-(s+1)))=[]:=λs hs=>by
   rw[lsL,if_neg (by omega)];unfold za4;induction g t (s+1) with
   |nil=>rfl
   |cons a l ih=>rw[List.flatMap_cons,ih];rfl
  have h2:(List.range n).flatMap (λs=>za4 (g t (s+1)) (lsL g [] (n+1-(s+1))))=[]:=by
   rw[zfr (g:=λ_=>[]) λs hs=>h1 s (List.mem_range.1 hs)];induction List.range n with
   |nil=>rfl
   |cons a l ih=>rw[List.flatMap_cons,ih];rfl
  rw[lsL,List.range_succ,List.flatMap_append,h2,List.nil_append,List.flatMap_cons,List.flatMap_nil,List.append_nil,Nat.sub_self,lsL,if_pos rfl];unfold za4;induction g t (n+1) with
  |nil=>rfl
  |cons a l ih=>rw[List.flatMap_cons,ih];rfl
def hd0(r:List VT):VT:=r.getD 0 (.mk 0 0 [])
theorem zCO{L:List (List VT)}{W:List VT}(hp:L.Perm (W.map λv=>[v]))(hs:L.Pairwise cle):(∀r∈L,r=[hd0 r])∧(L.map hd0).Perm W∧(L.map hd0).Pairwise vle:=by
 have h1:∀r∈L,r=[hd0 r]:=λr hr=>by obtain⟨v,_,rfl⟩:=List.mem_map.1 (hp.subset hr);rfl
 refine⟨h1,?_,?_⟩
 ·have:=hp.map hd0;rw[List.map_map]at this;have e:(hd0 ∘ λv=>[v])=id:=rfl;rw[e,List.map_id]at this;exact this
 ·rw[List.pairwise_map];refine hs.imp_of_mem λ{a b} ha hb h=>?_;rw[h1 a ha,h1 b hb]at h;unfold cle at h;rw[VT.cmpL,VT.cmpL]at h;have:cor (VT.cmp (hd0 b) (hd0 a)) 0=VT.cmp (hd0 b) (hd0 a):=by unfold cor;split <;> omega
  rw[this]at h;exact h
theorem zGU{data:List Dat}(hF:zcY data)(hl:data.length≤1000000)(hk:Kpt data)(t:VT)(ht:za1 t)(xs:List Int)(hxl:xs.length≤1000000)(n:Int)(hn:n≤14∨24<n)(H:zaa)(h0:H[0]?=some .nodr)(K:Kt)(hE:zbA data [t] n xs≠0→K (.tup [.sl [] .none,.int .i64 (zbA data [t] n xs)]) H)(hK:zbA data [t] n xs=0→∀ V,V.Perm (vV data xs t n.toNat)→V.Pairwise vle→K (.tup [.sl (VT.css V) .none,.int .i64 0]) H):
  ACalls tP zeU [.sl (data.map Dat.cs) .none,.agg t.cs,.int .i64 n,.sl (ints xs) .none] H K:=by
 refine ACalls.out (zGS λhs=>?_);have hlt0:0<H.length:=(List.getElem?_eq_some_iff.1 h0).1;obtain⟨x,y,z,hvx,hx,hy,hz⟩:=zaO t;have hc3:=VT.cs_take t;have hcl:=VT.cs_len t;obtain⟨C,hC⟩:∃C,C=t.cs:=⟨_,rfl⟩;rw[←hC]at hc3 hcl;simp only[zw3];rw[←hC];simp[hcl,hc3];rw[hC,zdl];refine ACalls.wk (args':=[.sl (data.map Dat.cs) .none,.sl (VT.css [t]) .none,.int .i64 n,.sl (ints xs) .none]) ?_ ⟨.atom (.refl _),.atom (.sl _ _),.atom (.refl _),.atom (.refl _),trivial⟩;refine zyi hF hl hk [t] (by simp) (by simp) (by simpa using ht) xs hxl n hn _ (by rw[List.getElem?_append_left hlt0];exact h0) _ (λhe=>?_) (λhe L hp hsrt=>?_)
 ·have hb:(zbA data [t] n xs != 0)=true:=by simpa using he
  simp[hb];exact⟨⟨rfl,rfl⟩,@Out.tup H _ K [.snil,.int .i64 _] _ hs (hE he) ⟨⟨.atom .snil,rfl,rfl⟩,⟨.rfl',rfl,rfl⟩,trivial⟩⟩
 ·rw[zuN _ _ (zh1 data xs t)]at hp;obtain⟨q1,q2,q3⟩:=zCO hp hsrt;simp;obtain⟨hok1,_,_,_,_,hok6⟩:=zn0 he;have hLl:L.length≤2000:=by have h1:=hp.length_eq;rw[List.length_map,zdZ]at h1;have h2:=zhl (g:=vV data xs) (zbF data xs.length) [t] n.toNat λt _ s _=>zdZ data xs s t;rw[zuN _ _ (zh1 data xs t),List.length_map,zdZ]at h2;omega
  have hgi:∀(i:Nat) (hi:i<L.length),∀h:i<(llA L).length,(llA L)[i]'h=[.sl (VT.css [hd0 L[i]]) .none]:=λi hi h=>by have:=q1 _ (List.getElem_mem hi);rw[←this];simp[llA]
  refine ALoop.own 12 zaL 3 rfl ?_;obtain⟨A,hA⟩:∃A,A=H++[AB.cells t.cs]:=⟨_,rfl⟩;have hAl:A.length=H.length+1:=by rw[hA];simp
  have hAs:HSc A:=by rw[hA];exact hs.snoc (by simp[AB.sc])
  rw[←hA];show zpW (.sl [] (.own A.length)) (.sl (llA L) .none) (.int .i64 L.length) (.int .i64 0) (A++[.perm zaL 3 0]) _;refine zGQ (Inv:=λq t12 t29 H'=>∃i:Nat,i≤L.length∧L.length-i=q∧t29=.int .i64 i∧t12=.sl (VT.css ((L.map hd0).take i)) (.own A.length)∧H'=A++[.perm zaL 3 i]) L.length ?_ ?_
  ·intro _;exact⟨0,by omega,rfl,rfl,rfl,rfl⟩
  ·rintro q t12 t29 H' ⟨i,hi,rfl,rfl,rfl,rfl⟩ hsc hlen hsF Kb hKb;by_cases hlt:i<L.length
   ·obtain⟨x1,y1,z1,hvx1,hx1,hy1,hz1⟩:=zaO (hd0 L[i]);have hcs1:VT.css [hd0 L[i]]=[[x1,y1,z1]]:=by rw[VT.css,VT.css,hvx1]
    simp[zpU,hlt,hgi i hlt,hcs1];rw[←hvx1,zdl];refine ziE (k:=i) (by rw[List.length_take,List.length_map];omega) (by simp) (by omega) ?_;have hst:(L.map hd0).take i++[hd0 L[i]]=(L.map hd0).take (i+1):=by rw[List.take_succ_eq_append_getElem (by simpa using hlt)];simp
    rw[hst,wr (by omega)];have hset:(A++[AB.perm zaL 3 i]).set A.length (.perm zaL 3 (i+1))=A++[.perm zaL 3 (i+1)]:=by rw[List.set_append_right _ _ (Nat.le_refl _)];simp
    rw[hset];refine hKb _ _ ⟨L.length-(i+1),by omega,Back.here (by simp) (hAs.snoc rfl) ?_ ⟨_,_,rfl,i+1,by omega,rfl,rfl,rfl,rfl⟩⟩;simp[zkA,ux,AV.sc,AV.scA,AV.scB,AV.scV]
   ·obtain rfl:i=L.length:=by omega
    simp[zpU];rw[List.take_of_length_le (by simp),hA,List.append_assoc];exact⟨⟨rfl,rfl⟩,@Out.tup H _ K [.sl (VT.css (L.map hd0)) _,.int .i64 0] _ hs (hK he _ q2 q3) ⟨⟨.atom (.sl _ _),rfl,rfl⟩,⟨.rfl',rfl,rfl⟩,trivial⟩⟩
end Go.Proofs.YtaifokkaaahdoaaGreatDoor
namespace Go.Proofs.YtaifokkaaahdoaaGreatDoor
open Go Go.Abs
set_option maxRecDepth 100000
def zNP(_:Nat):List Bool:=[]
noncomputable def zNQ:Code:=Tryz.f7.body.getD .skip
def zq5(H:zaa)(K:Kt):Prop:=
 zaq [(.int .i64 0),(.int .i64 0),.snil] [(0,1),(1,1),(2,1)] [(0,(.int .i64 1))] λt8=>
 zar 3 [(.int .i64 0),(.int .i64 0),.snil] 1 [(0,t8)] λt9=>
 zaq [(.int .i64 0),(.int .i64 0),.snil] [(0,1),(1,1),(2,1)] [(0,(.int .i64 5)),(2,t9)] λt10=>
 zaw [(.int .i64 0),(.int .i64 0),.snil] H λt1 H=>
 zak 3 t1 t10 H λH=>
 zaA H (λH K'=>ACalls tP zhz [] H K') λt12=>
 zab H (λK'=>zam true 3 t1 H (K' · H)) λt13=>
 zab H (λK'=>zar 1 [(.int .i64 0)] 2 [(0,(.int .i64 0)),(1,(.int .i64 1))] (K' · H)) λt14=>
 zaA H (λH K'=>ACalls tP zeU [t12,t13,(.int .i64 1),t14] H K') λt15=>
 zab H (λK'=>K' t15 H) λt11=>
 zab H (λK'=>zaG t11 0 (K' · H)) λt16=>
 zab H (λK'=>zaG t11 1 (K' · H)) λt17=>
 zab H (λK'=>K' t16 H) λt2=>
 zab H (λK'=>K' t17 H) λt3=>
 zaA H (λH K'=>ACalls tP zhz [] H K') λt19=>
 zab H (λK'=>zam true 3 t1 H (K' · H)) λt20=>
 zab H (λK'=>zar 1 [(.int .i64 0)] 2 [(0,(.int .i64 0)),(1,(.int .i64 1))] (K' · H)) λt21=>
 zaA H (λH K'=>ACalls tP zeU [t19,t20,(.int .i64 2),t21] H K') λt22=>
 zab H (λK'=>K' t22 H) λt18=>
 zab H (λK'=>zaG t18 0 (K' · H)) λt23=>
 zab H (λK'=>zaG t18 1 (K' · H)) λt24=>
 zab H (λK'=>K' t23 H) λt4=>
 zab H (λK'=>K' t24 H) λt5=>
 zaA H (λH K'=>ACalls tP zhz [] H K') λt26=>
 zab H (λK'=>zam true 3 t1 H (K' · H)) λt27=>
 zab H (λK'=>zar 1 [(.int .i64 0)] 2 [(0,(.int .i64 0)),(1,(.int .i64 1))] (K' · H)) λt28=>
 zaA H (λH K'=>ACalls tP zeU [t26,t27,(.int .i64 5),t28] H K') λt29=>
 zab H (λK'=>K' t29 H) λt25=>
 zab H (λK'=>zaG t25 0 (K' · H)) λt30=>
 zab H (λK'=>zaG t25 1 (K' · H)) λt31=>
 zab H (λK'=>K' t30 H) λt6=>
 zab H (λK'=>K' t31 H) λt7=>
 zac .eql false t3 (.int .i64 0) λt33=>
 zad t33 true H (λK'=>K' t5 H) λt35 H=>
 zad t33 true H (λK'=>zac .eql false t35 (.int .i64 0) (K' · H)) λt36 H=>
 zao t33 t36 (.bool false) λt37=>
 zad t37 true H (λK'=>K' t7 H) λt39 H=>
 zad t37 true H (λK'=>zac .eql false t39 (.int .i64 0) (K' · H)) λt40 H=>
 zao t37 t40 (.bool false) λt41=>
 zad t41 true H (λK'=>K' t2 H) λt43 H=>
 zad t41 true H (λK'=>zah 1 t43 (K' · H)) λt44 H=>
 zad t41 true H (λK'=>zac .eql false t44 (.int .i64 1) (K' · H)) λt45 H=>
 zao t41 t45 (.bool false) λt46=>
 zad t46 true H (λK'=>K' t4 H) λt48 H=>
 zad t46 true H (λK'=>zah 1 t48 (K' · H)) λt49 H=>
 zad t46 true H (λK'=>zac .eql false t49 (.int .i64 0) (K' · H)) λt50 H=>
 zao t46 t50 (.bool false) λt51=>
 zad t51 true H (λK'=>K' t6 H) λt53 H=>
 zad t51 true H (λK'=>zah 1 t53 (K' · H)) λt54 H=>
 zad t51 true H (λK'=>zac .eql false t54 (.int .i64 4) (K' · H)) λt55 H=>
 zao t51 t55 (.bool false) λt56=>
 K t56 H
theorem zNR{H:zaa}{K:Kt}(h:HSc H→zq5 H K):ACalls tP zjD [] H K:=
 zap (M:=zNP) Tryz.func7 (c:=zNQ) (by kernel_rfl) (λhs=>Eq.mpr (by kernel_rfl) (h hs))
def zd3:Nat→List Bool
 |4=>rl false [0,2,29,2,37]
 |9=>rl false [0,2,29,2,13,3,21]
 |16=>rl false [1,1,57,2,9]
 |_=>[]
noncomputable def ziu:Code:=Tryz.f9.body.getD .skip
noncomputable def zAo:List ResultVar:=Tryz.f9.results.toList
def zmE(t0 t1 t31 t32:AV):List AV:=t0::t1::ux 29 (t31::t32::ux 37 [])
def zAn:List Bool:=zd3 4
noncomputable def zse:Code:=zat [1,1,0,1,0,0] ziu
def zAj(K:Kt):AExit→List AV→zaa→Prop:=zau tP zd3 [1,1,0,1,0] ziu (zaz tP zAo K)
def zAl(t0 t1 t31 t32:AV)(H:zaa)(K:Kt):Prop:=ALoop tP zse (zAj K) (zmE t0 t1 t31 t32) H
def zmF(t0 t1 t31 t32 t46 t47 t48:AV):List AV:=t0::t1::ux 29 (t31::t32::ux 13 (t46::t47::t48::ux 21 []))
def zO5:List Bool:=zd3 9
noncomputable def zO0:Code:=zat [1,1,0,0,1,1,1,0,0] zse
def zOY(K:Kt)(Kb4:Lt):AExit→List AV→zaa→Prop:=zau tP zd3 [1,1,0,0,1,1,1,0] zse (zb1 zAn Kb4 (zAj K))
def zAm(t0 t1 t31 t32 t46 t47 t48:AV)(H:zaa)(K:Kt)(Kb4:Lt):Prop:=ALoop tP zO0 (zOY K Kb4) (zmF t0 t1 t31 t32 t46 t47 t48) H
def zmC(t0 t1 t31 t32 t46 t47 t48:AV)(H:zaa)(K:Kt)(Kb4:Lt)(Kb9:Lt):Prop:=
 zac .lss false t48 t47 λt49=>
 zag t49
 (zai 2 t46 t48 λt50=>
 zae true 2 t50 H λt51=>
 zaw [(.str []),.snil] H λt11 H=>
 zak 2 t11 t51 H λH=>
 zaf 1 t11 λt52=>
 zae false 1 t52 H λt53=>
 zah 1 t53 λt54=>
 zac .gtr false t54 (.int .i64 3) λt55=>
 zag t55
 (K (.bool false) H)
 (zac .add false t48 (.int .i64 1) λt56=>
 Kb9 (zmF t0 t1 t31 t32 t46 t47 t56) H))
 (zac .add false t32 (.int .i64 1) λt57=>
 Kb4 (zmE t0 t1 t31 t57) H)
def zmD(t1 t59 t60:AV):List AV:=ux 1 (t1::ux 57 (t59::t60::ux 9 []))
def zO4:List Bool:=zd3 16
noncomputable def zOZ:Code:=zat [1,1,1,0,1,0,0] ziu
def zOX(K:Kt):AExit→List AV→zaa→Prop:=zau tP zd3 [1,1,1,0,1,0] ziu (zaz tP zAo K)
def zAk(t1 t59 t60:AV)(H:zaa)(K:Kt):Prop:=ALoop tP zOZ (zOX K) (zmD t1 t59 t60) H
def zsd(t1 t59 t60:AV)(H:zaa)(K:Kt)(Kb16:Lt):Prop:=
 zac .lss false t60 t59 λt61=>
 zag t61
 (zai 3 t1 t60 λt65=>
 zae true 3 t65 H λt66=>
 ACalls tP zjw [t66] H λt67 H=>
 zac .gtr false t67 (.int .i64 8) λt68=>
 zag t68
 (K (.bool false) H)
 (zac .add false t60 (.int .i64 1) λt69=>
 Kb16 (zmD t1 t59 t69) H))
 (K (.bool true) H)
def zmB(t0 t1 t31 t32:AV)(H:zaa)(K:Kt)(Kb4:Lt):Prop:=
 zac .lss false t32 t31 λt33=>
 zag t33
 (zai 3 t0 t32 λt37=>
 zaf 2 t37 λt38=>
 zae false 1 t38 H λt39=>
 zah 1 t39 λt40=>
 zac .gtr false t40 (.int .i64 3) λt41=>
 zag t41
 (K (.bool false) H)
 (zai 3 t0 t32 λt44=>
 zaf 2 t44 λt45=>
 zae false 1 t45 H λt46=>
 zah 1 t46 λt47=>
 zAm t0 t1 t31 t32 t46 t47 (.int .i64 0) H K Kb4))
 (zah 1 t1 λt59=>
 zAk t1 t59 (.int .i64 0) H K)
def zq7(t0 t1 t2 t3:AV)(H:zaa)(K:Kt):Prop:=
 zah 1 t0 λt14=>
 zac .gtr false t14 (.int .i64 2) λt15=>
 zad t15 false H (λK'=>K' t1 H) λt17 H=>
 zad t15 false H (λK'=>zah 1 t17 (K' · H)) λt18 H=>
 zad t15 false H (λK'=>zac .gtr false t18 (.int .i64 3) (K' · H)) λt19 H=>
 zao t15 (.bool true) t19 λt20=>
 zad t20 false H (λK'=>K' t2 H) λt22 H=>
 zad t20 false H (λK'=>zac .gtr false t22 (.int .i64 9) (K' · H)) λt23 H=>
 zao t20 (.bool true) t23 λt24=>
 zad t24 false H (λK'=>K' t3 H) λt26 H=>
 zad t24 false H (λK'=>zah 1 t26 (K' · H)) λt27 H=>
 zad t24 false H (λK'=>zac .gtr false t27 (.int .i64 9) (K' · H)) λt28 H=>
 zao t24 (.bool true) t28 λt29=>
 zag t29
 (K (.bool false) H)
 (zah 1 t0 λt31=>
 zAl t0 t1 t31 (.int .i64 0) H K)
theorem zO3{t0 t1 t31 t32 t46 t47 t48:AV}{H:zaa}{K:Kt}{Kb4:Lt}(Inv:Nat→AV→zaa→Prop)(n:Nat)(h0:HSc H→Inv n t48 H)(round:Rd1 (λt48=>zmF t0 t1 t31 t32 t46 t47 t48) (λt48=>λH Kb9=>zmC t0 t1 t31 t32 t46 t47 t48 H K Kb4 Kb9) H Inv):zAm t0 t1 t31 t32 t46 t47 t48 H K Kb4:=
 lp1 (M:=zd3) zO5 t48 (by kernel_rfl) Inv n h0 round
theorem zO1{t1 t59 t60:AV}{H:zaa}{K:Kt}(Inv:Nat→AV→zaa→Prop)(n:Nat)(h0:HSc H→Inv n t60 H)(round:Rd1 (λt60=>zmD t1 t59 t60) (λt60=>λH Kb16=>zsd t1 t59 t60 H K Kb16) H Inv):zAk t1 t59 t60 H K:=
 lp1 (M:=zd3) zO4 t60 (by kernel_rfl) Inv n h0 round
theorem zO2{t0 t1 t31 t32:AV}{H:zaa}{K:Kt}(Inv:Nat→AV→zaa→Prop)(n:Nat)(h0:HSc H→Inv n t32 H)(round:Rd1 (λt32=>zmE t0 t1 t31 t32) (λt32=>λH Kb4=>zmB t0 t1 t31 t32 H K Kb4) H Inv):zAl t0 t1 t31 t32 H K:=
 lp1 (M:=zd3) zAn t32 (by kernel_rfl) Inv n h0 round
theorem zO6{t0 t1 t2 t3:AV}{H:zaa}{K:Kt}(h:HSc H→zq7 t0 t1 t2 t3 H K):ACalls tP zjL [t0,t1,t2,t3] H K:=
 zap (M:=zd3) Tryz.func9 (c:=ziu) (by kernel_rfl) (λhs=>Eq.mpr (by kernel_rfl) (h hs))
def zd1:Nat→List Bool
 |3=>rl false [0,4,5,1,6,2,45]
 |6=>rl false [0,4,5,1,6,2,6,3,36]
 |13=>rl false [1,3,5,1,3,2,48]
 |_=>[]
noncomputable def zig:Code:=Tryz.f21.body.getD .skip
noncomputable def zyH:List ResultVar:=Tryz.f21.results.toList
def zls(t0 t1 t2 t3 t9 t16 t17:AV):List AV:=t0::t1::t2::t3::ux 5 (t9::ux 6 (t16::t17::ux 45 []))
def zyG:List Bool:=zd1 3
noncomputable def zq0:Code:=zat [1,1,0,1,0,0] zig
def zyC(K:Kt):AExit→List AV→zaa→Prop:=zau tP zd1 [1,1,0,1,0] zig (zaz tP zyH K)
def zyE(t0 t1 t2 t3 t9 t16 t17:AV)(H:zaa)(K:Kt):Prop:=ALoop tP zq0 (zyC K) (zls t0 t1 t2 t3 t9 t16 t17) H
def zih(t0 t1 t2 t3 t9 t16 t17 t24 t25 t26:AV):List AV:=t0::t1::t2::t3::ux 5 (t9::ux 6 (t16::t17::ux 6 (t24::t25::t26::ux 36 [])))
def zKk:List Bool:=zd1 6
noncomputable def zKf:Code:=zat [1,1,0,0,1,1,0,0] zq0
def zKd(K:Kt)(Kb3:Lt):AExit→List AV→zaa→Prop:=zau tP zd1 [1,1,0,0,1,1,0] zq0 (zb1 zyG Kb3 (zyC K))
def zyF(t0 t1 t2 t3 t9 t16 t17 t24 t25 t26:AV)(H:zaa)(K:Kt)(Kb3:Lt):Prop:=ALoop tP zKf (zKd K Kb3) (zih t0 t1 t2 t3 t9 t16 t17 t24 t25 t26) H
def zlq(t0 t1 t2 t3 t9 t16 t17 t24 t25 t26:AV)(H:zaa)(K:Kt)(Kb3:Lt)(Kb6:Lt):Prop:=
 zac .lss false t26 t25 λt27=>
 zag t27
 (zai 2 t24 t26 λt28=>
 zae true 2 t28 H λt29=>
 zaw [(.str []),.snil] H λt12 H=>
 zak 2 t12 t29 H λH=>
 zad t9 false H (λK'=>zaf 1 t12 (K' · H)) λt32 H=>
 zad t9 false H (λK'=>zae false 1 t32 H (K' · H)) λt33 H=>
 zad t9 false H (λK'=>ACalls tP zhD [t33] H K') λt34 H=>
 zao t9 (.bool true) t34 λt35=>
 zac .add false t26 (.int .i64 1) λt36=>
 Kb6 (zih t0 t1 t2 t3 t35 t16 t17 t24 t25 t36) H)
 (zac .add false t17 (.int .i64 1) λt37=>
 Kb3 (zls t0 t1 t2 t3 t9 t16 t37) H)
def zlr(t1 t2 t3 t9 t13 t14:AV):List AV:=ux 1 (t1::t2::t3::ux 5 (t9::ux 3 (t13::t14::ux 48 [])))
def zKj:List Bool:=zd1 13
noncomputable def zKe:Code:=zat [1,1,1,1,0,1,0,0] zig
def zKc(K:Kt):AExit→List AV→zaa→Prop:=zau tP zd1 [1,1,1,1,0,1,0] zig (zaz tP zyH K)
def zyD(t1 t2 t3 t9 t13 t14:AV)(H:zaa)(K:Kt):Prop:=ALoop tP zKe (zKc K) (zlr t1 t2 t3 t9 t13 t14) H
def zfO(t1 t2 t3 t9 t13 t14:AV)(H:zaa)(K:Kt)(Kb13:Lt):Prop:=
 zac .lss false t14 t2 λt40=>
 zad t40 true H (λK'=>K' t13 H) λt42 H=>
 zad t40 true H (λK'=>zac .lss false t42 (.int .i64 1000000) (K' · H)) λt43 H=>
 zao t40 t43 (.bool false) λt44=>
 zag t44
 (zah 1 t3 λt49=>
 zf5 (.int .i64 2) t49 λt50=>
 zac .mul false t13 t50 λt51=>
 zac .add false t14 (.int .i64 1) λt46=>
 Kb13 (zlr t1 t2 t3 t9 t51 t46) H)
 (aUn .not t9 λt53=>
 zad t53 true H (λK'=>K' t1 H) λt55 H=>
 zad t53 true H (λK'=>ACalls tP zhD [t55] H K') λt56 H=>
 zad t53 true H (λK'=>aUn .not t56 (K' · H)) λt57 H=>
 zao t53 t57 (.bool false) λt58=>
 zad t58 false H (λK'=>K' t13 H) λt60 H=>
 zad t58 false H (λK'=>zac .leq false t60 (.int .i64 100000) (K' · H)) λt61 H=>
 zao t58 (.bool true) t61 λt62=>
 K t62 H)
def zqZ(t0 t1 t2 t3 t9 t16 t17:AV)(H:zaa)(K:Kt)(Kb3:Lt):Prop:=
 zac .lss false t17 t16 λt18=>
 zag t18
 (zai 3 t0 t17 λt22=>
 zaf 2 t22 λt23=>
 zae false 1 t23 H λt24=>
 zah 1 t24 λt25=>
 zyF t0 t1 t2 t3 t9 t16 t17 t24 t25 (.int .i64 0) H K Kb3)
 (zyD t1 t2 t3 t9 (.int .i64 1) (.int .i64 0) H K)
def zyB(t0 t1 t2 t3:AV)(H:zaa)(K:Kt):Prop:=
 zah 1 t0 λt16=>
 zyE t0 t1 t2 t3 (.bool false) t16 (.int .i64 0) H K
theorem zKi{t0 t1 t2 t3 t9 t16 t17 t24 t25 t26:AV}{H:zaa}{K:Kt}{Kb3:Lt}(Inv:Nat→AV→AV→zaa→Prop)(n:Nat)(h0:HSc H→Inv n t9 t26 H)(round:Rd2 (λt9=>λt26=>zih t0 t1 t2 t3 t9 t16 t17 t24 t25 t26) (λt9=>λt26=>λH Kb6=>zlq t0 t1 t2 t3 t9 t16 t17 t24 t25 t26 H K Kb3 Kb6) H Inv):zyF t0 t1 t2 t3 t9 t16 t17 t24 t25 t26 H K Kb3:=
 lp2 (M:=zd1) zKk t9 t26 (by kernel_rfl) Inv n h0 round
theorem zKg{t1 t2 t3 t9 t13 t14:AV}{H:zaa}{K:Kt}(Inv:Nat→AV→AV→zaa→Prop)(n:Nat)(h0:HSc H→Inv n t13 t14 H)(round:Rd2 (λt13=>λt14=>zlr t1 t2 t3 t9 t13 t14) (λt13=>λt14=>λH Kb13=>zfO t1 t2 t3 t9 t13 t14 H K Kb13) H Inv):zyD t1 t2 t3 t9 t13 t14 H K:=
 lp2 (M:=zd1) zKj t13 t14 (by kernel_rfl) Inv n h0 round
theorem zKh{t0 t1 t2 t3 t9 t16 t17:AV}{H:zaa}{K:Kt}(Inv:Nat→AV→AV→zaa→Prop)(n:Nat)(h0:HSc H→Inv n t9 t17 H)(round:Rd2 (λt9=>λt17=>zls t0 t1 t2 t3 t9 t16 t17) (λt9=>λt17=>λH Kb3=>zqZ t0 t1 t2 t3 t9 t16 t17 H K Kb3) H Inv):zyE t0 t1 t2 t3 t9 t16 t17 H K:=
 lp2 (M:=zd1) zyG t9 t17 (by kernel_rfl) Inv n h0 round
theorem zKl{t0 t1 t2 t3:AV}{H:zaa}{K:Kt}(h:HSc H→zyB t0 t1 t2 t3 H K):ACalls tP zov [t0,t1,t2,t3] H K:=
 zap (M:=zd1) Tryz.func21 (c:=zig) (by kernel_rfl) (λhs=>Eq.mpr (by kernel_rfl) (h hs))
def zLb(_:Nat):List Bool:=[]
noncomputable def zLc:Code:=Tryz.f24.body.getD .skip
def zyX(H:zaa)(K:Kt):Prop:=
 zaq [(.int .i64 0),(.int .i64 0),.snil] [(0,1),(1,1),(2,1)] [(0,(.int .i64 4))] λt2=>
 zaw [(.int .i64 0),(.int .i64 0),.snil] H λt1 H=>
 zak 3 t1 t2 H λH=>
 zaq [(.str []),.snil] [(0,1),(1,1)] [(0,(.str [78]))] λt3=>
 zae true 3 t1 H λt4=>
 zae true 3 t1 H λt5=>
 zar 3 [(.int .i64 0),(.int .i64 0),.snil] 1 [(0,t5)] λt6=>
 zaq [(.int .i64 0),(.int .i64 0),.snil] [(0,1),(1,1),(2,1)] [(0,(.int .i64 5)),(2,t6)] λt7=>
 zar 3 [(.int .i64 0),(.int .i64 0),.snil] 2 [(0,t4),(1,t7)] λt8=>
 zaq [(.str []),.snil] [(0,1),(1,1)] [(0,(.str [67])),(1,t8)] λt9=>
 zar 2 [(.str []),.snil] 2 [(0,t3),(1,t9)] λt10=>
 zaq [(.str []),(.int .i64 0),.snil] [(0,1),(1,1),(2,1)] [(0,(.str [76])),(1,(.int .i64 1)),(2,t10)] λt11=>
 zar 3 [(.str []),(.int .i64 0),.snil] 1 [(0,t11)] λt12=>
 K t12 H
theorem zLd{H:zaa}{K:Kt}(h:HSc H→zyX H K):ACalls tP zhz [] H K:=
 zap (M:=zLb) Tryz.func24 (c:=zLc) (by kernel_rfl) (λhs=>Eq.mpr (by kernel_rfl) (h hs))
def zlB:Nat→List Bool
 |3=>rl false [1,1,1,1,3,2,14]
 |_=>[]
noncomputable def zrd:Code:=Tryz.f25.body.getD .skip
noncomputable def zLj:List ResultVar:=Tryz.f25.results.toList
def zlD(t1 t3 t7 t8:AV):List AV:=ux 1 (t1::ux 1 (t3::ux 3 (t7::t8::ux 14 [])))
def zLh:List Bool:=zlB 3
noncomputable def zLf:Code:=zat [1,1,0,1,0,0] zrd
def zLe(K:Kt):AExit→List AV→zaa→Prop:=zau tP zlB [1,1,0,1,0] zrd (zaz tP zLj K)
def zyZ(t1 t3 t7 t8:AV)(H:zaa)(K:Kt):Prop:=ALoop tP zLf (zLe K) (zlD t1 t3 t7 t8) H
def zlC(t1 t3 t7 t8:AV)(H:zaa)(K:Kt)(Kb3:Lt):Prop:=
 zac .lss false t8 t7 λt9=>
 zag t9
 (zac .gtr false t3 (.int .i64 8) λt12=>
 zag t12
 (K (.int .i64 9) H)
 (zaf 2 t1 λt14=>
 zae false 1 t14 H λt15=>
 zai 3 t15 t8 λt17=>
 zae true 3 t17 H λt18=>
 ACalls tP zjw [t18] H λt19 H=>
 zac .add false t3 t19 λt20=>
 zac .add false t8 (.int .i64 1) λt21=>
 Kb3 (zlD t1 t20 t7 t21) H))
 (K t3 H)
def zyY(t0:AV)(H:zaa)(K:Kt):Prop:=
 zas t0 H λt1 H=>
 zaf 2 t1 λt5=>
 zae false 1 t5 H λt6=>
 zah 1 t6 λt7=>
 zyZ t1 (.int .i64 1) t7 (.int .i64 0) H K
theorem zLg{t1 t3 t7 t8:AV}{H:zaa}{K:Kt}(Inv:Nat→AV→AV→zaa→Prop)(n:Nat)(h0:HSc H→Inv n t3 t8 H)(round:Rd2 (λt3=>λt8=>zlD t1 t3 t7 t8) (λt3=>λt8=>λH Kb3=>zlC t1 t3 t7 t8 H K Kb3) H Inv):zyZ t1 t3 t7 t8 H K:=
 lp2 (M:=zlB) zLh t3 t8 (by kernel_rfl) Inv n h0 round
theorem zLi{t0:AV}{H:zaa}{K:Kt}(h:HSc H→zyY t0 H K):ACalls tP zjw [t0] H K:=
 zap (M:=zlB) Tryz.func25 (c:=zrd) (by kernel_rfl) (λhs=>Eq.mpr (by kernel_rfl) (h hs))
def zmk:Nat→List Bool
 |2=>rl false [5,3,12]
 |_=>[]
noncomputable def zrN:Code:=Tryz.f58.body.getD .skip
noncomputable def zND:List ResultVar:=Tryz.f58.results.toList
def zis(t5 t6 t7:AV):List AV:=ux 5 (t5::t6::t7::ux 12 [])
def zNC:List Bool:=zmk 2
noncomputable def zNB:Code:=zat [1,0,1,0,0] zrN
def zNA(K:Kt):AExit→List AV→zaa→Prop:=zau tP zmk [1,0,1,0] zrN (zaz tP zND K)
def zzO(t5 t6 t7:AV)(H:zaa)(K:Kt):Prop:=ALoop tP zNB (zNA K) (zis t5 t6 t7) H
def zir(t5 t6 t7:AV)(H:zaa)(K:Kt)(Kb2:Lt):Prop:=
 zac .lss false t7 t6 λt8=>
 zag t8
 (zai 3 t5 t7 λt9=>
 zae true 3 t9 H λt10=>
 zaw [(.int .i64 0),(.int .i64 0),.snil] H λt4 H=>
 zak 3 t4 t10 H λH=>
 zaf 0 t4 λt11=>
 zae false 1 t11 H λt12=>
 zac .eql false t12 (.int .i64 7) λt13=>
 zad t13 false H (λK'=>zaf 2 t4 (K' · H)) λt15 H=>
 zad t13 false H (λK'=>zae false 1 t15 H (K' · H)) λt16 H=>
 zad t13 false H (λK'=>ACalls tP zhD [t16] H K') λt17 H=>
 zao t13 (.bool true) t17 λt18=>
 zag t18
 (K (.bool true) H)
 (zac .add false t7 (.int .i64 1) λt19=>
 Kb2 (zis t5 t6 t19) H))
 (K (.bool false) H)
def zrM(t0:AV)(H:zaa)(K:Kt):Prop:=
 zah 1 t0 λt6=>
 zzO t0 t6 (.int .i64 0) H K
theorem zzP{t5 t6 t7:AV}{H:zaa}{K:Kt}(Inv:Nat→AV→zaa→Prop)(n:Nat)(h0:HSc H→Inv n t7 H)(round:Rd1 (λt7=>zis t5 t6 t7) (λt7=>λH Kb2=>zir t5 t6 t7 H K Kb2) H Inv):zzO t5 t6 t7 H K:=
 lp1 (M:=zmk) zNC t7 (by kernel_rfl) Inv n h0 round
theorem zzQ{t0:AV}{H:zaa}{K:Kt}(h:HSc H→zrM t0 H K):ACalls tP zhD [t0] H K:=
 zap (M:=zmk) Tryz.func58 (c:=zrN) (by kernel_rfl) (λhs=>Eq.mpr (by kernel_rfl) (h hs))
end Go.Proofs.YtaifokkaaahdoaaGreatDoor
namespace Go.Proofs.YtaifokkaaahdoaaGreatDoor
open Go Go.Abs
theorem wrM{n:Nat}(h:n<9223372036854775807):IntKind.i64.wrap ((n:Int)+1)=((n+1:Nat):Int):=by rw[zaB (by omega) (by omega)];rfl
theorem zLk:∀(m:Nat) (t:VT),t.nodes≤m→za1 t→∀(H:zaa) (K:Kt),(∀r:Int,K (.int .i64 r) H)→ACalls tP zjw [.agg t.cs] H K:=by
 intro m;induction m with
 |zero=>intro t h;have:=t.nodes_pos;omega
 |succ m ih=>
  intro t hm hf H K hK;obtain⟨k,n,ks⟩:=t;have hfit:ks.length≤9223372036854775807∧zcw ks:=by rw[za1]at hf;exact hf
  refine ACalls.out (zLi λhs=>?_);have hO:∀(r:Int) J,Out H.length K (.int .i64 r) (H++J):=λr J=>Out.int rfl (Nat.le_refl _) hs (hK r);simp[zyY,VT.cs];obtain⟨A,hA⟩:∃A,A=H++[AB.cells [.int .i64 k,.int .i64 n,.sl (VT.css ks) .none]]:=⟨_,rfl⟩;have hAl:A.length=H.length+1:=by rw[hA];simp
  have hAs:HSc A:=by rw[hA];exact hs.snoc (by simp[AB.sc,AV.scA,AV.scB])
  have hg:A[H.length]?=some (.cells [.int .i64 k,.int .i64 n,.sl (VT.css ks) .none]):=by rw[hA];simp
  rw[←hA];refine zLg (Inv:=λq t3 t8 H'=>∃(i:Nat) (r:Int),i≤ks.length∧ks.length-i=q∧t8=.int .i64 i∧t3=.int .i64 r∧H'=A) ks.length ?_ ?_
  ·intro _;exact⟨0,1,by omega,rfl,rfl,rfl,rfl⟩
  ·rintro q t3 t8 H' ⟨i,r,hi,rfl,rfl,rfl,rfl⟩ hsc hlen hsF Kb hKb;have hE:∀ r:Int,Out H.length K (.int .i64 r) H':=λr=>by rw[hA];exact hO r _
   by_cases hlt:i<ks.length
   ·obtain⟨x,y,z,hvx,hx,hy,hz⟩:=zaO ks[i];by_cases h8:8<r
    ·simp[zlC,hlt,h8];exact hE 9
    ·simp[zlC,hlt,h8,hg,hvx];rw[←hvx];have hkn:=VT.kid_lt (k:=k) (n:=n) hlt;refine ih ks[i] (by omega) (zhb hfit.2 _ (List.getElem_mem hlt)) _ _ λr'=>?_;simp;rw[wrM (by omega)];refine hKb _ _ ⟨ks.length-(i+1),by omega,Back.here (Nat.le_refl _) hAs ?_ ⟨_,_,rfl,i+1,_,by omega,rfl,rfl,rfl,rfl⟩⟩;simp[zlD,ux,AV.sc,AV.scA,AV.scB,AV.scV,hAl]
   ·obtain rfl:i=ks.length:=by omega
    simp[zlC];exact hE r
theorem zrP:∀(m:Nat) (l:List VT),VT.nodesL l≤m→l.length≤9223372036854775807→zcw l→∀(H:zaa) (K:Kt),(∀b:Bool,K (.bool b) H)→ACalls tP zhD [.sl (VT.css l) .none] H K:=by
 intro m;induction m with
 |zero=>
  intro l hm hl hf H K hK;cases l with
  |cons v l=>have:=v.nodes_pos;simp[VT.nodesL]at hm;omega
  |nil=>refine ACalls.out (zzQ λhs=>?_);simp[zrM,VT.css];refine zzP (Inv:=λq t7 H'=>t7=.int .i64 0∧H'=H) 0 (λ_=>⟨rfl,rfl⟩) ?_;rintro q t7 H' ⟨rfl,rfl⟩ hsc hlen hsF Kb hKb;simp[zir];exact zbx hs rfl rfl (hK false)
 |succ m ih=>
  intro l hm hl hf H K hK;refine ACalls.out (zzQ λhs=>?_);have hO:∀(b:Bool) J,Out H.length K (.bool b) (H++J):=λb J=>Out.bool rfl (Nat.le_refl _) hs (hK b);simp only[zrM,zdF,VT.css_len];refine zzP (Inv:=λq t7 H'=>∃i:Nat,i≤l.length∧l.length-i=q∧t7=.int .i64 i∧H'=H) l.length ?_ ?_
  ·intro _;exact⟨0,by omega,rfl,rfl,rfl⟩
  ·rintro q t7 H' ⟨i,hi,rfl,rfl,rfl⟩ hsc hlen hsF Kb hKb;by_cases hlt:i<l.length
   ·have hfi:=zhb hf _ (List.getElem_mem hlt);have hnd:=zoT (List.getElem_mem hlt);obtain⟨⟨k,n,ks⟩,hv⟩:∃ u,u=l[i]:=⟨_,rfl⟩;rw[←hv]at hfi hnd;have hcl:VT.cs (l[i])=[.int .i64 k,.int .i64 n,.sl (VT.css ks) .none]:=by rw[←hv];rfl
    have hfit:ks.length≤9223372036854775807∧zcw ks:=by rw[za1]at hfi;exact hfi
    have hn2:VT.nodesL ks≤m:=by simp[VT.nodes]at hnd;omega
    have next:Kb (zis (.sl (VT.css l) .none) (.int .i64 l.length) (.int .i64 (i+1:Nat))) (H'++[.cells [.int .i64 k,.int .i64 n,.sl (VT.css ks) .none]]):=
     hKb _ _ ⟨l.length-(i+1),by omega,Back.at (J:=[.cells [.int .i64 k,.int .i64 n,.sl (VT.css ks) .none]]) (H2:=H') rfl (Nat.le_refl _) hs (by simp[zis,ux,AV.sc,AV.scA,AV.scB,AV.scV]) ⟨_,rfl,i+1,by omega,rfl,rfl,rfl⟩⟩
    by_cases h7:k=7
    ·simp[zir,hlt,hcl,AV.known,h7];exact hO true _
    ·have b7:(k == 7)=false:=by simpa using h7
     simp[zir,hlt,hcl,AV.known,b7];refine ih ks hn2 hfit.1 hfit.2 _ _ λb=>?_;cases b with
     |true=>simp;exact hO true _
     |false=>simp;rw[wrM (by omega)];exact next
   ·obtain rfl:i=l.length:=by omega
    simp[zir];exact zbx hs rfl rfl (hK false)
def KpD(D:Dat):Prop:=D.cons.length≤3∧∀c∈D.cons,c.args.length≤3
theorem zAp(data:List Dat)(hl:data.length≤9223372036854775807)(l:List VT)(hll:l.length≤1000000)(ht:∀t∈l,za1 t)(n:Int)(xs:List Int)(H:zaa)(K:Kt)(hK:∀b:Bool,(b=true→data.length≤2∧n≤9∧xs.length≤9∧Kpt data)→K (.bool b) H):ACalls tP zjL [.sl (data.map Dat.cs) .none,.sl (VT.css l) .none,.int .i64 n,.sl (ints xs) .none] H K:=by
 refine ACalls.out (zO6 λhs=>?_);have hF:∀J,Out H.length K (.bool false) (H++J):=λJ=>Out.bool rfl (Nat.le_refl _) hs (hK false λh=>by cases h);have hF0:Out H.length K (.bool false) H:=zbx hs rfl rfl (hK false λh=>by cases h);by_cases c1:2<data.length
 ·have:(2:Int)<data.length:=by omega
  simp[zq7,this];exact hF0
 have c1':¬(2:Int)<data.length:=by omega
 by_cases c2:3<l.length
 ·have:(3:Int)<l.length:=by omega
  simp[zq7,c1',this];exact hF0
 have c2':¬(3:Int)<l.length:=by omega
 by_cases c3:9<n
 ·simp[zq7,c1',c2',c3];exact hF0
 by_cases c4:9<xs.length
 ·have:(9:Int)<xs.length:=by omega
  simp[zq7,c1',c2',c3,zdp,this];exact hF0
 have c4':¬(9:Int)<xs.length:=by omega
 simp[zq7,c1',c2',c3,zdp,c4'];refine zO2 (Inv:=λq t32 H'=>∃i:Nat,i≤data.length∧data.length-i=q∧t32=.int .i64 i∧(∀D∈data.take i,KpD D)∧H'=H) data.length ?_ ?_
 ·intro _;exact⟨0,by omega,rfl,rfl,by simp,rfl⟩
 ·rintro q t32 H' ⟨i,hi,rfl,rfl,hk,rfl⟩ hsc4 hlen4 hsF4 Kb4 hKb4;by_cases hlt:i<data.length
  ·obtain⟨⟨nm,vs,cons⟩,hv⟩:∃ u,u=data[i]:=⟨_,rfl⟩;have hcl:Dat.cs (data[i])=[.str nm,.int .i64 vs,.sl (cons.map Con.cs) .none]:=by rw[←hv];rfl
   by_cases h3:3<cons.length
   ·have:(3:Int)<cons.length:=by omega
    simp[zmB,hlt,hcl,this];exact hF0
   have h3':¬(3:Int)<cons.length:=by omega
   simp[zmB,hlt,hcl,h3'];refine zO3 (Inv:=λq t48 H2=>∃j:Nat,j≤cons.length∧cons.length-j=q∧t48=.int .i64 j∧(∀c∈cons.take j,c.args.length≤3)∧H2=H') cons.length ?_ ?_
   ·intro _;exact⟨0,by omega,rfl,rfl,by simp,rfl⟩
   ·rintro q t48 H2 ⟨j,hj,rfl,rfl,hc,rfl⟩ hsc9 hlen9 hsF9 Kb9 hKb9;by_cases hlj:j<cons.length
    ·obtain⟨⟨cn,ca⟩,hu⟩:∃ u,u=cons[j]:=⟨_,rfl⟩;have hcc:Con.cs (cons[j])=[.str cn,.sl (VT.css ca) .none]:=by rw[←hu];rfl
     by_cases h3a:3<ca.length
     ·have:(3:Int)<ca.length:=by omega
      simp[zmC,hlj,hcc,AV.known,this];exact hF _
     ·have h3a':¬ (3:Int)<ca.length:=by omega
      simp[zmC,hlj,hcc,AV.known,h3a'];rw[wr (by omega)];refine hKb9 _ _ ⟨cons.length-(j+1),by omega,Back.at (J:=[.cells [.str cn,.sl (VT.css ca) .none]]) (H2:=H2) rfl (Nat.le_refl _) hs ?_ ⟨_,rfl,j+1,by omega,rfl,rfl,λc hcm=>?_,rfl⟩⟩
      ·simp[zmF,ux,AV.sc,AV.scA,AV.scB,AV.scV]
      ·rw[List.take_succ_eq_append_getElem hlj]at hcm;rcases List.mem_append.1 hcm with h | h
       ·exact hc c h
       ·simp at h;rw[h,←hu];show ca.length≤3;omega
    ·obtain rfl:j=cons.length:=by omega
     rw[List.take_length]at hc;simp[zmC];rw[wr (by omega)];refine hKb4 _ _ ⟨data.length-(i+1),by omega,Back.here (Nat.le_refl _) hs ?_ ⟨_,rfl,i+1,by omega,rfl,rfl,λD hDm=>?_,rfl⟩⟩
     ·simp[zmE,ux,AV.sc,AV.scA,AV.scB,AV.scV]
     ·rw[List.take_succ_eq_append_getElem hlt]at hDm;rcases List.mem_append.1 hDm with h | h
      ·exact hk D h
      ·simp at h;rw[h,←hv];exact⟨by show cons.length≤3;omega,hc⟩
  ·obtain rfl:i=data.length:=by omega
   rw[List.take_length]at hk;simp[zmB];refine zO1 (Inv:=λq t60 H2=>∃j:Nat,j≤l.length∧l.length-j=q∧t60=.int .i64 j∧H2=H') l.length ?_ ?_
   ·intro _;exact⟨0,by omega,rfl,rfl,rfl⟩
   ·rintro q t60 H2 ⟨j,hj,rfl,rfl,rfl⟩ hsc9 hlen9 hsF9 Kb9 hKb9;by_cases hlj:j<l.length
    ·obtain⟨x,y,z,hvx,hx,hy,hz⟩:=zaO l[j];simp[zsd,hlj,hvx];rw[←hvx];refine zLk _ _ (Nat.le_refl _) (ht _ (List.getElem_mem hlj)) _ _ λr=>?_;by_cases h8:8<r
     ·simp[h8];exact hF0
     ·simp[h8];rw[wr (by omega)];refine hKb9 _ _ ⟨l.length-(j+1),by omega,Back.here (Nat.le_refl _) hs ?_ ⟨_,rfl,j+1,by omega,rfl,rfl,rfl⟩⟩;simp[zmD,ux,AV.sc,AV.scA,AV.scB,AV.scV]
    ·obtain rfl:j=l.length:=by omega
     simp[zsd];exact zbx hs rfl rfl (hK true λ_=>⟨by omega,by omega,by omega,hk⟩)
theorem zKm(data:List Dat)(hF:zcY data)(hl:data.length≤1000000)(l:List VT)(hll:l.length≤1000000)(ht:zcw l)(n:Int)(hn:n≤1000000)(xs:List Int)(hxl:xs.length≤1000000)(H:zaa)(K:Kt)(hK:∀b:Bool,K (.bool b) H):ACalls tP zov [.sl (data.map Dat.cs) .none,.sl (VT.css l) .none,.int .i64 n,.sl (ints xs) .none] H K:=by
 refine ACalls.out (zKl λhs=>?_);have hO:∀b,Out H.length K (.bool b) H:=λb=>zbx hs rfl rfl (hK b);simp[zyB];refine zKh (Inv:=λq t9 t17 H'=>∃(i:Nat) (b:Bool),i≤data.length∧data.length-i=q∧t17=.int .i64 i∧t9=.bool b∧H'=H) data.length ?_ ?_
 ·intro _;exact⟨0,false,by omega,rfl,rfl,rfl,rfl⟩
 ·rintro q t9 t17 H' ⟨i,b,hi,rfl,rfl,rfl,rfl⟩ hsc3 hlen3 hsF3 Kb3 hKb3;by_cases hlt:i<data.length
  ·have hDm:=List.getElem_mem hlt;obtain⟨⟨nm,vs,cons⟩,hv⟩:∃ u,u=data[i]:=⟨_,rfl⟩;have hcl:Dat.cs (data[i])=[.str nm,.int .i64 vs,.sl (cons.map Con.cs) .none]:=by rw[←hv];rfl
   have hFD:=hF _ hDm;rw[←hv]at hFD;obtain⟨hcn,hca⟩:=hFD;have hcn:cons.length≤1000000:=hcn;have hca:∀c∈cons,c.args.length≤1000000∧∀x∈c.args,za1 x:=hca;simp[zqZ,hlt,hcl];refine zKi (Inv:=λq t9 t26 H2=>∃(j:Nat) (b:Bool),j≤cons.length∧cons.length-j=q∧t26=.int .i64 j∧t9=.bool b∧H2=H') cons.length ?_ ?_
   ·intro _;exact⟨0,b,by omega,rfl,rfl,rfl,rfl⟩
   ·rintro q t9 t26 H2 ⟨j,b2,hj,rfl,rfl,rfl,rfl⟩ hsc6 hlen6 hsF6 Kb6 hKb6;by_cases hlj:j<cons.length
    ·have hcm:=List.getElem_mem hlj;obtain⟨⟨cn,ca⟩,hu⟩:∃ u,u=cons[j]:=⟨_,rfl⟩;have hcc:Con.cs (cons[j])=[.str cn,.sl (VT.css ca) .none]:=by rw[←hu];rfl
     have hcj:=hca _ hcm;rw[←hu]at hcj;have next:∀b3:Bool,Kb6 (zih (.sl (data.map Dat.cs) .none) (.sl (VT.css l) .none) (.int .i64 n) (.sl (ints xs) .none) (.bool b3) (.int .i64 data.length) (.int .i64 i) (.sl (cons.map Con.cs) .none) (.int .i64 cons.length) (.int .i64 (j+1:Nat))) (H2++[.cells [.str cn,.sl (VT.css ca) .none]]):=λb3=>
      hKb6 _ _ ⟨cons.length-(j+1),by omega,Back.at (J:=[.cells [.str cn,.sl (VT.css ca) .none]]) (H2:=H2) rfl (Nat.le_refl _) hs (by simp[zih,ux,AV.sc,AV.scA,AV.scB,AV.scV]) ⟨_,_,rfl,j+1,b3,by omega,rfl,rfl,rfl,rfl⟩⟩
     cases b2 with
     |true=>simp[zlq,hlj,hcc,AV.known];rw[wr (by omega)];exact next true
     |false=>simp[zlq,hlj,hcc,AV.known];refine zrP _ ca (Nat.le_refl _) (by have:=hcj.1;simp only at this;omega) (znJ hcj.2) _ _ λb3=>?_;rw[wr (by omega)];exact next b3
    ·obtain rfl:j=cons.length:=by omega
     simp[zlq];rw[wr (by omega)];refine hKb3 _ _ ⟨data.length-(i+1),by omega,Back.here (Nat.le_refl _) hs ?_ ⟨_,_,rfl,i+1,b2,by omega,rfl,rfl,rfl,rfl⟩⟩;simp[zls,ux,AV.sc,AV.scA,AV.scB,AV.scV]
  ·obtain rfl:i=data.length:=by omega
   simp[zqZ];refine zKg (Inv:=λq t13 t14 H2=>∃(j:Nat) (r:Int),(n.toNat+1)-j=q∧j≤n.toNat∧t14=.int .i64 j∧t13=.int .i64 r∧H2=H') (n.toNat+1) ?_ ?_
   ·intro _;exact⟨0,1,rfl,by omega,rfl,rfl,rfl⟩
   ·rintro q t13 t14 H2 ⟨j,r,rfl,hj,rfl,rfl,rfl⟩ hsc13 hlen13 hsF13 Kb13 hKb13;have fin:∀c:Bool,zfO (.sl (VT.css l) .none) (.int .i64 n) (.sl (ints xs) .none) (.bool b) (.int .i64 r) (.int .i64 j) H2 (Out H2.length K) Kb13:=by
     intro c;by_cases h1:(j:Int)<n
     ·by_cases h2:r<1000000
      ·simp[zfO,h1,h2,zdp];rw[wr (by omega)];refine hKb13 _ _ ⟨(n.toNat+1)-(j+1),by omega,Back.here (Nat.le_refl _) hs ?_ ⟨_,_,rfl,j+1,_,rfl,by omega,rfl,rfl,rfl⟩⟩;simp[zlr,ux,AV.sc,AV.scA,AV.scB,AV.scV]
      ·cases b with
       |true=>simp[zfO,h1,h2];exact hO _
       |false=>
        simp[zfO,h1,h2];refine zrP _ l (Nat.le_refl _) (by omega) ht _ _ λb3=>?_;cases b3 with
        |true=>simp;exact hO _
        |false=>simp;exact hO _
     ·cases b with
       |true=>simp[zfO,h1];exact hO _
       |false=>
        simp[zfO,h1];refine zrP _ l (Nat.le_refl _) (by omega) ht _ _ λb3=>?_;cases b3 with
        |true=>simp;exact hO _
        |false=>simp;exact hO _
    exact fin true
theorem ztu{v w:VT}(h:VT.cmp v w=0):v=w:=(zvU v w).1 ((VT.cmp_zero v w).1 h)
theorem zFX(a b:VT)(h1:vle a b)(h2:vle b a):a=b:=by unfold vle at h1 h2;have:=VT.cmp_anti a b;exact ztu (by omega)
theorem zFY{a b c:VT}(h1:vle a b)(h2:vle b c):vle a c:=by unfold vle at *;have:=VT.cmp_tri a b c;have a1:=VT.cmp_anti a b;have a2:=VT.cmp_anti b c;have a3:=VT.cmp_anti a c;unfold Tri at this;omega
def leB(a b:VT):Bool:=!decide (VT.cmp b a<0)
theorem zi7(a b:VT):leB a b=true↔vle a b:=by simp[leB,vle]
def srt(W:List VT):List VT:=W.mergeSort leB
theorem zpm(W:List VT):(srt W).Perm W:=List.mergeSort_perm W leB
theorem zwd(W:List VT):(srt W).Pairwise vle:=
 (List.pairwise_mergeSort (le:=leB) (λa b c h1 h2=>(zi7 a c).2 (zFY ((zi7 a b).1 h1) ((zi7 b c).1 h2))) (λa b=>by
  have:=VT.cmp_anti a b;simp[leB];omega) W).imp λh=>(zi7 _ _).1 h
theorem zFk{V W:List VT}(hp:V.Perm W)(hs:V.Pairwise vle):V=srt W:=
 List.Perm.eq_of_pairwise (le:=vle) (λa b _ _=>zFX a b) hs (zwd W) (hp.trans (zpm W).symm)
def zdI(data:List Dat)(t:VT)(n:Int)(xs:List Int):List VT:=srt (vV data xs t n.toNat)
theorem zxc{data:List Dat}(hF:zcY data)(hl:data.length≤1000000)(hk:Kpt data)(t:VT)(ht:za1 t)(xs:List Int)(hxl:xs.length≤1000000)(n:Int)(hn:n≤14∨24<n)(H:zaa)(h0:H[0]?=some .nodr)(K:Kt)(hE:zbA data [t] n xs≠0→K (.tup [.sl [] .none,.int .i64 (zbA data [t] n xs)]) H)(hK:zbA data [t] n xs=0→K (.tup [.sl (VT.css (zdI data t n xs)) .none,.int .i64 0]) H):
  ACalls tP zeU [.sl (data.map Dat.cs) .none,.agg t.cs,.int .i64 n,.sl (ints xs) .none] H K:=
 zGU hF hl hk t ht xs hxl n hn H h0 K hE λh V hp hs=>by rw[zFk hp hs];exact hK h
def tA:VT:=.mk 4 0 []
def tL:VT:=.mk 5 0 [tA]
def lstD:List Dat:=[⟨[76],1,[⟨[78],[]⟩,⟨[67],[tA,tL]⟩]⟩]
def tLI:VT:=.mk 5 0 [.mk 1 0 []]
theorem zrc(H:zaa)(K:Kt)(hK:K (.sl (lstD.map Dat.cs) .none) H):ACalls tP zhz [] H K:=by refine ACalls.out (zLd λhs=>?_);simp[zyX,zaq,zaN,AV.known,zar,za3,plain,AV.pd];exact Out.at (H2:=H) (J:=_) rfl (Nat.le_refl _) hs (.atom (.sl _ _)) rfl rfl hK
theorem zDg:zbW lstD tLI=true:=by decide +kernel
theorem zuO:cV lstD 2 tLI 1=1:=by decide +kernel
theorem zuP:cV lstD 2 tLI 2=0:=by decide +kernel
theorem zuQ:cV lstD 2 tLI 5=4:=by decide +kernel
theorem zDj:zey [0,1]:=by
 refine⟨by decide,λi hi=>?_⟩;simp at hi
 match i,hi with
 |0,_=>exact⟨by decide,by decide,λh=>absurd h (by omega)⟩
 |1,_=>exact⟨by decide,by decide,λ_=>by decide⟩
theorem znu(g:VT→Nat→Nat)(t:VT)(n:Nat)(h0:g t 0=0):cL g [t] n=g t n:=by
 rw[cL];simp only[cL];rw[sm,Nat.sub_self,if_pos rfl,Nat.mul_one];have:sm n (λs=>g t s*if n-s=0 then 1 else 0)=sm n λ_=>0:=zb2 λs hs=>by rw[if_neg (by omega),Nat.mul_zero]
 rw[this,zpk,Nat.zero_add]
theorem zDf{n:Nat}(hn:n≤24)(hc:cV lstD 2 tLI n≤2000):zbA lstD [tLI] n [0,1]=0:=by
 unfold zbA;have h1:¬ ∃t∈[tLI],zbW lstD t=false:=λ⟨t,ht,h⟩=>by simp at ht;subst ht;rw[zDg]at h;cases h
 rw[if_neg (by decide),if_neg h1,if_neg (λh=>h.elim (λh=>by omega) λh=>h.elim (λh=>by omega) λh=>h zDj),if_neg];show ¬ 2000<cL (cV lstD 2) [tLI] n;rw[znu _ _ _ (zbF lstD 2 tLI)];show ¬ 2000<cV lstD 2 tLI n;omega
theorem zDh:zcY lstD:=λD hD=>by
 simp[lstD]at hD;subst hD;refine⟨by decide,λc hc=>?_⟩;simp at hc;rcases hc with rfl|rfl
 ·exact⟨by decide,by simp⟩
 ·refine⟨by decide,λx hx=>?_⟩;simp at hx;rcases hx with rfl|rfl <;> simp[tA,tL,za1,zcw]
theorem zDk:Kpt lstD:=λD hD=>by simp[lstD]at hD;subst hD;refine⟨by decide,λc hc=>?_⟩;simp at hc;rcases hc with rfl|rfl <;> decide
theorem ziD(data:List Dat)(t:VT)(n:Nat)(xs:List Int):(zdI data t n xs).length=cV data xs.length t n:=by unfold zdI;rw[(zpm _).length_eq,zdZ];rfl
theorem znh(n:Nat)(hn:n≤14)(hc:cV lstD 2 tLI n≤2000)(H:zaa)(h0:H[0]?=some .nodr)(K:Kt)(hK:K (.tup [.sl (VT.css (zdI lstD tLI n [0,1])) .none,.int .i64 0]) H):
  ACalls tP zeU [.sl (lstD.map Dat.cs) .none,.agg [.int .i64 5,.int .i64 0,.sl [[.int .i64 1,.int .i64 0,.sl [] .none]] .full],.int .i64 n,.sl [[.int .i64 0],[.int .i64 1]] .full] H K:=by
 refine ACalls.wk (args':=[.sl (lstD.map Dat.cs) .none,.agg tLI.cs,.int .i64 n,.sl (ints [0,1]) .none]) ?_ ⟨.atom (.refl _),.agg ⟨.refl _,.refl _,.sl _ _,trivial⟩,.atom (.refl _),.atom (.sl _ _),trivial⟩;exact zxc zDh (by decide) zDk tLI (by simp[tLI,za1,zcw]) [0,1] (by decide) n (by omega) H h0 K (λh=>absurd (zDf (by omega) hc) h) λ_=>hK
theorem zzU(H:zaa)(h0:H[0]?=some .nodr)(K:Kt)(hK:K (.bool true) H):ACalls tP zjD [] H K:=by
 refine ACalls.out (zNR λhs=>?_);have hlt0:0<H.length:=(List.getElem?_eq_some_iff.1 h0).1;have g0:∀J:zaa,(H++J)[0]?=some .nodr:=λJ=>by rw[List.getElem?_append_left hlt0];exact h0
 simp[zq5,zaq,zaN,AV.known,zar,za3,plain,AV.pd];refine zaC _ (λJ=>zrc _ _ ⟨rfl,rfl⟩) ?_;refine zaC _ (λJ=>znh 1 (by omega) (by rw[zuO];omega) _ (by rw[List.append_assoc];exact g0 _) _ ⟨rfl,rfl⟩) ?_;simp;refine zaC _ (λJ=>zrc _ _ ⟨rfl,rfl⟩) ?_;refine zaC _ (λJ=>znh 2 (by omega) (by rw[zuP];omega) _ (by rw[List.append_assoc];exact g0 _) _ ⟨rfl,rfl⟩) ?_;simp;refine zaC _ (λJ=>zrc _ _ ⟨rfl,rfl⟩) ?_;refine zaC _ (λJ=>znh 5 (by omega) (by rw[zuQ];omega) _ (by rw[List.append_assoc];exact g0 _) _ ⟨rfl,rfl⟩) ?_;have l1:(zdI lstD tLI 1 [0,1]).length=1:=(ziD lstD tLI 1 [0,1]).trans zuO;have l2:(zdI lstD tLI 2 [0,1]).length=0:=(ziD lstD tLI 2 [0,1]).trans zuP;have l5:(zdI lstD tLI 5 [0,1]).length=4:=(ziD lstD tLI 5 [0,1]).trans zuQ;simp[l1,l2,l5];exact Out.at (H2:=H) (J:=_) rfl (Nat.le_refl _) hs .rfl' rfl rfl hK
end Go.Proofs.YtaifokkaaahdoaaGreatDoor
namespace Go.Proofs.YtaifokkaaahdoaaGreatDoor
open Go Go.Abs
set_option maxRecDepth 100000
end Go.Proofs.YtaifokkaaahdoaaGreatDoor

namespace Go.Abs
def chs:Nat→Nat→Nat
 |_,0=>1
 |0,_+1=>0
 |n+1,k+1=>chs n k+chs n (k+1)
@[simp] theorem zTv(n:Nat):chs n 0=1:=by cases n <;> rfl
end Go.Abs
namespace Go.Proofs.YtaifokkaaahdoaaGreatDoor
open Go Go.Abs
end Go.Proofs.YtaifokkaaahdoaaGreatDoor
namespace Go.Proofs.YtaifokkaaahdoaaGreatDoor
open Go Go.Abs
set_option maxRecDepth 100000
def zlN:Nat→List Bool
 |10=>rl false [0,1,2,2,1,2,3,1,1,2,69]
 |_=>[]
noncomputable def zrm:Code:=Tryz.f5.body.getD .skip
noncomputable def zMa:List ResultVar:=Tryz.f5.results.toList
def zlO(t0 t3 t4 t6 t7 t11 t13 t14:AV):List AV:=t0::ux 2 (t3::t4::ux 1 (t6::t7::ux 3 (t11::ux 1 (t13::t14::ux 69 []))))
def zL8:List Bool:=zlN 10
noncomputable def zL6:Code:=zat [1,1,1,1,1,1,0,1,0,0] zrm
def zL5(K:Kt):AExit→List AV→zaa→Prop:=zau tP zlN [1,1,1,1,1,1,0,1,0] zrm (zaz tP zMa K)
def zze(t0 t3 t4 t6 t7 t11 t13 t14:AV)(H:zaa)(K:Kt):Prop:=ALoop tP zL6 (zL5 K) (zlO t0 t3 t4 t6 t7 t11 t13 t14) H
def zrl(t0 t3 t4 t6 t7 t11 t13 t14:AV)(H:zaa)(K:Kt)(Kb10:Lt):Prop:=
 zac .leq false t14 t3 λt44=>
 zag t44
 (zae true 3 t6 H λt49=>
 zah 1 t4 λt52=>
 ACalls tP zhr [t0,t49,t14,t52] H λt53 H=>
 zaG t53 0 λt54=>
 zaG t53 1 λt55=>
 zaw [(.bool false),.snil,.snil] H λt15 H=>
 zak 3 t15 t54 H λH=>
 zae true 3 t7 H λt58=>
 zac .sub false t3 t14 λt61=>
 zah 1 t4 λt63=>
 ACalls tP zhr [t0,t58,t61,t63] H λt64 H=>
 zaG t64 0 λt65=>
 zaG t64 1 λt66=>
 zaw [(.bool false),.snil,.snil] H λt17 H=>
 zak 3 t17 t65 H λH=>
 zac .neq false t55 (.int .i64 0) λt68=>
 zad t68 false H (λK'=>K' t66 H) λt70 H=>
 zad t68 false H (λK'=>zac .neq false t70 (.int .i64 0) (K' · H)) λt71 H=>
 zao t68 (.bool true) t71 λt72=>
 zag t72
 (K (.bool false) H)
 (zab H (λK'=>zam true 3 t13 H (K' · H)) λt73=>
 zab H (λK'=>zam true 3 t15 H (K' · H)) λt74=>
 zab H (λK'=>zam true 3 t17 H (K' · H)) λt75=>
 zaA H (λH K'=>ACalls tP zos [t74,t75] H K') λt76=>
 zaA H (λH K'=>ACalls tP zjq [t73,t76] H K') λt77=>
 zak 3 t13 t77 H λH=>
 zac .add false t14 (.int .i64 1) λt46=>
 Kb10 (zlO t0 t3 t4 t6 t7 t11 t13 t46) H))
 (zab H (λK'=>zam true 3 t13 H (K' · H)) λt78=>
 zab H (λK'=>K' t11 H) λt79=>
 zab H (λK'=>zah 1 t79 (K' · H)) λt80=>
 zaA H (λH K'=>ACalls tP zhu [t80] H K') λt81=>
 zaA H (λH K'=>ACalls tP zji [t78,t81] H K') λt82=>
 zab H (λK'=>zac .eql false t82 (.int .i64 0) (K' · H)) λt83=>
 zab H (λK'=>K' t83 H) λt10=>
 K t10 H)
def zq3(t0 t1 t2 t3 t4:AV)(H:zaa)(K:Kt):Prop:=
 zas t1 H λt6 H=>
 zas t2 H λt7 H=>
 ACalls tP zjD [] H λt19 H=>
 aUn .not t19 λt20=>
 zag t20
 (K (.bool false) H)
 (zae true 3 t6 H λt22=>
 zae true 3 t7 H λt23=>
 zar 3 [(.int .i64 0),(.int .i64 0),.snil] 2 [(0,t22),(1,t23)] λt24=>
 ACalls tP zjL [t0,t24,t3,t4] H λt27 H=>
 aUn .not t27 λt28=>
 zag t28
 (K (.bool true) H)
 (zae true 3 t6 H λt31=>
 zae true 3 t7 H λt32=>
 zar 3 [(.int .i64 0),(.int .i64 0),.snil] 2 [(0,t31),(1,t32)] λt33=>
 ACalls tP zjm [t0,t33,t3,t4] H λt36 H=>
 zaG t36 0 λt37=>
 zaG t36 1 λt38=>
 zac .neq false t38 (.int .i64 0) λt40=>
 zag t40
 (K (.bool true) H)
 (ACalls tP zhu [(.int .i64 0)] H λt41 H=>
 zaw [(.bool false),.snil,.snil] H λt13 H=>
 zak 3 t13 t41 H λH=>
 zze t0 t3 t4 t6 t7 t37 t13 (.int .i64 0) H K)))
theorem zL7{t0 t3 t4 t6 t7 t11 t13 t14:AV}{H:zaa}{K:Kt}(Inv:Nat→AV→zaa→Prop)(n:Nat)(h0:HSc H→Inv n t14 H)(round:Rd1 (λt14=>zlO t0 t3 t4 t6 t7 t11 t13 t14) (λt14=>λH Kb10=>zrl t0 t3 t4 t6 t7 t11 t13 t14 H K Kb10) H Inv):zze t0 t3 t4 t6 t7 t11 t13 t14 H K:=
 lp1 (M:=zlN) zL8 t14 (by kernel_rfl) Inv n h0 round
theorem zL9{t0 t1 t2 t3 t4:AV}{H:zaa}{K:Kt}(h:HSc H→zq3 t0 t1 t2 t3 t4 H K):ACalls tP zoC [t0,t1,t2,t3,t4] H K:=
 zap (M:=zlN) Tryz.func5 (c:=zrm) (by kernel_rfl) (λhs=>Eq.mpr (by kernel_rfl) (h hs))
def zl2:Nat→List Bool
 |12=>rl false [0,1,1,1,2,1,3,1,55,3,30]
 |_=>[]
noncomputable def zrC:Code:=Tryz.f6.body.getD .skip
noncomputable def zMY:List ResultVar:=Tryz.f6.results.toList
def zim(t0 t2 t5 t9 t65 t66 t67:AV):List AV:=t0::ux 1 (t2::ux 2 (t5::ux 3 (t9::ux 55 (t65::t66::t67::ux 30 []))))
def zMW:List Bool:=zl2 12
noncomputable def zMU:Code:=zat [1,1,1,1,1,1,1,0,1,0,0] zrC
def zMT(K:Kt):AExit→List AV→zaa→Prop:=zau tP zl2 [1,1,1,1,1,1,1,0,1,0] zrC (zaz tP zMY K)
def zzA(t0 t2 t5 t9 t65 t66 t67:AV)(H:zaa)(K:Kt):Prop:=ALoop tP zMU (zMT K) (zim t0 t2 t5 t9 t65 t66 t67) H
def zrB(t0 t2 t5 t9 t65 t66 t67:AV)(H:zaa)(K:Kt)(Kb12:Lt):Prop:=
 zac .lss false t67 t66 λt68=>
 zag t68
 (zai 3 t65 t67 λt70=>
 zae true 3 t70 H λt71=>
 zaw [(.int .i64 0),(.int .i64 0),.snil] H λt14 H=>
 zak 3 t14 t71 H λH=>
 zab H (λK'=>K' t0 H) λt72=>
 zab H (λK'=>zam true 3 t14 H (K' · H)) λt73=>
 zab H (λK'=>zam true 3 t5 H (K' · H)) λt74=>
 zaA H (λH K'=>ACalls tP zow [t72,t73,t74] H K') λt75=>
 zab H (λK'=>aUn .not t75 (K' · H)) λt76=>
 zab H (λK'=>K' t76 H) λt77=>
 zad t77 false H (λK'=>zab H (λK''=>zam true 3 t14 H (K'' · H)) (K' · H)) λt78 H=>
 zad t77 false H (λK'=>zaA H (λH K''=>ACalls tP zjt [t78] H K'') (K' · H)) λt79 H=>
 zad t77 false H (λK'=>zab H (λK''=>K'' t2 H) (K' · H)) λt80 H=>
 zad t77 false H (λK'=>zab H (λK''=>zac .neq false t79 t80 (K'' · H)) (K' · H)) λt81 H=>
 zab H (λK'=>zao t77 (.bool true) t81 (K' · H)) λt82=>
 zab H (λK'=>K' t82 H) λt83=>
 zad t83 false H (λK'=>zab H (λK''=>K'' t67 H) (K' · H)) λt84 H=>
 zad t83 false H (λK'=>zab H (λK''=>zac .gtr false t84 (.int .i64 0) (K'' · H)) (K' · H)) λt85 H=>
 zad t83 false H (λK'=>zab H (λK''=>K'' t85 H) (K' · H)) λt86 H=>
 zad t86 true H (λK'=>zab H (λK''=>K'' t9 H) (K' · H)) λt87 H=>
 zad t86 true H (λK'=>zab H (λK''=>K'' t67 H) (K' · H)) λt88 H=>
 zad t86 true H (λK'=>zab H (λK''=>zac .sub false t88 (.int .i64 1) (K'' · H)) (K' · H)) λt89 H=>
 zad t86 true H (λK'=>zab H (λK''=>zai 3 t87 t89 (K'' · H)) (K' · H)) λt90 H=>
 zad t86 true H (λK'=>zab H (λK''=>zam true 3 t90 H (K'' · H)) (K' · H)) λt91 H=>
 zad t86 true H (λK'=>zab H (λK''=>zam true 3 t14 H (K'' · H)) (K' · H)) λt92 H=>
 zad t86 true H (λK'=>zaA H (λH K''=>ACalls tP zfw [t91,t92] H K'') (K' · H)) λt93 H=>
 zad t86 true H (λK'=>zab H (λK''=>zac .geq false t93 (.int .i64 0) (K'' · H)) (K' · H)) λt94 H=>
 zad t83 false H (λK'=>zab H (λK''=>zao t86 t94 (.bool false) (K'' · H)) (K' · H)) λt95 H=>
 zab H (λK'=>zao t83 (.bool true) t95 (K' · H)) λt96=>
 zag t96
 (K (.bool false) H)
 (zac .add false t67 (.int .i64 1) λt97=>
 Kb12 (zim t0 t2 t5 t9 t65 t66 t97) H))
 (K (.bool true) H)
def zq4(t0 t1 t2 t3:AV)(H:zaa)(K:Kt):Prop:=
 zas t1 H λt5 H=>
 ACalls tP zjD [] H λt15 H=>
 aUn .not t15 λt16=>
 zag t16
 (K (.bool false) H)
 (zae true 3 t5 H λt18=>
 zar 3 [(.int .i64 0),(.int .i64 0),.snil] 1 [(0,t18)] λt19=>
 ACalls tP zjL [t0,t19,t2,t3] H λt22 H=>
 aUn .not t22 λt23=>
 zad t23 false H (λK'=>K' t0 H) λt25 H=>
 zad t23 false H (λK'=>zae true 3 t5 H (K' · H)) λt26 H=>
 zad t23 false H (λK'=>zar 3 [(.int .i64 0),(.int .i64 0),.snil] 1 [(0,t26)] (K' · H)) λt27 H=>
 zad t23 false H (λK'=>K' t2 H) λt28 H=>
 zad t23 false H (λK'=>K' t3 H) λt29 H=>
 zad t23 false H (λK'=>ACalls tP zov [t25,t27,t28,t29] H K') λt30 H=>
 zad t23 false H (λK'=>aUn .not t30 (K' · H)) λt31 H=>
 zao t23 (.bool true) t31 λt32=>
 zag t32
 (K (.bool true) H)
 (zae true 3 t5 H λt35=>
 ACalls tP zeU [t0,t35,t2,t3] H λt38 H=>
 zaG t38 0 λt39=>
 zaG t38 1 λt40=>
 zac .neq false t40 (.int .i64 0) λt42=>
 zag t42
 (zah 1 t39 λt44=>
 zac .eql false t44 (.int .i64 0) λt45=>
 K t45 H)
 (zae true 3 t5 H λt48=>
 zah 1 t3 λt51=>
 ACalls tP zhr [t0,t48,t2,t51] H λt52 H=>
 zaG t52 0 λt53=>
 zaG t52 1 λt54=>
 zaw [(.bool false),.snil,.snil] H λt11 H=>
 zak 3 t11 t53 H λH=>
 zab H (λK'=>K' t54 H) λt55=>
 zab H (λK'=>zac .neq false t55 (.int .i64 0) (K' · H)) λt56=>
 zab H (λK'=>K' t56 H) λt57=>
 zad t57 false H (λK'=>zab H (λK''=>zam true 3 t11 H (K'' · H)) (K' · H)) λt58 H=>
 zad t57 false H (λK'=>zab H (λK''=>K'' t39 H) (K' · H)) λt59 H=>
 zad t57 false H (λK'=>zab H (λK''=>zah 1 t59 (K'' · H)) (K' · H)) λt60 H=>
 zad t57 false H (λK'=>zaA H (λH K''=>ACalls tP zhu [t60] H K'') (K' · H)) λt61 H=>
 zad t57 false H (λK'=>zaA H (λH K''=>ACalls tP zji [t58,t61] H K'') (K' · H)) λt62 H=>
 zad t57 false H (λK'=>zab H (λK''=>zac .neq false t62 (.int .i64 0) (K'' · H)) (K' · H)) λt63 H=>
 zab H (λK'=>zao t57 (.bool true) t63 (K' · H)) λt64=>
 zag t64
 (K (.bool false) H)
 (zah 1 t39 λt66=>
 zzA t0 t2 t5 t39 t39 t66 (.int .i64 0) H K))))
theorem zMV{t0 t2 t5 t9 t65 t66 t67:AV}{H:zaa}{K:Kt}(Inv:Nat→AV→zaa→Prop)(n:Nat)(h0:HSc H→Inv n t67 H)(round:Rd1 (λt67=>zim t0 t2 t5 t9 t65 t66 t67) (λt67=>λH Kb12=>zrB t0 t2 t5 t9 t65 t66 t67 H K Kb12) H Inv):zzA t0 t2 t5 t9 t65 t66 t67 H K:=
 lp1 (M:=zl2) zMW t67 (by kernel_rfl) Inv n h0 round
theorem zMX{t0 t1 t2 t3:AV}{H:zaa}{K:Kt}(h:HSc H→zq4 t0 t1 t2 t3 H K):ACalls tP zoG [t0,t1,t2,t3] H K:=
 zap (M:=zl2) Tryz.func6 (c:=zrC) (by kernel_rfl) (λhs=>Eq.mpr (by kernel_rfl) (h hs))
end Go.Proofs.YtaifokkaaahdoaaGreatDoor
