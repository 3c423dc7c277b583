import Derived.Test.YtaifokkaaahdoaaGreatDoorLF7
import Derived.Test.YtaifokkaaahdoaaGreatDoorLE4
import Derived.Test.YtaifokkaaahdoaaGreatDoorKNum
import Derived.Test.YtaifokkaaahdoaaGreatDoorProg
import Derived.KernelRfl
set_option linter.unusedSectionVars false
set_option linter.unusedSimpArgs false
set_option linter.unusedVariables false
set_option maxRecDepth 8000
namespace Go.Proofs.YtaifokkaaahdoaaGreatDoor
open Go Go.Abs
theorem ConOk.len{T:List VT}:∀ {ws:List (Int × List VT)} {cs:List (Int × List Nat)},ConOk T ws cs→cs.length=ws.length
 |[],[],_=>rfl
 |[],_::_,h=>h.elim
 |_::_,[],h=>h.elim
 |w::ws,c::cs,h=>by rw[List.length_cons,List.length_cons,ConOk.len h.2]
theorem ConOk.at'{T:List VT}:∀ {ws:List (Int × List VT)} {cs:List (Int × List Nat)},ConOk T ws cs→∀ (k:Nat) (h1:k<ws.length) (h2:k<cs.length),ws[k].1=cs[k].1∧IdxOk T ws[k].2 cs[k].2
 |[],[],_,k,h1,_=>by simp at h1
 |[],_::_,h,_,_,_=>h.elim
 |_::_,[],h,_,_,_=>h.elim
 |w::ws,c::cs,h,0,_,_=>h.1
 |w::ws,c::cs,h,k+1,h1,h2=>by simpa using ConOk.at' h.2 k (by simpa using h1) (by simpa using h2)
theorem zwT{f:Int×List VT→Nat}{ws:List (Int×List VT)}{k:Nat}(h:k<ws.length):((ws.take (k+1)).map f).sum=((ws.take k).map f).sum+f ws[k]:=by rw[List.take_succ_eq_append_getElem h,List.map_append,List.sum_append];simp
theorem zpY{f:Int×List VT→Nat}{ws:List (Int×List VT)}(k:Nat):((ws.take k).map f).sum≤(ws.map f).sum:=by
 have:(ws.map f).sum=((ws.take k).map f).sum+((ws.drop k).map f).sum:=by rw[←List.sum_append,←List.map_append,List.take_append_drop]
 omega
section
variable {data:List Dat} (hD:zaD data=true) (hk:Kpt data) {kk:Nat} (hkk:kk≤8) {X:List VT} (hX:X.length≤1000000000000) {I:SI}
include hD hk hkk hX
theorem zCL{n:Nat}(hn:n<14)(ih:∀ m,m≤n→zcD data kk X I m){S:SS}{i:Nat}{t:VT}(hI:zaZ data kk X S)(hti:S.types[i]?=some t)(hg:zd0 S.cnt ((i:Int),((n+1:Nat):Int))=none)(hk7:t.kind=7)(hR:Rch data X (n+1) t):
  ∃S' o,zaZ data kk X S'∧S.types <+: S'.types∧vO o=cV data kk t (n+1)∧zej data kk I S S' i (n+1) o:=by
 have hv:=hI.vd t (List.mem_of_getElem? hti);obtain⟨k,m,ks⟩:=t;change k=7 at hk7;subst hk7;have hkl:ks.length=1:=by have hs:=zdN hv;unfold okT at hs;rw[zaz,Bool.and_eq_true]at hs;have hs:=hs.1;simp[zaC]at hs;exact hs.2
 obtain⟨u,rfl⟩:∃u,ks=[u]:=by
  match ks,hkl with
  |[u],_=>exact⟨u,rfl⟩
 have hR1:Rch data X n u:=by
  cases hR with
  |arr _ _ h=>exact h
  |mk _ h _=>exact absurd rfl h
 have hu:=zed hv u (by simp);have hI1:=zoq hD hI hu hR1.mem;have he1:=zoo hD (S:=S) u;have hg1:=zop hD hI hu;obtain⟨S2,o,h1,h2,h3,h4⟩:=zwy hD hk hkk hX (show n≤14 by omega) ih hI1 hg1 hR1;have hti2:=zc6 (he1.trans h2) hti;obtain⟨N,hN⟩:∃N,N=n+1:=⟨_,rfl⟩;have hcv:vO o=cV data kk (.mk 7 m [u]) N:=by rw[hN,zeX,h3];simp[VT.kind,zcn]
 refine⟨zdL S2 ((i:Int),((n+1:Nat):Int)) o,o,zpC h1 hti2 (by rw[←hN];exact hcv),he1.trans h2,by rw[←hN];exact hcv,?_⟩;rw[←hN]at hg ⊢;intro H hS h0 K hK;refine ACalls.out (ziQ λhs=>?_);have hlt0:0<H.length:=(List.getElem?_eq_some_iff.1 h0).1;have hnl:¬((N:Int)<1):=by omega
 have lp:=(List.getElem?_eq_some_iff.1 hS.hp).1;have hp:=(hS.app (J:=[.cells (zal none)])).hp;have hmc:=(hS.app (J:=[.cells (zal none)])).hmc;have hp3:=(hS.app (J:=[.cells (zal none),.cells (zal none),.cells (zal (some 0))])).hp;have hit3:=(hS.app (J:=[.cells (zal none),.cells (zal none),.cells (zal (some 0))])).hit;have hil:=(List.getElem?_eq_some_iff.1 hti).1;have hta:=zfg S.types i _ hti;have htl:=zfh S.types;have hk0:(zbN S.types)[i*3]?=some (.int .i64 7):=by have:=congrArg (λl=>l[0]?) hta;simp only[VT.cs,List.getElem?_take,List.getElem?_drop]at this;simpa using this
 have hk2:(zbN S.types)[i*3+2]?=some (.sl (VT.css [u]) .none):=by have:=congrArg (λl=>l[2]?) hta;simp only[VT.cs,List.getElem?_take,List.getElem?_drop]at this;simpa using this
 simp only[zhb,zrO];simp[hp,hmc,hnl,zao,zaM,zjF,zhB,hg];refine zfo 0 (by omega) _ _ ?_;obtain⟨x1,x2,x3,hvx,hxa,hxb,hxc⟩:=zaL u;simp[zku,List.set_append_right,Nat.add_assoc,hp3,hit3,hil,zdc _ hk0,zdc _ hk2,VT.css,hvx];rw[←hvx];have hSJ:=hS.app (J:=[.cells (zal none),.cells (zal none),.cells (zal (some 0))]);have hlen:=hI.len;refine zkD hD hSJ (by rw[List.getElem?_append_left hlt0];exact h0) u hu (by omega) _ ?_;have hwn:IntKind.i64.wrap ((N:Int)-1)=(n:Int):=by rw[zav (by omega) (by omega)];omega
 rw[hwn,hS.shS_app];have hS1:=hS.next (S':=idS data S u) hI1.ml hI1.cl;refine h4 _ hS1.app (by rw[List.getElem?_append_left (by simpa using hlt0)];exact hS.nodr h0) _ ?_;rw[hS1.shS_app,zdv];simp[List.set_append_right];have hS2:=hS.next (S':=S2) h1.ml h1.cl;refine zn0 hS2 (hS.scs hs) (by simp) (J:=[]) ?_;rw[zdv];exact hK
def znw(data:List Dat)(kk:Nat)(I:SI)(S S':SS)(is:List Nat)(n:Nat)(o:Option Nat):Prop:=∀H,ShS data kk I S H→H[0]?=some .nodr→∀K:Kt,K (.agg (zal o)) (shS data kk I S' H)→ACalls tP zgD [.ptr I.p 0,.sl (za6 is) .none,.int .i64 n] H K
theorem zGR{n:Nat}(hn:n≤14)(ih:∀ m,m≤n→zcD data kk X I m){S1:SS}(hI:zaZ data kk X S1){ws:List (Int × List VT)}{cs:List (Int × List Nat)}(hc:ConOk S1.types ws cs)(hwl:∀ w∈ws,w.2.length≤1000)(hR:∀ w∈ws,∀ (p:Nat) (h:p<w.2.length),Rch data X (n-p) w.2[p]):
  ∃ σ:Nat→SS×Nat,σ 0=(S1,0)∧(∀k≤ws.length,zaZ data kk X (σ k).1∧S1.types <+: (σ k).1.types∧(σ k).2=((ws.take k).map λw=>cL (cV data kk) w.2 n).sum)∧∀k<ws.length,∃o,vO o=cL (cV data kk) (ws.getD k (0,[])).2 n∧(σ (k+1)).2=(σ k).2+vO o∧znw data kk I (σ k).1 (σ (k+1)).1 (cs.getD k (0,[])).2 n o:=by
 refine zdY (λk (a:SS×Nat)=>zaZ data kk X a.1∧S1.types <+: a.1.types∧a.2=((ws.take k).map λw=>cL (cV data kk) w.2 n).sum) (λk (a a':SS×Nat)=>∃o,vO o=cL (cV data kk) (ws.getD k (0,[])).2 n∧a'.2=a.2+vO o∧znw data kk I a.1 a'.1 (cs.getD k (0,[])).2 n o) ws.length (λk hkl a ha=>?_) _ ⟨hI,List.prefix_rfl,by simp⟩;obtain⟨h1,h2,h3⟩:=ha;have hcl:=hc.len;obtain⟨h4,h5⟩:=hc.at' k hkl (by omega);obtain⟨S',o,h6,h7,h8,h9⟩:=zpQ hD hk hkk hX hn ih (hwl _ (List.getElem_mem hkl)) h1 (h5.mono h2) (hR _ (List.getElem_mem hkl));have e1:ws.getD k (0,[])=ws[k]:=by rw[List.getD_eq_getElem?_getD,List.getElem?_eq_getElem hkl];rfl
 have e2:cs.getD k (0,[])=cs[k]:=by rw[List.getD_eq_getElem?_getD,List.getElem?_eq_getElem (by omega)];rfl
 rw[e1,e2];exact⟨(S',a.2+vO o),⟨o,h8,rfl,h9⟩,h6,h2.trans h7,by simp only;rw[zwT hkl,h3,h8]⟩
theorem zCO{n:Nat}(hn:n<14)(ih:∀ m,m≤n→zcD data kk X I m){S:SS}{i:Nat}{t:VT}(hI:zaZ data kk X S)(hti:S.types[i]?=some t)(hg:zd0 S.cnt ((i:Int),((n+1:Nat):Int))=none)(h7:t.kind≠7)(h1':t.kind≠1)(h2':t.kind≠2)(h3':t.kind≠3)(hR:Rch data X (n+1) t):
  ∃S' o,zaZ data kk X S'∧S.types <+: S'.types∧vO o=cV data kk t (n+1)∧zej data kk I S S' i (n+1) o:=by
 have hv:=hI.vd t (List.mem_of_getElem? hti);have hRw:∀w∈zaU data t,∀(p:Nat) (h:p<w.2.length),Rch data X (n-p) w.2[p]:=by
  cases hR with
  |arr _ h _=>exact absurd h h7
  |mk _ _ h=>exact h
 have htX:∀w∈zaU data t,∀x∈w.2,x∈X:=λw hw x hx=>by obtain⟨p,hp,rfl⟩:=List.mem_iff_getElem.1 hx;exact(hRw w hw p hp).mem
 obtain⟨hI1,he1,hc1⟩:=zxo hD hI hti htX;have hwl:∀w∈zaU data t,w.2.length≤1000:=λw hw=>by
  obtain⟨k,m,ks⟩:=t;have hnod:=zfU hv;have hll:=VT.len_le ks;simp[VT.nodes]at hnod;rw[zaU]at hw;split at hw
  ·simp at hw;subst hw;show ks.length≤1000;omega
  ·split at hw
   ·obtain⟨c,_,hc⟩:=List.mem_filterMap.1 hw;cases hf:zbq data (.mk k m ks) c with
    |none=>rw[hf]at hc;cases hc
    |some l=>rw[hf]at hc;simp at hc;subst hc;have:=zn7 hk hf;show l.length≤1000;omega
   ·simp at hw
 obtain⟨σ,hσ0,hσ1,hσ2⟩:=zGR (I:=I) hD hk hkk hX (show n≤14 by omega) ih hI1 hc1 hwl hRw;obtain⟨N,hN⟩:∃N,N=n+1:=⟨_,rfl⟩;obtain⟨ws,hws⟩:∃ws,ws=zaU data t:=⟨_,rfl⟩;obtain⟨cs,hcs⟩:∃cs,cs=(zdy data S i).1:=⟨_,rfl⟩;obtain⟨S1,hS1d⟩:∃S1,S1=(zdy data S i).2:=⟨_,rfl⟩;rw[←hws]at hσ1 hσ2;rw[←hcs]at hσ2;rw[←hS1d]at hσ0 hσ1 he1 hI1;rw[←hcs,←hws,←hS1d]at hc1;have hcl:=hc1.len;have hw3:=zk2 hk t;rw[←hws]at hw3;have hlast:=hσ1 ws.length (Nat.le_refl _);have hcv:(σ ws.length).2=cV data kk t N:=by rw[hlast.2.2,List.take_length,hws,hN,zeX,if_neg h3',if_neg h2',if_neg h1',if_neg h7]
 have hti2:=zc6 (he1.trans hlast.2.1) hti;have hvlim:=zhp hk hkk t (show n+1≤14 by omega);rw[←hN]at hvlim;have hple:∀k,k≤ws.length→(σ k).2<1000000000 ^ 30:=λk hk=>by have h1:=(hσ1 k hk).2.2;have h2:=zpY (f:=λw:Int×List VT=>cL (cV data kk) w.2 n) (ws:=ws) k;rw[←h1]at h2;have h3:=hlast.2.2;rw[List.take_length]at h3;omega
 refine⟨zdL (σ ws.length).1 ((i:Int),((n+1:Nat):Int)) (some (σ ws.length).2),some (σ ws.length).2,zpC hlast.1 hti2 (by rw[←hN];exact hcv),he1.trans hlast.2.1,by rw[←hN];exact hcv,?_⟩;rw[←hN]at hg ⊢;intro H hS h0 K hK;refine ACalls.out (ziQ λhs=>?_);have hlt0:0<H.length:=(List.getElem?_eq_some_iff.1 h0).1;have hnl:¬((N:Int)<1):=by omega
 have lp:=(List.getElem?_eq_some_iff.1 hS.hp).1;have hp:=(hS.app (J:=[.cells (zal none)])).hp;have hmc:=(hS.app (J:=[.cells (zal none)])).hmc;have hp3:=(hS.app (J:=[.cells (zal none),.cells (zal none),.cells (zal (some 0))])).hp;have hit3:=(hS.app (J:=[.cells (zal none),.cells (zal none),.cells (zal (some 0))])).hit;have hil:=(List.getElem?_eq_some_iff.1 hti).1;have hta:=zfg S.types i _ hti;have htl:=zfh S.types;have hk0:(zbN S.types)[i*3]?=some (.int .i64 t.kind):=by obtain⟨k,m,ks⟩:=t;have:=congrArg (λl=>l[0]?) hta;simp only[VT.cs,List.getElem?_take,List.getElem?_drop]at this;simpa[VT.kind]using this
 simp only[zhb,zrO];simp[hp,hmc,hnl,zao,zaM,zjF,zhB,hg];refine zfo 0 (by omega) _ _ ?_;have b1:(t.kind == 1)=false:=by simpa using h1'
 have b2:(t.kind == 2)=false:=by simpa using h2'
 have b3:(t.kind == 3)=false:=by simpa using h3'
 have b7:(t.kind == 7)=false:=by simpa using h7
 simp[zku,List.set_append_right,Nat.add_assoc,hp3,hit3,hil,zdc _ hk0,b1,b2,b3,b7];have hSJ:=hS.app (J:=[.cells (zal none),.cells (zal none),.cells (zal (some 0))]);refine zwz hD hX hSJ hI (by rw[List.getElem?_append_left hlt0];exact h0) hti htX _ ?_;rw[←hcs,←hS1d,hS.shS_app];obtain⟨L,hL⟩:∃L,L=H.length:=⟨_,rfl⟩;rw[←hL];obtain⟨Hk,hHk⟩:∃Hk:SS×Nat→zaa,Hk=λa=>shS data kk I a.1 H++[.cells (zal none),.cells (zal none),.cells (zal (some a.2))]:=⟨_,rfl⟩;have hkl:∀a,(Hk a).length=L+3:=λa=>by rw[hHk,hL];simp
 have hks:∀a,HSc (Hk a):=λa=>by rw[hHk];refine(hS.scs hs).append ?_;simp only[List.all_cons,List.all_nil,AB.sc,zdt,Bool.and_true]
 have hk0':∀a,(Hk a)[0]?=some .nodr:=λa=>by rw[hHk];simp only;rw[List.getElem?_append_left (by simpa using hlt0)];exact hS.nodr h0
 have hk2:∀a,(Hk a)[L+2]?=some (.cells (zal (some a.2))):=λa=>by rw[hHk,hL];simp[List.getElem?_append]
 have hkS:∀a,zaZ data kk X a.1→ShS data kk I a.1 (Hk a):=λa ha=>by rw[hHk];exact(hS.next ha.ml ha.cl).app
 have hmv:∀a S' J,zaZ data kk X a.1→shS data kk I S' (Hk a++J)=Hk (S',a.2)++J:=λa S' J ha=>by rw[hHk];simp only;rw[List.append_assoc,(hS.next ha.ml ha.cl).shS_app,zdv,List.append_assoc]
 have hset:∀a v J,(Hk a++J).set (L+2) (.cells (zal (some v)))=Hk (a.1,v)++J:=λa v J=>by rw[hHk,hL];simp only;rw[List.append_assoc,List.set_append_right _ _ (by simp),List.append_assoc];simp
 have hst0:shS data kk I S1 H++[.cells (zal none),.cells (zal none),.cells (zal (some 0))]=Hk (σ 0):=by rw[hσ0,hHk]
 rw[hst0];have hcR:(zbW cs).length=cs.length:=by simp[zbW]
 simp only[zco,zen,hcR];refine zMW (Inv:=λq t41 H'=>∃k:Nat,k≤cs.length∧cs.length-k=q∧t41=.int .i64 k∧H'=Hk (σ k)) cs.length ?_ ?_
 ·intro _;exact⟨0,by omega,rfl,rfl,rfl⟩
 ·rintro q t41 H' ⟨k,hkk',rfl,rfl,rfl⟩ hsc9 hlen9 hsF9 Kb9 hKb9;have hσk:=hσ1 k (by omega);by_cases hlt:k<cs.length
  ·obtain⟨o,ho1,ho2,ho3⟩:=hσ2 k (by omega);have hgk:∀ h:k<(zbW cs).length,(zbW cs)[k]'h=[.int .i64 (cs[k]).1,.sl (za6 (cs[k]).2) .none]:=λh=>by simp[zbW,za6]
   have e2:cs.getD k (0,[])=cs[k]:=by rw[List.getD_eq_getElem?_getD,List.getElem?_eq_getElem hlt];rfl
   rw[e2]at ho3;simp[zsa,hlt,hcR,hgk];obtain⟨J,hJ⟩:∃J:zaa,J=[.cells [.int .i64 (cs[k]).1,.sl (za6 (cs[k]).2) .none]]:=⟨_,rfl⟩;have hJs:J.all (AB.sc (L+4))=true:=by rw[hJ];rfl
   have hJl:J.length=1:=by rw[hJ];rfl
   rw[←hJ];have gA:∀a,(Hk a++J)[L+2]?=some (.cells (zal (some a.2))):=λa=>by rw[List.getElem?_append_left (by rw[hkl];omega)];exact hk2 a
   simp[gA];have hwn:IntKind.i64.wrap ((N:Int)-1)=(n:Int):=by rw[zav (by omega) (by omega)];omega
   rw[hwn];refine zdB (.agg (zal o)) (Hk ((σ (k+1)).1,(σ k).2)++J) (ho3 _ (hkS _ hσk.1).app (by rw[List.getElem?_append_left (by rw[hkl];omega)];exact hk0' _) _ ⟨rfl,hmv _ _ _ hσk.1⟩) ?_;have kp:∀(a b:SS×Nat),a.2=b.2→zdR [AV.ptr (L+2) 0,AV.ptr (Hk (σ k)).length 1] (Hk a++J) (Hk b++J):=λa b e=>by rw[hkl,hHk];simp only[e,List.append_assoc];exact zoy (l:=H.length) (by simp) (by simp) (by rw[hL];simp)
   refine⟨kp _ _ rfl,?_⟩;have b1:vO (some (σ k).2)<1000000000 ^ 30:=hple k (by omega);have b2:vO o<1000000000 ^ 30:=by have:=hple (k+1) (by omega);omega
   refine zdB (.agg (zal (some ((σ k).2+vO o)))) _ (zsT (some (σ k).2) o b1 b2 _ _ ⟨rfl,rfl⟩) ?_;refine⟨zhF _ _,?_⟩;rw[←ho2];refine zdB (.tup []) (Hk (σ (k+1))++J) ?_ ?_
   ·rw[gA];show zdV 3 0 (L+2) (some (zal (some (σ (k+1)).2))) (some (.cells (zal (some (σ k).2)))) _ _;rw[zBP,hset];exact⟨rfl,rfl⟩
   ·rw[wr (by omega)];refine hKb9 _ _ ⟨cs.length-(k+1),by omega,Back.at (H2:=Hk (σ (k+1))) (J:=J) rfl (by rw[hkl,hkl];omega) (hks _) ?_ ⟨_,rfl,k+1,by omega,rfl,rfl,rfl⟩⟩;rw[hkl];simp[zmC,ux,AV.sc,AV.scA,AV.scB,AV.scV];omega
  ·obtain rfl:k=cs.length:=by omega
   simp[zsa];have hSe:=hS.next (S':=(σ ws.length).1) hlast.1.ml hlast.1.cl;rw[hcl,hHk];refine zn0 hSe (hS.scs hs) (by simp[hL]) (J:=[]) ?_;rw[zdv];exact hK
theorem zn1:∀n:Nat,n≤14→zcD data kk X I n:=by
 intro n;induction n using Nat.strongRecOn with
 |ind n ih=>
  intro hn;cases n with
  |zero=>exact zCP hD hk hkk hX
  |succ n=>
   intro S i t hI hti hR;have ih':∀m,m≤n→zcD data kk X I m:=λm hm=>ih m (by omega) (by omega);cases hg:zd0 S.cnt ((i:Int),((n+1:Nat):Int)) with
   |some o=>obtain⟨h1,h2⟩:=zCM hD hk hkk hX (I:=I) hI hti hg;exact⟨S,o,hI,List.prefix_rfl,h1,h2⟩
   |none=>
    by_cases h123:t.kind=1∨t.kind=2∨t.kind=3
    ·have:=zCN hD hk hkk hX (I:=I) hI hti hg h123;exact⟨zdL S _ _,_,zpC hI hti rfl,List.prefix_rfl,rfl,this⟩
    ·by_cases h7:t.kind=7
     ·exact zCL hD hk hkk hX (by omega) ih' hI hti hg h7 hR
     ·exact zCO hD hk hkk hX (by omega) ih' hI hti hg h7 (by omega) (by omega) (by omega) hR
end
theorem _root_.Go.Abs.ALoop.ovC{P:Program}{c:Code}{Q:AExit→List AV→zaa→Prop}{F:List AV}{H:zaa}{id j:Nat}{cs:List AV}(e size:Nat)(hid:H[id]?=some (.cells cs))(hj:cs[j]?=some .snil)(h:ALoop P c Q F (H.set id (.cells (cs.set j (.ov H.length 0)))++[.vec e size 0 []])):ALoop P c Q F H:=by
 intro B w G a hH hF hd;obtain⟨G',hE,hH'⟩:=hH.ovCell e size hid hj;refine wp_mono (h B w G' a hH' (hF.ext hE) hd) λe a' w' hp=>?_;obtain⟨F'',H'',G'',e'',rfl,k1,k2,k3,k4,k5⟩:=hp;exact⟨F'',H'',G'',e'',rfl,hE.trans k1,k2,k3,k4,k5⟩
def newB(data:List Dat)(kk:Int)(L:Nat):zaa:=[.map [],.mapP [],.cells [.sl (data.map Dat.cs) .none,.int .i64 kk,.map L,.snil,.snil,.snil,.map (L+1)]]
def zc4(L M:Nat):SI:=⟨L+2,L,M,M+1,M+2,L+1⟩
def S0:SS:=⟨[],[],[],[]⟩
def zcu(data:List Dat)(kk:Int)(L M:Nat):zaa:=[.map [],.mapP [],.cells [.sl (data.map Dat.cs) .none,.int .i64 kk,.map L,.ov M 0,.ov (M+1) 0,.ov (M+2) 0,.map (L+1)]]
def zcI:zaa:=[.vec za9 3 0 [],.vec zfA 1 0 [],.vec zfz 1 0 []]
theorem zEr(data:List Dat)(kk:Int)(H:zaa)(K:Kt)(hK:K (.ptr (H.length+2) 0) (H++newB data kk H.length)):ACalls tP zpf [.sl (data.map Dat.cs) .none,.int .i64 kk] H K:=by refine ACalls.out (zMT λhs=>?_);simp[zzJ,zdU,zeq,zao,zaM,AV.known,Nat.add_assoc];refine Out.at (J:=[]) (H2:=H++newB data kk H.length) (by simp[newB]) (by simp) (hs.append ?_) .rfl' rfl (by simp[AV.scV,AV.scA,AV.scB,newB]) hK;simp[newB,AB.sc,AV.scA,AV.scB]
section
variable {data:List Dat} {kk:Int} {A J:zaa} {L:Nat} (hL:L=A.length)
include hL
theorem zpO(x y z:AV)(V:zaa):∀(x':AB),(A++(.map []::.mapP []::.cells [.sl (data.map Dat.cs) .none,.int .i64 kk,.map L,x,y,z,.map (L+1)]::V)).set (L+2) x'=A++(.map []::.mapP []::x'::V):=λx'=>by rw[List.set_append_right _ _ (by omega),hL];simp[show A.length+2-A.length=2 by omega]
theorem zEq(V:zaa)(M:Nat)(hM:M=L+3+V.length):ShS data kk (zc4 L M) S0 (A++(zcu data kk L M++V++zcI)):=by
 refine⟨⟨?_,?_,?_,?_,?_,?_,?_,?_,?_,?_,?_,?_,?_,?_,?_⟩,λx b hb=>?_,rfl,rfl⟩
 all_goals first|(simp only[zc4];omega)|skip
 have gA:∀(k:Nat),(A++(zcu data kk L M++V++zcI))[L+k]?=(zcu data kk L M++V++zcI)[k]?:=λk=>by rw[List.getElem?_append_right (by omega),hL];congr 1;omega
 have g0:=gA 0;have g1:=gA 1;have g2:=gA 2;have g3:=gA (3+V.length);have g4:=gA (3+V.length+1);have g5:=gA (3+V.length+2);rw[show L+(3+V.length)=M by omega]at g3;rw[show L+(3+V.length+1)=M+1 by omega]at g4;rw[show L+(3+V.length+2)=M+2 by omega]at g5;have e3:∀k,(zcu data kk L M++V++zcI)[3+V.length+k]?=zcI[k]?:=λk=>by rw[List.getElem?_append_right (by simp[zcu];omega)];congr 1;simp[zcu];omega
 rw[show 3+V.length=3+V.length+0 by omega,e3]at g3;rw[e3]at g4 g5;simp only[zcu,List.cons_append,List.getElem?_cons_zero,List.getElem?_cons_succ,Nat.add_zero]at g0 g1 g2;unfold za3 zc4 S0 at hb;simp only[List.length_nil,zcr,zbN,zdE,zaJ,List.map_nil,List.flatten_nil]at hb;split at hb
 ·rename_i e;subst e;rw[←Option.some.inj hb];exact g2
 ·split at hb
  ·rename_i e;subst e;rw[←Option.some.inj hb];exact g0
  ·split at hb
   ·rename_i e;subst e;rw[←Option.some.inj hb];exact g3
   ·split at hb
    ·rename_i e;subst e;rw[←Option.some.inj hb];exact g4
    ·split at hb
     ·rename_i e;subst e;rw[←Option.some.inj hb];exact g5
     ·split at hb
      ·rename_i e;subst e;rw[←Option.some.inj hb];exact g1
      ·cases hb
theorem zEE{c:Code}{Q:AExit→List AV→zaa→Prop}{F:List AV}(V:zaa){M:Nat}(hM:M=L+3+V.length)(h:ALoop tP c Q F (A++(zcu data kk L M++V++zcI))):ALoop tP c Q F (A++(newB data kk L++V)):=by
 unfold newB;simp only[List.cons_append,List.nil_append];have g:∀(x:AB) (V':zaa),(A++(AB.map []::AB.mapP []::x::V'))[L+2]?=some x:=λx V'=>by rw[List.getElem?_append_right (by omega),hL];simp[show A.length+2-A.length=2 by omega]
 refine ALoop.ovC (id:=L+2) (j:=3) za9 3 (g _ _) rfl ?_;rw[zpO hL,List.append_assoc];simp only[List.set,List.cons_append,List.length_append,List.length_cons,←hL];refine ALoop.ovC (id:=L+2) (j:=4) zfA 1 (g _ _) rfl ?_;rw[zpO hL,List.append_assoc];simp only[List.set,List.cons_append,List.length_append,List.length_cons,←hL];refine ALoop.ovC (id:=L+2) (j:=5) zfz 1 (g _ _) rfl ?_;rw[zpO hL,List.append_assoc];simp only[List.set,List.cons_append,List.length_append,List.length_cons,List.length_nil,←hL];have e1:L+(V.length+1+1+1)=M:=by omega
 have e2:L+(V.length+(0+1)+1+1+1)=M+1:=by omega
 have e3:L+(V.length+(0+1)+(0+1)+1+1+1)=M+2:=by omega
 rw[e1,e2,e3];simpa[zcu,zcI]using h
end
theorem zBz(data:List Dat)(kk:Nat)(X:List VT):zaZ data kk X S0:=⟨rfl,rfl,List.nodup_nil,by simp[S0],by simp[S0],by simp[S0],by simp[S0]⟩
def zbe(a:List VT)(b:List (List VT)):List (List VT):=a.flatMap λv=>b.map λr=>v::r
theorem zfH(a:List VT)(b:List (List VT)):(zbe a b).length=a.length*b.length:=by
 induction a with
 |nil=>simp[zbe]
 |cons v a ih=>unfold zbe at ih ⊢;rw[List.flatMap_cons,List.length_append,ih,List.length_map,List.length_cons,Nat.succ_mul];omega
def lsL(g:VT→Nat→List VT):List VT→Nat→List (List VT)
 |[],n=>if n=0 then [[]] else []
 |t::ts,n=>(List.range n).flatMap λs=>zbe (g t (s+1)) (lsL g ts (n-(s+1)))
def arF(g:Nat→List VT):Nat→Nat→List (List VT)
 |0,n=>if n=0 then [[]] else []
 |f+1,n=>if n=0 then [[]] else (List.range n).flatMap λs=>zbe (g (s+1)) (arF g f (n-(s+1)))
def zfJ(k:Int):Int:=if k=5 then 5 else if k=6 then 4 else 7
def zc8(data:List Dat)(xs:List Int):Nat→VT→Nat→List VT
 |0,_,_=>[]
 | f+1,t,n=>if n=0 then [] else if t.kind=3 then (if n=1 then [.mk 1 0 []] else []) else if t.kind=2 then (if n=1 then [.mk 2 0 [],.mk 2 1 []] else []) else if t.kind=1 then (if n=1 then xs.map λx=>.mk 3 x [] else []) else
  if t.kind=7 then (arF (zc8 data xs f (zcn t)) (n-1) (n-1)).map λks=>.mk 6 0 ks else (zaU data t).flatMap λw=>(lsL (zc8 data xs f) w.2 (n-1)).map λks=>.mk (zfJ t.kind) w.1 ks
theorem zfD{α β:Type}{l:List α}{f g:α→List β}(h:∀a∈l,f a=g a):l.flatMap f=l.flatMap g:=by
 induction l with
 |nil=>rfl
 |cons a l ih=>rw[List.flatMap_cons,List.flatMap_cons,h a (by simp),ih λb hb=>h b (by simp[hb])]
theorem zoE{g g':VT→Nat→List VT}:∀ (ts:List VT) (n:Nat),(∀ t s,s≤n→g t s=g' t s)→lsL g ts n=lsL g' ts n
 |[],_,_=>rfl
 |t::ts,n,h=>by rw[lsL,lsL];refine zfD λs hs=>?_;have:=List.mem_range.1 hs;rw[h t (s+1) (by omega),zoE ts _ λt s' hs'=>h t s' (by omega)]
theorem znO{g g':Nat→List VT}:∀ (f n:Nat),(∀ s,s≤n→g s=g' s)→arF g f n=arF g' f n
 |0,_,_=>rfl
 |f+1,n,h=>by
  rw[arF,arF];split
  ·rfl
  ·refine zfD λs hs=>?_;have:=List.mem_range.1 hs;rw[h (s+1) (by omega),znO f _ λs' hs'=>h s' (by omega)]
theorem zB8(g:Nat→List VT):∀(n f f':Nat),n≤f→n≤f'→arF g f n=arF g f' n:=by
 intro n;induction n using Nat.strongRecOn with
 |ind n ih=>
  intro f f' h1 h2;cases n with
  |zero=>cases f <;> cases f' <;> simp[arF]
  |succ n=>obtain⟨f,rfl⟩:∃e,f=e+1:=⟨f-1,by omega⟩;obtain⟨f',rfl⟩:∃e,f'=e+1:=⟨f'-1,by omega⟩;rw[arF,arF];simp only[Nat.add_eq_zero_iff,Nat.succ_ne_self,and_false,if_false];refine zfD λs hs=>?_;rw[ih _ (by omega) f f' (by omega) (by omega)]
def arL(g:Nat→List VT)(n:Nat):List (List VT):=arF g n n
theorem znP(g:Nat→List VT):arL g 0=[[]]:=rfl
theorem zjj(g:Nat→List VT)(n:Nat):arL g (n+1)=(List.range (n+1)).flatMap λs=>zbe (g (s+1)) (arL g (n+1-(s+1))):=by unfold arL;rw[arF];simp only[Nat.add_eq_zero_iff,Nat.succ_ne_self,and_false,if_false];refine zfD λs hs=>?_;rw[zB8 g _ n _ (by omega) (Nat.le_refl _)]
theorem zk1(data:List Dat)(xs:List Int)(f:Nat)(t:VT):zc8 data xs f t 0=[]:=by cases f <;> simp[zc8]
theorem zGE(data:List Dat)(xs:List Int):∀(f f':Nat) (t:VT) (n:Nat),n≤f→n≤f'→zc8 data xs f t n=zc8 data xs f' t n:=by
 intro f;induction f with
 |zero=>
  intro f' t n h _;obtain rfl:n=0:=by omega
  rw[zk1,zk1]
 |succ f ih=>
  intro f' t n h1 h2;cases n with
  |zero=>rw[zk1,zk1]
  |succ n=>obtain⟨f',rfl⟩:∃e,f'=e+1:=⟨f'-1,by omega⟩;have e1:∀t s,s≤n→zc8 data xs f t s=zc8 data xs f' t s:=λt s hs=>ih f' t s (by omega) (by omega);rw[zc8,zc8];simp only[Nat.add_sub_cancel];rw[znO n n λs hs=>e1 (zcn t) s hs];rw[zfD λw _=>by rw[zoE w.2 n e1]]
def vV(data:List Dat)(xs:List Int)(t:VT)(n:Nat):List VT:=zc8 data xs n t n
theorem zqg(data:List Dat)(xs:List Int)(t:VT):vV data xs t 0=[]:=rfl
theorem zgW(data:List Dat)(xs:List Int)(t:VT)(n:Nat):vV data xs t (n+1)=if t.kind=3 then (if n=0 then [.mk 1 0 []] else []) else if t.kind=2 then (if n=0 then [.mk 2 0 [],.mk 2 1 []] else []) else if t.kind=1 then (if n=0 then xs.map λx=>.mk 3 x [] else []) else
  if t.kind=7 then (arL (vV data xs (zcn t)) n).map λks=>.mk 6 0 ks else (zaU data t).flatMap λw=>(lsL (vV data xs) w.2 n).map λks=>.mk (zfJ t.kind) w.1 ks:=by
 have e1:∀t s,s≤n→zc8 data xs n t s=vV data xs t s:=λt s hs=>zGE data xs n s t s hs (Nat.le_refl _);unfold vV;rw[zc8];simp only[Nat.add_eq_zero_iff,Nat.succ_ne_self,and_false,if_false,Nat.add_sub_cancel,Nat.add_eq_right];unfold arL;rw[znO n n λs hs=>e1 (zcn t) s hs];rw[zfD λw _=>by rw[zoE w.2 n e1]];rfl
theorem zgt{α:Type}(n:Nat)(f:Nat→List α):((List.range n).flatMap f).length=sm n λs=>(f s).length:=by
 induction n with
 |zero=>rfl
 |succ n ih=>rw[List.range_succ,List.flatMap_append,List.length_append,ih,sm];simp
theorem zjL{g:VT→Nat→List VT}{c:VT→Nat→Nat}(h0:∀ t,c t 0=0):∀ (ts:List VT) (n:Nat),(∀ t∈ts,∀ s,s≤n→(g t s).length=c t s)→(lsL g ts n).length=cL c ts n
 |[],n,_=>by rw[lsL,cL];split <;> rfl
 |t::ts,n,h=>by rw[lsL,cL,zgt,zfd,h0,Nat.zero_mul,Nat.zero_add];refine zch λs hs=>?_;rw[zfH,h t (by simp) (s+1) (by omega),zjL h0 ts _ λt ht s' hs'=>h t (by simp[ht]) s' (by omega)]
theorem ztN{g:Nat→List VT}{c:Nat→Nat}(h0:c 0=0):∀(n:Nat),(∀s,s≤n→(g s).length=c s)→(arL g n).length=cA c n:=by
 intro n;induction n using Nat.strongRecOn with
 |ind n ih=>
  intro h;cases n with
  |zero=>rfl
  |succ n=>
   rw[zjj,zjo h0,zgt]
   conv=>rhs;rw[zfd,h0,Nat.zero_mul,Nat.zero_add]
   refine zch λs hs=>?_;rw[zfH,h (s+1) (by omega),ih _ (by omega) λs' hs'=>h s' (by omega)]
theorem zux{α β:Type}(l:List α)(f:α→List β)(c:α→Nat)(h:∀a∈l,(f a).length=c a):(l.flatMap f).length=(l.map c).sum:=by
 induction l with
 |nil=>rfl
 |cons a l ih=>rw[List.flatMap_cons,List.length_append,h a (by simp),ih λb hb=>h b (by simp[hb]),List.map_cons,List.sum_cons]
theorem zeL(data:List Dat)(xs:List Int):∀(n:Nat) (t:VT),(vV data xs t n).length=cV data xs.length t n:=by
 intro n;induction n using Nat.strongRecOn with
 |ind n ih=>
  intro t;cases n with
  |zero=>rfl
  |succ n=>
   rw[zgW,zeX];split
   ·split <;> rfl
   ·split
    ·split <;> rfl
    ·split
     ·split <;> simp
     ·split
      ·rw[List.length_map,ztN (zb2 data xs.length (zcn t)) n λs hs=>ih s (by omega) _]
      ·refine zux _ _ _ λw _=>?_;rw[List.length_map,zjL (zb2 data xs.length) w.2 n λt _ s hs=>ih s (by omega) t]
end Go.Proofs.YtaifokkaaahdoaaGreatDoor
namespace Go.Proofs.YtaifokkaaahdoaaGreatDoor
open Go Go.Abs
set_option maxRecDepth 100000
def zf9:Nat→List Bool
 |3=>rl false [1,1,3,1,4,3,19]
 |6=>rl false [1,1,3,1,1,1,2,3,3,3,13]
 |_=>[]
noncomputable def zs4:Code:=Tryz.f88.body.getD .skip
noncomputable def zPQ:List ResultVar:=Tryz.f88.results.toList
def znj(t1 t5 t10 t11 t12:AV):List AV:=ux 1 (t1::ux 3 (t5::ux 4 (t10::t11::t12::ux 19 [])))
def zA5:List Bool:=zf9 3
noncomputable def zs5:Code:=zaq [1,1,0,1,0,0] zs4
def zA3(K:Kt):AExit→List AV→zaa→Prop:=zar tP zf9 [1,1,0,1,0] zs4 (zaB tP zPQ K)
def zs6(t1 t5 t10 t11 t12:AV)(H:zaa)(K:Kt):Prop:=ALoop tP zs5 (zA3 K) (znj t1 t5 t10 t11 t12) H
def zi6(t1 t5 t7 t10 t11 t12 t16 t17 t18:AV):List AV:=ux 1 (t1::ux 3 (t5::ux 1 (t7::ux 2 (t10::t11::t12::ux 3 (t16::t17::t18::ux 13 [])))))
def zPO:List Bool:=zf9 6
noncomputable def zPL:Code:=zaq [1,1,0,0,1,1,0,0] zs5
def zPK(K:Kt)(Kb3:Lt):AExit→List AV→zaa→Prop:=zar tP zf9 [1,1,0,0,1,1,0] zs5 (zbK zA5 Kb3 (zA3 K))
def zA4(t1 t5 t7 t10 t11 t12 t16 t17 t18:AV)(H:zaa)(K:Kt)(Kb3:Lt):Prop:=ALoop tP zPL (zPK K Kb3) (zi6 t1 t5 t7 t10 t11 t12 t16 t17 t18) H
def zs3(t1 t5 t7 t10 t11 t12 t16 t17 t18:AV)(H:zaa)(K:Kt)(Kb3:Lt)(Kb6:Lt):Prop:=
 zac .lss false t18 t17 λt19=>
 zag t19
 (zaj 1 t16 t18 λt20=>
 zae false 1 t20 H λt21=>
 zae true 3 t7 H λt23=>
 zas 3 [(.int .i64 0),(.int .i64 0),.snil] 1 [(0,t23)] λt24=>
 zax zaO 3 40 t24 t21 H λt26 H=>
 zas 1 [.snil] 1 [(0,t26)] λt27=>
 zax zbj 1 24 t5 t27 H λt28 H=>
 zac .add false t18 (.int .i64 1) λt29=>
 Kb6 (zi6 t1 t28 t7 t10 t11 t12 t16 t17 t29) H)
 (zac .add false t12 (.int .i64 1) λt30=>
 Kb3 (znj t1 t5 t10 t11 t30) H)
def zs2(t1 t5 t10 t11 t12:AV)(H:zaa)(K:Kt)(Kb3:Lt):Prop:=
 zac .lss false t12 t11 λt13=>
 zag t13
 (zaj 3 t10 t12 λt14=>
 zae true 3 t14 H λt15=>
 zay [(.int .i64 0),(.int .i64 0),.snil] H λt7 H=>
 zak 3 t7 t15 H λH=>
 zah 1 t1 λt17=>
 zA4 t1 t5 t7 t10 t11 t12 t1 t17 (.int .i64 0) H K Kb3)
 (K t5 H)
def zA2(t0 t1:AV)(H:zaa)(K:Kt):Prop:=
 zah 1 t0 λt11=>
 zs6 t1 .snil t0 t11 (.int .i64 0) H K
theorem zPN{t1 t5 t7 t10 t11 t12 t16 t17 t18:AV}{H:zaa}{K:Kt}{Kb3:Lt}(Inv:Nat→AV→AV→zaa→Prop)(n:Nat)(h0:HSc H→Inv n t5 t18 H)(round:Rd2 (λt5=>λt18=>zi6 t1 t5 t7 t10 t11 t12 t16 t17 t18) (λt5=>λt18=>λH Kb6=>zs3 t1 t5 t7 t10 t11 t12 t16 t17 t18 H K Kb3 Kb6) H Inv):zA4 t1 t5 t7 t10 t11 t12 t16 t17 t18 H K Kb3:=
 lp2 (M:=zf9) zPO t5 t18 (by kernel_rfl) Inv n h0 round
theorem zPM{t1 t5 t10 t11 t12:AV}{H:zaa}{K:Kt}(Inv:Nat→AV→AV→zaa→Prop)(n:Nat)(h0:HSc H→Inv n t5 t12 H)(round:Rd2 (λt5=>λt12=>znj t1 t5 t10 t11 t12) (λt5=>λt12=>λH Kb3=>zs2 t1 t5 t10 t11 t12 H K Kb3) H Inv):zs6 t1 t5 t10 t11 t12 H K:=
 lp2 (M:=zf9) zA5 t5 t12 (by kernel_rfl) Inv n h0 round
theorem zPP{t0 t1:AV}{H:zaa}{K:Kt}(h:HSc H→zA2 t0 t1 H K):ACalls tP zki [t0,t1] H K:=
 zan (M:=zf9) Tryz.func88 (c:=zs4) (by kernel_rfl) (λhs=>Eq.mpr (by kernel_rfl) (h hs))
def zlt:Nat→List Bool
 |5=>rl false [0,3,4,2,44]
 |_=>[]
noncomputable def zqM:Code:=Tryz.f118.body.getD .skip
noncomputable def zIe:List ResultVar:=Tryz.f118.results.toList
def zlu(t0 t1 t2 t7 t8:AV):List AV:=t0::t1::t2::ux 4 (t7::t8::ux 44 [])
def zId:List Bool:=zlt 5
noncomputable def zIb:Code:=zaq [1,1,1,0,1,0,0] zqM
def zIa(K:Kt):AExit→List AV→zaa→Prop:=zar tP zlt [1,1,1,0,1,0] zqM (zaB tP zIe K)
def zqN(t0 t1 t2 t7 t8:AV)(H:zaa)(K:Kt):Prop:=ALoop tP zIb (zIa K) (zlu t0 t1 t2 t7 t8) H
def zxM(t0 t1 t2 t7 t8:AV)(H:zaa)(K:Kt)(Kb5:Lt):Prop:=
 zac .add false t8 (.int .i64 1) λt16=>
 Kb5 (zlu t0 t1 t2 t7 t16) H
def zlv(t0 t1 t2 t7 t8:AV)(H:zaa)(K:Kt)(Kb5:Lt):Prop:=
 zxM t0 t1 t2 t7 t8 H K Kb5
def zqL(t0 t1 t2 t7 t8:AV)(H:zaa)(K:Kt)(Kb5:Lt):Prop:=
 zac .leq false t8 t2 λt14=>
 zag t14
 (zaG t0 λt18=>
 zaf 0 t18 λt19=>
 zae false 1 t19 H λt20=>
 ACalls tP zgB [t20,t1,t8] H λt23 H=>
 ACalls tP ze9 [t23] H λt24 H=>
 zac .eql false t24 (.int .i64 0) λt25=>
 zab t25 false H (λK'=>K' t0 H) λt27 H=>
 zab t25 false H (λK'=>zaG t27 (K' · H)) λt28 H=>
 zab t25 false H (λK'=>zaf 0 t28 (K' · H)) λt29 H=>
 zab t25 false H (λK'=>zae false 1 t29 H (K' · H)) λt30 H=>
 zab t25 false H (λK'=>K' t1 H) λt31 H=>
 zab t25 false H (λK'=>K' t2 H) λt32 H=>
 zab t25 false H (λK'=>K' t8 H) λt33 H=>
 zab t25 false H (λK'=>zac .sub false t32 t33 (K' · H)) λt34 H=>
 zab t25 false H (λK'=>ACalls tP zh5 [t30,t31,t34] H K') λt35 H=>
 zab t25 false H (λK'=>ACalls tP ze9 [t35] H K') λt36 H=>
 zab t25 false H (λK'=>zac .eql false t36 (.int .i64 0) (K' · H)) λt37 H=>
 zai t25 (.bool true) t37 λt38=>
 zag t38
 (zlv t0 t1 t2 t7 t8 H K Kb5)
 (ACalls tP zkj [t0,t1,t8] H λt43 H=>
 zac .sub false t2 t8 λt48=>
 ACalls tP zjR [t0,t1,t48] H λt49 H=>
 ACalls tP zki [t43,t49] H λt50 H=>
 zax zbj 1 24 t7 t50 H λt51 H=>
 zlv t0 t1 t2 t51 t8 H K Kb5))
 (K t7 H)
def zqK(t0 t1 t2:AV)(H:zaa)(K:Kt):Prop:=
 zac .eql false t2 (.int .i64 0) λt10=>
 zag t10
 (zas 1 [.snil] 1 [(0,.snil)] λt11=>
 K t11 H)
 (zqN t0 t1 t2 .snil (.int .i64 1) H K)
theorem zIc{t0 t1 t2 t7 t8:AV}{H:zaa}{K:Kt}(Inv:Nat→AV→AV→zaa→Prop)(n:Nat)(h0:HSc H→Inv n t7 t8 H)(round:Rd2 (λt7=>λt8=>zlu t0 t1 t2 t7 t8) (λt7=>λt8=>λH Kb5=>zqL t0 t1 t2 t7 t8 H K Kb5) H Inv):zqN t0 t1 t2 t7 t8 H K:=
 lp2 (M:=zlt) zId t7 t8 (by kernel_rfl) Inv n h0 round
theorem zxN{t0 t1 t2:AV}{H:zaa}{K:Kt}(h:HSc H→zqK t0 t1 t2 H K):ACalls tP zjR [t0,t1,t2] H K:=
 zan (M:=zlt) Tryz.func118 (c:=zqM) (by kernel_rfl) (λhs=>Eq.mpr (by kernel_rfl) (h hs))
def zmI:Nat→List Bool
 |7=>rl false [0,3,4,2,53]
 |200009=>rl false [0,1]
 |200010=>rl false [0,1]
 |_=>[]
noncomputable def zsm:Code:=Tryz.f47.body.getD .skip
noncomputable def zNs:List ResultVar:=Tryz.f47.results.toList
def zmJ(t0 t1 t2 t7 t8:AV):List AV:=t0::t1::t2::ux 4 (t7::t8::ux 53 [])
def zNr:List Bool:=zmI 7
noncomputable def zNp:Code:=zaq [1,1,1,0,1,0,0] zsm
def zNo(K:Kt):AExit→List AV→zaa→Prop:=zar tP zmI [1,1,1,0,1,0] zsm (zaB tP zNs K)
def zsn(t0 t1 t2 t7 t8:AV)(H:zaa)(K:Kt):Prop:=ALoop tP zNp (zNo K) (zmJ t0 t1 t2 t7 t8) H
def zz0(t0 t1 t2 t7 t8:AV)(H:zaa)(K:Kt)(Kb7:Lt):Prop:=
 zac .add false t8 (.int .i64 1) λt19=>
 Kb7 (zmJ t0 t1 t2 t7 t19) H
def zmK(t0 t1 t2 t7 t8:AV)(H:zaa)(K:Kt)(Kb7:Lt):Prop:=
 zz0 t0 t1 t2 t7 t8 H K Kb7
def zsl(t0 t1 t2 t7 t8:AV)(H:zaa)(K:Kt)(Kb7:Lt):Prop:=
 zac .leq false t8 t2 λt17=>
 zag t17
 (zad H (λK'=>K' t0 H) λt20=>
 zad H (λK'=>zaG t20 (K' · H)) λt21=>
 zad H (λK'=>zaf 0 t21 (K' · H)) λt22=>
 zad H (λK'=>zam false 1 t22 H (K' · H)) λt23=>
 zad H (λK'=>K' t1 H) λt24=>
 zad H (λK'=>zaj 1 t24 (.int .i64 0) (K' · H)) λt25=>
 zad H (λK'=>zam false 1 t25 H (K' · H)) λt26=>
 zad H (λK'=>K' t8 H) λt27=>
 zbl .w false H (λK'=>ACalls tP zgB [t23,t26,t27] H K') λt28 H=>
 zbl .w false H (λK'=>ACalls tP ze9 [t28] H K') λt29 H=>
 zad H (λK'=>zac .eql false t29 (.int .i64 0) (K' · H)) λt30=>
 zad H (λK'=>K' t30 H) λt31=>
 zab t31 false H (λK'=>zad H (λK''=>K'' t0 H) (K' · H)) λt32 H=>
 zab t31 false H (λK'=>zad H (λK''=>zaG t32 (K'' · H)) (K' · H)) λt33 H=>
 zab t31 false H (λK'=>zad H (λK''=>zaf 0 t33 (K'' · H)) (K' · H)) λt34 H=>
 zab t31 false H (λK'=>zad H (λK''=>zam false 1 t34 H (K'' · H)) (K' · H)) λt35 H=>
 zab t31 false H (λK'=>zad H (λK''=>K'' t1 H) (K' · H)) λt36 H=>
 zab t31 false H (λK'=>zad H (λK''=>za7 1 1 t36 (some (.int .i64 1)) none (K'' · H)) (K' · H)) λt37 H=>
 zab t31 false H (λK'=>zad H (λK''=>K'' t2 H) (K' · H)) λt38 H=>
 zab t31 false H (λK'=>zad H (λK''=>K'' t8 H) (K' · H)) λt39 H=>
 zab t31 false H (λK'=>zad H (λK''=>zac .sub false t38 t39 (K'' · H)) (K' · H)) λt40 H=>
 zab t31 false H (λK'=>zbl .w false H (λK''=>ACalls tP zgD [t35,t37,t40] H K'') K') λt41 H=>
 zab t31 false H (λK'=>zbl .w false H (λK''=>ACalls tP ze9 [t41] H K'') K') λt42 H=>
 zab t31 false H (λK'=>zad H (λK''=>zac .eql false t42 (.int .i64 0) (K'' · H)) (K' · H)) λt43 H=>
 zad H (λK'=>zai t31 (.bool true) t43 (K' · H)) λt44=>
 zag t44
 (zmK t0 t1 t2 t7 t8 H K Kb7)
 (zad H (λK'=>K' t7 H) λt45=>
 zad H (λK'=>K' t0 H) λt46=>
 zad H (λK'=>K' t1 H) λt47=>
 zad H (λK'=>zaj 1 t47 (.int .i64 0) (K' · H)) λt48=>
 zad H (λK'=>zam false 1 t48 H (K' · H)) λt49=>
 zad H (λK'=>K' t8 H) λt50=>
 zbl .w false H (λK'=>ACalls tP zkj [t46,t49,t50] H K') λt51 H=>
 zad H (λK'=>K' t0 H) λt52=>
 zad H (λK'=>K' t1 H) λt53=>
 zad H (λK'=>za7 1 1 t53 (some (.int .i64 1)) none (K' · H)) λt54=>
 zad H (λK'=>K' t2 H) λt55=>
 zad H (λK'=>K' t8 H) λt56=>
 zad H (λK'=>zac .sub false t55 t56 (K' · H)) λt57=>
 zbl .w false H (λK'=>ACalls tP zh0 [t52,t54,t57] H K') λt58 H=>
 zbl .w false H (λK'=>ACalls tP zki [t51,t58] H K') λt59 H=>
 zbl .w false H (λK'=>zax zbj 1 24 t45 t59 H K') λt60 H=>
 zad H (λK'=>K' t60 H) λt7=>
 zmK t0 t1 t2 t7 t8 H K Kb7))
 (K t7 H)
def zsk(t0 t1 t2:AV)(H:zaa)(K:Kt):Prop:=
 zah 1 t1 λt10=>
 zac .eql false t10 (.int .i64 0) λt11=>
 zag t11
 (zac .eql false t2 (.int .i64 0) λt13=>
 zag t13
 (zas 1 [.snil] 1 [(0,.snil)] λt14=>
 K t14 H)
 (K .snil H))
 (zsn t0 t1 t2 .snil (.int .i64 1) H K)
theorem zNq{t0 t1 t2 t7 t8:AV}{H:zaa}{K:Kt}(Inv:Nat→AV→AV→zaa→Prop)(n:Nat)(h0:HSc H→Inv n t7 t8 H)(round:Rd2 (λt7=>λt8=>zmJ t0 t1 t2 t7 t8) (λt7=>λt8=>λH Kb7=>zsl t0 t1 t2 t7 t8 H K Kb7) H Inv):zsn t0 t1 t2 t7 t8 H K:=
 lp2 (M:=zmI) zNr t7 t8 (by kernel_rfl) Inv n h0 round
theorem zz1{t0 t1 t2:AV}{H:zaa}{K:Kt}(h:HSc H→zsk t0 t1 t2 H K):ACalls tP zh0 [t0,t1,t2] H K:=
 zan (M:=zmI) Tryz.func47 (c:=zsm) (by kernel_rfl) (λhs=>Eq.mpr (by kernel_rfl) (h hs))
def zdb:Nat→List Bool
 |23=>rl false [0,3,6,1,85,3,44]
 |200028=>rl false [0,1]
 |29=>rl false [0,3,6,1,111,3,18]
 |9=>rl false [0,3,6,2,4,1,35,3,88]
 |12=>rl false [0,3,6,2,4,1,1,1,33,3,8,3,77]
 |_=>[]
noncomputable def zga:Code:=Tryz.f89.body.getD .skip
noncomputable def ztf:List ResultVar:=Tryz.f89.results.toList
def zA8(t0 t1 t2 t9:AV)(H:zaa)(K:Kt):Prop:=
 zaG t0 λt134=>
 zaf 2 t134 λt135=>
 zae false 1 t135 H λt136=>
 zao [(.int .i64 0),(.int .i64 0)] [(0,1),(1,1)] [(0,t1),(1,t2)] λt139=>
 zdg t136 t139 t9 H λH=>
 K t9 H
def zfp(t0 t1 t2 t9:AV)(H:zaa)(K:Kt):Prop:=
 zA8 t0 t1 t2 t9 H K
def znl(t0 t1 t2 t9 t95 t96 t97:AV):List AV:=t0::t1::t2::ux 6 (t9::ux 85 (t95::t96::t97::ux 44 []))
def zP2:List Bool:=zdb 23
noncomputable def zPV:Code:=zaq [1,1,1,0,1,1,0,1,1,1,1,1,0,1,0,0] zga
def zPS(K:Kt):AExit→List AV→zaa→Prop:=zar tP zdb [1,1,1,0,1,1,0,1,1,1,1,1,0,1,0] zga (zaB tP ztf K)
def ztc(t0 t1 t2 t9 t95 t96 t97:AV)(H:zaa)(K:Kt):Prop:=ALoop tP zPV (zPS K) (znl t0 t1 t2 t9 t95 t96 t97) H
def zs8(t0 t1 t2 t9 t95 t96 t97:AV)(H:zaa)(K:Kt)(Kb23:Lt):Prop:=
 zac .lss false t97 t96 λt98=>
 zag t98
 (zaj 1 t95 t97 λt99=>
 zae false 1 t99 H λt100=>
 zao [(.int .i64 0),(.int .i64 0),.snil] [(0,1),(1,1),(2,1)] [(0,(.int .i64 3)),(1,t100)] λt103=>
 zas 3 [(.int .i64 0),(.int .i64 0),.snil] 1 [(0,t103)] λt104=>
 zax zaO 3 40 t9 t104 H λt105 H=>
 zac .add false t97 (.int .i64 1) λt106=>
 Kb23 (znl t0 t1 t2 t105 t95 t96 t106) H)
 (zfp t0 t1 t2 t9 H K)
def znm(t0 t1 t2 t9 t121 t122 t123:AV):List AV:=t0::t1::t2::ux 6 (t9::ux 111 (t121::t122::t123::ux 18 []))
def zP3:List Bool:=zdb 29
noncomputable def zPW:Code:=zaq [1,1,1,0,1,1,0,1,1,1,1,1,1,1,0,1,0,0] zga
def zPT(K:Kt):AExit→List AV→zaa→Prop:=zar tP zdb [1,1,1,0,1,1,0,1,1,1,1,1,1,1,0,1,0] zga (zaB tP ztf K)
def ztd(t0 t1 t2 t9 t121 t122 t123:AV)(H:zaa)(K:Kt):Prop:=ALoop tP zPW (zPT K) (znm t0 t1 t2 t9 t121 t122 t123) H
def zs9(t0 t1 t2 t9 t121 t122 t123:AV)(H:zaa)(K:Kt)(Kb29:Lt):Prop:=
 zac .lss false t123 t122 λt124=>
 zag t124
 (zaj 1 t121 t123 λt125=>
 zae false 1 t125 H λt126=>
 zao [(.int .i64 0),(.int .i64 0),.snil] [(0,1),(1,1),(2,1)] [(0,(.int .i64 6)),(2,t126)] λt129=>
 zas 3 [(.int .i64 0),(.int .i64 0),.snil] 1 [(0,t129)] λt130=>
 zax zaO 3 40 t9 t130 H λt131 H=>
 zac .add false t123 (.int .i64 1) λt132=>
 Kb29 (znm t0 t1 t2 t131 t121 t122 t132) H)
 (zfp t0 t1 t2 t9 H K)
def znn(t0 t1 t2 t9 t10 t15 t51 t52 t53:AV):List AV:=t0::t1::t2::ux 6 (t9::t10::ux 4 (t15::ux 35 (t51::t52::t53::ux 88 [])))
def zBa:List Bool:=zdb 9
noncomputable def ztb:Code:=zaq [1,1,1,0,1,1,0,1,1,1,1,1,1,1,1,1,1,0,0] zga
def zA7(K:Kt):AExit→List AV→zaa→Prop:=zar tP zdb [1,1,1,0,1,1,0,1,1,1,1,1,1,1,1,1,1,0] zga (zaB tP ztf K)
def zte(t0 t1 t2 t9 t10 t15 t51 t52 t53:AV)(H:zaa)(K:Kt):Prop:=ALoop tP ztb (zA7 K) (znn t0 t1 t2 t9 t10 t15 t51 t52 t53) H
def znk(t0 t1 t2 t9 t10 t15 t17 t51 t52 t53 t62 t63 t64:AV):List AV:=t0::t1::t2::ux 6 (t9::t10::ux 4 (t15::ux 1 (t17::ux 33 (t51::t52::t53::ux 8 (t62::t63::t64::ux 77 [])))))
def zP1:List Bool:=zdb 12
noncomputable def zPU:Code:=zaq [1,1,0,0,1,1,0,0] ztb
def zPR(K:Kt)(Kb9:Lt):AExit→List AV→zaa→Prop:=zar tP zdb [1,1,0,0,1,1,0] ztb (zbK zBa Kb9 (zA7 K))
def zA9(t0 t1 t2 t9 t10 t15 t17 t51 t52 t53 t62 t63 t64:AV)(H:zaa)(K:Kt)(Kb9:Lt):Prop:=ALoop tP zPU (zPR K Kb9) (znk t0 t1 t2 t9 t10 t15 t17 t51 t52 t53 t62 t63 t64) H
def zs7(t0 t1 t2 t9 t10 t15 t17 t51 t52 t53 t62 t63 t64:AV)(H:zaa)(K:Kt)(Kb9:Lt)(Kb12:Lt):Prop:=
 zac .lss false t64 t63 λt65=>
 zag t65
 (zaj 1 t62 t64 λt66=>
 zae false 1 t66 H λt67=>
 zad H (λK'=>K' t9 H) λt68=>
 zad H (λK'=>zaf 0 t10 (K' · H)) λt69=>
 zad H (λK'=>zam false 1 t69 H (K' · H)) λt70=>
 zad H (λK'=>zaj 1 (zfy 9 t15) t70 (K' · H)) λt71=>
 zad H (λK'=>zam false 1 t71 H (K' · H)) λt72=>
 zad H (λK'=>zaf 0 t17 (K' · H)) λt73=>
 zad H (λK'=>zam false 1 t73 H (K' · H)) λt74=>
 zad H (λK'=>K' t67 H) λt75=>
 zad H (λK'=>zao [(.int .i64 0),(.int .i64 0),.snil] [(0,1),(1,1),(2,1)] [(0,t72),(1,t74),(2,t75)] (K' · H)) λt76=>
 zad H (λK'=>zas 3 [(.int .i64 0),(.int .i64 0),.snil] 1 [(0,t76)] (K' · H)) λt77=>
 zax zaO 3 40 t68 t77 H λt78 H=>
 zad H (λK'=>K' t78 H) λt9=>
 zac .add false t64 (.int .i64 1) λt79=>
 Kb12 (znk t0 t1 t2 t9 t10 t15 t17 t51 t52 t53 t62 t63 t79) H)
 (zac .add false t53 (.int .i64 1) λt80=>
 Kb9 (znn t0 t1 t2 t9 t10 t15 t51 t52 t80) H)
def zta(t0 t1 t2 t9 t10 t15 t51 t52 t53:AV)(H:zaa)(K:Kt)(Kb9:Lt):Prop:=
 zac .lss false t53 t52 λt54=>
 zag t54
 (zaj 2 t51 t53 λt55=>
 zae true 2 t55 H λt56=>
 zay [(.int .i64 0),.snil] H λt17 H=>
 zak 2 t17 t56 H λH=>
 zaf 1 t17 λt58=>
 zae false 1 t58 H λt59=>
 zac .sub false t2 (.int .i64 1) λt61=>
 ACalls tP zh0 [t0,t59,t61] H λt62 H=>
 zah 1 t62 λt63=>
 zA9 t0 t1 t2 t9 t10 t15 t17 t51 t52 t53 t62 t63 (.int .i64 0) H K Kb9)
 (zfp t0 t1 t2 t9 H K)
def zi7(t0 t1 t2:AV)(H:zaa)(K:Kt):Prop:=
 zaG t0 λt22=>
 zaf 2 t22 λt23=>
 zae false 1 t23 H λt24=>
 zao [(.int .i64 0),(.int .i64 0)] [(0,1),(1,1)] [(0,t1),(1,t2)] λt27=>
 zeo .snil true t24 t27 H λt28=>
 zaN t28 0 λt29=>
 zaN t28 1 λt30=>
 zag t30
 (K t29 H)
 (zaG t0 λt34=>
 zaf 0 t34 λt35=>
 zae false 1 t35 H λt36=>
 zaG t36 λt37=>
 zaf 3 t37 λt38=>
 zae false 1 t38 H λt39=>
 zaj 3 t39 t1 λt41=>
 zae true 3 t41 H λt42=>
 zay [(.int .i64 0),(.int .i64 0),.snil] H λt10 H=>
 zak 3 t10 t42 H λH=>
 zaf 0 t10 λt43=>
 zae false 1 t43 H λt44=>
 zac .eql false t44 (.int .i64 3) λt82=>
 zag t82
 (zao [(.int .i64 0),(.int .i64 0),.snil] [(0,1),(1,1),(2,1)] [(0,(.int .i64 1))] λt83=>
 zas 3 [(.int .i64 0),(.int .i64 0),.snil] 1 [(0,t83)] λt84=>
 zfp t0 t1 t2 t84 H K)
 (zac .eql false t44 (.int .i64 2) λt86=>
 zag t86
 (zao [(.int .i64 0),(.int .i64 0),.snil] [(0,1),(1,1),(2,1)] [(0,(.int .i64 2))] λt87=>
 zao [(.int .i64 0),(.int .i64 0),.snil] [(0,1),(1,1),(2,1)] [(0,(.int .i64 2)),(1,(.int .i64 1))] λt88=>
 zas 3 [(.int .i64 0),(.int .i64 0),.snil] 2 [(0,t87),(1,t88)] λt89=>
 zfp t0 t1 t2 t89 H K)
 (zac .eql false t44 (.int .i64 1) λt91=>
 zag t91
 (zaG t0 λt93=>
 zaf 1 t93 λt94=>
 zae false 1 t94 H λt95=>
 zah 1 t95 λt96=>
 ztc t0 t1 t2 .snil t95 t96 (.int .i64 0) H K)
 (zac .eql false t44 (.int .i64 7) λt108=>
 zag t108
 (zad H (λK'=>K' t0 H) λt109=>
 zad H (λK'=>K' t0 H) λt110=>
 zad H (λK'=>zaG t110 (K' · H)) λt111=>
 zad H (λK'=>zaf 0 t111 (K' · H)) λt112=>
 zad H (λK'=>zam false 1 t112 H (K' · H)) λt113=>
 zad H (λK'=>zaf 2 t10 (K' · H)) λt114=>
 zad H (λK'=>zam false 1 t114 H (K' · H)) λt115=>
 zad H (λK'=>zaj 3 t115 (.int .i64 0) (K' · H)) λt116=>
 zad H (λK'=>zam true 3 t116 H (K' · H)) λt117=>
 zbl .w false H (λK'=>ACalls tP zgC [t113,t117] H K') λt118 H=>
 zad H (λK'=>K' t2 H) λt119=>
 zad H (λK'=>zac .sub false t119 (.int .i64 1) (K' · H)) λt120=>
 zbl .w false H (λK'=>ACalls tP zjR [t109,t118,t120] H K') λt121 H=>
 zad H (λK'=>zah 1 t121 (K' · H)) λt122=>
 zad H (λK'=>K' (.int .i64 0) H) λt123=>
 ztd t0 t1 t2 .snil t121 t122 t123 H K)
 (zao [(.int .i64 0),(.int .i64 0),(.int .i64 0),(.int .i64 0),(.int .i64 0),(.int .i64 0),(.int .i64 0),(.int .i64 0),(.int .i64 0)] [(0,1),(1,1),(2,1),(3,1),(4,1),(5,1),(6,1),(7,1),(8,1)] [(5,(.int .i64 5)),(6,(.int .i64 4)),(8,(.int .i64 7))] λt45=>
 zay [(.int .i64 0),(.int .i64 0),(.int .i64 0),(.int .i64 0),(.int .i64 0),(.int .i64 0),(.int .i64 0),(.int .i64 0),(.int .i64 0)] H λt15 H=>
 zak 9 t15 t45 H λH=>
 zaG t0 λt47=>
 zaf 0 t47 λt48=>
 zae false 1 t48 H λt49=>
 ACalls tP zh6 [t49,t1] H λt51 H=>
 zah 1 t51 λt52=>
 zte t0 t1 t2 .snil t10 t15 t51 t52 (.int .i64 0) H K)))))
theorem zPY{t0 t1 t2 t9 t95 t96 t97:AV}{H:zaa}{K:Kt}(Inv:Nat→AV→AV→zaa→Prop)(n:Nat)(h0:HSc H→Inv n t9 t97 H)(round:Rd2 (λt9=>λt97=>znl t0 t1 t2 t9 t95 t96 t97) (λt9=>λt97=>λH Kb23=>zs8 t0 t1 t2 t9 t95 t96 t97 H K Kb23) H Inv):ztc t0 t1 t2 t9 t95 t96 t97 H K:=
 lp2 (M:=zdb) zP2 t9 t97 (by kernel_rfl) Inv n h0 round
theorem zPZ{t0 t1 t2 t9 t121 t122 t123:AV}{H:zaa}{K:Kt}(Inv:Nat→AV→AV→zaa→Prop)(n:Nat)(h0:HSc H→Inv n t9 t123 H)(round:Rd2 (λt9=>λt123=>znm t0 t1 t2 t9 t121 t122 t123) (λt9=>λt123=>λH Kb29=>zs9 t0 t1 t2 t9 t121 t122 t123 H K Kb29) H Inv):ztd t0 t1 t2 t9 t121 t122 t123 H K:=
 lp2 (M:=zdb) zP3 t9 t123 (by kernel_rfl) Inv n h0 round
theorem zPX{t0 t1 t2 t9 t10 t15 t17 t51 t52 t53 t62 t63 t64:AV}{H:zaa}{K:Kt}{Kb9:Lt}(Inv:Nat→AV→AV→zaa→Prop)(n:Nat)(h0:HSc H→Inv n t9 t64 H)(round:Rd2 (λt9=>λt64=>znk t0 t1 t2 t9 t10 t15 t17 t51 t52 t53 t62 t63 t64) (λt9=>λt64=>λH Kb12=>zs7 t0 t1 t2 t9 t10 t15 t17 t51 t52 t53 t62 t63 t64 H K Kb9 Kb12) H Inv):zA9 t0 t1 t2 t9 t10 t15 t17 t51 t52 t53 t62 t63 t64 H K Kb9:=
 lp2 (M:=zdb) zP1 t9 t64 (by kernel_rfl) Inv n h0 round
theorem zP0{t0 t1 t2 t9 t10 t15 t51 t52 t53:AV}{H:zaa}{K:Kt}(Inv:Nat→AV→AV→zaa→Prop)(n:Nat)(h0:HSc H→Inv n t9 t53 H)(round:Rd2 (λt9=>λt53=>znn t0 t1 t2 t9 t10 t15 t51 t52 t53) (λt9=>λt53=>λH Kb9=>zta t0 t1 t2 t9 t10 t15 t51 t52 t53 H K Kb9) H Inv):zte t0 t1 t2 t9 t10 t15 t51 t52 t53 H K:=
 lp2 (M:=zdb) zBa t9 t53 (by kernel_rfl) Inv n h0 round
theorem zno{t0 t1 t2:AV}{H:zaa}{K:Kt}(h:HSc H→zi7 t0 t1 t2 H K):ACalls tP zkj [t0,t1,t2] H K:=
 zan (M:=zdb) Tryz.func89 (c:=zga) (by kernel_rfl) (λhs=>Eq.mpr (by kernel_rfl) (h hs))
end Go.Proofs.YtaifokkaaahdoaaGreatDoor
namespace Go.Proofs.YtaifokkaaahdoaaGreatDoor
open Go Go.Abs
structure BS where
 s:SS
 m:List ((Int×Int)×List VT)
def zdI(l:List ((Int×Int)×List VT)):List ((Int×Int)×AV):=l.map λe=>(e.1,.sl (VT.css e.2) .none)
structure BI where
 i:SI
 bp:Nat
 bm:Nat
section
variable (data:List Dat) (kk:Int) (xs:List Int) (Z:BI)
structure ShB (B:BS) (H:zaa):Prop where
 sh:ShS data kk Z.i B.s H
 bpa:H[Z.bp]?=some (.cells [.ptr Z.i.p 0,.sl (ints xs) .none,.map Z.bm])
 bma:H[Z.bm]?=some (.mapP (zdI B.m))
 np:za3 data kk Z.i B.s Z.bp=none
 nm:za3 data kk Z.i B.s Z.bm=none
 ne:Z.bp≠Z.bm
def shB(B:BS)(H:zaa):zaa:=(shS data kk Z.i B.s H).set Z.bm (.mapP (zdI B.m))
end
theorem zgo{data:List Dat}{kk:Int}{I:SI}{S S':SS}{x:Nat}(h:za3 data kk I S x=none):za3 data kk I S' x=none:=by
 have:=zgp (data:=data) (kk:=kk) (I:=I) (S:=S) (S':=S') x;rw[h]at this;cases h2:za3 data kk I S' x with
 |none=>rfl
 |some b=>rw[h2]at this;cases this
theorem zFd{data:List Dat}{kk:Int}{I:SI}{S:SS}{x:Nat}{b:AB}{H:zaa}(h:za3 data kk I S x=none):shS data kk I S (H.set x b)=(shS data kk I S H).set x b:=by
 apply List.ext_getElem?;intro y;rw[zcv];by_cases e:x=y
 ·subst e;by_cases hx:x<H.length
  ·rw[List.getElem?_set_self hx,List.getElem?_set_self (by simpa using hx),h];rfl
  ·rw[List.getElem?_eq_none (by simpa using hx),List.getElem?_eq_none (by simpa using hx)];rfl
 ·rw[List.getElem?_set_ne e,List.getElem?_set_ne e,zcv]
section
variable {data:List Dat} {kk:Nat} {xs:List Int} {Z:BI} {B B' B'':BS} {H J:zaa}
@[simp] theorem zUj:(shB data kk Z B H).length=H.length:=by simp[shB]
theorem ShB.app(h:ShB data kk xs Z B H):ShB data kk xs Z B (H++J):=⟨h.sh.app,by
 rw[List.getElem?_append_left (List.getElem?_eq_some_iff.1 h.bpa).1];exact h.bpa,by
 rw[List.getElem?_append_left (List.getElem?_eq_some_iff.1 h.bma).1];exact h.bma,h.np,h.nm,h.ne⟩
theorem ShB.shB_app(h:ShB data kk xs Z B H):shB data kk Z B' (H++J)=shB data kk Z B' H++J:=by unfold shB;rw[h.sh.shS_app,List.set_append_left _ _ (by simpa using(List.getElem?_eq_some_iff.1 h.bma).1)]
theorem ShB.next(h:ShB data kk xs Z B H)(hm:B'.s.made.length=B'.s.types.length)(hc:B'.s.cons.length=B'.s.types.length):ShB data kk xs Z B' (shB data kk Z B' H):=by
 have h1:=h.sh.next hm hc;have lbm:=(List.getElem?_eq_some_iff.1 h.bma).1;refine⟨⟨h1.ok,λx b hb=>?_,hm,hc⟩,?_,?_,zgo h.np,zgo h.nm,h.ne⟩
 ·have hne:Z.bm≠x:=by rintro rfl;rw[zgo h.nm]at hb;cases hb
  rw[shB,List.getElem?_set_ne hne];exact h1.at' x b hb
 ·rw[shB,List.getElem?_set_ne (λe=>h.ne e.symm),zcv,h.bpa,Option.map_some,zgo h.np];rfl
 ·rw[shB,List.getElem?_set_self (by simpa using lbm)]
theorem ShB.shB_shB(h:ShB data kk xs Z B H):shB data kk Z B'' (shB data kk Z B' H)=shB data kk Z B'' H:=by unfold shB;rw[zFd (zgo h.nm),zdv,List.set_set]
theorem ShB.self(h:ShB data kk xs Z B H):shB data kk Z B H=H:=by
 unfold shB;rw[h.sh.self];apply List.ext_getElem?;intro y;by_cases e:Z.bm=y
 ·subst e;rw[List.getElem?_set_self (List.getElem?_eq_some_iff.1 h.bma).1,h.bma]
 ·rw[List.getElem?_set_ne e]
theorem ShB.shS_eq(h:ShB data kk xs Z B H){S':SS}:shS data kk Z.i S' H=shB data kk Z ⟨S',B.m⟩ H:=by
 unfold shB;apply List.ext_getElem?;intro y;by_cases e:Z.bm=y
 ·subst e;rw[List.getElem?_set_self (by simpa using(List.getElem?_eq_some_iff.1 h.bma).1),zcv,h.bma,Option.map_some,zgo h.nm];rfl
 ·rw[List.getElem?_set_ne e]
theorem ShB.nodr(h:ShB data kk xs Z B H)(h0:H[0]?=some .nodr):(shB data kk Z B' H)[0]?=some .nodr:=by
 have hne:Z.bm≠0:=by intro e;have:=h.bma;rw[e,h0]at this;cases this
 rw[shB,List.getElem?_set_ne hne];exact h.sh.nodr h0
theorem zD9(n:Nat)(l:List ((Int×Int)×List VT)):(AB.mapP (zdI l)).sc n=true:=by simp[AB.sc,zdI,AV.scV,AV.scA,AV.scB]
theorem ShB.scs(h:ShB data kk xs Z B H)(hs:HSc H):HSc (shB data kk Z B' H):=by unfold shB;exact(h.sh.scs hs).set (zD9 _ _)
end
structure InvB (data:List Dat) (kk:Nat) (xs:List Int) (X:List VT) (B:BS):Prop where
 s:zaZ data kk X B.s
 m:∀e∈B.m,∃(i n:Nat) (t:VT),e.1=((i:Int),(n:Int))∧B.s.types[i]?=some t∧e.2=vV data xs t n
section
variable (data:List Dat) (kk:Nat) (xs:List Int) (X:List VT) (Z:BI)
def zfq(B B':BS)(i n:Nat)(l:List VT):Prop:=∀H,ShB data kk xs Z B H→H[0]?=some .nodr→∀K:Kt,K (.sl (VT.css l) .none) (shB data kk Z B' H)→ACalls tP zkj [.ptr Z.bp 0,.int .i64 i,.int .i64 n] H K
def zel(n:Nat):Prop:=∀(B:BS) (i:Nat) (t:VT),InvB data kk xs X B→B.s.types[i]?=some t→Rch data X n t→cV data kk t n≠0→cV data kk t n≤2000→∃B',InvB data kk xs X B'∧B.s.types <+: B'.s.types∧zfq data kk xs Z B B' i n (vV data xs t n)
def llA(l:List (List VT)):List (List AV):=l.map λr=>[.sl (VT.css r) .none]
def zgd(B B':BS)(is:List Nat)(n:Nat)(l:List (List VT)):Prop:=∀H,ShB data kk xs Z B H→H[0]?=some .nodr→∀K:Kt,K (.sl (llA l) .none) (shB data kk Z B' H)→ACalls tP zh0 [.ptr Z.bp 0,.sl (za6 is) .none,.int .i64 n] H K
def zja(B B':BS)(i n:Nat)(l:List (List VT)):Prop:=∀H,ShB data kk xs Z B H→H[0]?=some .nodr→∀K:Kt,K (.sl (llA l) .none) (shB data kk Z B' H)→ACalls tP zjR [.ptr Z.bp 0,.int .i64 i,.int .i64 n] H K
end
@[simp] theorem zgv(l:List (List VT)):(llA l).length=l.length:=by simp[llA]
theorem zoB(a b:List (List VT)):llA (a++b)=llA a++llA b:=by simp[llA]
theorem ztX(es:List (List AV))(tk:Tok)(k:AV→Prop):zas 1 [.snil] 1 [(0,.sl es tk)] k=k (.sl [[.sl es .none]] .full):=propext Iff.rfl
theorem zB7(v:VT)(r:List VT)(hr:r.length≤1000000)(H:zaa)(K:Kt)(hK:∀tk J,K (.sl (v.cs::VT.css r) tk) (H++J)):zax zaO 3 40 (.sl [v.cs] .full) (.sl (VT.css r) .none) H K:=by
 cases r with
 |nil=>simp only[VT.css,zax,zbc,za2];refine⟨by simp,?_⟩;have:=hK .full [];rwa [List.append_nil]at this
 |cons y r=>
  simp only[VT.css,zax,zbc,za2];refine⟨by simp[VT.css_map],⟨by simp,by simp,?_,?_⟩,?_⟩
  ·simp at hr ⊢;omega
  ·simp at hr ⊢;omega
  exact hK (.own H.length) [.perm zaO 3 ([v.cs].length+(y.cs::VT.css r).length)]
theorem zDB{a:List VT}{b:List (List VT)}{i:Nat}(h:i<a.length):zbe (a.take (i+1)) b=zbe (a.take i) b++b.map λr=>a[i]::r:=by unfold zbe;rw[List.take_succ_eq_append_getElem h,List.flatMap_append];simp
theorem zA6(a:List VT)(b:List (List VT))(ha:a.length≤1000000)(hb:b.length≤1000000)(hr:∀ r∈b,r.length≤1000000)(H:zaa)(K:Kt)(hK:K (.sl (llA (zbe a b)) .none) H):
  ACalls tP zki [.sl (VT.css a) .none,.sl (llA b) .none] H K:=by
 refine ACalls.out (zPP λhs=>?_);simp only[zA2,zen,VT.css_len];refine ALoop.own 5 zbj 1 rfl ?_;show zs6 _ (.sl (llA (zbe (a.take 0) b)) (.own H.length)) _ _ _ (H++[.perm zbj 1 0]) _;obtain⟨N,hN⟩:∃N,N=H.length:=⟨_,rfl⟩;rw[←hN];have hps:∀k,HSc (H++[.perm zbj 1 k]):=λk=>hs.snoc rfl;have jl:∀i,i≤a.length→(zbe (a.take i) b).length=i*b.length:=λi hi=>by rw[zfH,List.length_take,Nat.min_eq_left hi]
 refine zPM (Inv:=λq t5 t12 H'=>∃i:Nat,i≤a.length∧a.length-i=q∧t12=.int .i64 i∧t5=.sl (llA (zbe (a.take i) b)) (.own N)∧H'=H++[.perm zbj 1 (i*b.length)]) a.length ?_ ?_
 ·intro _;exact⟨0,by omega,rfl,rfl,rfl,by simp⟩
 ·rintro q t5 t12 H' ⟨i,hi,rfl,rfl,rfl,rfl⟩ hsc3 hlen3 hsF3 Kb3 hKb3;by_cases hlt:i<a.length
  ·obtain⟨x1,x2,x3,hvx,hxa,hxb,hxc⟩:=zaL a[i];have hib:=Nat.mul_le_mul hi hb;have hia:=Nat.mul_le_mul ha (Nat.le_refl 1000000);have hib1:(i+1)*b.length≤1000000000000:=by have:=Nat.mul_le_mul (show i+1≤1000000 by omega) hb;omega
   simp[zs2,hlt,hvx];refine⟨⟨hxa,hxb,hxc⟩,?_⟩;rw[←hvx,←hN];have hss:∀k,HSc (H++[.perm zbj 1 k,.cells (a[i]).cs]):=λk=>hs.append (by simp[AB.sc]);refine zPN (Inv:=λq t5 t18 H'=>∃j:Nat,j≤b.length∧b.length-j=q∧t18=.int .i64 j∧t5=.sl (llA (zbe (a.take i) b++(b.map λr=>a[i]::r).take j)) (.own N)∧H'=H++[.perm zbj 1 (i*b.length+j),.cells (a[i]).cs]) b.length ?_ ?_
   ·intro _;exact⟨0,by omega,rfl,rfl,by simp,by simp⟩
   ·rintro q t5 t18 H' ⟨j,hj,rfl,rfl,rfl,rfl⟩ hsc6 hlen6 hsF6 Kb6 hKb6;by_cases hlj:j<b.length
    ·have hgj:∀ h:j<(llA b).length,(llA b)[j]'h=[.sl (VT.css b[j]) .none]:=λh=>by simp[llA]
     have hrj:=hr _ (List.getElem_mem hlj);have hg7:(H++[AB.perm zbj 1 (i*b.length+j),AB.cells (a[i]).cs])[N+1]?=some (.cells (a[i]).cs):=by rw[hN];simp[List.getElem?_append]
     have hal:(llA (zbe (a.take i) b++(b.map λr=>a[i]::r).take j)).length=i*b.length+j:=by rw[zgv,List.length_append,jl i hi,List.length_take,List.length_map];omega
     have hst:llA (zbe (a.take i) b++(b.map λr=>a[i]::r).take j)++[[.sl ((a[i]).cs::VT.css b[j]) .none]]=llA (zbe (a.take i) b++(b.map λr=>a[i]::r).take (j+1)):=by rw[List.take_succ_eq_append_getElem (by simpa using hlj),←List.append_assoc,zoB (zbe (a.take i) b++_)];simp[llA,VT.css]
     have step:∀(tk:Tok) (J:zaa),(zax zbj 1 24 (.sl (llA (zbe (a.take i) b++(b.map λr=>a[i]::r).take j)) (.own N)) (.sl [[.sl ((a[i]).cs::VT.css b[j]) .none]] tk) (H++(AB.perm zbj 1 (i*b.length+j)::AB.cells (a[i]).cs::J)) λt28 H_1=>Kb6 (zi6 (.sl (llA b) .none) t28 (.ptr (N+1) 0) (.sl (VT.css a) .none) (.int .i64 a.length) (.int .i64 i) (.sl (llA b) .none) (.int .i64 b.length) (.int .i64 (j+1:Nat))) H_1):=by
      intro tk J;simp only[zax,zbc,za2,hal];refine⟨by simp,?_,⟨by simp;omega,by simp;omega⟩,?_⟩
      ·rw[hN];simp
      ·rw[hst];have hset:(H++(AB.perm zbj 1 (i*b.length+j)::AB.cells (a[i]).cs::J)).set N (.perm zbj 1 (i*b.length+j+[[AV.sl ((a[i]).cs::VT.css b[j]) Tok.none]].length))=(H++[.perm zbj 1 (i*b.length+(j+1)),.cells (a[i]).cs])++J:=by rw[hN,List.set_append_right _ _ (Nat.le_refl _)];simp[Nat.add_assoc]
       rw[hset];refine hKb6 _ _ ⟨b.length-(j+1),by omega,Back.at (J:=J) rfl (by simp) (hss _) ?_ ⟨_,_,rfl,j+1,by omega,rfl,rfl,rfl,rfl⟩⟩;simp[zi6,ux,AV.sc,AV.scA,AV.scB,AV.scV];omega
     have hcl:VT.cs a[i]=(a[i]).cs:=rfl;simp only[List.map_take]at *;simp[zs3,hlj,hgj];rw[hg7];simp only[zfu,zfr,List.drop_zero,VT.cs_take,VT.cs_len];refine⟨by omega,?_⟩;rw[zcX,wr (by omega)];refine zB7 a[i] b[j] hrj _ _ λtk J=>?_;rw[ztX];have:=step .full J;simpa using this
    ·obtain rfl:j=b.length:=by omega
     simp[zs3];rw[wr (by omega)];refine hKb3 _ _ ⟨a.length-(i+1),by omega,Back.at (H2:=H++[.perm zbj 1 ((i+1)*b.length)]) (J:=[.cells (a[i]).cs]) (by simp[Nat.succ_mul]) (by simp) (hps _) ?_ ⟨_,_,rfl,i+1,by omega,rfl,rfl,by rw[zDB hlt,List.take_of_length_le (l:=b.map λr=>a[i]::r) (by simp)],rfl⟩⟩;simp[znj,ux,AV.sc,AV.scA,AV.scB,AV.scV];omega
  ·obtain rfl:i=a.length:=by omega
   simp[zs2];exact Out.at rfl (by omega) hs (.atom (.sl _ _)) rfl rfl hK
theorem zu6(a:List VT):zbe a []=[]:=by unfold zbe;induction a with
 |nil=>rfl
 |cons v a ih=>rw[List.flatMap_cons,ih];rfl
theorem zvi{g:VT→Nat→List VT}:∀ (ts:List VT) (n:Nat),∀ r∈lsL g ts n,r.length=ts.length
 |[],n,r,h=>by
  rw[lsL]at h;split at h
  ·simp at h;subst h;rfl
  ·simp at h
 |t::ts,n,r,h=>by rw[lsL]at h;obtain⟨s,_,h⟩:=List.mem_flatMap.1 h;unfold zbe at h;obtain⟨v,_,h⟩:=List.mem_flatMap.1 h;obtain⟨r',hr',rfl⟩:=List.mem_map.1 h;rw[List.length_cons,List.length_cons,zvi ts _ r' hr']
section
variable (data:List Dat) (xs:List Int) (X:List VT) (Z:BI)
def RL(t:VT)(ts:List VT)(i:Nat)(is:List Nat)(n s:Nat)(B B':BS):Prop:=
 ∃ o1 S1,zej data xs.length Z.i B.s S1 i (s+1) o1∧vO o1=cV data xs.length t (s+1)∧zaZ data xs.length X S1 ∧
  ((vO o1=0∧B'=⟨S1,B.m⟩)∨(vO o1≠0∧∃ o2 S2,znw data xs.length Z.i S1 S2 is (n-(s+1)) o2∧vO o2=cL (cV data xs.length) ts (n-(s+1))∧zaZ data xs.length X S2 ∧
    ((vO o2=0∧B'=⟨S2,B.m⟩)∨(vO o2≠0∧∃B3,zfq data xs.length xs Z ⟨S2,B.m⟩ B3 i (s+1) (vV data xs t (s+1))∧InvB data xs.length xs X B3∧zgd data xs.length xs Z B3 B' is (n-(s+1)) (lsL (vV data xs) ts (n-(s+1)))))))
end
section
variable {data:List Dat} (hD:zaD data=true) (hk:Kpt data) {xs:List Int} (hxs:xs.length≤8) {X:List VT} (hX:X.length≤1000000000000) {Z:BI}
include hD hk hxs hX
theorem InvB.mk'{S':SS}{B:BS}(hB:InvB data xs.length xs X B)(h:zaZ data xs.length X S')(hp:B.s.types <+: S'.types):InvB data xs.length xs X ⟨S',B.m⟩:=
 ⟨h,λe he=>by
  obtain⟨i,n,t,h1,h2,h3⟩:=hB.m e he;exact⟨i,n,t,h1,zc6 hp h2,h3⟩⟩
theorem zxk{t:VT}{n:Nat}(h:cV data xs.length t n=0):vV data xs t n=[]:=by have:=zeL data xs n t;rw[h]at this;exact List.eq_nil_of_length_eq_zero this
theorem zhJ(ts:List VT)(n:Nat):(lsL (vV data xs) ts n).length=cL (cV data xs.length) ts n:=
 zjL (zb2 data xs.length) ts n λt _ s _=>zeL data xs s t
theorem zDY{n:Nat}(hn:n≤14)(hV:∀ m,m≤n→zel data xs.length xs X Z m){t:VT}{ts:List VT}{i:Nat}{is:List Nat}(htl:ts.length≤1000)(ih:∀ (m:Nat) (B:BS),m≤n→InvB data xs.length xs X B→IdxOk B.s.types ts is→(∀ (p:Nat) (h:p<ts.length),Rch data X (m-p) ts[p])→cL (cV data xs.length) ts m≤2000→∃ B',InvB data xs.length xs X B'∧B.s.types <+: B'.s.types∧zgd data xs.length xs Z B B' is m (lsL (vV data xs) ts m)){B:BS}(hB:InvB data xs.length xs X B)(hix:IdxOk B.s.types (t::ts) (i::is))(hR:∀ (p:Nat) (h:p<(t::ts).length),Rch data X (n-p) (t::ts)[p])(hl:cL (cV data xs.length) (t::ts) n≤2000):
  ∃ σ:Nat→BS,σ 0=B∧(∀s≤n,InvB data xs.length xs X (σ s)∧B.s.types <+: (σ s).s.types)∧∀s<n,RL data xs X Z t ts i is n s (σ s) (σ (s+1)):=by
 have hC:∀m,m≤n→zcD data xs.length X Z.i m:=λm hm=>zn1 hD hk hxs hX m (by omega);simp only[IdxOk,List.map_cons,List.cons.injEq]at hix;have hR0:Rch data X n t:=hR 0 (by simp);refine zdY (λs (B':BS)=>InvB data xs.length xs X B'∧B.s.types <+: B'.s.types) (λs B B'=>RL data xs X Z t ts i is n s B B') n (λs hs B1 hB1=>?_) _ ⟨hB,List.prefix_rfl⟩;obtain⟨h1,h2⟩:=hB1;obtain⟨S1,o1,k1,k2,k3,k4⟩:=hC (s+1) (by omega) B1.s i t h1.s (zc6 h2 hix.1) (hR0.le _ (by omega));by_cases e1:vO o1=0
 ·exact⟨⟨S1,B1.m⟩,⟨o1,S1,k4,k3,k1,.inl ⟨e1,rfl⟩⟩,InvB.mk' hD hk hxs hX h1 k1 k2,h2.trans k2⟩
 ·have hRt:∀ (p:Nat) (h:p<ts.length),Rch data X (n-(s+1)-p) ts[p]:=λp hp=>by have:=hR (p+1) (by simpa using hp);simp only[List.getElem_cons_succ]at this;exact this.le _ (by omega)
  obtain⟨S2,o2,j1,j2,j3,j4⟩:=zpQ hD hk hxs hX (show n-(s+1)≤14 by omega) (λm hm=>hC m (by omega)) htl k1 (IdxOk.mono (h2.trans k2) hix.2) hRt;by_cases e2:vO o2=0
  ·exact⟨⟨S2,B1.m⟩,⟨o1,S1,k4,k3,k1,.inr ⟨e1,o2,S2,j4,j3,j1,.inl ⟨e2,rfl⟩⟩⟩,InvB.mk' hD hk hxs hX h1 j1 (k2.trans j2),h2.trans (k2.trans j2)⟩
  ·have hterm:cV data xs.length t (s+1)*cL (cV data xs.length) ts (n-(s+1))≤2000:=by rw[cL]at hl;exact Nat.le_trans (zwD (f:=λs=>cV data xs.length t s*cL (cV data xs.length) ts (n-s)) (show s+1<n+1 by omega)) hl
   rw[k3]at e1;rw[j3]at e2;have c1:cV data xs.length t (s+1)≤2000:=Nat.le_trans (Nat.le_mul_of_pos_right _ (by omega)) hterm;have c2:cL (cV data xs.length) ts (n-(s+1))≤2000:=Nat.le_trans (Nat.le_mul_of_pos_left _ (by omega)) hterm;have hB2:=InvB.mk' hD hk hxs hX h1 j1 (k2.trans j2);obtain⟨B3,v1,v2,v3⟩:=hV (s+1) (by omega) ⟨S2,B1.m⟩ i t hB2 (zc6 (h2.trans (k2.trans j2)) hix.1) (hR0.le _ (by omega)) e1 c1;obtain⟨B4,w1,w2,w3⟩:=ih (n-(s+1)) B3 (by omega) v1 (IdxOk.mono (h2.trans (k2.trans (j2.trans v2))) hix.2) hRt c2;exact⟨B4,⟨o1,S1,k4,k3,k1,.inr ⟨by rw[k3];exact e1,o2,S2,j4,j3,j1,.inr ⟨by rw[j3];exact e2,B3,v3,v1,w3⟩⟩⟩,w1,h2.trans (k2.trans (j2.trans (v2.trans w2)))⟩
end
end Go.Proofs.YtaifokkaaahdoaaGreatDoor
