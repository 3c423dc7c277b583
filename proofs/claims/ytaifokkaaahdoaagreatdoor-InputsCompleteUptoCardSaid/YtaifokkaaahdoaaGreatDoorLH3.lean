import Derived.Test.YtaifokkaaahdoaaGreatDoorLF7
import Derived.Test.YtaifokkaaahdoaaGreatDoorLE4
import Derived.Test.YtaifokkaaahdoaaGreatDoorKNum
import Derived.Test.YtaifokkaaahdoaaGreatDoorProg
import Derived.KernelRfl
set_option linter.unusedSectionVars false
set_option linter.unusedSimpArgs false
set_option linter.unusedVariables false
set_option maxRecDepth 8000
namespace Go.Proofs.YtaifokkaaahdoaaGreatDoor
open Go Go.Abs
theorem ConOk.len{T:List VT}:∀ {ws:List (Int × List VT)} {cs:List (Int × List Nat)},ConOk T ws cs→cs.length=ws.length
 |[],[],_=>rfl
 |[],_::_,h=>h.elim
 |_::_,[],h=>h.elim
 |w::ws,c::cs,h=>by rw[List.length_cons,List.length_cons,ConOk.len h.2]
theorem ConOk.at'{T:List VT}:∀ {ws:List (Int × List VT)} {cs:List (Int × List Nat)},ConOk T ws cs→∀ (k:Nat) (h1:k<ws.length) (h2:k<cs.length),ws[k].1=cs[k].1∧IdxOk T ws[k].2 cs[k].2
 |[],[],_,k,h1,_=>by simp at h1
 |[],_::_,h,_,_,_=>h.elim
 |_::_,[],h,_,_,_=>h.elim
 |w::ws,c::cs,h,0,_,_=>h.1
 |w::ws,c::cs,h,k+1,h1,h2=>by simpa using ConOk.at' h.2 k (by simpa using h1) (by simpa using h2)
theorem zwr{f:Int×List VT→Nat}{ws:List (Int×List VT)}{k:Nat}(h:k<ws.length):((ws.take (k+1)).map f).sum=((ws.take k).map f).sum+f ws[k]:=by rw[List.take_succ_eq_append_getElem h,List.map_append,List.sum_append];simp
theorem zpg{f:Int×List VT→Nat}{ws:List (Int×List VT)}(k:Nat):((ws.take k).map f).sum≤(ws.map f).sum:=by
 have:(ws.map f).sum=((ws.take k).map f).sum+((ws.drop k).map f).sum:=by rw[←List.sum_append,←List.map_append,List.take_append_drop]
 omega
section
variable {data:List Dat} (hD:zaB data=true) (hk:Kpt data) {kk:Nat} (hkk:kk≤8) {X:List VT} (hX:X.length≤1000000000000) {I:SI}
include hD hk hkk hX
theorem zB2{n:Nat}(hn:n<14)(ih:∀ m,m≤n→zct data kk X I m){S:SS}{i:Nat}{t:VT}(hI:zaW data kk X S)(hti:S.types[i]?=some t)(hg:zdN S.cnt ((i:Int),((n+1:Nat):Int))=none)(hk7:t.kind=7)(hR:Rch data X (n+1) t):
  ∃S' o,zaW data kk X S'∧S.types <+: S'.types∧vO o=cV data kk t (n+1)∧zd8 data kk I S S' i (n+1) o:=by
 have hv:=hI.vd t (List.mem_of_getElem? hti);obtain⟨k,m,ks⟩:=t;change k=7 at hk7;subst hk7;have hkl:ks.length=1:=by have hs:=zdB hv;unfold okT at hs;rw[zaC,Bool.and_eq_true]at hs;have hs:=hs.1;simp[zaE]at hs;exact hs.2
 obtain⟨u,rfl⟩:∃u,ks=[u]:=by
  match ks,hkl with
  |[u],_=>exact⟨u,rfl⟩
 have hR1:Rch data X n u:=by
  cases hR with
  |arr _ _ h=>exact h
  |mk _ h _=>exact absurd rfl h
 have hu:=zd0 hv u (by simp);have hI1:=znF hD hI hu hR1.mem;have he1:=znD hD (S:=S) u;have hg1:=znE hD hI hu;obtain⟨S2,o,h1,h2,h3,h4⟩:=zv4 hD hk hkk hX (show n≤14 by omega) ih hI1 hg1 hR1;have hti2:=zcY (he1.trans h2) hti;obtain⟨N,hN⟩:∃N,N=n+1:=⟨_,rfl⟩;have hcv:vO o=cV data kk (.mk 7 m [u]) N:=by rw[hN,zeN,h3];simp[VT.kind,zcg]
 refine⟨zdy S2 ((i:Int),((n+1:Nat):Int)) o,o,zoV h1 hti2 (by rw[←hN];exact hcv),he1.trans h2,by rw[←hN];exact hcv,?_⟩;rw[←hN]at hg ⊢;intro H hS h0 K hK;refine ACalls.out (zig λhs=>?_);have hlt0:0<H.length:=(List.getElem?_eq_some_iff.1 h0).1;have hnl:¬((N:Int)<1):=by omega
 have lp:=(List.getElem?_eq_some_iff.1 hS.hp).1;have hp:=(hS.app (J:=[.cells (zal none)])).hp;have hmc:=(hS.app (J:=[.cells (zal none)])).hmc;have hp3:=(hS.app (J:=[.cells (zal none),.cells (zal none),.cells (zal (some 0))])).hp;have hit3:=(hS.app (J:=[.cells (zal none),.cells (zal none),.cells (zal (some 0))])).hit;have hil:=(List.getElem?_eq_some_iff.1 hti).1;have hta:=ze5 S.types i _ hti;have htl:=ze6 S.types;have hk0:(zbJ S.types)[i*3]?=some (.int .i64 7):=by have:=congrArg (λl=>l[0]?) hta;simp only[VT.cs,List.getElem?_take,List.getElem?_drop]at this;simpa using this
 have hk2:(zbJ S.types)[i*3+2]?=some (.sl (VT.css [u]) .none):=by have:=congrArg (λl=>l[2]?) hta;simp only[VT.cs,List.getElem?_take,List.getElem?_drop]at this;simpa using this
 simp only[zgP,zrO];simp[hp,hmc,hnl,zao,zaL,ziV,zhg,hg];refine zfc 0 (by omega) _ _ ?_;obtain⟨x1,x2,x3,hvx,hxa,hxb,hxc⟩:=zaU u;simp[zjI,List.set_append_right,Nat.add_assoc,hp3,hit3,hil,zc3 _ hk0,zc3 _ hk2,VT.css,hvx];rw[←hvx];have hSJ:=hS.app (J:=[.cells (zal none),.cells (zal none),.cells (zal (some 0))]);have hlen:=hI.len;refine zjP hD hSJ (by rw[List.getElem?_append_left hlt0];exact h0) u hu (by omega) _ ?_;have hwn:IntKind.i64.wrap ((N:Int)-1)=(n:Int):=by rw[zax (by omega) (by omega)];omega
 rw[hwn,hS.shS_app];have hS1:=hS.next (S':=idS data S u) hI1.ml hI1.cl;refine h4 _ hS1.app (by rw[List.getElem?_append_left (by simpa using hlt0)];exact hS.nodr h0) _ ?_;rw[hS1.shS_app,zdk];simp[List.set_append_right];have hS2:=hS.next (S':=S2) h1.ml h1.cl;refine znj hS2 (hS.scs hs) (by simp) (J:=[]) ?_;rw[zdk];exact hK
def zmP(data:List Dat)(kk:Nat)(I:SI)(S S':SS)(is:List Nat)(n:Nat)(o:Option Nat):Prop:=∀H,ShS data kk I S H→H[0]?=some .nodr→∀K:Kt,K (.agg (zal o)) (shS data kk I S' H)→ACalls tP zgn [.ptr I.p 0,.sl (za1 is) .none,.int .i64 n] H K
theorem zF5{n:Nat}(hn:n≤14)(ih:∀ m,m≤n→zct data kk X I m){S1:SS}(hI:zaW data kk X S1){ws:List (Int × List VT)}{cs:List (Int × List Nat)}(hc:ConOk S1.types ws cs)(hwl:∀ w∈ws,w.2.length≤1000)(hR:∀ w∈ws,∀ (p:Nat) (h:p<w.2.length),Rch data X (n-p) w.2[p]):
  ∃ σ:Nat→SS×Nat,σ 0=(S1,0)∧(∀k≤ws.length,zaW data kk X (σ k).1∧S1.types <+: (σ k).1.types∧(σ k).2=((ws.take k).map λw=>cL (cV data kk) w.2 n).sum)∧∀k<ws.length,∃o,vO o=cL (cV data kk) (ws.getD k (0,[])).2 n∧(σ (k+1)).2=(σ k).2+vO o∧zmP data kk I (σ k).1 (σ (k+1)).1 (cs.getD k (0,[])).2 n o:=by
 refine zdM (λk (a:SS×Nat)=>zaW data kk X a.1∧S1.types <+: a.1.types∧a.2=((ws.take k).map λw=>cL (cV data kk) w.2 n).sum) (λk (a a':SS×Nat)=>∃o,vO o=cL (cV data kk) (ws.getD k (0,[])).2 n∧a'.2=a.2+vO o∧zmP data kk I a.1 a'.1 (cs.getD k (0,[])).2 n o) ws.length (λk hkl a ha=>?_) _ ⟨hI,List.prefix_rfl,by simp⟩;obtain⟨h1,h2,h3⟩:=ha;have hcl:=hc.len;obtain⟨h4,h5⟩:=hc.at' k hkl (by omega);obtain⟨S',o,h6,h7,h8,h9⟩:=zo9 hD hk hkk hX hn ih (hwl _ (List.getElem_mem hkl)) h1 (h5.mono h2) (hR _ (List.getElem_mem hkl));have e1:ws.getD k (0,[])=ws[k]:=by rw[List.getD_eq_getElem?_getD,List.getElem?_eq_getElem hkl];rfl
 have e2:cs.getD k (0,[])=cs[k]:=by rw[List.getD_eq_getElem?_getD,List.getElem?_eq_getElem (by omega)];rfl
 rw[e1,e2];exact⟨(S',a.2+vO o),⟨o,h8,rfl,h9⟩,h6,h2.trans h7,by simp only;rw[zwr hkl,h3,h8]⟩
theorem zB5{n:Nat}(hn:n<14)(ih:∀ m,m≤n→zct data kk X I m){S:SS}{i:Nat}{t:VT}(hI:zaW data kk X S)(hti:S.types[i]?=some t)(hg:zdN S.cnt ((i:Int),((n+1:Nat):Int))=none)(h7:t.kind≠7)(h1':t.kind≠1)(h2':t.kind≠2)(h3':t.kind≠3)(hR:Rch data X (n+1) t):
  ∃S' o,zaW data kk X S'∧S.types <+: S'.types∧vO o=cV data kk t (n+1)∧zd8 data kk I S S' i (n+1) o:=by
 have hv:=hI.vd t (List.mem_of_getElem? hti);have hRw:∀w∈zaR data t,∀(p:Nat) (h:p<w.2.length),Rch data X (n-p) w.2[p]:=by
  cases hR with
  |arr _ h _=>exact absurd h h7
  |mk _ _ h=>exact h
 have htX:∀w∈zaR data t,∀x∈w.2,x∈X:=λw hw x hx=>by obtain⟨p,hp,rfl⟩:=List.mem_iff_getElem.1 hx;exact(hRw w hw p hp).mem
 obtain⟨hI1,he1,hc1⟩:=zwX hD hI hti htX;have hwl:∀w∈zaR data t,w.2.length≤1000:=λw hw=>by
  obtain⟨k,m,ks⟩:=t;have hnod:=zfF hv;have hll:=VT.len_le ks;simp[VT.nodes]at hnod;rw[zaR]at hw;split at hw
  ·simp at hw;subst hw;show ks.length≤1000;omega
  ·split at hw
   ·obtain⟨c,_,hc⟩:=List.mem_filterMap.1 hw;cases hf:zbl data (.mk k m ks) c with
    |none=>rw[hf]at hc;cases hc
    |some l=>rw[hf]at hc;simp at hc;subst hc;have:=znr hk hf;show l.length≤1000;omega
   ·simp at hw
 obtain⟨σ,hσ0,hσ1,hσ2⟩:=zF5 (I:=I) hD hk hkk hX (show n≤14 by omega) ih hI1 hc1 hwl hRw;obtain⟨N,hN⟩:∃N,N=n+1:=⟨_,rfl⟩;obtain⟨ws,hws⟩:∃ws,ws=zaR data t:=⟨_,rfl⟩;obtain⟨cs,hcs⟩:∃cs,cs=(zdm data S i).1:=⟨_,rfl⟩;obtain⟨S1,hS1d⟩:∃S1,S1=(zdm data S i).2:=⟨_,rfl⟩;rw[←hws]at hσ1 hσ2;rw[←hcs]at hσ2;rw[←hS1d]at hσ0 hσ1 he1 hI1;rw[←hcs,←hws,←hS1d]at hc1;have hcl:=hc1.len;have hw3:=zkb hk t;rw[←hws]at hw3;have hlast:=hσ1 ws.length (Nat.le_refl _);have hcv:(σ ws.length).2=cV data kk t N:=by rw[hlast.2.2,List.take_length,hws,hN,zeN,if_neg h3',if_neg h2',if_neg h1',if_neg h7]
 have hti2:=zcY (he1.trans hlast.2.1) hti;have hvlim:=zg3 hk hkk t (show n+1≤14 by omega);rw[←hN]at hvlim;have hple:∀k,k≤ws.length→(σ k).2<1000000000 ^ 30:=λk hk=>by have h1:=(hσ1 k hk).2.2;have h2:=zpg (f:=λw:Int×List VT=>cL (cV data kk) w.2 n) (ws:=ws) k;rw[←h1]at h2;have h3:=hlast.2.2;rw[List.take_length]at h3;omega
 refine⟨zdy (σ ws.length).1 ((i:Int),((n+1:Nat):Int)) (some (σ ws.length).2),some (σ ws.length).2,zoV hlast.1 hti2 (by rw[←hN];exact hcv),he1.trans hlast.2.1,by rw[←hN];exact hcv,?_⟩;rw[←hN]at hg ⊢;intro H hS h0 K hK;refine ACalls.out (zig λhs=>?_);have hlt0:0<H.length:=(List.getElem?_eq_some_iff.1 h0).1;have hnl:¬((N:Int)<1):=by omega
 have lp:=(List.getElem?_eq_some_iff.1 hS.hp).1;have hp:=(hS.app (J:=[.cells (zal none)])).hp;have hmc:=(hS.app (J:=[.cells (zal none)])).hmc;have hp3:=(hS.app (J:=[.cells (zal none),.cells (zal none),.cells (zal (some 0))])).hp;have hit3:=(hS.app (J:=[.cells (zal none),.cells (zal none),.cells (zal (some 0))])).hit;have hil:=(List.getElem?_eq_some_iff.1 hti).1;have hta:=ze5 S.types i _ hti;have htl:=ze6 S.types;have hk0:(zbJ S.types)[i*3]?=some (.int .i64 t.kind):=by obtain⟨k,m,ks⟩:=t;have:=congrArg (λl=>l[0]?) hta;simp only[VT.cs,List.getElem?_take,List.getElem?_drop]at this;simpa[VT.kind]using this
 simp only[zgP,zrO];simp[hp,hmc,hnl,zao,zaL,ziV,zhg,hg];refine zfc 0 (by omega) _ _ ?_;have b1:(t.kind == 1)=false:=by simpa using h1'
 have b2:(t.kind == 2)=false:=by simpa using h2'
 have b3:(t.kind == 3)=false:=by simpa using h3'
 have b7:(t.kind == 7)=false:=by simpa using h7
 simp[zjI,List.set_append_right,Nat.add_assoc,hp3,hit3,hil,zc3 _ hk0,b1,b2,b3,b7];have hSJ:=hS.app (J:=[.cells (zal none),.cells (zal none),.cells (zal (some 0))]);refine zv5 hD hX hSJ hI (by rw[List.getElem?_append_left hlt0];exact h0) hti htX _ ?_;rw[←hcs,←hS1d,hS.shS_app];obtain⟨L,hL⟩:∃L,L=H.length:=⟨_,rfl⟩;rw[←hL];obtain⟨Hk,hHk⟩:∃Hk:SS×Nat→zaa,Hk=λa=>shS data kk I a.1 H++[.cells (zal none),.cells (zal none),.cells (zal (some a.2))]:=⟨_,rfl⟩;have hkl:∀a,(Hk a).length=L+3:=λa=>by rw[hHk,hL];simp
 have hks:∀a,HSc (Hk a):=λa=>by rw[hHk];refine(hS.scs hs).append ?_;simp only[List.all_cons,List.all_nil,AB.sc,zdi,Bool.and_true]
 have hk0':∀a,(Hk a)[0]?=some .nodr:=λa=>by rw[hHk];simp only;rw[List.getElem?_append_left (by simpa using hlt0)];exact hS.nodr h0
 have hk2:∀a,(Hk a)[L+2]?=some (.cells (zal (some a.2))):=λa=>by rw[hHk,hL];simp[List.getElem?_append]
 have hkS:∀a,zaW data kk X a.1→ShS data kk I a.1 (Hk a):=λa ha=>by rw[hHk];exact(hS.next ha.ml ha.cl).app
 have hmv:∀a S' J,zaW data kk X a.1→shS data kk I S' (Hk a++J)=Hk (S',a.2)++J:=λa S' J ha=>by rw[hHk];simp only;rw[List.append_assoc,(hS.next ha.ml ha.cl).shS_app,zdk,List.append_assoc]
 have hset:∀a v J,(Hk a++J).set (L+2) (.cells (zal (some v)))=Hk (a.1,v)++J:=λa v J=>by rw[hHk,hL];simp only;rw[List.append_assoc,List.set_append_right _ _ (by simp),List.append_assoc];simp
 have hst0:shS data kk I S1 H++[.cells (zal none),.cells (zal none),.cells (zal (some 0))]=Hk (σ 0):=by rw[hσ0,hHk]
 rw[hst0];have hcR:(zbQ cs).length=cs.length:=by simp[zbQ]
 simp only[zch,zec,hcR];refine zMj (Inv:=λq t41 H'=>∃k:Nat,k≤cs.length∧cs.length-k=q∧t41=.int .i64 k∧H'=Hk (σ k)) cs.length ?_ ?_
 ·intro _;exact⟨0,by omega,rfl,rfl,rfl⟩
 ·rintro q t41 H' ⟨k,hkk',rfl,rfl,rfl⟩ hsc9 hlen9 hsF9 Kb9 hKb9;have hσk:=hσ1 k (by omega);by_cases hlt:k<cs.length
  ·obtain⟨o,ho1,ho2,ho3⟩:=hσ2 k (by omega);have hgk:∀ h:k<(zbQ cs).length,(zbQ cs)[k]'h=[.int .i64 (cs[k]).1,.sl (za1 (cs[k]).2) .none]:=λh=>by simp[zbQ,za1]
   have e2:cs.getD k (0,[])=cs[k]:=by rw[List.getD_eq_getElem?_getD,List.getElem?_eq_getElem hlt];rfl
   rw[e2]at ho3;simp[zrw,hlt,hcR,hgk];obtain⟨J,hJ⟩:∃J:zaa,J=[.cells [.int .i64 (cs[k]).1,.sl (za1 (cs[k]).2) .none]]:=⟨_,rfl⟩;have hJs:J.all (AB.sc (L+4))=true:=by rw[hJ];rfl
   have hJl:J.length=1:=by rw[hJ];rfl
   rw[←hJ];have gA:∀a,(Hk a++J)[L+2]?=some (.cells (zal (some a.2))):=λa=>by rw[List.getElem?_append_left (by rw[hkl];omega)];exact hk2 a
   simp[gA];have hwn:IntKind.i64.wrap ((N:Int)-1)=(n:Int):=by rw[zax (by omega) (by omega)];omega
   rw[hwn];refine zdo (.agg (zal o)) (Hk ((σ (k+1)).1,(σ k).2)++J) (ho3 _ (hkS _ hσk.1).app (by rw[List.getElem?_append_left (by rw[hkl];omega)];exact hk0' _) _ ⟨rfl,hmv _ _ _ hσk.1⟩) ?_;have kp:∀(a b:SS×Nat),a.2=b.2→zdE [AV.ptr (L+2) 0,AV.ptr (Hk (σ k)).length 1] (Hk a++J) (Hk b++J):=λa b e=>by rw[hkl,hHk];simp only[e,List.append_assoc];exact znN (l:=H.length) (by simp) (by simp) (by rw[hL];simp)
   refine⟨kp _ _ rfl,?_⟩;have b1:vO (some (σ k).2)<1000000000 ^ 30:=hple k (by omega);have b2:vO o<1000000000 ^ 30:=by have:=hple (k+1) (by omega);omega
   refine zdo (.agg (zal (some ((σ k).2+vO o)))) _ (zsj (some (σ k).2) o b1 b2 _ _ ⟨rfl,rfl⟩) ?_;refine⟨zhj _ _,?_⟩;rw[←ho2];refine zdo (.tup []) (Hk (σ (k+1))++J) ?_ ?_
   ·rw[gA];show zdI 3 0 (L+2) (some (zal (some (σ (k+1)).2))) (some (.cells (zal (some (σ k).2)))) _ _;rw[zA5,hset];exact⟨rfl,rfl⟩
   ·rw[wr (by omega)];refine hKb9 _ _ ⟨cs.length-(k+1),by omega,Back.at (H2:=Hk (σ (k+1))) (J:=J) rfl (by rw[hkl,hkl];omega) (hks _) ?_ ⟨_,rfl,k+1,by omega,rfl,rfl,rfl⟩⟩;rw[hkl];simp[zlR,ux,AV.sc,AV.scA,AV.scB,AV.scV];omega
  ·obtain rfl:k=cs.length:=by omega
   simp[zrw];have hSe:=hS.next (S':=(σ ws.length).1) hlast.1.ml hlast.1.cl;rw[hcl,hHk];refine znj hSe (hS.scs hs) (by simp[hL]) (J:=[]) ?_;rw[zdk];exact hK
theorem znk:∀n:Nat,n≤14→zct data kk X I n:=by
 intro n;induction n using Nat.strongRecOn with
 |ind n ih=>
  intro hn;cases n with
  |zero=>exact zB6 hD hk hkk hX
  |succ n=>
   intro S i t hI hti hR;have ih':∀m,m≤n→zct data kk X I m:=λm hm=>ih m (by omega) (by omega);cases hg:zdN S.cnt ((i:Int),((n+1:Nat):Int)) with
   |some o=>obtain⟨h1,h2⟩:=zB3 hD hk hkk hX (I:=I) hI hti hg;exact⟨S,o,hI,List.prefix_rfl,h1,h2⟩
   |none=>
    by_cases h123:t.kind=1∨t.kind=2∨t.kind=3
    ·have:=zB4 hD hk hkk hX (I:=I) hI hti hg h123;exact⟨zdy S _ _,_,zoV hI hti rfl,List.prefix_rfl,rfl,this⟩
    ·by_cases h7:t.kind=7
     ·exact zB2 hD hk hkk hX (by omega) ih' hI hti hg h7 hR
     ·exact zB5 hD hk hkk hX (by omega) ih' hI hti hg h7 (by omega) (by omega) (by omega) hR
end
theorem _root_.Go.Abs.ALoop.ovC{P:Program}{c:Code}{Q:AExit→List AV→zaa→Prop}{F:List AV}{H:zaa}{id j:Nat}{cs:List AV}(e size:Nat)(hid:H[id]?=some (.cells cs))(hj:cs[j]?=some .snil)(h:ALoop P c Q F (H.set id (.cells (cs.set j (.ov H.length 0)))++[.vec e size 0 []])):ALoop P c Q F H:=by
 intro B w G a hH hF hd;obtain⟨G',hE,hH'⟩:=hH.ovCell e size hid hj;refine wp_mono (h B w G' a hH' (hF.ext hE) hd) λe a' w' hp=>?_;obtain⟨F'',H'',G'',e'',rfl,k1,k2,k3,k4,k5⟩:=hp;exact⟨F'',H'',G'',e'',rfl,hE.trans k1,k2,k3,k4,k5⟩
def newB(data:List Dat)(kk:Int)(L:Nat):zaa:=[.map [],.mapP [],.cells [.sl (data.map Dat.cs) .none,.int .i64 kk,.map L,.snil,.snil,.snil,.map (L+1)]]
def zcW(L M:Nat):SI:=⟨L+2,L,M,M+1,M+2,L+1⟩
def S0:SS:=⟨[],[],[],[]⟩
def zcn(data:List Dat)(kk:Int)(L M:Nat):zaa:=[.map [],.mapP [],.cells [.sl (data.map Dat.cs) .none,.int .i64 kk,.map L,.ov M 0,.ov (M+1) 0,.ov (M+2) 0,.map (L+1)]]
def zcz:zaa:=[.vec zbe 3 0 [],.vec zfp 1 0 [],.vec zfo 1 0 []]
theorem zDz(data:List Dat)(kk:Int)(H:zaa)(K:Kt)(hK:K (.ptr (H.length+2) 0) (H++newB data kk H.length)):ACalls tP zou [.sl (data.map Dat.cs) .none,.int .i64 kk] H K:=by refine ACalls.out (zMg λhs=>?_);simp[zy8,zdH,zef,zao,zaL,AV.known,Nat.add_assoc];refine Out.at (J:=[]) (H2:=H++newB data kk H.length) (by simp[newB]) (by simp) (hs.append ?_) .rfl' rfl (by simp[AV.scV,AV.scA,AV.scB,newB]) hK;simp[newB,AB.sc,AV.scA,AV.scB]
section
variable {data:List Dat} {kk:Int} {A J:zaa} {L:Nat} (hL:L=A.length)
include hL
theorem zo7(x y z:AV)(V:zaa):∀(x':AB),(A++(.map []::.mapP []::.cells [.sl (data.map Dat.cs) .none,.int .i64 kk,.map L,x,y,z,.map (L+1)]::V)).set (L+2) x'=A++(.map []::.mapP []::x'::V):=λx'=>by rw[List.set_append_right _ _ (by omega),hL];simp[show A.length+2-A.length=2 by omega]
theorem zDy(V:zaa)(M:Nat)(hM:M=L+3+V.length):ShS data kk (zcW L M) S0 (A++(zcn data kk L M++V++zcz)):=by
 refine⟨⟨?_,?_,?_,?_,?_,?_,?_,?_,?_,?_,?_,?_,?_,?_,?_⟩,λx b hb=>?_,rfl,rfl⟩
 all_goals first|(simp only[zcW];omega)|skip
 have gA:∀(k:Nat),(A++(zcn data kk L M++V++zcz))[L+k]?=(zcn data kk L M++V++zcz)[k]?:=λk=>by rw[List.getElem?_append_right (by omega),hL];congr 1;omega
 have g0:=gA 0;have g1:=gA 1;have g2:=gA 2;have g3:=gA (3+V.length);have g4:=gA (3+V.length+1);have g5:=gA (3+V.length+2);rw[show L+(3+V.length)=M by omega]at g3;rw[show L+(3+V.length+1)=M+1 by omega]at g4;rw[show L+(3+V.length+2)=M+2 by omega]at g5;have e3:∀k,(zcn data kk L M++V++zcz)[3+V.length+k]?=zcz[k]?:=λk=>by rw[List.getElem?_append_right (by simp[zcn];omega)];congr 1;simp[zcn];omega
 rw[show 3+V.length=3+V.length+0 by omega,e3]at g3;rw[e3]at g4 g5;simp only[zcn,List.cons_append,List.getElem?_cons_zero,List.getElem?_cons_succ,Nat.add_zero]at g0 g1 g2;unfold zaZ zcW S0 at hb;simp only[List.length_nil,zck,zbJ,zds,zaG,List.map_nil,List.flatten_nil]at hb;split at hb
 ·rename_i e;subst e;rw[←Option.some.inj hb];exact g2
 ·split at hb
  ·rename_i e;subst e;rw[←Option.some.inj hb];exact g0
  ·split at hb
   ·rename_i e;subst e;rw[←Option.some.inj hb];exact g3
   ·split at hb
    ·rename_i e;subst e;rw[←Option.some.inj hb];exact g4
    ·split at hb
     ·rename_i e;subst e;rw[←Option.some.inj hb];exact g5
     ·split at hb
      ·rename_i e;subst e;rw[←Option.some.inj hb];exact g1
      ·cases hb
theorem zDM{c:Code}{Q:AExit→List AV→zaa→Prop}{F:List AV}(V:zaa){M:Nat}(hM:M=L+3+V.length)(h:ALoop tP c Q F (A++(zcn data kk L M++V++zcz))):ALoop tP c Q F (A++(newB data kk L++V)):=by
 unfold newB;simp only[List.cons_append,List.nil_append];have g:∀(x:AB) (V':zaa),(A++(AB.map []::AB.mapP []::x::V'))[L+2]?=some x:=λx V'=>by rw[List.getElem?_append_right (by omega),hL];simp[show A.length+2-A.length=2 by omega]
 refine ALoop.ovC (id:=L+2) (j:=3) zbe 3 (g _ _) rfl ?_;rw[zo7 hL,List.append_assoc];simp only[List.set,List.cons_append,List.length_append,List.length_cons,←hL];refine ALoop.ovC (id:=L+2) (j:=4) zfp 1 (g _ _) rfl ?_;rw[zo7 hL,List.append_assoc];simp only[List.set,List.cons_append,List.length_append,List.length_cons,←hL];refine ALoop.ovC (id:=L+2) (j:=5) zfo 1 (g _ _) rfl ?_;rw[zo7 hL,List.append_assoc];simp only[List.set,List.cons_append,List.length_append,List.length_cons,List.length_nil,←hL];have e1:L+(V.length+1+1+1)=M:=by omega
 have e2:L+(V.length+(0+1)+1+1+1)=M+1:=by omega
 have e3:L+(V.length+(0+1)+(0+1)+1+1+1)=M+2:=by omega
 rw[e1,e2,e3];simpa[zcn,zcz]using h
end
theorem zAO(data:List Dat)(kk:Nat)(X:List VT):zaW data kk X S0:=⟨rfl,rfl,List.nodup_nil,by simp[S0],by simp[S0],by simp[S0],by simp[S0]⟩
def za7(a:List VT)(b:List (List VT)):List (List VT):=a.flatMap λv=>b.map λr=>v::r
theorem zft(a:List VT)(b:List (List VT)):(za7 a b).length=a.length*b.length:=by
 induction a with
 |nil=>simp[za7]
 |cons v a ih=>unfold za7 at ih ⊢;rw[List.flatMap_cons,List.length_append,ih,List.length_map,List.length_cons,Nat.succ_mul];omega
def lsL(g:VT→Nat→List VT):List VT→Nat→List (List VT)
 |[],n=>if n=0 then [[]] else []
 |t::ts,n=>(List.range n).flatMap λs=>za7 (g t (s+1)) (lsL g ts (n-(s+1)))
def arF(g:Nat→List VT):Nat→Nat→List (List VT)
 |0,n=>if n=0 then [[]] else []
 |f+1,n=>if n=0 then [[]] else (List.range n).flatMap λs=>za7 (g (s+1)) (arF g f (n-(s+1)))
def zfu(k:Int):Int:=if k=5 then 5 else if k=6 then 4 else 7
def zc0(data:List Dat)(xs:List Int):Nat→VT→Nat→List VT
 |0,_,_=>[]
 | f+1,t,n=>if n=0 then [] else if t.kind=3 then (if n=1 then [.mk 1 0 []] else []) else if t.kind=2 then (if n=1 then [.mk 2 0 [],.mk 2 1 []] else []) else if t.kind=1 then (if n=1 then xs.map λx=>.mk 3 x [] else []) else
  if t.kind=7 then (arF (zc0 data xs f (zcg t)) (n-1) (n-1)).map λks=>.mk 6 0 ks else (zaR data t).flatMap λw=>(lsL (zc0 data xs f) w.2 (n-1)).map λks=>.mk (zfu t.kind) w.1 ks
theorem zfq{α β:Type}{l:List α}{f g:α→List β}(h:∀a∈l,f a=g a):l.flatMap f=l.flatMap g:=by
 induction l with
 |nil=>rfl
 |cons a l ih=>rw[List.flatMap_cons,List.flatMap_cons,h a (by simp),ih λb hb=>h b (by simp[hb])]
theorem znU{g g':VT→Nat→List VT}:∀ (ts:List VT) (n:Nat),(∀ t s,s≤n→g t s=g' t s)→lsL g ts n=lsL g' ts n
 |[],_,_=>rfl
 |t::ts,n,h=>by rw[lsL,lsL];refine zfq λs hs=>?_;have:=List.mem_range.1 hs;rw[h t (s+1) (by omega),znU ts _ λt s' hs'=>h t s' (by omega)]
theorem zm6{g g':Nat→List VT}:∀ (f n:Nat),(∀ s,s≤n→g s=g' s)→arF g f n=arF g' f n
 |0,_,_=>rfl
 |f+1,n,h=>by
  rw[arF,arF];split
  ·rfl
  ·refine zfq λs hs=>?_;have:=List.mem_range.1 hs;rw[h (s+1) (by omega),zm6 f _ λs' hs'=>h s' (by omega)]
theorem zBo(g:Nat→List VT):∀(n f f':Nat),n≤f→n≤f'→arF g f n=arF g f' n:=by
 intro n;induction n using Nat.strongRecOn with
 |ind n ih=>
  intro f f' h1 h2;cases n with
  |zero=>cases f <;> cases f' <;> simp[arF]
  |succ n=>obtain⟨f,rfl⟩:∃e,f=e+1:=⟨f-1,by omega⟩;obtain⟨f',rfl⟩:∃e,f'=e+1:=⟨f'-1,by omega⟩;rw[arF,arF];simp only[Nat.add_eq_zero_iff,Nat.succ_ne_self,and_false,if_false];refine zfq λs hs=>?_;rw[ih _ (by omega) f f' (by omega) (by omega)]
def arL(g:Nat→List VT)(n:Nat):List (List VT):=arF g n n
theorem zm7(g:Nat→List VT):arL g 0=[[]]:=rfl
theorem ziz(g:Nat→List VT)(n:Nat):arL g (n+1)=(List.range (n+1)).flatMap λs=>za7 (g (s+1)) (arL g (n+1-(s+1))):=by unfold arL;rw[arF];simp only[Nat.add_eq_zero_iff,Nat.succ_ne_self,and_false,if_false];refine zfq λs hs=>?_;rw[zBo g _ n _ (by omega) (Nat.le_refl _)]
theorem zka(data:List Dat)(xs:List Int)(f:Nat)(t:VT):zc0 data xs f t 0=[]:=by cases f <;> simp[zc0]
theorem zFS(data:List Dat)(xs:List Int):∀(f f':Nat) (t:VT) (n:Nat),n≤f→n≤f'→zc0 data xs f t n=zc0 data xs f' t n:=by
 intro f;induction f with
 |zero=>
  intro f' t n h _;obtain rfl:n=0:=by omega
  rw[zka,zka]
 |succ f ih=>
  intro f' t n h1 h2;cases n with
  |zero=>rw[zka,zka]
  |succ n=>obtain⟨f',rfl⟩:∃e,f'=e+1:=⟨f'-1,by omega⟩;have e1:∀t s,s≤n→zc0 data xs f t s=zc0 data xs f' t s:=λt s hs=>ih f' t s (by omega) (by omega);rw[zc0,zc0];simp only[Nat.add_sub_cancel];rw[zm6 n n λs hs=>e1 (zcg t) s hs];rw[zfq λw _=>by rw[znU w.2 n e1]]
def vV(data:List Dat)(xs:List Int)(t:VT)(n:Nat):List VT:=zc0 data xs n t n
theorem zpy(data:List Dat)(xs:List Int)(t:VT):vV data xs t 0=[]:=rfl
theorem zgD(data:List Dat)(xs:List Int)(t:VT)(n:Nat):vV data xs t (n+1)=if t.kind=3 then (if n=0 then [.mk 1 0 []] else []) else if t.kind=2 then (if n=0 then [.mk 2 0 [],.mk 2 1 []] else []) else if t.kind=1 then (if n=0 then xs.map λx=>.mk 3 x [] else []) else
  if t.kind=7 then (arL (vV data xs (zcg t)) n).map λks=>.mk 6 0 ks else (zaR data t).flatMap λw=>(lsL (vV data xs) w.2 n).map λks=>.mk (zfu t.kind) w.1 ks:=by
 have e1:∀t s,s≤n→zc0 data xs n t s=vV data xs t s:=λt s hs=>zFS data xs n s t s hs (Nat.le_refl _);unfold vV;rw[zc0];simp only[Nat.add_eq_zero_iff,Nat.succ_ne_self,and_false,if_false,Nat.add_sub_cancel,Nat.add_eq_right];unfold arL;rw[zm6 n n λs hs=>e1 (zcg t) s hs];rw[zfq λw _=>by rw[znU w.2 n e1]];rfl
theorem zgd{α:Type}(n:Nat)(f:Nat→List α):((List.range n).flatMap f).length=sm n λs=>(f s).length:=by
 induction n with
 |zero=>rfl
 |succ n ih=>rw[List.range_succ,List.flatMap_append,List.length_append,ih,sm];simp
theorem zi1{g:VT→Nat→List VT}{c:VT→Nat→Nat}(h0:∀ t,c t 0=0):∀ (ts:List VT) (n:Nat),(∀ t∈ts,∀ s,s≤n→(g t s).length=c t s)→(lsL g ts n).length=cL c ts n
 |[],n,_=>by rw[lsL,cL];split <;> rfl
 |t::ts,n,h=>by rw[lsL,cL,zgd,ze2,h0,Nat.zero_mul,Nat.zero_add];refine zcc λs hs=>?_;rw[zft,h t (by simp) (s+1) (by omega),zi1 h0 ts _ λt ht s' hs'=>h t (by simp[ht]) s' (by omega)]
theorem ztf{g:Nat→List VT}{c:Nat→Nat}(h0:c 0=0):∀(n:Nat),(∀s,s≤n→(g s).length=c s)→(arL g n).length=cA c n:=by
 intro n;induction n using Nat.strongRecOn with
 |ind n ih=>
  intro h;cases n with
  |zero=>rfl
  |succ n=>
   rw[ziz,ziD h0,zgd]
   conv=>rhs;rw[ze2,h0,Nat.zero_mul,Nat.zero_add]
   refine zcc λs hs=>?_;rw[zft,h (s+1) (by omega),ih _ (by omega) λs' hs'=>h s' (by omega)]
theorem ztY{α β:Type}(l:List α)(f:α→List β)(c:α→Nat)(h:∀a∈l,(f a).length=c a):(l.flatMap f).length=(l.map c).sum:=by
 induction l with
 |nil=>rfl
 |cons a l ih=>rw[List.flatMap_cons,List.length_append,h a (by simp),ih λb hb=>h b (by simp[hb]),List.map_cons,List.sum_cons]
theorem zeB(data:List Dat)(xs:List Int):∀(n:Nat) (t:VT),(vV data xs t n).length=cV data xs.length t n:=by
 intro n;induction n using Nat.strongRecOn with
 |ind n ih=>
  intro t;cases n with
  |zero=>rfl
  |succ n=>
   rw[zgD,zeN];split
   ·split <;> rfl
   ·split
    ·split <;> rfl
    ·split
     ·split <;> simp
     ·split
      ·rw[List.length_map,ztf (zbW data xs.length (zcg t)) n λs hs=>ih s (by omega) _]
      ·refine ztY _ _ _ λw _=>?_;rw[List.length_map,zi1 (zbW data xs.length) w.2 n λt _ s hs=>ih s (by omega) t]
end Go.Proofs.YtaifokkaaahdoaaGreatDoor
namespace Go.Proofs.YtaifokkaaahdoaaGreatDoor
open Go Go.Abs
set_option maxRecDepth 100000
def zfV:Nat→List Bool
 |3=>rl false [1,1,3,1,4,3,19]
 |6=>rl false [1,1,3,1,1,1,2,3,3,3,13]
 |_=>[]
noncomputable def zsu:Code:=Tryz.f88.body.getD .skip
noncomputable def zPl:List ResultVar:=Tryz.f88.results.toList
def zmC(t1 t5 t10 t11 t12:AV):List AV:=ux 1 (t1::ux 3 (t5::ux 4 (t10::t11::t12::ux 19 [])))
def zAm:List Bool:=zfV 3
noncomputable def zsv:Code:=zaq [1,1,0,1,0,0] zsu
def zAk(K:Kt):AExit→List AV→zaa→Prop:=zar tP zfV [1,1,0,1,0] zsu (zaA tP zPl K)
def zsw(t1 t5 t10 t11 t12:AV)(H:zaa)(K:Kt):Prop:=ALoop tP zsv (zAk K) (zmC t1 t5 t10 t11 t12) H
def zin(t1 t5 t7 t10 t11 t12 t16 t17 t18:AV):List AV:=ux 1 (t1::ux 3 (t5::ux 1 (t7::ux 2 (t10::t11::t12::ux 3 (t16::t17::t18::ux 13 [])))))
def zPj:List Bool:=zfV 6
noncomputable def zPg:Code:=zaq [1,1,0,0,1,1,0,0] zsv
def zPf(K:Kt)(Kb3:Lt):AExit→List AV→zaa→Prop:=zar tP zfV [1,1,0,0,1,1,0] zsv (zbG zAm Kb3 (zAk K))
def zAl(t1 t5 t7 t10 t11 t12 t16 t17 t18:AV)(H:zaa)(K:Kt)(Kb3:Lt):Prop:=ALoop tP zPg (zPf K Kb3) (zin t1 t5 t7 t10 t11 t12 t16 t17 t18) H
def zst(t1 t5 t7 t10 t11 t12 t16 t17 t18:AV)(H:zaa)(K:Kt)(Kb3:Lt)(Kb6:Lt):Prop:=
 zac .lss false t18 t17 λt19=>
 zag t19
 (zaj 1 t16 t18 λt20=>
 zae false 1 t20 H λt21=>
 zae true 3 t7 H λt23=>
 zas 3 [(.int .i64 0),(.int .i64 0),.snil] 1 [(0,t23)] λt24=>
 zay zaJ 3 40 t24 t21 H λt26 H=>
 zas 1 [.snil] 1 [(0,t26)] λt27=>
 zay zbd 1 24 t5 t27 H λt28 H=>
 zac .add false t18 (.int .i64 1) λt29=>
 Kb6 (zin t1 t28 t7 t10 t11 t12 t16 t17 t29) H)
 (zac .add false t12 (.int .i64 1) λt30=>
 Kb3 (zmC t1 t5 t10 t11 t30) H)
def zss(t1 t5 t10 t11 t12:AV)(H:zaa)(K:Kt)(Kb3:Lt):Prop:=
 zac .lss false t12 t11 λt13=>
 zag t13
 (zaj 3 t10 t12 λt14=>
 zae true 3 t14 H λt15=>
 zaw [(.int .i64 0),(.int .i64 0),.snil] H λt7 H=>
 zak 3 t7 t15 H λH=>
 zah 1 t1 λt17=>
 zAl t1 t5 t7 t10 t11 t12 t1 t17 (.int .i64 0) H K Kb3)
 (K t5 H)
def zAj(t0 t1:AV)(H:zaa)(K:Kt):Prop:=
 zah 1 t0 λt11=>
 zsw t1 .snil t0 t11 (.int .i64 0) H K
theorem zPi{t1 t5 t7 t10 t11 t12 t16 t17 t18:AV}{H:zaa}{K:Kt}{Kb3:Lt}(Inv:Nat→AV→AV→zaa→Prop)(n:Nat)(h0:HSc H→Inv n t5 t18 H)(round:Rd2 (λt5=>λt18=>zin t1 t5 t7 t10 t11 t12 t16 t17 t18) (λt5=>λt18=>λH Kb6=>zst t1 t5 t7 t10 t11 t12 t16 t17 t18 H K Kb3 Kb6) H Inv):zAl t1 t5 t7 t10 t11 t12 t16 t17 t18 H K Kb3:=
 lp2 (M:=zfV) zPj t5 t18 (by kernel_rfl) Inv n h0 round
theorem zPh{t1 t5 t10 t11 t12:AV}{H:zaa}{K:Kt}(Inv:Nat→AV→AV→zaa→Prop)(n:Nat)(h0:HSc H→Inv n t5 t12 H)(round:Rd2 (λt5=>λt12=>zmC t1 t5 t10 t11 t12) (λt5=>λt12=>λH Kb3=>zss t1 t5 t10 t11 t12 H K Kb3) H Inv):zsw t1 t5 t10 t11 t12 H K:=
 lp2 (M:=zfV) zAm t5 t12 (by kernel_rfl) Inv n h0 round
theorem zPk{t0 t1:AV}{H:zaa}{K:Kt}(h:HSc H→zAj t0 t1 H K):ACalls tP zjy [t0,t1] H K:=
 zan (M:=zfV) Tryz.func88 (c:=zsu) (by kernel_rfl) (λhs=>Eq.mpr (by kernel_rfl) (h hs))
def zkC:Nat→List Bool
 |5=>rl false [0,3,4,2,44]
 |_=>[]
noncomputable def zp6:Code:=Tryz.f118.body.getD .skip
noncomputable def zHt:List ResultVar:=Tryz.f118.results.toList
def zkD(t0 t1 t2 t7 t8:AV):List AV:=t0::t1::t2::ux 4 (t7::t8::ux 44 [])
def zHs:List Bool:=zkC 5
noncomputable def zHq:Code:=zaq [1,1,1,0,1,0,0] zp6
def zHp(K:Kt):AExit→List AV→zaa→Prop:=zar tP zkC [1,1,1,0,1,0] zp6 (zaA tP zHt K)
def zp7(t0 t1 t2 t7 t8:AV)(H:zaa)(K:Kt):Prop:=ALoop tP zHq (zHp K) (zkD t0 t1 t2 t7 t8) H
def zxj(t0 t1 t2 t7 t8:AV)(H:zaa)(K:Kt)(Kb5:Lt):Prop:=
 zac .add false t8 (.int .i64 1) λt16=>
 Kb5 (zkD t0 t1 t2 t7 t16) H
def zkE(t0 t1 t2 t7 t8:AV)(H:zaa)(K:Kt)(Kb5:Lt):Prop:=
 zxj t0 t1 t2 t7 t8 H K Kb5
def zp5(t0 t1 t2 t7 t8:AV)(H:zaa)(K:Kt)(Kb5:Lt):Prop:=
 zac .leq false t8 t2 λt14=>
 zag t14
 (zaF t0 λt18=>
 zaf 0 t18 λt19=>
 zae false 1 t19 H λt20=>
 ACalls tP zgl [t20,t1,t8] H λt23 H=>
 ACalls tP zeZ [t23] H λt24 H=>
 zac .eql false t24 (.int .i64 0) λt25=>
 zab t25 false H (λK'=>K' t0 H) λt27 H=>
 zab t25 false H (λK'=>zaF t27 (K' · H)) λt28 H=>
 zab t25 false H (λK'=>zaf 0 t28 (K' · H)) λt29 H=>
 zab t25 false H (λK'=>zae false 1 t29 H (K' · H)) λt30 H=>
 zab t25 false H (λK'=>K' t1 H) λt31 H=>
 zab t25 false H (λK'=>K' t2 H) λt32 H=>
 zab t25 false H (λK'=>K' t8 H) λt33 H=>
 zab t25 false H (λK'=>zac .sub false t32 t33 (K' · H)) λt34 H=>
 zab t25 false H (λK'=>ACalls tP zhF [t30,t31,t34] H K') λt35 H=>
 zab t25 false H (λK'=>ACalls tP zeZ [t35] H K') λt36 H=>
 zab t25 false H (λK'=>zac .eql false t36 (.int .i64 0) (K' · H)) λt37 H=>
 zai t25 (.bool true) t37 λt38=>
 zag t38
 (zkE t0 t1 t2 t7 t8 H K Kb5)
 (ACalls tP zjz [t0,t1,t8] H λt43 H=>
 zac .sub false t2 t8 λt48=>
 ACalls tP zi7 [t0,t1,t48] H λt49 H=>
 ACalls tP zjy [t43,t49] H λt50 H=>
 zay zbd 1 24 t7 t50 H λt51 H=>
 zkE t0 t1 t2 t51 t8 H K Kb5))
 (K t7 H)
def zp4(t0 t1 t2:AV)(H:zaa)(K:Kt):Prop:=
 zac .eql false t2 (.int .i64 0) λt10=>
 zag t10
 (zas 1 [.snil] 1 [(0,.snil)] λt11=>
 K t11 H)
 (zp7 t0 t1 t2 .snil (.int .i64 1) H K)
theorem zHr{t0 t1 t2 t7 t8:AV}{H:zaa}{K:Kt}(Inv:Nat→AV→AV→zaa→Prop)(n:Nat)(h0:HSc H→Inv n t7 t8 H)(round:Rd2 (λt7=>λt8=>zkD t0 t1 t2 t7 t8) (λt7=>λt8=>λH Kb5=>zp5 t0 t1 t2 t7 t8 H K Kb5) H Inv):zp7 t0 t1 t2 t7 t8 H K:=
 lp2 (M:=zkC) zHs t7 t8 (by kernel_rfl) Inv n h0 round
theorem zxk{t0 t1 t2:AV}{H:zaa}{K:Kt}(h:HSc H→zp4 t0 t1 t2 H K):ACalls tP zi7 [t0,t1,t2] H K:=
 zan (M:=zkC) Tryz.func118 (c:=zp6) (by kernel_rfl) (λhs=>Eq.mpr (by kernel_rfl) (h hs))
def zlX:Nat→List Bool
 |7=>rl false [0,3,4,2,53]
 |200009=>rl false [0,1]
 |200010=>rl false [0,1]
 |_=>[]
noncomputable def zrI:Code:=Tryz.f47.body.getD .skip
noncomputable def zMP:List ResultVar:=Tryz.f47.results.toList
def zlY(t0 t1 t2 t7 t8:AV):List AV:=t0::t1::t2::ux 4 (t7::t8::ux 53 [])
def zMO:List Bool:=zlX 7
noncomputable def zMM:Code:=zaq [1,1,1,0,1,0,0] zrI
def zML(K:Kt):AExit→List AV→zaa→Prop:=zar tP zlX [1,1,1,0,1,0] zrI (zaA tP zMP K)
def zrJ(t0 t1 t2 t7 t8:AV)(H:zaa)(K:Kt):Prop:=ALoop tP zMM (zML K) (zlY t0 t1 t2 t7 t8) H
def zzp(t0 t1 t2 t7 t8:AV)(H:zaa)(K:Kt)(Kb7:Lt):Prop:=
 zac .add false t8 (.int .i64 1) λt19=>
 Kb7 (zlY t0 t1 t2 t7 t19) H
def zlZ(t0 t1 t2 t7 t8:AV)(H:zaa)(K:Kt)(Kb7:Lt):Prop:=
 zzp t0 t1 t2 t7 t8 H K Kb7
def zrH(t0 t1 t2 t7 t8:AV)(H:zaa)(K:Kt)(Kb7:Lt):Prop:=
 zac .leq false t8 t2 λt17=>
 zag t17
 (zad H (λK'=>K' t0 H) λt20=>
 zad H (λK'=>zaF t20 (K' · H)) λt21=>
 zad H (λK'=>zaf 0 t21 (K' · H)) λt22=>
 zad H (λK'=>zam false 1 t22 H (K' · H)) λt23=>
 zad H (λK'=>K' t1 H) λt24=>
 zad H (λK'=>zaj 1 t24 (.int .i64 0) (K' · H)) λt25=>
 zad H (λK'=>zam false 1 t25 H (K' · H)) λt26=>
 zad H (λK'=>K' t8 H) λt27=>
 zbg .w false H (λK'=>ACalls tP zgl [t23,t26,t27] H K') λt28 H=>
 zbg .w false H (λK'=>ACalls tP zeZ [t28] H K') λt29 H=>
 zad H (λK'=>zac .eql false t29 (.int .i64 0) (K' · H)) λt30=>
 zad H (λK'=>K' t30 H) λt31=>
 zab t31 false H (λK'=>zad H (λK''=>K'' t0 H) (K' · H)) λt32 H=>
 zab t31 false H (λK'=>zad H (λK''=>zaF t32 (K'' · H)) (K' · H)) λt33 H=>
 zab t31 false H (λK'=>zad H (λK''=>zaf 0 t33 (K'' · H)) (K' · H)) λt34 H=>
 zab t31 false H (λK'=>zad H (λK''=>zam false 1 t34 H (K'' · H)) (K' · H)) λt35 H=>
 zab t31 false H (λK'=>zad H (λK''=>K'' t1 H) (K' · H)) λt36 H=>
 zab t31 false H (λK'=>zad H (λK''=>za3 1 1 t36 (some (.int .i64 1)) none (K'' · H)) (K' · H)) λt37 H=>
 zab t31 false H (λK'=>zad H (λK''=>K'' t2 H) (K' · H)) λt38 H=>
 zab t31 false H (λK'=>zad H (λK''=>K'' t8 H) (K' · H)) λt39 H=>
 zab t31 false H (λK'=>zad H (λK''=>zac .sub false t38 t39 (K'' · H)) (K' · H)) λt40 H=>
 zab t31 false H (λK'=>zbg .w false H (λK''=>ACalls tP zgn [t35,t37,t40] H K'') K') λt41 H=>
 zab t31 false H (λK'=>zbg .w false H (λK''=>ACalls tP zeZ [t41] H K'') K') λt42 H=>
 zab t31 false H (λK'=>zad H (λK''=>zac .eql false t42 (.int .i64 0) (K'' · H)) (K' · H)) λt43 H=>
 zad H (λK'=>zai t31 (.bool true) t43 (K' · H)) λt44=>
 zag t44
 (zlZ t0 t1 t2 t7 t8 H K Kb7)
 (zad H (λK'=>K' t7 H) λt45=>
 zad H (λK'=>K' t0 H) λt46=>
 zad H (λK'=>K' t1 H) λt47=>
 zad H (λK'=>zaj 1 t47 (.int .i64 0) (K' · H)) λt48=>
 zad H (λK'=>zam false 1 t48 H (K' · H)) λt49=>
 zad H (λK'=>K' t8 H) λt50=>
 zbg .w false H (λK'=>ACalls tP zjz [t46,t49,t50] H K') λt51 H=>
 zad H (λK'=>K' t0 H) λt52=>
 zad H (λK'=>K' t1 H) λt53=>
 zad H (λK'=>za3 1 1 t53 (some (.int .i64 1)) none (K' · H)) λt54=>
 zad H (λK'=>K' t2 H) λt55=>
 zad H (λK'=>K' t8 H) λt56=>
 zad H (λK'=>zac .sub false t55 t56 (K' · H)) λt57=>
 zbg .w false H (λK'=>ACalls tP zhB [t52,t54,t57] H K') λt58 H=>
 zbg .w false H (λK'=>ACalls tP zjy [t51,t58] H K') λt59 H=>
 zbg .w false H (λK'=>zay zbd 1 24 t45 t59 H K') λt60 H=>
 zad H (λK'=>K' t60 H) λt7=>
 zlZ t0 t1 t2 t7 t8 H K Kb7))
 (K t7 H)
def zrG(t0 t1 t2:AV)(H:zaa)(K:Kt):Prop:=
 zah 1 t1 λt10=>
 zac .eql false t10 (.int .i64 0) λt11=>
 zag t11
 (zac .eql false t2 (.int .i64 0) λt13=>
 zag t13
 (zas 1 [.snil] 1 [(0,.snil)] λt14=>
 K t14 H)
 (K .snil H))
 (zrJ t0 t1 t2 .snil (.int .i64 1) H K)
theorem zMN{t0 t1 t2 t7 t8:AV}{H:zaa}{K:Kt}(Inv:Nat→AV→AV→zaa→Prop)(n:Nat)(h0:HSc H→Inv n t7 t8 H)(round:Rd2 (λt7=>λt8=>zlY t0 t1 t2 t7 t8) (λt7=>λt8=>λH Kb7=>zrH t0 t1 t2 t7 t8 H K Kb7) H Inv):zrJ t0 t1 t2 t7 t8 H K:=
 lp2 (M:=zlX) zMO t7 t8 (by kernel_rfl) Inv n h0 round
theorem zzq{t0 t1 t2:AV}{H:zaa}{K:Kt}(h:HSc H→zrG t0 t1 t2 H K):ACalls tP zhB [t0,t1,t2] H K:=
 zan (M:=zlX) Tryz.func47 (c:=zrI) (by kernel_rfl) (λhs=>Eq.mpr (by kernel_rfl) (h hs))
def zc2:Nat→List Bool
 |23=>rl false [0,3,6,1,85,3,44]
 |200028=>rl false [0,1]
 |29=>rl false [0,3,6,1,111,3,18]
 |9=>rl false [0,3,6,2,4,1,35,3,88]
 |12=>rl false [0,3,6,2,4,1,1,1,33,3,8,3,77]
 |_=>[]
noncomputable def zfW:Code:=Tryz.f89.body.getD .skip
noncomputable def zsF:List ResultVar:=Tryz.f89.results.toList
def zAp(t0 t1 t2 t9:AV)(H:zaa)(K:Kt):Prop:=
 zaF t0 λt134=>
 zaf 2 t134 λt135=>
 zae false 1 t135 H λt136=>
 zao [(.int .i64 0),(.int .i64 0)] [(0,1),(1,1)] [(0,t1),(1,t2)] λt139=>
 zc7 t136 t139 t9 H λH=>
 K t9 H
def zfe(t0 t1 t2 t9:AV)(H:zaa)(K:Kt):Prop:=
 zAp t0 t1 t2 t9 H K
def zmE(t0 t1 t2 t9 t95 t96 t97:AV):List AV:=t0::t1::t2::ux 6 (t9::ux 85 (t95::t96::t97::ux 44 []))
def zPx:List Bool:=zc2 23
noncomputable def zPq:Code:=zaq [1,1,1,0,1,1,0,1,1,1,1,1,0,1,0,0] zfW
def zPn(K:Kt):AExit→List AV→zaa→Prop:=zar tP zc2 [1,1,1,0,1,1,0,1,1,1,1,1,0,1,0] zfW (zaA tP zsF K)
def zsC(t0 t1 t2 t9 t95 t96 t97:AV)(H:zaa)(K:Kt):Prop:=ALoop tP zPq (zPn K) (zmE t0 t1 t2 t9 t95 t96 t97) H
def zsy(t0 t1 t2 t9 t95 t96 t97:AV)(H:zaa)(K:Kt)(Kb23:Lt):Prop:=
 zac .lss false t97 t96 λt98=>
 zag t98
 (zaj 1 t95 t97 λt99=>
 zae false 1 t99 H λt100=>
 zao [(.int .i64 0),(.int .i64 0),.snil] [(0,1),(1,1),(2,1)] [(0,(.int .i64 3)),(1,t100)] λt103=>
 zas 3 [(.int .i64 0),(.int .i64 0),.snil] 1 [(0,t103)] λt104=>
 zay zaJ 3 40 t9 t104 H λt105 H=>
 zac .add false t97 (.int .i64 1) λt106=>
 Kb23 (zmE t0 t1 t2 t105 t95 t96 t106) H)
 (zfe t0 t1 t2 t9 H K)
def zmF(t0 t1 t2 t9 t121 t122 t123:AV):List AV:=t0::t1::t2::ux 6 (t9::ux 111 (t121::t122::t123::ux 18 []))
def zPy:List Bool:=zc2 29
noncomputable def zPr:Code:=zaq [1,1,1,0,1,1,0,1,1,1,1,1,1,1,0,1,0,0] zfW
def zPo(K:Kt):AExit→List AV→zaa→Prop:=zar tP zc2 [1,1,1,0,1,1,0,1,1,1,1,1,1,1,0,1,0] zfW (zaA tP zsF K)
def zsD(t0 t1 t2 t9 t121 t122 t123:AV)(H:zaa)(K:Kt):Prop:=ALoop tP zPr (zPo K) (zmF t0 t1 t2 t9 t121 t122 t123) H
def zsz(t0 t1 t2 t9 t121 t122 t123:AV)(H:zaa)(K:Kt)(Kb29:Lt):Prop:=
 zac .lss false t123 t122 λt124=>
 zag t124
 (zaj 1 t121 t123 λt125=>
 zae false 1 t125 H λt126=>
 zao [(.int .i64 0),(.int .i64 0),.snil] [(0,1),(1,1),(2,1)] [(0,(.int .i64 6)),(2,t126)] λt129=>
 zas 3 [(.int .i64 0),(.int .i64 0),.snil] 1 [(0,t129)] λt130=>
 zay zaJ 3 40 t9 t130 H λt131 H=>
 zac .add false t123 (.int .i64 1) λt132=>
 Kb29 (zmF t0 t1 t2 t131 t121 t122 t132) H)
 (zfe t0 t1 t2 t9 H K)
def zmG(t0 t1 t2 t9 t10 t15 t51 t52 t53:AV):List AV:=t0::t1::t2::ux 6 (t9::t10::ux 4 (t15::ux 35 (t51::t52::t53::ux 88 [])))
def zAr:List Bool:=zc2 9
noncomputable def zsB:Code:=zaq [1,1,1,0,1,1,0,1,1,1,1,1,1,1,1,1,1,0,0] zfW
def zAo(K:Kt):AExit→List AV→zaa→Prop:=zar tP zc2 [1,1,1,0,1,1,0,1,1,1,1,1,1,1,1,1,1,0] zfW (zaA tP zsF K)
def zsE(t0 t1 t2 t9 t10 t15 t51 t52 t53:AV)(H:zaa)(K:Kt):Prop:=ALoop tP zsB (zAo K) (zmG t0 t1 t2 t9 t10 t15 t51 t52 t53) H
def zmD(t0 t1 t2 t9 t10 t15 t17 t51 t52 t53 t62 t63 t64:AV):List AV:=t0::t1::t2::ux 6 (t9::t10::ux 4 (t15::ux 1 (t17::ux 33 (t51::t52::t53::ux 8 (t62::t63::t64::ux 77 [])))))
def zPw:List Bool:=zc2 12
noncomputable def zPp:Code:=zaq [1,1,0,0,1,1,0,0] zsB
def zPm(K:Kt)(Kb9:Lt):AExit→List AV→zaa→Prop:=zar tP zc2 [1,1,0,0,1,1,0] zsB (zbG zAr Kb9 (zAo K))
def zAq(t0 t1 t2 t9 t10 t15 t17 t51 t52 t53 t62 t63 t64:AV)(H:zaa)(K:Kt)(Kb9:Lt):Prop:=ALoop tP zPp (zPm K Kb9) (zmD t0 t1 t2 t9 t10 t15 t17 t51 t52 t53 t62 t63 t64) H
def zsx(t0 t1 t2 t9 t10 t15 t17 t51 t52 t53 t62 t63 t64:AV)(H:zaa)(K:Kt)(Kb9:Lt)(Kb12:Lt):Prop:=
 zac .lss false t64 t63 λt65=>
 zag t65
 (zaj 1 t62 t64 λt66=>
 zae false 1 t66 H λt67=>
 zad H (λK'=>K' t9 H) λt68=>
 zad H (λK'=>zaf 0 t10 (K' · H)) λt69=>
 zad H (λK'=>zam false 1 t69 H (K' · H)) λt70=>
 zad H (λK'=>zaj 1 (zfn 9 t15) t70 (K' · H)) λt71=>
 zad H (λK'=>zam false 1 t71 H (K' · H)) λt72=>
 zad H (λK'=>zaf 0 t17 (K' · H)) λt73=>
 zad H (λK'=>zam false 1 t73 H (K' · H)) λt74=>
 zad H (λK'=>K' t67 H) λt75=>
 zad H (λK'=>zao [(.int .i64 0),(.int .i64 0),.snil] [(0,1),(1,1),(2,1)] [(0,t72),(1,t74),(2,t75)] (K' · H)) λt76=>
 zad H (λK'=>zas 3 [(.int .i64 0),(.int .i64 0),.snil] 1 [(0,t76)] (K' · H)) λt77=>
 zay zaJ 3 40 t68 t77 H λt78 H=>
 zad H (λK'=>K' t78 H) λt9=>
 zac .add false t64 (.int .i64 1) λt79=>
 Kb12 (zmD t0 t1 t2 t9 t10 t15 t17 t51 t52 t53 t62 t63 t79) H)
 (zac .add false t53 (.int .i64 1) λt80=>
 Kb9 (zmG t0 t1 t2 t9 t10 t15 t51 t52 t80) H)
def zsA(t0 t1 t2 t9 t10 t15 t51 t52 t53:AV)(H:zaa)(K:Kt)(Kb9:Lt):Prop:=
 zac .lss false t53 t52 λt54=>
 zag t54
 (zaj 2 t51 t53 λt55=>
 zae true 2 t55 H λt56=>
 zaw [(.int .i64 0),.snil] H λt17 H=>
 zak 2 t17 t56 H λH=>
 zaf 1 t17 λt58=>
 zae false 1 t58 H λt59=>
 zac .sub false t2 (.int .i64 1) λt61=>
 ACalls tP zhB [t0,t59,t61] H λt62 H=>
 zah 1 t62 λt63=>
 zAq t0 t1 t2 t9 t10 t15 t17 t51 t52 t53 t62 t63 (.int .i64 0) H K Kb9)
 (zfe t0 t1 t2 t9 H K)
def zio(t0 t1 t2:AV)(H:zaa)(K:Kt):Prop:=
 zaF t0 λt22=>
 zaf 2 t22 λt23=>
 zae false 1 t23 H λt24=>
 zao [(.int .i64 0),(.int .i64 0)] [(0,1),(1,1)] [(0,t1),(1,t2)] λt27=>
 zed .snil true t24 t27 H λt28=>
 zaI t28 0 λt29=>
 zaI t28 1 λt30=>
 zag t30
 (K t29 H)
 (zaF t0 λt34=>
 zaf 0 t34 λt35=>
 zae false 1 t35 H λt36=>
 zaF t36 λt37=>
 zaf 3 t37 λt38=>
 zae false 1 t38 H λt39=>
 zaj 3 t39 t1 λt41=>
 zae true 3 t41 H λt42=>
 zaw [(.int .i64 0),(.int .i64 0),.snil] H λt10 H=>
 zak 3 t10 t42 H λH=>
 zaf 0 t10 λt43=>
 zae false 1 t43 H λt44=>
 zac .eql false t44 (.int .i64 3) λt82=>
 zag t82
 (zao [(.int .i64 0),(.int .i64 0),.snil] [(0,1),(1,1),(2,1)] [(0,(.int .i64 1))] λt83=>
 zas 3 [(.int .i64 0),(.int .i64 0),.snil] 1 [(0,t83)] λt84=>
 zfe t0 t1 t2 t84 H K)
 (zac .eql false t44 (.int .i64 2) λt86=>
 zag t86
 (zao [(.int .i64 0),(.int .i64 0),.snil] [(0,1),(1,1),(2,1)] [(0,(.int .i64 2))] λt87=>
 zao [(.int .i64 0),(.int .i64 0),.snil] [(0,1),(1,1),(2,1)] [(0,(.int .i64 2)),(1,(.int .i64 1))] λt88=>
 zas 3 [(.int .i64 0),(.int .i64 0),.snil] 2 [(0,t87),(1,t88)] λt89=>
 zfe t0 t1 t2 t89 H K)
 (zac .eql false t44 (.int .i64 1) λt91=>
 zag t91
 (zaF t0 λt93=>
 zaf 1 t93 λt94=>
 zae false 1 t94 H λt95=>
 zah 1 t95 λt96=>
 zsC t0 t1 t2 .snil t95 t96 (.int .i64 0) H K)
 (zac .eql false t44 (.int .i64 7) λt108=>
 zag t108
 (zad H (λK'=>K' t0 H) λt109=>
 zad H (λK'=>K' t0 H) λt110=>
 zad H (λK'=>zaF t110 (K' · H)) λt111=>
 zad H (λK'=>zaf 0 t111 (K' · H)) λt112=>
 zad H (λK'=>zam false 1 t112 H (K' · H)) λt113=>
 zad H (λK'=>zaf 2 t10 (K' · H)) λt114=>
 zad H (λK'=>zam false 1 t114 H (K' · H)) λt115=>
 zad H (λK'=>zaj 3 t115 (.int .i64 0) (K' · H)) λt116=>
 zad H (λK'=>zam true 3 t116 H (K' · H)) λt117=>
 zbg .w false H (λK'=>ACalls tP zgm [t113,t117] H K') λt118 H=>
 zad H (λK'=>K' t2 H) λt119=>
 zad H (λK'=>zac .sub false t119 (.int .i64 1) (K' · H)) λt120=>
 zbg .w false H (λK'=>ACalls tP zi7 [t109,t118,t120] H K') λt121 H=>
 zad H (λK'=>zah 1 t121 (K' · H)) λt122=>
 zad H (λK'=>K' (.int .i64 0) H) λt123=>
 zsD t0 t1 t2 .snil t121 t122 t123 H K)
 (zao [(.int .i64 0),(.int .i64 0),(.int .i64 0),(.int .i64 0),(.int .i64 0),(.int .i64 0),(.int .i64 0),(.int .i64 0),(.int .i64 0)] [(0,1),(1,1),(2,1),(3,1),(4,1),(5,1),(6,1),(7,1),(8,1)] [(5,(.int .i64 5)),(6,(.int .i64 4)),(8,(.int .i64 7))] λt45=>
 zaw [(.int .i64 0),(.int .i64 0),(.int .i64 0),(.int .i64 0),(.int .i64 0),(.int .i64 0),(.int .i64 0),(.int .i64 0),(.int .i64 0)] H λt15 H=>
 zak 9 t15 t45 H λH=>
 zaF t0 λt47=>
 zaf 0 t47 λt48=>
 zae false 1 t48 H λt49=>
 ACalls tP zhG [t49,t1] H λt51 H=>
 zah 1 t51 λt52=>
 zsE t0 t1 t2 .snil t10 t15 t51 t52 (.int .i64 0) H K)))))
theorem zPt{t0 t1 t2 t9 t95 t96 t97:AV}{H:zaa}{K:Kt}(Inv:Nat→AV→AV→zaa→Prop)(n:Nat)(h0:HSc H→Inv n t9 t97 H)(round:Rd2 (λt9=>λt97=>zmE t0 t1 t2 t9 t95 t96 t97) (λt9=>λt97=>λH Kb23=>zsy t0 t1 t2 t9 t95 t96 t97 H K Kb23) H Inv):zsC t0 t1 t2 t9 t95 t96 t97 H K:=
 lp2 (M:=zc2) zPx t9 t97 (by kernel_rfl) Inv n h0 round
theorem zPu{t0 t1 t2 t9 t121 t122 t123:AV}{H:zaa}{K:Kt}(Inv:Nat→AV→AV→zaa→Prop)(n:Nat)(h0:HSc H→Inv n t9 t123 H)(round:Rd2 (λt9=>λt123=>zmF t0 t1 t2 t9 t121 t122 t123) (λt9=>λt123=>λH Kb29=>zsz t0 t1 t2 t9 t121 t122 t123 H K Kb29) H Inv):zsD t0 t1 t2 t9 t121 t122 t123 H K:=
 lp2 (M:=zc2) zPy t9 t123 (by kernel_rfl) Inv n h0 round
theorem zPs{t0 t1 t2 t9 t10 t15 t17 t51 t52 t53 t62 t63 t64:AV}{H:zaa}{K:Kt}{Kb9:Lt}(Inv:Nat→AV→AV→zaa→Prop)(n:Nat)(h0:HSc H→Inv n t9 t64 H)(round:Rd2 (λt9=>λt64=>zmD t0 t1 t2 t9 t10 t15 t17 t51 t52 t53 t62 t63 t64) (λt9=>λt64=>λH Kb12=>zsx t0 t1 t2 t9 t10 t15 t17 t51 t52 t53 t62 t63 t64 H K Kb9 Kb12) H Inv):zAq t0 t1 t2 t9 t10 t15 t17 t51 t52 t53 t62 t63 t64 H K Kb9:=
 lp2 (M:=zc2) zPw t9 t64 (by kernel_rfl) Inv n h0 round
theorem zPv{t0 t1 t2 t9 t10 t15 t51 t52 t53:AV}{H:zaa}{K:Kt}(Inv:Nat→AV→AV→zaa→Prop)(n:Nat)(h0:HSc H→Inv n t9 t53 H)(round:Rd2 (λt9=>λt53=>zmG t0 t1 t2 t9 t10 t15 t51 t52 t53) (λt9=>λt53=>λH Kb9=>zsA t0 t1 t2 t9 t10 t15 t51 t52 t53 H K Kb9) H Inv):zsE t0 t1 t2 t9 t10 t15 t51 t52 t53 H K:=
 lp2 (M:=zc2) zAr t9 t53 (by kernel_rfl) Inv n h0 round
theorem zmH{t0 t1 t2:AV}{H:zaa}{K:Kt}(h:HSc H→zio t0 t1 t2 H K):ACalls tP zjz [t0,t1,t2] H K:=
 zan (M:=zc2) Tryz.func89 (c:=zfW) (by kernel_rfl) (λhs=>Eq.mpr (by kernel_rfl) (h hs))
end Go.Proofs.YtaifokkaaahdoaaGreatDoor
namespace Go.Proofs.YtaifokkaaahdoaaGreatDoor
open Go Go.Abs
structure BS where
 s:SS
 m:List ((Int×Int)×List VT)
def zdv(l:List ((Int×Int)×List VT)):List ((Int×Int)×AV):=l.map λe=>(e.1,.sl (VT.css e.2) .none)
structure BI where
 i:SI
 bp:Nat
 bm:Nat
section
variable (data:List Dat) (kk:Int) (xs:List Int) (Z:BI)
structure ShB (B:BS) (H:zaa):Prop where
 sh:ShS data kk Z.i B.s H
 bpa:H[Z.bp]?=some (.cells [.ptr Z.i.p 0,.sl (ints xs) .none,.map Z.bm])
 bma:H[Z.bm]?=some (.mapP (zdv B.m))
 np:zaZ data kk Z.i B.s Z.bp=none
 nm:zaZ data kk Z.i B.s Z.bm=none
 ne:Z.bp≠Z.bm
def shB(B:BS)(H:zaa):zaa:=(shS data kk Z.i B.s H).set Z.bm (.mapP (zdv B.m))
end
theorem zf9{data:List Dat}{kk:Int}{I:SI}{S S':SS}{x:Nat}(h:zaZ data kk I S x=none):zaZ data kk I S' x=none:=by
 have:=zga (data:=data) (kk:=kk) (I:=I) (S:=S) (S':=S') x;rw[h]at this;cases h2:zaZ data kk I S' x with
 |none=>rfl
 |some b=>rw[h2]at this;cases this
theorem zEn{data:List Dat}{kk:Int}{I:SI}{S:SS}{x:Nat}{b:AB}{H:zaa}(h:zaZ data kk I S x=none):shS data kk I S (H.set x b)=(shS data kk I S H).set x b:=by
 apply List.ext_getElem?;intro y;rw[zco];by_cases e:x=y
 ·subst e;by_cases hx:x<H.length
  ·rw[List.getElem?_set_self hx,List.getElem?_set_self (by simpa using hx),h];rfl
  ·rw[List.getElem?_eq_none (by simpa using hx),List.getElem?_eq_none (by simpa using hx)];rfl
 ·rw[List.getElem?_set_ne e,List.getElem?_set_ne e,zco]
section
variable {data:List Dat} {kk:Nat} {xs:List Int} {Z:BI} {B B' B'':BS} {H J:zaa}
@[simp] theorem zTN:(shB data kk Z B H).length=H.length:=by simp[shB]
theorem ShB.app(h:ShB data kk xs Z B H):ShB data kk xs Z B (H++J):=⟨h.sh.app,by
 rw[List.getElem?_append_left (List.getElem?_eq_some_iff.1 h.bpa).1];exact h.bpa,by
 rw[List.getElem?_append_left (List.getElem?_eq_some_iff.1 h.bma).1];exact h.bma,h.np,h.nm,h.ne⟩
theorem ShB.shB_app(h:ShB data kk xs Z B H):shB data kk Z B' (H++J)=shB data kk Z B' H++J:=by unfold shB;rw[h.sh.shS_app,List.set_append_left _ _ (by simpa using(List.getElem?_eq_some_iff.1 h.bma).1)]
theorem ShB.next(h:ShB data kk xs Z B H)(hm:B'.s.made.length=B'.s.types.length)(hc:B'.s.cons.length=B'.s.types.length):ShB data kk xs Z B' (shB data kk Z B' H):=by
 have h1:=h.sh.next hm hc;have lbm:=(List.getElem?_eq_some_iff.1 h.bma).1;refine⟨⟨h1.ok,λx b hb=>?_,hm,hc⟩,?_,?_,zf9 h.np,zf9 h.nm,h.ne⟩
 ·have hne:Z.bm≠x:=by rintro rfl;rw[zf9 h.nm]at hb;cases hb
  rw[shB,List.getElem?_set_ne hne];exact h1.at' x b hb
 ·rw[shB,List.getElem?_set_ne (λe=>h.ne e.symm),zco,h.bpa,Option.map_some,zf9 h.np];rfl
 ·rw[shB,List.getElem?_set_self (by simpa using lbm)]
theorem ShB.shB_shB(h:ShB data kk xs Z B H):shB data kk Z B'' (shB data kk Z B' H)=shB data kk Z B'' H:=by unfold shB;rw[zEn (zf9 h.nm),zdk,List.set_set]
theorem ShB.self(h:ShB data kk xs Z B H):shB data kk Z B H=H:=by
 unfold shB;rw[h.sh.self];apply List.ext_getElem?;intro y;by_cases e:Z.bm=y
 ·subst e;rw[List.getElem?_set_self (List.getElem?_eq_some_iff.1 h.bma).1,h.bma]
 ·rw[List.getElem?_set_ne e]
theorem ShB.shS_eq(h:ShB data kk xs Z B H){S':SS}:shS data kk Z.i S' H=shB data kk Z ⟨S',B.m⟩ H:=by
 unfold shB;apply List.ext_getElem?;intro y;by_cases e:Z.bm=y
 ·subst e;rw[List.getElem?_set_self (by simpa using(List.getElem?_eq_some_iff.1 h.bma).1),zco,h.bma,Option.map_some,zf9 h.nm];rfl
 ·rw[List.getElem?_set_ne e]
theorem ShB.nodr(h:ShB data kk xs Z B H)(h0:H[0]?=some .nodr):(shB data kk Z B' H)[0]?=some .nodr:=by
 have hne:Z.bm≠0:=by intro e;have:=h.bma;rw[e,h0]at this;cases this
 rw[shB,List.getElem?_set_ne hne];exact h.sh.nodr h0
theorem zDg(n:Nat)(l:List ((Int×Int)×List VT)):(AB.mapP (zdv l)).sc n=true:=by simp[AB.sc,zdv,AV.scV,AV.scA,AV.scB]
theorem ShB.scs(h:ShB data kk xs Z B H)(hs:HSc H):HSc (shB data kk Z B' H):=by unfold shB;exact(h.sh.scs hs).set (zDg _ _)
end
structure InvB (data:List Dat) (kk:Nat) (xs:List Int) (X:List VT) (B:BS):Prop where
 s:zaW data kk X B.s
 m:∀e∈B.m,∃(i n:Nat) (t:VT),e.1=((i:Int),(n:Int))∧B.s.types[i]?=some t∧e.2=vV data xs t n
section
variable (data:List Dat) (kk:Nat) (xs:List Int) (X:List VT) (Z:BI)
def zff(B B':BS)(i n:Nat)(l:List VT):Prop:=∀H,ShB data kk xs Z B H→H[0]?=some .nodr→∀K:Kt,K (.sl (VT.css l) .none) (shB data kk Z B' H)→ACalls tP zjz [.ptr Z.bp 0,.int .i64 i,.int .i64 n] H K
def zea(n:Nat):Prop:=∀(B:BS) (i:Nat) (t:VT),InvB data kk xs X B→B.s.types[i]?=some t→Rch data X n t→cV data kk t n≠0→cV data kk t n≤2000→∃B',InvB data kk xs X B'∧B.s.types <+: B'.s.types∧zff data kk xs Z B B' i n (vV data xs t n)
def llA(l:List (List VT)):List (List AV):=l.map λr=>[.sl (VT.css r) .none]
def zfZ(B B':BS)(is:List Nat)(n:Nat)(l:List (List VT)):Prop:=∀H,ShB data kk xs Z B H→H[0]?=some .nodr→∀K:Kt,K (.sl (llA l) .none) (shB data kk Z B' H)→ACalls tP zhB [.ptr Z.bp 0,.sl (za1 is) .none,.int .i64 n] H K
def zir(B B':BS)(i n:Nat)(l:List (List VT)):Prop:=∀H,ShB data kk xs Z B H→H[0]?=some .nodr→∀K:Kt,K (.sl (llA l) .none) (shB data kk Z B' H)→ACalls tP zi7 [.ptr Z.bp 0,.int .i64 i,.int .i64 n] H K
end
@[simp] theorem zgg(l:List (List VT)):(llA l).length=l.length:=by simp[llA]
theorem znR(a b:List (List VT)):llA (a++b)=llA a++llA b:=by simp[llA]
theorem ztp(es:List (List AV))(tk:Tok)(k:AV→Prop):zas 1 [.snil] 1 [(0,.sl es tk)] k=k (.sl [[.sl es .none]] .full):=propext Iff.rfl
theorem zBn(v:VT)(r:List VT)(hr:r.length≤1000000)(H:zaa)(K:Kt)(hK:∀tk J,K (.sl (v.cs::VT.css r) tk) (H++J)):zay zaJ 3 40 (.sl [v.cs] .full) (.sl (VT.css r) .none) H K:=by
 cases r with
 |nil=>simp only[VT.css,zay,zbb,za2];refine⟨by simp,?_⟩;have:=hK .full [];rwa [List.append_nil]at this
 |cons y r=>
  simp only[VT.css,zay,zbb,za2];refine⟨by simp[VT.css_map],⟨by simp,by simp,?_,?_⟩,?_⟩
  ·simp at hr ⊢;omega
  ·simp at hr ⊢;omega
  exact hK (.own H.length) [.perm zaJ 3 ([v.cs].length+(y.cs::VT.css r).length)]
theorem zCL{a:List VT}{b:List (List VT)}{i:Nat}(h:i<a.length):za7 (a.take (i+1)) b=za7 (a.take i) b++b.map λr=>a[i]::r:=by unfold za7;rw[List.take_succ_eq_append_getElem h,List.flatMap_append];simp
theorem zAn(a:List VT)(b:List (List VT))(ha:a.length≤1000000)(hb:b.length≤1000000)(hr:∀ r∈b,r.length≤1000000)(H:zaa)(K:Kt)(hK:K (.sl (llA (za7 a b)) .none) H):
  ACalls tP zjy [.sl (VT.css a) .none,.sl (llA b) .none] H K:=by
 refine ACalls.out (zPk λhs=>?_);simp only[zAj,zec,VT.css_len];refine ALoop.own 5 zbd 1 rfl ?_;show zsw _ (.sl (llA (za7 (a.take 0) b)) (.own H.length)) _ _ _ (H++[.perm zbd 1 0]) _;obtain⟨N,hN⟩:∃N,N=H.length:=⟨_,rfl⟩;rw[←hN];have hps:∀k,HSc (H++[.perm zbd 1 k]):=λk=>hs.snoc rfl;have jl:∀i,i≤a.length→(za7 (a.take i) b).length=i*b.length:=λi hi=>by rw[zft,List.length_take,Nat.min_eq_left hi]
 refine zPh (Inv:=λq t5 t12 H'=>∃i:Nat,i≤a.length∧a.length-i=q∧t12=.int .i64 i∧t5=.sl (llA (za7 (a.take i) b)) (.own N)∧H'=H++[.perm zbd 1 (i*b.length)]) a.length ?_ ?_
 ·intro _;exact⟨0,by omega,rfl,rfl,rfl,by simp⟩
 ·rintro q t5 t12 H' ⟨i,hi,rfl,rfl,rfl,rfl⟩ hsc3 hlen3 hsF3 Kb3 hKb3;by_cases hlt:i<a.length
  ·obtain⟨x1,x2,x3,hvx,hxa,hxb,hxc⟩:=zaU a[i];have hib:=Nat.mul_le_mul hi hb;have hia:=Nat.mul_le_mul ha (Nat.le_refl 1000000);have hib1:(i+1)*b.length≤1000000000000:=by have:=Nat.mul_le_mul (show i+1≤1000000 by omega) hb;omega
   simp[zss,hlt,hvx];refine⟨⟨hxa,hxb,hxc⟩,?_⟩;rw[←hvx,←hN];have hss:∀k,HSc (H++[.perm zbd 1 k,.cells (a[i]).cs]):=λk=>hs.append (by simp[AB.sc]);refine zPi (Inv:=λq t5 t18 H'=>∃j:Nat,j≤b.length∧b.length-j=q∧t18=.int .i64 j∧t5=.sl (llA (za7 (a.take i) b++(b.map λr=>a[i]::r).take j)) (.own N)∧H'=H++[.perm zbd 1 (i*b.length+j),.cells (a[i]).cs]) b.length ?_ ?_
   ·intro _;exact⟨0,by omega,rfl,rfl,by simp,by simp⟩
   ·rintro q t5 t18 H' ⟨j,hj,rfl,rfl,rfl,rfl⟩ hsc6 hlen6 hsF6 Kb6 hKb6;by_cases hlj:j<b.length
    ·have hgj:∀ h:j<(llA b).length,(llA b)[j]'h=[.sl (VT.css b[j]) .none]:=λh=>by simp[llA]
     have hrj:=hr _ (List.getElem_mem hlj);have hg7:(H++[AB.perm zbd 1 (i*b.length+j),AB.cells (a[i]).cs])[N+1]?=some (.cells (a[i]).cs):=by rw[hN];simp[List.getElem?_append]
     have hal:(llA (za7 (a.take i) b++(b.map λr=>a[i]::r).take j)).length=i*b.length+j:=by rw[zgg,List.length_append,jl i hi,List.length_take,List.length_map];omega
     have hst:llA (za7 (a.take i) b++(b.map λr=>a[i]::r).take j)++[[.sl ((a[i]).cs::VT.css b[j]) .none]]=llA (za7 (a.take i) b++(b.map λr=>a[i]::r).take (j+1)):=by rw[List.take_succ_eq_append_getElem (by simpa using hlj),←List.append_assoc,znR (za7 (a.take i) b++_)];simp[llA,VT.css]
     have step:∀(tk:Tok) (J:zaa),(zay zbd 1 24 (.sl (llA (za7 (a.take i) b++(b.map λr=>a[i]::r).take j)) (.own N)) (.sl [[.sl ((a[i]).cs::VT.css b[j]) .none]] tk) (H++(AB.perm zbd 1 (i*b.length+j)::AB.cells (a[i]).cs::J)) λt28 H_1=>Kb6 (zin (.sl (llA b) .none) t28 (.ptr (N+1) 0) (.sl (VT.css a) .none) (.int .i64 a.length) (.int .i64 i) (.sl (llA b) .none) (.int .i64 b.length) (.int .i64 (j+1:Nat))) H_1):=by
      intro tk J;simp only[zay,zbb,za2,hal];refine⟨by simp,?_,⟨by simp;omega,by simp;omega⟩,?_⟩
      ·rw[hN];simp
      ·rw[hst];have hset:(H++(AB.perm zbd 1 (i*b.length+j)::AB.cells (a[i]).cs::J)).set N (.perm zbd 1 (i*b.length+j+[[AV.sl ((a[i]).cs::VT.css b[j]) Tok.none]].length))=(H++[.perm zbd 1 (i*b.length+(j+1)),.cells (a[i]).cs])++J:=by rw[hN,List.set_append_right _ _ (Nat.le_refl _)];simp[Nat.add_assoc]
       rw[hset];refine hKb6 _ _ ⟨b.length-(j+1),by omega,Back.at (J:=J) rfl (by simp) (hss _) ?_ ⟨_,_,rfl,j+1,by omega,rfl,rfl,rfl,rfl⟩⟩;simp[zin,ux,AV.sc,AV.scA,AV.scB,AV.scV];omega
     have hcl:VT.cs a[i]=(a[i]).cs:=rfl;simp only[List.map_take]at *;simp[zst,hlj,hgj];rw[hg7];simp only[zfj,zfg,List.drop_zero,VT.cs_take,VT.cs_len];refine⟨by omega,?_⟩;rw[zdL,wr (by omega)];refine zBn a[i] b[j] hrj _ _ λtk J=>?_;rw[ztp];have:=step .full J;simpa using this
    ·obtain rfl:j=b.length:=by omega
     simp[zst];rw[wr (by omega)];refine hKb3 _ _ ⟨a.length-(i+1),by omega,Back.at (H2:=H++[.perm zbd 1 ((i+1)*b.length)]) (J:=[.cells (a[i]).cs]) (by simp[Nat.succ_mul]) (by simp) (hps _) ?_ ⟨_,_,rfl,i+1,by omega,rfl,rfl,by rw[zCL hlt,List.take_of_length_le (l:=b.map λr=>a[i]::r) (by simp)],rfl⟩⟩;simp[zmC,ux,AV.sc,AV.scA,AV.scB,AV.scV];omega
  ·obtain rfl:i=a.length:=by omega
   simp[zss];exact Out.at rfl (by omega) hs (.atom (.sl _ _)) rfl rfl hK
theorem zuz(a:List VT):za7 a []=[]:=by unfold za7;induction a with
 |nil=>rfl
 |cons v a ih=>rw[List.flatMap_cons,ih];rfl
theorem zuO{g:VT→Nat→List VT}:∀ (ts:List VT) (n:Nat),∀ r∈lsL g ts n,r.length=ts.length
 |[],n,r,h=>by
  rw[lsL]at h;split at h
  ·simp at h;subst h;rfl
  ·simp at h
 |t::ts,n,r,h=>by rw[lsL]at h;obtain⟨s,_,h⟩:=List.mem_flatMap.1 h;unfold za7 at h;obtain⟨v,_,h⟩:=List.mem_flatMap.1 h;obtain⟨r',hr',rfl⟩:=List.mem_map.1 h;rw[List.length_cons,List.length_cons,zuO ts _ r' hr']
section
variable (data:List Dat) (xs:List Int) (X:List VT) (Z:BI)
def RL(t:VT)(ts:List VT)(i:Nat)(is:List Nat)(n s:Nat)(B B':BS):Prop:=
 ∃ o1 S1,zd8 data xs.length Z.i B.s S1 i (s+1) o1∧vO o1=cV data xs.length t (s+1)∧zaW data xs.length X S1 ∧
  ((vO o1=0∧B'=⟨S1,B.m⟩)∨(vO o1≠0∧∃ o2 S2,zmP data xs.length Z.i S1 S2 is (n-(s+1)) o2∧vO o2=cL (cV data xs.length) ts (n-(s+1))∧zaW data xs.length X S2 ∧
    ((vO o2=0∧B'=⟨S2,B.m⟩)∨(vO o2≠0∧∃B3,zff data xs.length xs Z ⟨S2,B.m⟩ B3 i (s+1) (vV data xs t (s+1))∧InvB data xs.length xs X B3∧zfZ data xs.length xs Z B3 B' is (n-(s+1)) (lsL (vV data xs) ts (n-(s+1)))))))
end
section
variable {data:List Dat} (hD:zaB data=true) (hk:Kpt data) {xs:List Int} (hxs:xs.length≤8) {X:List VT} (hX:X.length≤1000000000000) {Z:BI}
include hD hk hxs hX
theorem InvB.mk'{S':SS}{B:BS}(hB:InvB data xs.length xs X B)(h:zaW data xs.length X S')(hp:B.s.types <+: S'.types):InvB data xs.length xs X ⟨S',B.m⟩:=
 ⟨h,λe he=>by
  obtain⟨i,n,t,h1,h2,h3⟩:=hB.m e he;exact⟨i,n,t,h1,zcY hp h2,h3⟩⟩
theorem zwT{t:VT}{n:Nat}(h:cV data xs.length t n=0):vV data xs t n=[]:=by have:=zeB data xs n t;rw[h]at this;exact List.eq_nil_of_length_eq_zero this
theorem zhm(ts:List VT)(n:Nat):(lsL (vV data xs) ts n).length=cL (cV data xs.length) ts n:=
 zi1 (zbW data xs.length) ts n λt _ s _=>zeB data xs s t
theorem zC5{n:Nat}(hn:n≤14)(hV:∀ m,m≤n→zea data xs.length xs X Z m){t:VT}{ts:List VT}{i:Nat}{is:List Nat}(htl:ts.length≤1000)(ih:∀ (m:Nat) (B:BS),m≤n→InvB data xs.length xs X B→IdxOk B.s.types ts is→(∀ (p:Nat) (h:p<ts.length),Rch data X (m-p) ts[p])→cL (cV data xs.length) ts m≤2000→∃ B',InvB data xs.length xs X B'∧B.s.types <+: B'.s.types∧zfZ data xs.length xs Z B B' is m (lsL (vV data xs) ts m)){B:BS}(hB:InvB data xs.length xs X B)(hix:IdxOk B.s.types (t::ts) (i::is))(hR:∀ (p:Nat) (h:p<(t::ts).length),Rch data X (n-p) (t::ts)[p])(hl:cL (cV data xs.length) (t::ts) n≤2000):
  ∃ σ:Nat→BS,σ 0=B∧(∀s≤n,InvB data xs.length xs X (σ s)∧B.s.types <+: (σ s).s.types)∧∀s<n,RL data xs X Z t ts i is n s (σ s) (σ (s+1)):=by
 have hC:∀m,m≤n→zct data xs.length X Z.i m:=λm hm=>znk hD hk hxs hX m (by omega);simp only[IdxOk,List.map_cons,List.cons.injEq]at hix;have hR0:Rch data X n t:=hR 0 (by simp);refine zdM (λs (B':BS)=>InvB data xs.length xs X B'∧B.s.types <+: B'.s.types) (λs B B'=>RL data xs X Z t ts i is n s B B') n (λs hs B1 hB1=>?_) _ ⟨hB,List.prefix_rfl⟩;obtain⟨h1,h2⟩:=hB1;obtain⟨S1,o1,k1,k2,k3,k4⟩:=hC (s+1) (by omega) B1.s i t h1.s (zcY h2 hix.1) (hR0.le _ (by omega));by_cases e1:vO o1=0
 ·exact⟨⟨S1,B1.m⟩,⟨o1,S1,k4,k3,k1,.inl ⟨e1,rfl⟩⟩,InvB.mk' hD hk hxs hX h1 k1 k2,h2.trans k2⟩
 ·have hRt:∀ (p:Nat) (h:p<ts.length),Rch data X (n-(s+1)-p) ts[p]:=λp hp=>by have:=hR (p+1) (by simpa using hp);simp only[List.getElem_cons_succ]at this;exact this.le _ (by omega)
  obtain⟨S2,o2,j1,j2,j3,j4⟩:=zo9 hD hk hxs hX (show n-(s+1)≤14 by omega) (λm hm=>hC m (by omega)) htl k1 (IdxOk.mono (h2.trans k2) hix.2) hRt;by_cases e2:vO o2=0
  ·exact⟨⟨S2,B1.m⟩,⟨o1,S1,k4,k3,k1,.inr ⟨e1,o2,S2,j4,j3,j1,.inl ⟨e2,rfl⟩⟩⟩,InvB.mk' hD hk hxs hX h1 j1 (k2.trans j2),h2.trans (k2.trans j2)⟩
  ·have hterm:cV data xs.length t (s+1)*cL (cV data xs.length) ts (n-(s+1))≤2000:=by rw[cL]at hl;exact Nat.le_trans (zv9 (f:=λs=>cV data xs.length t s*cL (cV data xs.length) ts (n-s)) (show s+1<n+1 by omega)) hl
   rw[k3]at e1;rw[j3]at e2;have c1:cV data xs.length t (s+1)≤2000:=Nat.le_trans (Nat.le_mul_of_pos_right _ (by omega)) hterm;have c2:cL (cV data xs.length) ts (n-(s+1))≤2000:=Nat.le_trans (Nat.le_mul_of_pos_left _ (by omega)) hterm;have hB2:=InvB.mk' hD hk hxs hX h1 j1 (k2.trans j2);obtain⟨B3,v1,v2,v3⟩:=hV (s+1) (by omega) ⟨S2,B1.m⟩ i t hB2 (zcY (h2.trans (k2.trans j2)) hix.1) (hR0.le _ (by omega)) e1 c1;obtain⟨B4,w1,w2,w3⟩:=ih (n-(s+1)) B3 (by omega) v1 (IdxOk.mono (h2.trans (k2.trans (j2.trans v2))) hix.2) hRt c2;exact⟨B4,⟨o1,S1,k4,k3,k1,.inr ⟨by rw[k3];exact e1,o2,S2,j4,j3,j1,.inr ⟨by rw[j3];exact e2,B3,v3,v1,w3⟩⟩⟩,w1,h2.trans (k2.trans (j2.trans (v2.trans w2)))⟩
end
end Go.Proofs.YtaifokkaaahdoaaGreatDoor
