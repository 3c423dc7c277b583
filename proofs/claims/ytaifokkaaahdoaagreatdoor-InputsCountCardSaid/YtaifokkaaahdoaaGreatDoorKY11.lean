import Derived.Test.YtaifokkaaahdoaaGreatDoorKY5
set_option linter.unusedSimpArgs false
set_option linter.unusedVariables false
set_option maxRecDepth 8000
namespace Go.Proofs.YtaifokkaaahdoaaGreatDoor
open Go Go.Abs
def zbE(es:List (List AV))(id:Nat):AV:=match es with|[]=>.snil|_=>.sl es (.own id)
def zcA(e s:Nat)(n:Nat):zaa:=match n with|0=>[]|n=>[.perm e s n]
theorem zBt(es:List (List AV))(id:Nat):WkA (zbE es id) (.sl es .none):=by
 cases es with
 |nil=>exact .snil
 |cons e es=>exact .sl _ _
theorem zs3(es:List (List AV)){id n:Nat}(h:es=[]∨id<n):(zbE es id).scA n=true:=by
 cases es with
 |nil=>rfl
 |cons e es=>
  rcases h with h|h
  ·cases h
  ·simpa[zbE,AV.scA,AV.scB]using h
theorem zBs(es:List (List AV))(id:Nat):(zbE es id).known=true:=by cases es <;> rfl
theorem zBr(es:List (List AV))(id:Nat):(zbE es id).cs?=some [zbE es id]:=by cases es <;> rfl
theorem zBu{e s bytes:Nat}{es:List (List AV)}{y:List AV}{t:Tok}{H:zaa}{K:AV→zaa→Prop}(hy:y.length=s)(hb:(es.length+1)*bytes≤140737488355328)(hl:es.length+1≤9223372036854775807)(hk:K (zbE (es++[y]) H.length) (H++zcA e s (es.length+1))):zay e s bytes (zbE es H.length) (.sl [y] t) (H++zcA e s es.length) K:=by
 unfold zay zbb;refine⟨by simpa using hy,?_⟩;cases es with
 |nil=>unfold za0;simp[zbE,zcA]at *;exact⟨by omega,hk⟩
 |cons x es=>unfold za0;simp[zbE,zcA]at *;refine⟨⟨by omega,by omega⟩,hk⟩
theorem zs4{e s bytes id n:Nat}{es:List (List AV)}{y:List AV}{t:Tok}{H0 Hh:zaa}{K:AV→zaa→Prop}(hn:n=es.length)(he:Hh=H0++zcA e s n)(hid:id=H0.length)(hy:y.length=s)(hb:(es.length+1)*bytes≤140737488355328)(hl:es.length+1≤9223372036854775807)(hk:K (zbE (es++[y]) id) (H0++zcA e s (n+1))):zay e s bytes (zbE es id) (.sl [y] t) Hh K:=by
 subst he hid hn;exact zBu hy hb hl hk
@[simp] theorem zTq(es:List (List AV))(id:Nat):(zbE es id).cs?=some [zbE es id]:=zBr es id
@[simp] theorem zTr(es:List (List AV))(id:Nat):(zbE es id).known=true:=zBs es id
theorem zdl{v:VT}{k:AV→Prop}:zar 3 [.int .i64 0,.int .i64 0,.snil] 1 [(0,.agg v.cs)] k=k (.sl [v.cs] .full):=by cases v;exact propext Iff.rfl
theorem zg3{l:List VT}{i:Nat}(h:i<l.length):VT.css (l.take (i+1))=VT.css (l.take i)++[(l[i]).cs]:=by rw[VT.css_map,VT.css_map,List.take_succ_eq_append_getElem h,List.map_append];rfl
theorem zvp{H J:zaa}{K:AV→zaa→Prop}{k n:Int}{ks:List VT}{id:Nat}(hs:HSc H)(hK:K (.agg (VT.mk k n ks).cs) H):Out H.length K (.agg [.int .i64 k,.int .i64 n,zbE (VT.css ks) id]) (H++J):=
 Out.at rfl (Nat.le_refl _) hs (WkV.agg (ds:=[.int .i64 k,.int .i64 n,.sl (VT.css ks) .none]) ⟨.refl _,.refl _,zBt _ _,trivial⟩) rfl (by simp[AV.scV,AV.scA,AV.scB]) (by simpa[VT.cs]using hK)
theorem zCj:∀(m:Nat) (v:VT),v.nodes≤m→v.nodes≤1000000→∀(H:zaa) (K:AV→zaa→Prop),K (.agg v.cs) H→ACalls tP zjl [.agg v.cs] H K:=by
 intro m;induction m with
 |zero=>intro v h;have:=v.nodes_pos;omega
 |succ m ih=>
  intro v hv hb H K hK;obtain⟨k,n,ks⟩:=v;have hnl:VT.nodesL ks+1≤1000000:=by simpa[VT.nodes]using hb
  have hll:=VT.len_le ks;refine ACalls.out (zI1 λhs=>?_);simp[VT.cs,zx8,zaq,zaN,Nat.add_assoc];refine zIZ (Inv:=λq t4 H'=>∃i:Nat,i≤ks.length∧q=ks.length-i∧t4=.int .i64 i∧H'=H++[.cells [.int .i64 k,.int .i64 n,.sl (VT.css ks) .none],.cells [.int .i64 0,.int .i64 0,.snil],.cells [.int .i64 k,.int .i64 n,zbE (VT.css (ks.take i)) (H.length+3)]]++zcA zbe 3 i) ks.length ?_ ?_
  ·intro _;exact⟨0,by omega,by omega,rfl,by simp[zcA,zbE,VT.css]⟩
  ·rintro q t4 H' ⟨i,hi,rfl,rfl,rfl⟩ hsc hlen hsF Kb hKb;by_cases hlt:i<ks.length
   ·have hki:=VT.kid_lt (k:=k) (n:=n) hlt;simp[zqD,hlt];refine zaC (.agg (ks[i]).cs) (λJ=>ih ks[i] (by omega) (by omega) _ _ ⟨rfl,rfl⟩) ?_;rw[zdl];refine zs4 (H0:=H++[.cells [.int .i64 k,.int .i64 n,.sl (VT.css ks) .none],.cells [.int .i64 0,.int .i64 0,.snil],.cells [.int .i64 k,.int .i64 n,zbE (VT.css (ks.take i)) (H.length+3)]]) (n:=i) (by simp;omega) (by simp) (by simp) (by simp) (by simp;omega) (by simp;omega) ?_;rw[←zg3 hlt];simp;rw[zaB (by omega) (by omega)];refine hKb _ _ ⟨ks.length-(i+1),by omega,Back.here (by simp[zcA]) ?_ ?_ ⟨_,rfl,i+1,by omega,rfl,by simp,by simp⟩⟩
    ·refine hs.append ?_;simp[AB.sc,zcA,AV.scA,AV.scB];exact zs3 _ (.inr (by omega))
    ·simp[zk7,AV.sc,AV.scV,AV.scA,AV.scB]
   ·obtain rfl:i=ks.length:=by omega
    rw[List.take_length]at *;simp[zqD];exact zvp hs hK
theorem zen(args:List VT):∀ l:List VT,zaX args l=l.map (subst args)
 |[]=>rfl
 |t::ts=>by rw[zaX,zen args ts];rfl
theorem zGj(args:List VT)(ha:∀x∈args,x.nodes≤1000000)(hal:args.length≤1000000):∀(m:Nat) (v:VT),v.nodes≤m→v.nodes≤1000000→∀(H:zaa) (K:AV→zaa→Prop),K (.agg (subst args v).cs) H→ACalls tP zjd [.agg v.cs,.sl (VT.css args) .none] H K:=by
 intro m;induction m with
 |zero=>intro v h;have:=v.nodes_pos;omega
 |succ m ih=>
  intro v hv hb H K hK;obtain⟨k,n,ks⟩:=v;have hnl:VT.nodesL ks+1≤1000000:=by simpa[VT.nodes]using hb
  have hll:=VT.len_le ks;refine ACalls.out (zGh λhs=>?_);by_cases hvar:k=4∧0≤n∧n<args.length
  ·obtain⟨rfl,h0,h1⟩:=hvar;have hn:n.toNat<args.length:=by omega
   have hK':K (.agg (args[n.toNat]).cs) H:=by rw[subst,if_pos ⟨rfl,h0,h1⟩,List.getElem?_eq_getElem hn]at hK;exact hK
   simp[VT.cs,zpI,h0,h1,hn];refine zCj _ _ (Nat.le_refl _) (ha _ (List.getElem_mem hn)) _ _ ?_;generalize args[n.toNat]=x at *;obtain⟨k',n',ks'⟩:=x;simp[VT.cs];exact Out.at rfl (Nat.le_refl _) hs .rfl' rfl rfl hK'
  ·have hK':K (.agg (VT.mk k n (zaX args ks)).cs) H:=by rw[subst,if_neg hvar]at hK;exact hK
   have go:∀H1,H1=H++[.cells [.int .i64 k,.int .i64 n,.sl (VT.css ks) .none],.cells [.int .i64 0,.int .i64 0,.snil],.cells [.int .i64 k,.int .i64 n,.snil]]→zpL (.sl (VT.css args) .none) (.ptr H.length 0) (.ptr (H.length+1) 0) (.ptr (H.length+2) 0) (.int .i64 0) H1 (Out H.length K):=by
    rintro _ rfl;refine zGf (Inv:=λq t6 H'=>∃i:Nat,i≤ks.length∧q=ks.length-i∧t6=.int .i64 i∧H'=H++[.cells [.int .i64 k,.int .i64 n,.sl (VT.css ks) .none],.cells [.int .i64 0,.int .i64 0,.snil],.cells [.int .i64 k,.int .i64 n,zbE (VT.css ((zaX args ks).take i)) (H.length+3)]]++zcA zbe 3 i) ks.length ?_ ?_
    ·intro _;exact⟨0,by omega,by omega,rfl,by simp[zcA,zbE,VT.css]⟩
    ·rintro q t6 H' ⟨i,hi,rfl,rfl,rfl⟩ hsc hlen hsF Kb hKb;by_cases hlt:i<ks.length
     ·have hki:=VT.kid_lt (k:=k) (n:=n) hlt;have hlt':i<(zaX args ks).length:=by rw[zen];simpa using hlt
      have hsi:(zaX args ks)[i]=subst args ks[i]:=by simp[zen]
      simp[zpJ,hlt];refine zaC (.agg (subst args ks[i]).cs) (λJ=>ih ks[i] (by omega) (by omega) _ _ ⟨rfl,rfl⟩) ?_;rw[zdl,←hsi];refine zs4 (H0:=H++[.cells [.int .i64 k,.int .i64 n,.sl (VT.css ks) .none],.cells [.int .i64 0,.int .i64 0,.snil],.cells [.int .i64 k,.int .i64 n,zbE (VT.css ((zaX args ks).take i)) (H.length+3)]]) (n:=i) (by simp;omega) (by simp) (by simp) (by simp) (by simp;omega) (by simp;omega) ?_;rw[←zg3 hlt'];simp;rw[zaB (by omega) (by omega)];refine hKb _ _ ⟨ks.length-(i+1),by omega,Back.here (by simp[zcA]) ?_ ?_ ⟨_,rfl,i+1,by omega,rfl,by simp,by simp⟩⟩
      ·refine hs.append ?_;simp[AB.sc,zcA,AV.scA,AV.scB];exact zs3 _ (.inr (by omega))
      ·simp[zkp,AV.sc,AV.scV,AV.scA,AV.scB]
     ·obtain rfl:i=ks.length:=by omega
      have e:(zaX args ks).take ks.length=zaX args ks:=List.take_of_length_le (by rw[zen];simp);rw[e];simp[zpJ];exact zvp hs hK'
   simp only[VT.cs,zpI];by_cases h4:k=4
   ·subst h4;by_cases h0:0≤n
    ·have h1:¬n<args.length:=λh=>hvar ⟨rfl,h0,h⟩;simp[h0,h1,zaq,zaN,Nat.add_assoc];exact go _ rfl
    ·simp[h0,zaq,zaN,Nat.add_assoc];exact go _ rfl
   ·have h4':(k == 4)=false:=by simpa using h4
    simp[h4',zaq,zaN,Nat.add_assoc];exact go _ rfl
mutual
theorem zwn{args:List VT}{M:Nat}(h1:1≤M)(ha:∀ x∈args,x.nodes≤M):∀ v:VT,(subst args v).nodes≤v.nodes*M
 |.mk k n ks=>by
  unfold subst;split
  ·rename_i h;have hn:n.toNat<args.length:=by omega
   rw[List.getElem?_eq_getElem hn];have:=ha _ (List.getElem_mem hn);have h2:M≤(VT.mk k n ks).nodes*M:=by have:=(VT.mk k n ks).nodes_pos;exact Nat.le_mul_of_pos_left M this
   simp only[Option.getD_some];omega
  ·have:=zwk h1 ha ks;simp only[VT.nodes,Nat.succ_mul];omega
theorem zwk{args:List VT}{M:Nat}(h1:1≤M)(ha:∀ x∈args,x.nodes≤M):∀ l:List VT,VT.nodesL (zaX args l)≤VT.nodesL l*M
 |[]=>by simp[zaX,VT.nodesL]
 |t::ts=>by have h2:=zwn h1 ha t;have h3:=zwk h1 ha ts;simp only[zaX,VT.nodesL,Nat.add_mul];omega
end
theorem zgg{k n:Int}{ks:List VT}:∀x∈ks,x.nodes≤(VT.mk k n ks).nodes:=by intro x hx;obtain⟨i,hi,rfl⟩:=List.mem_iff_getElem.1 hx;exact Nat.le_of_lt (VT.kid_lt hi)
theorem zuD{k n:Int}{ks:List VT}:∀x∈ks,x.nodes<(VT.mk k n ks).nodes:=by intro x hx;obtain⟨i,hi,rfl⟩:=List.mem_iff_getElem.1 hx;exact VT.kid_lt hi
theorem zwx{H:zaa}{x y:AB}:H++[x,y]=(H++[x])++[y]:=by simp
theorem zcM(data:List Dat)(k n:Int)(ks:List VT)(c:Int):zbi data (.mk k n ks) c=(if k=5∧0≤n∧0≤c then
  match data[n.toNat]? with
  | some d=>if (ks.length:Int)=d.vars then
    match d.cons[c.toNat]? with
    |some co=>if (co.args.map (subst ks)).all (λx=>decide (x.nodes≤200))=true then some (co.args.map (subst ks)) else none
    |none=>none
   else none
  |none=>none
 else none):=rfl
def zeg(o:Option (List VT)):AV:=match o with
 |some l=>.tup [.sl (VT.css l) .none,.bool true]
 |none=>.tup [.sl [] .none,.bool false]
theorem zuT{α:Type}{l:List α}{i:Nat}(h:i<l.length){p:α→Prop}(h1:∀x∈l.take i,p x)(h2:p l[i]):∀x∈l.take (i+1),p x:=by
 rw[List.take_succ_eq_append_getElem h];intro x hx;rcases List.mem_append.1 hx with hx|hx
 ·exact h1 x hx
 ·simp at hx;subst hx;exact h2
theorem zaO(v:VT):∃a b c,v.cs=[a,b,c]∧a.known=true∧b.known=true∧c.known=true:=by obtain⟨k,n,ks⟩:=v;exact⟨_,_,_,rfl,rfl,rfl,rfl⟩
theorem zOb(data:List Dat)(hdl:data.length≤1000000)(hda:∀ d∈data,∀ c∈d.cons,c.args.length≤1000∧∀ x∈c.args,x.nodes≤1000)(hdc:∀ d∈data,d.cons.length≤1000000)(t:VT)(ht:t.nodes≤1000)(c:Int)(H:zaa)(K:AV→zaa→Prop)(hK:K (zeg (zbi data t c)) H):
  ACalls tP zoM [.sl (data.map Dat.cs) .none,.agg t.cs,.int .i64 c] H K:=by
 refine ACalls.out (zN9 λhs=>?_);obtain⟨k,n,ks⟩:=t;have hkn:VT.nodesL ks+1≤1000:=by simpa[VT.nodes]using ht
 have hkl:=VT.len_le ks;have hF:zbi data (.mk k n ks) c=none→∀J,Out H.length K (.tup [.snil,.bool false]) (H++J):=λh J=>by rw[h]at hK;exact Out.tup hs hK ⟨zhV,zcO rfl rfl,trivial⟩
 have hFF:∀J,zbi data (.mk k n ks) c=none→Out H.length K (.tup [.snil,.bool false]) (H++J):=λJ h=>hF h J;simp only[VT.cs,zzZ];by_cases h5:k=5;case neg=>
  have:(k != 5)=true:=by simpa using h5
  simp[this,AV.isV];exact hF (by rw[zcM,if_neg (λh=>h5 h.1)]) _
 subst h5;by_cases h0:n<0
 ·simp[h0,AV.isV];exact hF (by rw[zcM,if_neg (λh=>by have:=h.2.1;omega)]) _
 by_cases h1:(data.length:Int)≤n
 ·simp[h0,h1,AV.isV];exact hF (by
   rw[zcM];split
   ·rw[List.getElem?_eq_none (by omega)]
   ·rfl) _
 have hn:n.toNat<data.length:=by omega
 have h1':n<data.length:=by omega
 have h0':0≤n:=by omega
 generalize hdd:data[n.toNat]=d at *;have hd:d∈data:=by rw[←hdd];exact List.getElem_mem hn
 have hget:data[n.toNat]?=some d:=by rw[List.getElem?_eq_getElem hn,hdd]
 cases hv:((ks.length:Int) == d.vars) with
 |false=>
  have hv':((ks.length:Int) != d.vars)=true:=by simp[bne,hv]
  simp[h0,h1,h0',h1',hn,hdd,Dat.cs,hv',AV.isV,hget];exact hF (by
   rw[zcM];split
   ·rw[hget];simp only;rw[if_neg (by simpa using hv)]
   ·rfl) _
 |true=>
 have hv':((ks.length:Int) != d.vars)=false:=by simp[bne,hv]
 have hve:(ks.length:Int)=d.vars:=by simpa using hv
 by_cases hc0:c<0
 ·simp[h0,h1,h0',h1',hn,hdd,Dat.cs,hv',AV.isV,hget,hc0];exact hF (by rw[zcM,if_neg (λh=>by have:=h.2.2;omega)]) _
 have hfe:∀o,(match d.cons[c.toNat]? with|some k=>if (k.args.map (subst ks)).all (λx=>decide (x.nodes≤200))=true then some (k.args.map (subst ks)) else none|none=>none)=o→zbi data (.mk 5 n ks) c=o:=λo h=>by rw[zcM,if_pos ⟨rfl,h0',by omega⟩,hget];simp only;rw[if_pos hve];exact h
 by_cases hc1:(d.cons.length:Int)≤c
 ·simp[h0,h1,h0',h1',hn,hdd,Dat.cs,hv',AV.isV,hget,hc0,hc1];exact hF (hfe none (by rw[List.getElem?_eq_none (by omega)])) _
 have hcn:c.toNat<d.cons.length:=by omega
 have hc1':c<d.cons.length:=by omega
 have hc0':0≤c:=by omega
 generalize hcc:d.cons[c.toNat]=co at *;have hco:co∈d.cons:=by rw[←hcc];exact List.getElem_mem hcn
 have hgc:d.cons[c.toNat]?=some co:=by rw[List.getElem?_eq_getElem hcn,hcc]
 obtain⟨hal,han⟩:=hda d hd co hco;have hfe':=λo=>hfe o;rw[hgc]at hfe';simp only at hfe';have hsub:∀x∈co.args,(subst ks x).nodes≤1000000:=λx hx=>by have h2:=zwn (M:=1000) (by omega) (λy hy=>Nat.le_trans (zgg (k:=5) (n:=n) y hy) ht) x;have h3:=han x hx;have:x.nodes*1000≤1000*1000:=Nat.mul_le_mul_right _ h3;omega
 simp[h0,h1,h0',h1',hn,hdd,Dat.cs,hv',AV.isV,hget,hc0,hc1,hc0',hc1',hcn,hcc,Con.cs,hgc];have hperm:∀m,HSc (H++[.cells [.int .i64 5,.int .i64 n,.sl (VT.css ks) .none],.perm zbe 3 m]):=λm=>hs.append rfl;unfold zmr;refine ALoop.own 8 zbe 3 rfl ?_;have hlen1:(H++[AB.cells [.int .i64 5,.int .i64 n,.sl (VT.css ks) .none]]).length=H.length+1:=by simp
 rw[hlen1,List.append_assoc];show zmr (.ptr H.length 0) (.sl [] (.own (H.length+1))) (.sl (VT.css co.args) .none) (.int .i64 co.args.length) (.int .i64 0) (H++[.cells [.int .i64 5,.int .i64 n,.sl (VT.css ks) .none],.perm zbe 3 0]) (Out H.length K);refine zN7 (Inv:=λq t8 t65 H'=>∃i:Nat,i≤co.args.length∧q=co.args.length-i∧t65=.int .i64 i∧t8=.sl (VT.css ((co.args.map (subst ks)).take i)) (.own (H.length+1))∧(∀x∈co.args.take i,(subst ks x).nodes≤200)∧H'=H++[.cells [.int .i64 5,.int .i64 n,.sl (VT.css ks) .none],.perm zbe 3 i]) co.args.length ?_ ?_
 ·intro _;exact⟨0,by omega,by omega,rfl,by simp[VT.css],by simp,rfl⟩
 ·rintro q t8 t65 H' ⟨i,hi,rfl,rfl,rfl,hall,rfl⟩ hsc hlen hsF Kb hKb;by_cases hlt:i<co.args.length
  ·have hmem:=List.getElem_mem hlt;have hx3:=hsub _ hmem;obtain⟨x,y,z,hvx,hx,hy,hz⟩:=zaO co.args[i];simp[zrV,hlt,hvx,hx,hy,hz];rw[←hvx];refine zGj ks (λy hy=>by have:=zgg (k:=5) (n:=n) y hy;omega) (by omega) _ co.args[i] (Nat.le_refl _) (by have:=han _ hmem;omega) _ _ ?_;obtain⟨x',y',z',hvx',hx',hy',hz'⟩:=zaO (subst ks co.args[i]);simp[hvx',hx',hy',hz'];rw[←hvx'];refine zNY _ _ (Nat.le_refl _) (by omega) _ _ ?_;by_cases h200:(subst ks co.args[i]).nodes≤200
   ·have h200':¬ (200:Int)<(subst ks co.args[i]).nodes:=by omega
    simp[h200'];rw[zdl];simp[zay,zbb,za0];refine⟨by omega,by omega,?_⟩;rw[zaB (by omega) (by omega),show min i co.args.length=i by omega];refine hKb _ _ ⟨co.args.length-(i+1),by omega,Back.at (H2:=H++[.cells [.int .i64 5,.int .i64 n,.sl (VT.css ks) .none],.perm zbe 3 (i+1)]) (J:=[_,_]) (by simp;exact⟨rfl,rfl⟩) (by simp) (hperm _) ?_ ⟨_,_,rfl,i+1,by omega,rfl,by simp,?_,zuT hlt hall h200,rfl⟩⟩
    ·simp[zmq,AV.sc,AV.scV,AV.scA,AV.scB]
    ·rw[zg3 (by simpa using hlt)];simp
   ·have h200':(200:Int)<(subst ks co.args[i]).nodes:=by omega
    simp[h200',AV.isV];refine hF (hfe' none ?_) _;rw[if_neg];intro hal2;have:=List.all_eq_true.1 hal2 (subst ks co.args[i]) (List.mem_map.2 ⟨_,hmem,rfl⟩);exact h200 (of_decide_eq_true this)
  ·obtain rfl:i=co.args.length:=by omega
   rw[List.take_length]at hall;rw[List.take_of_length_le (by simp)];simp[zrV,AV.isV];have hfs:=hfe' (some (co.args.map (subst ks))) (if_pos (List.all_eq_true.2 λy hy=>by
    obtain⟨x,hx,rfl⟩:=List.mem_map.1 hy;exact decide_eq_true (hall x hx)))
   rw[hfs]at hK;exact Out.tup hs hK ⟨slV,zcO rfl rfl,trivial⟩
theorem zII:∀(m:Nat) (v:VT),v.nodes≤m→v.nodes≤1000000000→∀(H:zaa) (K:AV→zaa→Prop),K (.int .i64 v.nodes) H→ACalls tP zjj [.agg v.cs] H K:=by
 intro m;induction m with
 |zero=>intro v h;have:=v.nodes_pos;omega
 |succ m ih=>
  intro v hv hb H K hK;obtain⟨k,n,ks⟩:=v;have hnl:VT.nodesL ks+1≤1000000000:=by simpa[VT.nodes]using hb
  have hll:=VT.len_le ks;refine ACalls.out (zIG λhs=>?_);simp[VT.cs,zx6];refine zIE (Inv:=λq t3 t4 H'=>∃i:Nat,i≤ks.length∧q=ks.length-i∧t4=.int .i64 i∧t3=.int .i64 (1+VT.nodesL (ks.take i):Nat)∧H'=H++[.cells [.int .i64 k,.int .i64 n,.sl (VT.css ks) .none]]) ks.length ?_ ?_
  ·intro _;exact⟨0,by omega,by omega,rfl,by simp[VT.nodesL],rfl⟩
  ·rintro q t3 t4 H' ⟨i,hi,rfl,rfl,rfl,rfl⟩ hsc hlen hsF Kb hKb;by_cases hlt:i<ks.length
   ·have hki:=VT.kid_lt (k:=k) (n:=n) hlt;have h1:=VT.nodesL_take hlt;have h2:=VT.nodesL_take_le ks (i+1);obtain⟨x,y,z,hvx,hx,hy,hz⟩:=zaO ks[i];simp[zqt,hlt,hvx,hx,hy,hz];rw[←hvx];refine ih ks[i] (by omega) (by omega) _ _ ?_;simp;rw[zaB (by omega) (by omega),zaB (by omega) (by omega),zwx];refine hKb _ _ ⟨ks.length-(i+1),by omega,Back.same (by simp) hsc ?_ ⟨_,_,rfl,i+1,by omega,rfl,by simp,?_,rfl⟩⟩
    ·simp[zk0,AV.sc,AV.scV,AV.scA,AV.scB]
    ·rw[h1];congr 1;omega
   ·obtain rfl:i=ks.length:=by omega
    simp[zqt];refine Out.int rfl (Nat.le_refl _) hs ?_;simpa[VT.nodes,Int.add_comm]using hK
def zbN(f:VT→VT→Bool):List VT→List VT→Bool
 |[],[]=>true
 |a::x,b::y=>f a b && zbN f x y
 |_,_=>false
theorem ziV{f:VT→VT→Bool}:∀ {x y:List VT},x.length≠y.length→zbN f x y=false
 |[],[],h=>(h rfl).elim
 |a::x,b::y,h=>by have:x.length≠y.length:=λe=>h (by simp[e]);simp[zbN,ziV this]
 |[],_::_,_=>rfl
 |_::_,[],_=>rfl
theorem zCU(x:List VT)(hl:x.length≤1000000000)(fv:AV)(H:zaa)(K:AV→zaa→Prop)(hfv:fv.sc H.length=true)(Inv:Nat→zaa→Prop)(h0:Inv 0 H)(step:∀(i:Nat) (h:i<x.length) (H':zaa),H.length≤H'.length→Inv i H'→aCallV tP fv [.agg (x[i]).cs] H' λr H''=>(r=.bool false∧Inv (i+1) H'')∨(r=.bool true∧K (.int .i64 i) H''))(fin:∀H',Inv x.length H'→K (.int .i64 (-1)) H'):ACalls tP zjn [.sl (VT.css x) .none,fv] H K:=by
 refine zye λhs=>?_;simp[zqF];refine zyd (Inv:=λq t8 H'=>∃i:Nat,i≤x.length∧q=x.length-i∧t8=.int .i64 i∧H.length≤H'.length∧Inv i H') x.length ?_ ?_
 ·intro _;exact⟨0,by omega,by omega,rfl,Nat.le_refl _,h0⟩
 ·rintro q t8 H' ⟨i,hi,rfl,rfl,hle,hI⟩ hsc hlen hsF Kb hKb;by_cases hlt:i<x.length
  ·simp[zia,hlt];refine (step i hlt H' hle hI).mono' λr H'' hsc' hle' hr=>?_;rcases hr with ⟨rfl,hI'⟩ | ⟨rfl,hk⟩
   ·simp;rw[zaB (by omega) (by omega)];refine hKb _ _ ⟨x.length-(i+1),by omega,Back.here (by omega) hsc' ?_ ⟨_,rfl,i+1,by omega,rfl,by simp,by omega,hI'⟩⟩;simp[zib,AV.sc,AV.scV,AV.scA,AV.scB];exact zbU (by omega) hfv
   ·simpa using hk
  ·obtain rfl:i=x.length:=by omega
   simp[zia];exact fin H' hI
theorem ziN(x:List VT)(hl:x.length≤1000000000)(fv:AV)(H:zaa)(K:AV→zaa→Prop)(hfv:fv.sc H.length=true)(Inv:Nat→zaa→Prop)(h0:Inv 0 H)(step:∀(i:Nat) (h:i<x.length) (H':zaa),H.length≤H'.length→Inv i H'→aCallV tP fv [.agg (x[i]).cs] H' λr H''=>(r=.bool false∧Inv (i+1) H'')∨(r=.bool true∧K (.bool true) H''))(fin:∀H',Inv x.length H'→K (.bool false) H'):ACalls tP zdR [.sl (VT.css x) .none,fv] H K:=by
 refine zw5 λhs=>?_;unfold zpM;refine zCU x hl fv H _ hfv Inv h0 (λi h H' hle hI=>(step i h H' hle hI).mono' λr H'' _ _ hr=>?_) (λH' hI=>?_)
 ·rcases hr with hr | ⟨h1,h2⟩
  ·exact .inl hr
  ·refine .inr ⟨h1,?_⟩;have:decide ((0:Int)≤i)=true:=by simp
   simpa using h2
 ·simpa using fin H' hI
theorem ztq:zc5 tP zhv=true:=by kernel_rfl
section
variable (data:List Dat) (vars:Int)
theorem zwA:∀(l:List VT) (i:Nat) (h:i<l.length),za2 data vars l=true→zaH data vars l[i]=true:=by
 intro l;induction l with
 |nil=>intro i h;simp at h
 |cons a l ih=>
  intro i h hl;simp[za2]at hl;cases i with
  |zero=>exact hl.1
  |succ i=>exact ih i (by simpa using h) hl.2
def zaU(left:Int):AB:=.cells [.sl (data.map Dat.cs) .none,.int .i64 vars,.int .i64 left]
theorem zF0:∀ (m:Nat) (v:VT),v.nodes≤m→v.nodes≤1000000000→∀ (left:Int),left≤1000000→-1≤left→∀ (H:zaa) (id:Nat),H[id]?=some (zaU data vars left)→∀ (K:AV→zaa→Prop),
  (zaH data vars v=true→(v.nodes:Int)≤left→K (.bool true) (H.set id (zaU data vars (left-v.nodes))))→(¬(zaH data vars v=true∧(v.nodes:Int)≤left)→∀l',K (.bool false) (H.set id (zaU data vars l'))) →
  ACalls tP zhs [.ptr id 0,.agg v.cs] H K:=by
 intro m;induction m with
 |zero=>intro v h;have:=v.nodes_pos;omega
 |succ m ih=>
  intro v hv hb left hl1 hl0 H id hid K hK hF;obtain⟨k,n,ks⟩:=v;have hlt:=zfu hid;have hnn:(VT.mk k n ks).nodes=VT.nodesL ks+1:=by simp[VT.nodes]
  have hll:=VT.len_le ks;refine ACalls.out (zx0 λhs=>?_)
  -- the heap within: the receiver's copy and the type's
  generalize hJ:([.cells [.ptr id 0],.cells [.int .i64 k,.int .i64 n,.sl (VT.css ks) .none]]:zaa)=J;have hJ0:J[0]?=some (.cells [.ptr id 0]):=by subst hJ;rfl
  have hJ1:J[1]?=some (.cells [.int .i64 k,.int .i64 n,.sl (VT.css ks) .none]):=by subst hJ;rfl
  have hget:∀l',(H.set id (zaU data vars l')++J)[id]?=some (zaU data vars l'):=λl'=>zck (zdx _ hid);have bad:(¬(zaH data vars (.mk k n ks)=true∧((VT.mk k n ks).nodes:Int)≤left))→∀l',Out H.length K (.bool false) (H.set id (zaU data vars l')++J):=λh l'=>
   Out.bool rfl (by simp) (hs.set rfl) (hF h l')
  have badS:zaR data vars k n ks.length=false→∀l',Out H.length K (.bool false) (H.set id (zaU data vars l')++J):=λh l'=>bad (λ⟨h1,_⟩=>by simp[zaH,h]at h1) l'
  -- the arguments
  have args:zaR data vars k n ks.length=true→1≤left→∀ KK:AV→zaa→Prop,(∀ H',Out H.length K (.bool true) H'→KK (.bool false) H')→(∀ H',Out H.length K (.bool false) H'→KK (.bool true) H') →
    ACalls tP zdR [.sl (VT.css ks) .none,.fn zhv [.ptr H.length 0]] (H.set id (zaU data vars (left-1))++J) KK:=by
   intro hsh h1 KK hKf hKt;subst hJ;refine ziN ks (by omega) _ _ _ (by simp[AV.sc,AV.scV,AV.scA,AV.scB]) (λi H'=>(VT.nodesL (ks.take i):Int)+1≤left∧za2 data vars (ks.take i)=true∧H'=H.set id (zaU data vars (left-1-VT.nodesL (ks.take i)))++[.cells [.ptr id 0],.cells [.int .i64 k,.int .i64 n,.sl (VT.css ks) .none]]) ⟨by simp[VT.nodesL];omega,by simp[za2],by simp[VT.nodesL]⟩ ?_ ?_
   ·rintro i hi H' hle ⟨hb1,hb2,rfl⟩;have hki:=VT.kid_lt (k:=k) (n:=n) hi;have h1:=VT.nodesL_take hi;have h2:=VT.nodesL_take_le ks (i+1);have hokL:za2 data vars (ks.take (i+1))=(za2 data vars (ks.take i) && zaH data vars ks[i]):=by
     rw[List.take_succ_eq_append_getElem hi];have:∀(l:List VT) (x:VT),za2 data vars (l++[x])=(za2 data vars l && zaH data vars x):=by
      intro l x;induction l with
      |nil=>simp[za2]
      |cons a l ih=>simp[za2,ih,Bool.and_assoc]
     exact this _ _
    simp only[aCallV,ztq,List.singleton_append];refine ACalls.out (zyp λhs1=>?_);have hH1:∀l',HSc (H.set id (zaU data vars l')++[.cells [.ptr id 0],.cells [.int .i64 k,.int .i64 n,.sl (VT.css ks) .none]]):=λl'=>(hs.set rfl).append (by simp[AB.sc,AV.scA,AV.scB];omega);obtain⟨x1,x2,x3,hvx,hx1,hx2,hx3⟩:=zaO ks[i];have hll2:(H.set id (zaU data vars (left-1-VT.nodesL (ks.take i)))).length=H.length:=by simp
    have hg1:(H.set id (zaU data vars (left-1-VT.nodesL (ks.take i)))++[AB.cells [.ptr id 0],.cells [.int .i64 k,.int .i64 n,.sl (VT.css ks) .none],.cells [x1,x2,x3]])[H.length]?=some (.cells [.ptr id 0]):=by rw[List.getElem?_append_right (by simp)];simp
    have hg2:(H.set id (zaU data vars (left-1-VT.nodesL (ks.take i)))++[AB.cells [.ptr id 0],.cells [.int .i64 k,.int .i64 n,.sl (VT.css ks) .none],.cells [x1,x2,x3]])[H.length+2]?=some (.cells [x1,x2,x3]):=by rw[List.getElem?_append_right (by simp)];simp
    simp[zqP,hvx,hg1,hg2,hll2];rw[←hvx];refine ih ks[i] (by omega) (by omega) (left-1-VT.nodesL (ks.take i)) (by omega) (by omega) _ id (zck (zdx _ hid)) _ ?_ ?_
    ·intro ho hle2;rw[zeF _ (zdx _ hid),List.set_set,show left-1-(VT.nodesL (ks.take i):Int)-(ks[i]).nodes=left-1-VT.nodesL (ks.take (i+1)) by omega];simp;refine Out.bool (J:=[_]) (H2:=H.set id (zaU data vars (left-1-VT.nodesL (ks.take (i+1))))++[.cells [.ptr id 0],.cells [.int .i64 k,.int .i64 n,.sl (VT.css ks) .none]]) (by simp;rfl) (by simp) (hH1 _) (.inl ⟨rfl,by omega,by rw[hokL,hb2,ho];rfl,rfl⟩)
    ·intro ho l';rw[zeF _ (zdx _ hid),List.set_set];simp;have hno:¬(zaH data vars (.mk k n ks)=true∧((VT.mk k n ks).nodes:Int)≤left):=by
      rintro⟨g1,g2⟩;have hall:za2 data vars ks=true:=by simp[zaH]at g1;exact g1.2
      exact ho ⟨zwA data vars ks i hi hall,by omega⟩
     have hb3:=bad hno l';exact Out.bool (J:=[_]) (H2:=H.set id (zaU data vars l')++[.cells [.ptr id 0],.cells [.int .i64 k,.int .i64 n,.sl (VT.css ks) .none]]) (by simp;rfl) (by simp) (hH1 _) (.inr ⟨rfl,hKt _ hb3⟩)
   ·rintro H' ⟨hb1,hb2,rfl⟩;rw[List.take_length]at *;refine hKf _ ?_;refine Out.bool rfl (by simp) (hs.set rfl) ?_;have:=hK (by simp[zaH,hsh,hb2]) (by omega);rw[hnn]at this;rw[show left-1-(VT.nodesL ks:Int)=left-((VT.nodesL ks+1:Nat):Int) by omega];exact this
  -- behind the shape
  have fin:∀ lo hi:Int,(k≠4→k≠5→n≠0→zaR data vars k n ks.length=false)→((ks.length:Int)<lo∨hi<(ks.length:Int)→zaR data vars k n ks.length=false)→1≤left →
    ((k=4∨k=5∨n=0)→lo≤(ks.length:Int)→(ks.length:Int)≤hi→zaR data vars k n ks.length=true) →
    zdA (.ptr H.length 0) (.ptr (H.length+1) 0) (.int .i64 lo) (.int .i64 hi) (H.set id (zaU data vars (left-1))++J) (Out H.length K):=by
   intro lo hi hz hr h1 hok;have hg3:(H.set id (zaU data vars (left-1))++J)[H.length+1]?=some (.cells [.int .i64 k,.int .i64 n,.sl (VT.css ks) .none]):=by rw[List.getElem?_append_right (by simp)];subst hJ;simp
   by_cases hcase:k=4∨k=5∨n=0
   ·have h3:(k != 4)=false∨((k != 4)=true∧(k != 5)=false)∨((k != 4)=true∧(k != 5)=true∧(n != 0)=false):=by
     by_cases g4:k=4
     ·left;simp[g4]
     ·by_cases g5:k=5
      ·right;left;simp[g5]
      ·right;right;simp[g4,g5];omega
    rcases h3 with g|⟨g,g'⟩|⟨g,g',g''⟩;case' inl=>simp[zdA,hg3,hJ1,g]
    case' inr.inl=>simp[zdA,hg3,hJ1,g,g']
    case' inr.inr=>simp[zdA,hg3,hJ1,g,g',g'']
    all_goals
     by_cases hlo:(ks.length:Int)<lo
     ·simp[hlo];exact badS (hr (.inl hlo)) _
     ·by_cases hhi:hi<(ks.length:Int)
      ·simp[hlo,hhi,hJ1];exact badS (hr (.inr hhi)) _
      ·simp[hlo,hhi,AV.isB,hJ1];refine args (hok hcase (by omega) (by omega)) h1 _ (λH' ho=>?_) (λH' ho=>?_) <;> simpa using ho
   ·have g:(k != 4)=true:=by simp;omega
    have g':(k != 5)=true:=by simp;omega
    have g'':(n != 0)=true:=by simp;omega
    simp[zdA,hg3,hJ1,g,g',g''];exact badS (hz (by omega) (by omega) (by omega)) _
  have start:(H++J)[id]?=some (zaU data vars left):=zck hid;have hmain:zkQ (.ptr H.length 0) (.ptr (H.length+1) 0) (H.set id (zaU data vars (left-1))++J) (Out H.length K):=by
   refine zxX λhs1=>?_;have hgv:=hget (left-1);unfold zaU at hgv;by_cases h0:left-1<0
   ·simp[zh7,hJ0,zaU,hgv,h0];exact bad (λh=>by have:=h.2;rw[hnn]at this;omega) _
   have h1:1≤left:=by omega
   simp[zh7,hJ0,hJ1,zaU,hgv,h0];refine zxZ λ_=>?_;have hfin:=λlo hi a b c=>fin lo hi a b h1 c;unfold zaU at hfin badS
   -- the three without arguments
   by_cases h123:k=1∨k=2∨k=3
   ·have hsh:zaR data vars k n ks.length=(n == 0 && ks.length == 0):=by rcases h123 with rfl | rfl | rfl <;> rfl
    have:=hfin 0 0 (λ_ _ hn=>by rw[hsh];simp[hn]) (λh=>by rw[hsh];simp;intro _;rintro rfl;simp at h) (λh h2 h3=>by
     have hn:n=0:=by omega
     have hl:ks.length=0:=by omega
     rw[hsh,hn,hl];rfl)
    rcases h123 with rfl|rfl|rfl <;> simp[zh8] <;> refine zkS λ_=>?_ <;> simp[zbR,zb7] <;> exact this
   have b1:(k == 1)=false:=by simp;omega
   have b2:(k == 2)=false:=by simp;omega
   have b3:(k == 3)=false:=by simp;omega
   simp[zh8,b1,b2,b3];refine zkS λ_=>?_;by_cases h4:k=4
   ·subst h4;have hsh:zaR data vars 4 n ks.length=(decide (0≤n) && decide (n<vars) && ks.length == 0):=rfl;by_cases g1:n<0
    ·simp[zbR,hJ0,hJ1,hgv,g1];exact badS (by rw[hsh];simp;omega) _
    by_cases g2:vars≤n
    ·simp[zbR,hJ0,hJ1,hgv,g1,g2];exact badS (by rw[hsh];simp;omega) _
    have:=hfin 0 0 (λh=>(h rfl).elim) (λh=>by rw[hsh];simp;intro _ _;rintro rfl;simp at h) (λh h2 h3=>by
     have hl:ks.length=0:=by omega
     rw[hsh,hl];simp;omega)
    simp[zbR,hJ0,hJ1,hgv,g1,g2,zb7];exact this
   have b4:(k == 4)=false:=by simp;omega
   by_cases h5:k=5
   ·subst h5;have hsh:zaR data vars 5 n ks.length=(decide (0≤n) && (match data[n.toNat]? with | some d=>(ks.length:Int) == d.vars | none=>false)):=rfl;by_cases g1:n<0
    ·simp[zbR,hJ0,hJ1,hgv,g1];exact badS (by rw[hsh];simp;omega) _
    by_cases g2:(data.length:Int)≤n
    ·simp[zbR,hJ0,hJ1,hgv,g1,g2];exact badS (by rw[hsh,List.getElem?_eq_none (by omega)];simp) _
    have hnl:n.toNat<data.length:=by omega
    have g2':n<data.length:=by omega
    have g1':0≤n:=by omega
    rw[List.getElem?_eq_getElem hnl]at hsh;simp only[g1',decide_true,Bool.true_and]at hsh;have:=hfin (data[n.toNat]).vars (data[n.toNat]).vars (λ_ h=>(h rfl).elim) (λh=>by rw[hsh];simp;omega) (λh h2 h3=>by rw[hsh];simp;omega);simp[zbR,hJ0,hJ1,hgv,g1,g2,g1',g2',hnl,Dat.cs,zb7];exact this
   have b5:(k == 5)=false:=by simp;omega
   by_cases h6:k=6
   ·subst h6;have hsh:zaR data vars 6 n ks.length=(n == 0 && decide (2≤ks.length) && decide (ks.length≤6)):=rfl;have:=hfin 2 6 (λ_ _ hn=>by rw[hsh];simp[hn]) (λh=>by rw[hsh];simp;intros;omega) (λh h2 h3=>by rw[hsh];simp;omega);simp[zbR,zb7];exact this
   have b6:(k == 6)=false:=by simp;omega
   by_cases h78:k=7∨k=8
   ·have hsh:zaR data vars k n ks.length=(n == 0 && ks.length == 1):=by rcases h78 with rfl | rfl <;> rfl
    have:=hfin 1 1 (λ_ _ hn=>by rw[hsh];simp[hn]) (λh=>by rw[hsh];simp;intros;omega) (λh h2 h3=>by rw[hsh];simp;omega);rcases h78 with rfl|rfl <;> simp[zbR] <;> refine zkT λ_=>?_ <;> simp[zfK,zb7] <;> exact this
   have b7:(k == 7)=false:=by simp;omega
   have b8:(k == 8)=false:=by simp;omega
   simp[zbR,b4,b5,b6,b7,b8];refine zkT λ_=>?_;by_cases h9:k=9
   ·subst h9;have hsh:zaR data vars 9 n ks.length=(n == 0 && decide (1≤ks.length) && decide (ks.length≤7)):=rfl;have:=hfin 1 7 (λ_ _ hn=>by rw[hsh];simp[hn]) (λh=>by rw[hsh];simp;intros;omega) (λh h2 h3=>by rw[hsh];simp;omega);simp[zfK,zb7];exact this
   ·have b9:(k == 9)=false:=by simp;omega
    simp[zfK,b9];exact badS (by unfold zaR;simp[b1,b2,b3,b4,b5,b6,b7,b8,b9]) _
  subst hJ;unfold zaU at start;simp[zqm,VT.cs,start];rw[zaB (by omega) (by omega),zeF _ hid];exact hmain
theorem zQl(v:VT)(hb:v.nodes≤1000000000)(H:zaa)(K:AV→zaa→Prop)(hK:K (.bool (zaD data vars v)) H):ACalls tP zfB [.sl (data.map Dat.cs) .none,.agg v.cs,.int .i64 vars] H K:=by
 refine ACalls.out (zAS λhs=>?_);have hO:∀J,Out H.length K (.bool (zaD data vars v)) (H++J):=λJ=>Out.bool rfl (Nat.le_refl _) hs hK;obtain⟨x1,x2,x3,hvx,hx1,hx2,hx3⟩:=zaO v;simp[zsG,hvx,zaq,zaN];rw[←hvx];refine zF0 data vars _ v (Nat.le_refl _) hb 200 (by omega) (by omega) _ (H.length+1) (by simp[zaU]) _ ?_ ?_
 ·intro ho hn;have:zaD data vars v=true:=by simp[zaD,ho];omega
  rw[this]at hO;simp;exact hO _
 ·intro hno l';have:zaD data vars v=false:=by
   cases h:zaD data vars v with
   |false=>rfl
   |true=>simp[zaD]at h;exact(hno ⟨h.2,by omega⟩).elim
  rw[this]at hO;simp;exact hO _
end
mutual
def za1:VT→Prop
 |.mk _ _ ks=>ks.length≤9223372036854775807∧zcw ks
def zcw:List VT→Prop
 |[]=>True
 |v::vs=>za1 v∧zcw vs
end
theorem zhb:∀ {ks:List VT},zcw ks→∀ x∈ks,za1 x
 |[],_,x,hx=>by simp at hx
 |v::vs,h,x,hx=>by
  rw[zcw]at h;rcases List.mem_cons.1 hx with e|hx
  ·rw[e];exact h.1
  ·exact zhb h.2 x hx
theorem znJ:∀ {ks:List VT},(∀ x∈ks,za1 x)→zcw ks
 |[],_=>by rw[zcw];trivial
 |v::vs,h=>by rw[zcw];exact⟨h v (by simp),znJ λx hx=>h x (by simp[hx])⟩
theorem zCT(x:List VT)(hl:x.length≤9223372036854775807)(fv:AV)(H:zaa)(K:AV→zaa→Prop)(hfv:fv.sc H.length=true)(Inv:Nat→zaa→Prop)(h0:Inv 0 H)(step:∀(i:Nat) (h:i<x.length) (H':zaa),H.length≤H'.length→Inv i H'→aCallV tP fv [.agg (x[i]).cs] H' λr H''=>(r=.bool false∧Inv (i+1) H'')∨(r=.bool true∧K (.int .i64 i) H''))(fin:∀H',Inv x.length H'→K (.int .i64 (-1)) H'):ACalls tP zjn [.sl (VT.css x) .none,fv] H K:=by
 refine zye λhs=>?_;simp[zqF];refine zyd (Inv:=λq t8 H'=>∃i:Nat,i≤x.length∧q=x.length-i∧t8=.int .i64 i∧H.length≤H'.length∧Inv i H') x.length ?_ ?_
 ·intro _;exact⟨0,by omega,by omega,rfl,Nat.le_refl _,h0⟩
 ·rintro q t8 H' ⟨i,hi,rfl,rfl,hle,hI⟩ hsc hlen hsF Kb hKb;by_cases hlt:i<x.length
  ·simp[zia,hlt];refine (step i hlt H' hle hI).mono' λr H'' hsc' hle' hr=>?_;rcases hr with ⟨rfl,hI'⟩ | ⟨rfl,hk⟩
   ·simp;rw[zaB (by omega) (by omega)];refine hKb _ _ ⟨x.length-(i+1),by omega,Back.here (by omega) hsc' ?_ ⟨_,rfl,i+1,by omega,rfl,by simp,by omega,hI'⟩⟩;simp[zib,AV.sc,AV.scV,AV.scA,AV.scB];exact zbU (by omega) hfv
   ·simpa using hk
  ·obtain rfl:i=x.length:=by omega
   simp[zia];exact fin H' hI
theorem zCi(x:List VT)(hl:x.length≤9223372036854775807)(fv:AV)(H:zaa)(K:AV→zaa→Prop)(hfv:fv.sc H.length=true)(Inv:Nat→zaa→Prop)(h0:Inv 0 H)(step:∀(i:Nat) (h:i<x.length) (H':zaa),H.length≤H'.length→Inv i H'→aCallV tP fv [.agg (x[i]).cs] H' λr H''=>(r=.bool false∧Inv (i+1) H'')∨(r=.bool true∧K (.bool true) H''))(fin:∀H',Inv x.length H'→K (.bool false) H'):ACalls tP zdR [.sl (VT.css x) .none,fv] H K:=by
 refine zw5 λhs=>?_;unfold zpM;refine zCT x hl fv H _ hfv Inv h0 (λi h H' hle hI=>(step i h H' hle hI).mono' λr H'' _ _ hr=>?_) (λH' hI=>?_)
 ·rcases hr with hr | ⟨h1,h2⟩
  ·exact .inl hr
  ·refine .inr ⟨h1,?_⟩;have:decide ((0:Int)≤i)=true:=by simp
   simpa using h2
 ·simpa using fin H' hI
section
variable (data:List Dat) (vars:Int)
theorem zFZ:∀ (m:Nat) (v:VT),v.nodes≤m→za1 v→∀ (left:Int),left≤1000000→-1≤left→∀ (H:zaa) (id:Nat),H[id]?=some (zaU data vars left)→∀ (K:AV→zaa→Prop),
  (zaH data vars v=true→(v.nodes:Int)≤left→K (.bool true) (H.set id (zaU data vars (left-v.nodes))))→(¬(zaH data vars v=true∧(v.nodes:Int)≤left)→∀l',K (.bool false) (H.set id (zaU data vars l'))) →
  ACalls tP zhs [.ptr id 0,.agg v.cs] H K:=by
 intro m;induction m with
 |zero=>intro v h;have:=v.nodes_pos;omega
 |succ m ih=>
  intro v hv hb left hl1 hl0 H id hid K hK hF;obtain⟨k,n,ks⟩:=v;have hlt:=zfu hid;have hnn:(VT.mk k n ks).nodes=VT.nodesL ks+1:=by simp[VT.nodes]
  have hfit:ks.length≤9223372036854775807∧zcw ks:=by rw[za1]at hb;exact hb
  refine ACalls.out (zx0 λhs=>?_)
  -- the heap within: the receiver's copy and the type's
  generalize hJ:([.cells [.ptr id 0],.cells [.int .i64 k,.int .i64 n,.sl (VT.css ks) .none]]:zaa)=J;have hJ0:J[0]?=some (.cells [.ptr id 0]):=by subst hJ;rfl
  have hJ1:J[1]?=some (.cells [.int .i64 k,.int .i64 n,.sl (VT.css ks) .none]):=by subst hJ;rfl
  have hget:∀l',(H.set id (zaU data vars l')++J)[id]?=some (zaU data vars l'):=λl'=>zck (zdx _ hid);have bad:(¬(zaH data vars (.mk k n ks)=true∧((VT.mk k n ks).nodes:Int)≤left))→∀l',Out H.length K (.bool false) (H.set id (zaU data vars l')++J):=λh l'=>
   Out.bool rfl (by simp) (hs.set rfl) (hF h l')
  have badS:zaR data vars k n ks.length=false→∀l',Out H.length K (.bool false) (H.set id (zaU data vars l')++J):=λh l'=>bad (λ⟨h1,_⟩=>by simp[zaH,h]at h1) l'
  -- the arguments
  have args:zaR data vars k n ks.length=true→1≤left→∀ KK:AV→zaa→Prop,(∀ H',Out H.length K (.bool true) H'→KK (.bool false) H')→(∀ H',Out H.length K (.bool false) H'→KK (.bool true) H') →
    ACalls tP zdR [.sl (VT.css ks) .none,.fn zhv [.ptr H.length 0]] (H.set id (zaU data vars (left-1))++J) KK:=by
   intro hsh h1 KK hKf hKt;subst hJ;refine zCi ks hfit.1 _ _ _ (by simp[AV.sc,AV.scV,AV.scA,AV.scB]) (λi H'=>(VT.nodesL (ks.take i):Int)+1≤left∧za2 data vars (ks.take i)=true∧H'=H.set id (zaU data vars (left-1-VT.nodesL (ks.take i)))++[.cells [.ptr id 0],.cells [.int .i64 k,.int .i64 n,.sl (VT.css ks) .none]]) ⟨by simp[VT.nodesL];omega,by simp[za2],by simp[VT.nodesL]⟩ ?_ ?_
   ·rintro i hi H' hle ⟨hb1,hb2,rfl⟩;have hki:=VT.kid_lt (k:=k) (n:=n) hi;have h1:=VT.nodesL_take hi;have h2:=VT.nodesL_take_le ks (i+1);have hokL:za2 data vars (ks.take (i+1))=(za2 data vars (ks.take i) && zaH data vars ks[i]):=by
     rw[List.take_succ_eq_append_getElem hi];have:∀(l:List VT) (x:VT),za2 data vars (l++[x])=(za2 data vars l && zaH data vars x):=by
      intro l x;induction l with
      |nil=>simp[za2]
      |cons a l ih=>simp[za2,ih,Bool.and_assoc]
     exact this _ _
    simp only[aCallV,ztq,List.singleton_append];refine ACalls.out (zyp λhs1=>?_);have hH1:∀l',HSc (H.set id (zaU data vars l')++[.cells [.ptr id 0],.cells [.int .i64 k,.int .i64 n,.sl (VT.css ks) .none]]):=λl'=>(hs.set rfl).append (by simp[AB.sc,AV.scA,AV.scB];omega);obtain⟨x1,x2,x3,hvx,hx1,hx2,hx3⟩:=zaO ks[i];have hll2:(H.set id (zaU data vars (left-1-VT.nodesL (ks.take i)))).length=H.length:=by simp
    have hg1:(H.set id (zaU data vars (left-1-VT.nodesL (ks.take i)))++[AB.cells [.ptr id 0],.cells [.int .i64 k,.int .i64 n,.sl (VT.css ks) .none],.cells [x1,x2,x3]])[H.length]?=some (.cells [.ptr id 0]):=by rw[List.getElem?_append_right (by simp)];simp
    have hg2:(H.set id (zaU data vars (left-1-VT.nodesL (ks.take i)))++[AB.cells [.ptr id 0],.cells [.int .i64 k,.int .i64 n,.sl (VT.css ks) .none],.cells [x1,x2,x3]])[H.length+2]?=some (.cells [x1,x2,x3]):=by rw[List.getElem?_append_right (by simp)];simp
    simp[zqP,hvx,hg1,hg2,hll2];rw[←hvx];refine ih ks[i] (by omega) (zhb hfit.2 _ (List.getElem_mem hi)) (left-1-VT.nodesL (ks.take i)) (by omega) (by omega) _ id (zck (zdx _ hid)) _ ?_ ?_
    ·intro ho hle2;rw[zeF _ (zdx _ hid),List.set_set,show left-1-(VT.nodesL (ks.take i):Int)-(ks[i]).nodes=left-1-VT.nodesL (ks.take (i+1)) by omega];simp;refine Out.bool (J:=[_]) (H2:=H.set id (zaU data vars (left-1-VT.nodesL (ks.take (i+1))))++[.cells [.ptr id 0],.cells [.int .i64 k,.int .i64 n,.sl (VT.css ks) .none]]) (by simp;rfl) (by simp) (hH1 _) (.inl ⟨rfl,by omega,by rw[hokL,hb2,ho];rfl,rfl⟩)
    ·intro ho l';rw[zeF _ (zdx _ hid),List.set_set];simp;have hno:¬(zaH data vars (.mk k n ks)=true∧((VT.mk k n ks).nodes:Int)≤left):=by
      rintro⟨g1,g2⟩;have hall:za2 data vars ks=true:=by simp[zaH]at g1;exact g1.2
      exact ho ⟨zwA data vars ks i hi hall,by omega⟩
     have hb3:=bad hno l';exact Out.bool (J:=[_]) (H2:=H.set id (zaU data vars l')++[.cells [.ptr id 0],.cells [.int .i64 k,.int .i64 n,.sl (VT.css ks) .none]]) (by simp;rfl) (by simp) (hH1 _) (.inr ⟨rfl,hKt _ hb3⟩)
   ·rintro H' ⟨hb1,hb2,rfl⟩;rw[List.take_length]at *;refine hKf _ ?_;refine Out.bool rfl (by simp) (hs.set rfl) ?_;have:=hK (by simp[zaH,hsh,hb2]) (by omega);rw[hnn]at this;rw[show left-1-(VT.nodesL ks:Int)=left-((VT.nodesL ks+1:Nat):Int) by omega];exact this
  -- behind the shape
  have fin:∀ lo hi:Int,(k≠4→k≠5→n≠0→zaR data vars k n ks.length=false)→((ks.length:Int)<lo∨hi<(ks.length:Int)→zaR data vars k n ks.length=false)→1≤left →
    ((k=4∨k=5∨n=0)→lo≤(ks.length:Int)→(ks.length:Int)≤hi→zaR data vars k n ks.length=true) →
    zdA (.ptr H.length 0) (.ptr (H.length+1) 0) (.int .i64 lo) (.int .i64 hi) (H.set id (zaU data vars (left-1))++J) (Out H.length K):=by
   intro lo hi hz hr h1 hok;have hg3:(H.set id (zaU data vars (left-1))++J)[H.length+1]?=some (.cells [.int .i64 k,.int .i64 n,.sl (VT.css ks) .none]):=by rw[List.getElem?_append_right (by simp)];subst hJ;simp
   by_cases hcase:k=4∨k=5∨n=0
   ·have h3:(k != 4)=false∨((k != 4)=true∧(k != 5)=false)∨((k != 4)=true∧(k != 5)=true∧(n != 0)=false):=by
     by_cases g4:k=4
     ·left;simp[g4]
     ·by_cases g5:k=5
      ·right;left;simp[g5]
      ·right;right;simp[g4,g5];omega
    rcases h3 with g|⟨g,g'⟩|⟨g,g',g''⟩;case' inl=>simp[zdA,hg3,hJ1,g]
    case' inr.inl=>simp[zdA,hg3,hJ1,g,g']
    case' inr.inr=>simp[zdA,hg3,hJ1,g,g',g'']
    all_goals
     by_cases hlo:(ks.length:Int)<lo
     ·simp[hlo];exact badS (hr (.inl hlo)) _
     ·by_cases hhi:hi<(ks.length:Int)
      ·simp[hlo,hhi,hJ1];exact badS (hr (.inr hhi)) _
      ·simp[hlo,hhi,AV.isB,hJ1];refine args (hok hcase (by omega) (by omega)) h1 _ (λH' ho=>?_) (λH' ho=>?_) <;> simpa using ho
   ·have g:(k != 4)=true:=by simp;omega
    have g':(k != 5)=true:=by simp;omega
    have g'':(n != 0)=true:=by simp;omega
    simp[zdA,hg3,hJ1,g,g',g''];exact badS (hz (by omega) (by omega) (by omega)) _
  have start:(H++J)[id]?=some (zaU data vars left):=zck hid;have hmain:zkQ (.ptr H.length 0) (.ptr (H.length+1) 0) (H.set id (zaU data vars (left-1))++J) (Out H.length K):=by
   refine zxX λhs1=>?_;have hgv:=hget (left-1);unfold zaU at hgv;by_cases h0:left-1<0
   ·simp[zh7,hJ0,zaU,hgv,h0];exact bad (λh=>by have:=h.2;rw[hnn]at this;omega) _
   have h1:1≤left:=by omega
   simp[zh7,hJ0,hJ1,zaU,hgv,h0];refine zxZ λ_=>?_;have hfin:=λlo hi a b c=>fin lo hi a b h1 c;unfold zaU at hfin badS
   -- the three without arguments
   by_cases h123:k=1∨k=2∨k=3
   ·have hsh:zaR data vars k n ks.length=(n == 0 && ks.length == 0):=by rcases h123 with rfl | rfl | rfl <;> rfl
    have:=hfin 0 0 (λ_ _ hn=>by rw[hsh];simp[hn]) (λh=>by rw[hsh];simp;intro _;rintro rfl;simp at h) (λh h2 h3=>by
     have hn:n=0:=by omega
     have hl:ks.length=0:=by omega
     rw[hsh,hn,hl];rfl)
    rcases h123 with rfl|rfl|rfl <;> simp[zh8] <;> refine zkS λ_=>?_ <;> simp[zbR,zb7] <;> exact this
   have b1:(k == 1)=false:=by simp;omega
   have b2:(k == 2)=false:=by simp;omega
   have b3:(k == 3)=false:=by simp;omega
   simp[zh8,b1,b2,b3];refine zkS λ_=>?_;by_cases h4:k=4
   ·subst h4;have hsh:zaR data vars 4 n ks.length=(decide (0≤n) && decide (n<vars) && ks.length == 0):=rfl;by_cases g1:n<0
    ·simp[zbR,hJ0,hJ1,hgv,g1];exact badS (by rw[hsh];simp;omega) _
    by_cases g2:vars≤n
    ·simp[zbR,hJ0,hJ1,hgv,g1,g2];exact badS (by rw[hsh];simp;omega) _
    have:=hfin 0 0 (λh=>(h rfl).elim) (λh=>by rw[hsh];simp;intro _ _;rintro rfl;simp at h) (λh h2 h3=>by
     have hl:ks.length=0:=by omega
     rw[hsh,hl];simp;omega)
    simp[zbR,hJ0,hJ1,hgv,g1,g2,zb7];exact this
   have b4:(k == 4)=false:=by simp;omega
   by_cases h5:k=5
   ·subst h5;have hsh:zaR data vars 5 n ks.length=(decide (0≤n) && (match data[n.toNat]? with | some d=>(ks.length:Int) == d.vars | none=>false)):=rfl;by_cases g1:n<0
    ·simp[zbR,hJ0,hJ1,hgv,g1];exact badS (by rw[hsh];simp;omega) _
    by_cases g2:(data.length:Int)≤n
    ·simp[zbR,hJ0,hJ1,hgv,g1,g2];exact badS (by rw[hsh,List.getElem?_eq_none (by omega)];simp) _
    have hnl:n.toNat<data.length:=by omega
    have g2':n<data.length:=by omega
    have g1':0≤n:=by omega
    rw[List.getElem?_eq_getElem hnl]at hsh;simp only[g1',decide_true,Bool.true_and]at hsh;have:=hfin (data[n.toNat]).vars (data[n.toNat]).vars (λ_ h=>(h rfl).elim) (λh=>by rw[hsh];simp;omega) (λh h2 h3=>by rw[hsh];simp;omega);simp[zbR,hJ0,hJ1,hgv,g1,g2,g1',g2',hnl,Dat.cs,zb7];exact this
   have b5:(k == 5)=false:=by simp;omega
   by_cases h6:k=6
   ·subst h6;have hsh:zaR data vars 6 n ks.length=(n == 0 && decide (2≤ks.length) && decide (ks.length≤6)):=rfl;have:=hfin 2 6 (λ_ _ hn=>by rw[hsh];simp[hn]) (λh=>by rw[hsh];simp;intros;omega) (λh h2 h3=>by rw[hsh];simp;omega);simp[zbR,zb7];exact this
   have b6:(k == 6)=false:=by simp;omega
   by_cases h78:k=7∨k=8
   ·have hsh:zaR data vars k n ks.length=(n == 0 && ks.length == 1):=by rcases h78 with rfl | rfl <;> rfl
    have:=hfin 1 1 (λ_ _ hn=>by rw[hsh];simp[hn]) (λh=>by rw[hsh];simp;intros;omega) (λh h2 h3=>by rw[hsh];simp;omega);rcases h78 with rfl|rfl <;> simp[zbR] <;> refine zkT λ_=>?_ <;> simp[zfK,zb7] <;> exact this
   have b7:(k == 7)=false:=by simp;omega
   have b8:(k == 8)=false:=by simp;omega
   simp[zbR,b4,b5,b6,b7,b8];refine zkT λ_=>?_;by_cases h9:k=9
   ·subst h9;have hsh:zaR data vars 9 n ks.length=(n == 0 && decide (1≤ks.length) && decide (ks.length≤7)):=rfl;have:=hfin 1 7 (λ_ _ hn=>by rw[hsh];simp[hn]) (λh=>by rw[hsh];simp;intros;omega) (λh h2 h3=>by rw[hsh];simp;omega);simp[zfK,zb7];exact this
   ·have b9:(k == 9)=false:=by simp;omega
    simp[zfK,b9];exact badS (by unfold zaR;simp[b1,b2,b3,b4,b5,b6,b7,b8,b9]) _
  subst hJ;unfold zaU at start;simp[zqm,VT.cs,start];rw[zaB (by omega) (by omega),zeF _ hid];exact hmain
theorem zAR(v:VT)(hb:za1 v)(H:zaa)(K:AV→zaa→Prop)(hK:K (.bool (zaD data vars v)) H):ACalls tP zfB [.sl (data.map Dat.cs) .none,.agg v.cs,.int .i64 vars] H K:=by
 refine ACalls.out (zAS λhs=>?_);have hO:∀J,Out H.length K (.bool (zaD data vars v)) (H++J):=λJ=>Out.bool rfl (Nat.le_refl _) hs hK;obtain⟨x1,x2,x3,hvx,hx1,hx2,hx3⟩:=zaO v;simp[zsG,hvx,zaq,zaN];rw[←hvx];refine zFZ data vars _ v (Nat.le_refl _) hb 200 (by omega) (by omega) _ (H.length+1) (by simp[zaU]) _ ?_ ?_
 ·intro ho hn;have:zaD data vars v=true:=by simp[zaD,ho];omega
  rw[this]at hO;simp;exact hO _
 ·intro hno l';have:zaD data vars v=false:=by
   cases h:zaD data vars v with
   |false=>rfl
   |true=>simp[zaD]at h;exact(hno ⟨h.2,by omega⟩).elim
  rw[this]at hO;simp;exact hO _
end
mutual
theorem zwo:∀ v:VT,subst [] v=v
 |.mk k n ks=>by rw[subst,if_neg (by rintro⟨_,h1,h2⟩;simp at h2;omega),zwm ks]
theorem zwm:∀ l:List VT,zaX [] l=l
 |[]=>rfl
 |t::ts=>by rw[zaX,zwo t,zwm ts]
end
theorem zIW:∀(m:Nat) (args:List VT),(∀x∈args,x.nodes≤1000000)→args.length≤1000000→∀(v:VT),(if args=[] then v.nodes else v.nodes+1000001)≤m→v.nodes≤1000000→∀(H:zaa) (K:AV→zaa→Prop),K (.agg (subst args v).cs) H→ACalls tP zht [.agg v.cs,.sl (VT.css args) .none] H K:=by
 intro m;induction m with
 |zero=>intro args _ _ v h;have:=v.nodes_pos;split at h <;> omega
 |succ m ih=>
  intro args ha hal v hv hb H K hK;obtain⟨k,n,ks⟩:=v;have hnl:VT.nodesL ks+1≤1000000:=by simpa[VT.nodes]using hb
  have hll:=VT.len_le ks;refine ACalls.out (zIU λhs=>?_);by_cases hvar:k=4∧0≤n∧n<args.length
  ·obtain⟨rfl,h0,h1⟩:=hvar;have hn:n.toNat<args.length:=by omega
   have hne:args≠[]:=by rintro rfl;simp at hn
   have hK':K (.agg (args[n.toNat]).cs) H:=by rw[subst,if_pos ⟨rfl,h0,h1⟩,List.getElem?_eq_getElem hn]at hK;exact hK
   have hle:=ha _ (List.getElem_mem hn);simp[VT.cs,zqA,h0,h1,hn];rw[if_neg hne]at hv;refine ACalls.wk (args':=[.agg (args[n.toNat]).cs,.sl (VT.css []) .none]) ?_ ⟨.rfl',.atom .snil,trivial⟩;refine ih [] (by simp) (by simp) _ (by simp;omega) hle _ _ ?_;rw[zwo];generalize args[n.toNat]=x at *;obtain⟨k',n',ks'⟩:=x;simp[VT.cs];exact Out.at rfl (Nat.le_refl _) hs .rfl' rfl rfl hK'
  ·have hK':K (.agg (VT.mk k n (zaX args ks)).cs) H:=by rw[subst,if_neg hvar]at hK;exact hK
   have go:∀H1,H1=H++[.cells [.int .i64 k,.int .i64 n,.sl (VT.css ks) .none],.cells [.int .i64 0,.int .i64 0,.snil],.cells [.int .i64 k,.int .i64 n,.snil]]→zh9 (.sl (VT.css args) .none) (.ptr (H.length+1) 0) (.ptr (H.length+2) 0) (.sl (VT.css ks) .none) (.int .i64 ks.length) (.int .i64 0) H1 (Out H.length K):=by
    rintro _ rfl;unfold zh9;refine ALoop.ownC (cs:=[.int .i64 k,.int .i64 n,.snil]) (H.length+2) 2 zbe 3 (by simp) rfl ?_;have e0:(H++[AB.cells [.int .i64 k,.int .i64 n,.sl (VT.css ks) .none],.cells [.int .i64 0,.int .i64 0,.snil],.cells [.int .i64 k,.int .i64 n,.snil]]).length=H.length+3:=by simp
    rw[e0,zvX,List.append_assoc];have hJ:∀i X,HSc (H++[.cells [.int .i64 k,.int .i64 n,.sl (VT.css ks) .none],.cells [.int .i64 0,.int .i64 0,.snil],.cells [.int .i64 k,.int .i64 n,.sl X (.own (H.length+3))],.perm zbe 3 i]):=λi X=>hs.append (by simp[AB.sc,AV.scA,AV.scB]);show zh9 (.sl (VT.css args) .none) (.ptr (H.length+1) 0) (.ptr (H.length+2) 0) (.sl (VT.css ks) .none) (.int .i64 ks.length) (.int .i64 0) (H++[.cells [.int .i64 k,.int .i64 n,.sl (VT.css ks) .none],.cells [.int .i64 0,.int .i64 0,.snil],.cells [.int .i64 k,.int .i64 n,.sl [] (.own (H.length+3))],.perm zbe 3 0]) (Out H.length K);refine zIS (Inv:=λq t37 H'=>∃i:Nat,i≤ks.length∧q=ks.length-i∧t37=.int .i64 i∧H'=H++[.cells [.int .i64 k,.int .i64 n,.sl (VT.css ks) .none],.cells [.int .i64 0,.int .i64 0,.snil],.cells [.int .i64 k,.int .i64 n,.sl (VT.css ((zaX args ks).take i)) (.own (H.length+3))],.perm zbe 3 i]) ks.length ?_ ?_
    ·intro _;exact⟨0,by omega,by omega,rfl,by simp[VT.css]⟩
    ·rintro q t37 H' ⟨i,hi,rfl,rfl,rfl⟩ hsc hlen hsF Kb hKb;by_cases hlt:i<ks.length
     ·have hki:=VT.kid_lt (k:=k) (n:=n) hlt;have hsl:(zaX args ks).length=ks.length:=by rw[zen];simp
      have hlt':i<(zaX args ks).length:=by omega
      have hsi:(zaX args ks)[i]=subst args ks[i]:=by simp[zen]
      obtain⟨x1,x2,x3,hvx,hx1,hx2,hx3⟩:=zaO ks[i];simp[zqB,hlt,hvx,hx1,hx2,hx3];rw[←hvx];refine zaC (.agg (subst args ks[i]).cs) (λJ=>ih args ha hal ks[i] (by by_cases he:args=[] <;> simp only[he,if_true,if_false]at hv ⊢ <;> omega) (by omega) _ _ ⟨rfl,rfl⟩) ?_;rw[zdl,←hsi];simp[zay,zbb,za0,hsl];refine⟨by omega,⟨by omega,by omega⟩,?_⟩;rw[zaB (by omega) (by omega),show min i ks.length=i by omega];refine hKb _ _ ⟨ks.length-(i+1),by omega,Back.at (J:=[_]) (H2:=H++[.cells [.int .i64 k,.int .i64 n,.sl (VT.css ks) .none],.cells [.int .i64 0,.int .i64 0,.snil],.cells [.int .i64 k,.int .i64 n,.sl (VT.css ((zaX args ks).take (i+1))) (.own (H.length+3))],.perm zbe 3 (i+1)]) (by rw[zg3 hlt'];simp;rfl) (by simp) (hJ _ _) ?_ ⟨_,rfl,i+1,by omega,rfl,by simp,rfl⟩⟩;simp[zk5,AV.sc,AV.scV,AV.scA,AV.scB]
     ·obtain rfl:i=ks.length:=by omega
      have e:(zaX args ks).take ks.length=zaX args ks:=List.take_of_length_le (by rw[zen];simp);rw[e];simp[zqB];exact Out.at rfl (Nat.le_refl _) hs (WkV.agg (ds:=[.int .i64 k,.int .i64 n,.sl (VT.css (zaX args ks)) .none]) ⟨.refl _,.refl _,.sl _ _,trivial⟩) rfl (by simp[AV.scV,AV.scA,AV.scB]) (by simpa[VT.cs]using hK')
   simp only[VT.cs,zqA];by_cases h4:k=4
   ·subst h4;by_cases h0:0≤n
    ·have h1:¬n<args.length:=λh=>hvar ⟨rfl,h0,h⟩;simp[h0,h1,zaq,zaN,Nat.add_assoc];exact go _ rfl
    ·simp[h0,zaq,zaN,Nat.add_assoc];exact go _ rfl
   ·have h4':(k == 4)=false:=by simpa using h4
    simp[h4',zaq,zaN,Nat.add_assoc];exact go _ rfl
def zj6(args:List VT):AB:=.cells (args.map λx=>.int .i64 x.nodes)
theorem zIP(args:List VT)(ha:∀ x∈args,x.nodes≤1000000)(hal:args.length≤1000000):∀ (m:Nat) (v:VT),v.nodes≤m→v.nodes≤1000000→∀ (H:zaa) (id:Nat),H[id]?=some (zj6 args)→∀ (K:AV→zaa→Prop),
  (∀r:Nat,(r≤200↔(subst args v).nodes≤200)→(r≤200→r=(subst args v).nodes)→r≤1000000+200*v.nodes→K (.int .i64 r) H)→ACalls tP zjk [.agg v.cs,.ms id 0 args.length args.length] H K:=by
 intro m;induction m with
 |zero=>intro v h;have:=v.nodes_pos;omega
 |succ m ih=>
  intro v hv hb H id hid K hK;obtain⟨k,n,ks⟩:=v;have hnl:VT.nodesL ks+1≤1000000:=by simpa[VT.nodes]using hb
  have hll:=VT.len_le ks;have hidl:=zfu hid;refine ACalls.out (zIN λhs=>?_);by_cases hvar:k=4∧0≤n∧n<args.length
  ·obtain⟨rfl,h0,h1⟩:=hvar;have hn:n.toNat<args.length:=by omega
   have hsub:subst args (.mk 4 n ks)=args[n.toNat]:=by rw[subst,if_pos ⟨rfl,h0,h1⟩,List.getElem?_eq_getElem hn];rfl
   rw[hsub]at hK;have hg:(H++[AB.cells [.int .i64 4,.int .i64 n,.sl (VT.css ks) .none]])[id]?=some (zj6 args):=zck hid;have hle:=ha _ (List.getElem_mem hn);unfold zj6 at hg;simp[VT.cs,zqv,h0,h1,hn,hg,zbl];exact Out.int rfl (Nat.le_refl _) hs (hK _ Iff.rfl (λ_=>rfl) (by omega))
  ·have hsub:subst args (.mk k n ks)=.mk k n (zaX args ks):=by rw[subst,if_neg hvar]
   have hnodes:(subst args (.mk k n ks)).nodes=VT.nodesL (zaX args ks)+1:=by rw[hsub];rfl
   rw[hnodes]at hK;have hO:∀r:Nat,(r≤200↔VT.nodesL (zaX args ks)+1≤200)→(r≤200→r=VT.nodesL (zaX args ks)+1)→r≤1000000+200*(VT.mk k n ks).nodes→∀J,Out H.length K (.int .i64 r) (H++J):=λr h1 h2 h3 J=>Out.int rfl (Nat.le_refl _) hs (hK r h1 h2 h3);have hsl:(zaX args ks).length=ks.length:=by rw[zen];simp
   have go:zqz (.ms id 0 args.length args.length) (.int .i64 1) (.sl (VT.css ks) .none) (.int .i64 ks.length) (.int .i64 0) (H++[.cells [.int .i64 k,.int .i64 n,.sl (VT.css ks) .none]]) (Out H.length K):=by
    refine zIL (Inv:=λq t5 t31 H'=>∃i:Nat,i≤ks.length∧q=ks.length-i∧t31=.int .i64 i∧t5=.int .i64 (1+VT.nodesL ((zaX args ks).take i):Nat)∧1+VT.nodesL ((zaX args ks).take i)≤200∧H'=H++[.cells [.int .i64 k,.int .i64 n,.sl (VT.css ks) .none]]) ks.length ?_ ?_
    ·intro _;exact⟨0,by omega,by omega,rfl,by simp[VT.nodesL],by simp[VT.nodesL],rfl⟩
    ·rintro q t5 t31 H' ⟨i,hi,rfl,rfl,rfl,hb2,rfl⟩ hsc hlen hsF Kb hKb;by_cases hlt:i<ks.length
     ·have hki:=VT.kid_lt (k:=k) (n:=n) hlt;have hlt':i<(zaX args ks).length:=by omega
      have hsi:(zaX args ks)[i]=subst args ks[i]:=by simp[zen]
      have h1:=VT.nodesL_take hlt';have h2:=VT.nodesL_take_le (zaX args ks) (i+1);rw[hsi]at h1;obtain⟨x1,x2,x3,hvx,hx1,hx2,hx3⟩:=zaO ks[i];simp[zqw,hlt,hvx,hx1,hx2,hx3];rw[←hvx];refine ih ks[i] (by omega) (by omega) _ id (zck hid) _ λr hr1 hr2 hr3=>?_;simp;rw[zaB (by omega) (by omega)];by_cases hbig:(200:Int)<1+VT.nodesL ((zaX args ks).take i)+r
      ·simp[hbig,zk3,zqy];have:=hO (1+VT.nodesL ((zaX args ks).take i)+r) (by constructor <;> intro h <;> omega) (by omega) (by omega);have e:((1+VT.nodesL ((zaX args ks).take i)+r:Nat):Int)=1+(VT.nodesL ((zaX args ks).take i):Int)+r:=by omega
       rw[e]at this;exact this _
      ·have hr:r=(subst args ks[i]).nodes:=hr2 (by omega);simp[hbig];rw[zaB (by omega) (by omega),zwx];refine hKb _ _ ⟨ks.length-(i+1),by omega,Back.same (by simp) hsc ?_ ⟨_,_,rfl,i+1,by omega,rfl,by simp,?_,by omega,rfl⟩⟩
       ·simp[zk2,AV.sc,AV.scV,AV.scA,AV.scB];omega
       ·congr 1;omega
     ·obtain rfl:i=ks.length:=by omega
      rw[List.take_of_length_le (by omega)]at *;simp[zqw,zk3,zqy];have:=hO (1+VT.nodesL (zaX args ks)) (by omega) (by omega) (by omega);have e:((1+VT.nodesL (zaX args ks):Nat):Int)=1+(VT.nodesL (zaX args ks):Int):=by omega
      rw[e]at this;exact this _
   simp only[VT.cs,zqv];by_cases h4:k=4
   ·subst h4;by_cases h0:0≤n
    ·have h1:¬n<args.length:=λh=>hvar ⟨rfl,h0,h⟩;simp[h0,h1];exact go
    ·simp[h0];exact go
   ·have h4':(k == 4)=false:=by simpa using h4
    simp[h4'];exact go
def zcG(args:List VT)(i:Nat):List AV:=(args.take i).map (λx=>.int .i64 x.nodes)++List.replicate (args.length-i) (.int .i64 0)
theorem zEx(args:List VT){i:Nat}(h:i≤args.length):(zcG args i).length=args.length:=by simp[zcG];omega
theorem zEy(args:List VT){i:Nat}(h:i<args.length):(zcG args i).take i++[.int .i64 (args[i]).nodes]++(zcG args i).drop (i+1)=zcG args (i+1):=by
 have e1:((args.take i).map λx=>AV.int .i64 x.nodes).length=i:=by simp;omega
 unfold zcG;rw[List.take_append_of_le_length (by omega),List.take_of_length_le (by omega),List.drop_append,List.drop_of_length_le (by omega),List.nil_append,e1,List.take_succ_eq_append_getElem h,List.map_append];congr 1;rw[show i+1-i=1 by omega,List.drop_replicate];congr 1
theorem zAZ(data:List Dat)(hdl:data.length≤1000000)(hda:∀ d∈data,∀ c∈d.cons,c.args.length≤1000∧∀ x∈c.args,x.nodes≤1000)(hdc:∀ d∈data,d.cons.length≤1000000)(t:VT)(ht:t.nodes≤1000)(c:Int)(H:zaa)(K:AV→zaa→Prop)(hK:K (zeg (zbi data t c)) H):
  ACalls tP zjR [.sl (data.map Dat.cs) .none,.agg t.cs,.int .i64 c] H K:=by
 refine ACalls.out (zQH λhs=>?_);obtain⟨k,n,ks⟩:=t;have hkn:VT.nodesL ks+1≤1000:=by simpa[VT.nodes]using ht
 have hkl:=VT.len_le ks;have hF:zbi data (.mk k n ks) c=none→∀J,Out H.length K (.tup [.snil,.bool false]) (H++J):=λh J=>by rw[h]at hK;exact Out.tup hs hK ⟨zhV,zcO rfl rfl,trivial⟩
 simp only[VT.cs,zAW];by_cases h5:k=5;case neg=>
  have:(k != 5)=true:=by simpa using h5
  simp[this,AV.isV];exact hF (by rw[zcM,if_neg (λh=>h5 h.1)]) _
 subst h5;by_cases h0:n<0
 ·simp[h0,AV.isV];exact hF (by rw[zcM,if_neg (λh=>by have:=h.2.1;omega)]) _
 by_cases h1:(data.length:Int)≤n
 ·simp[h0,h1,AV.isV];exact hF (by
   rw[zcM];split
   ·rw[List.getElem?_eq_none (by omega)]
   ·rfl) _
 have hn:n.toNat<data.length:=by omega
 have h1':n<data.length:=by omega
 have h0':0≤n:=by omega
 generalize hdd:data[n.toNat]=d at *;have hd:d∈data:=by rw[←hdd];exact List.getElem_mem hn
 have hget:data[n.toNat]?=some d:=by rw[List.getElem?_eq_getElem hn,hdd]
 cases hv:((ks.length:Int) == d.vars) with
 |false=>
  have hv':((ks.length:Int) != d.vars)=true:=by simp[bne,hv]
  simp[h0,h1,h0',h1',hn,hdd,Dat.cs,hv',AV.isV,hget];exact hF (by
   rw[zcM];split
   ·rw[hget];simp only;rw[if_neg (by simpa using hv)]
   ·rfl) _
 |true=>
 have hv':((ks.length:Int) != d.vars)=false:=by simp[bne,hv]
 have hve:(ks.length:Int)=d.vars:=by simpa using hv
 by_cases hc0:c<0
 ·simp[h0,h1,h0',h1',hn,hdd,Dat.cs,hv',AV.isV,hget,hc0];exact hF (by rw[zcM,if_neg (λh=>by have:=h.2.2;omega)]) _
 have hfe:∀o,(match d.cons[c.toNat]? with|some k=>if (k.args.map (subst ks)).all (λx=>decide (x.nodes≤200))=true then some (k.args.map (subst ks)) else none|none=>none)=o→zbi data (.mk 5 n ks) c=o:=λo h=>by rw[zcM,if_pos ⟨rfl,h0',by omega⟩,hget];simp only;rw[if_pos hve];exact h
 by_cases hc1:(d.cons.length:Int)≤c
 ·simp[h0,h1,h0',h1',hn,hdd,Dat.cs,hv',AV.isV,hget,hc0,hc1];exact hF (hfe none (by rw[List.getElem?_eq_none (by omega)])) _
 have hcn:c.toNat<d.cons.length:=by omega
 have hc1':c<d.cons.length:=by omega
 have hc0':0≤c:=by omega
 generalize hcc:d.cons[c.toNat]=co at *;have hco:co∈d.cons:=by rw[←hcc];exact List.getElem_mem hcn
 have hgc:d.cons[c.toNat]?=some co:=by rw[List.getElem?_eq_getElem hcn,hcc]
 obtain⟨hal,han⟩:=hda d hd co hco;have hfe':=λo=>hfe o;rw[hgc]at hfe';simp only at hfe';have hkle:∀x∈ks,x.nodes≤1000:=λy hy=>Nat.le_trans (zgg (k:=5) (n:=n) y hy) ht;simp[h0,h1,h0',h1',hn,hdd,Dat.cs,hv',AV.isV,hget,hc0,hc1,hc0',hc1',hcn,hcc,zba];refine⟨by omega,?_⟩;have ez:List.replicate ks.length (AV.int .i64 0)=zcG ks 0:=by simp[zcG]
 rw[ez];have hsc3:∀(l:List AV),(l.all λa=>a.scA (H.length+3))=true→HSc (H++[.cells [.int .i64 5,.int .i64 n,.sl (VT.css ks) .none],.cells [.str d.name,.int .i64 d.vars,.sl (d.cons.map Con.cs) .none],.cells l]):=λl hl=>hs.append (by simp[AB.sc];simpa using hl);have hszsc:∀i,((zcG ks i).all λa=>a.scA (H.length+3))=true:=λi=>by
  rw[List.all_eq_true];intro x hx;unfold zcG at hx;rcases List.mem_append.1 hx with h|h
  ·obtain⟨y,_,rfl⟩:=List.mem_map.1 h;rfl
  ·rw[List.eq_of_mem_replicate h];rfl
 refine zQD (Inv:=λq t61 H'=>∃i:Nat,i≤ks.length∧q=ks.length-i∧t61=.int .i64 i∧H'=H++[.cells [.int .i64 5,.int .i64 n,.sl (VT.css ks) .none],.cells [.str d.name,.int .i64 d.vars,.sl (d.cons.map Con.cs) .none],.cells (zcG ks i)]) ks.length ?_ ?_
 ·intro _;exact⟨0,by omega,by omega,rfl,rfl⟩
 ·rintro q t61 H' ⟨i,hi,rfl,rfl,rfl⟩ hsc8 hlen8 hsF8 Kb8 hKb8;by_cases hlt:i<ks.length
  ·have hle:=hkle _ (List.getElem_mem hlt);obtain⟨x1,x2,x3,hvx,hx1,hx2,hx3⟩:=zaO ks[i];simp[zsK,hlt,hvx,hx1,hx2,hx3];rw[←hvx];refine zII _ _ (Nat.le_refl _) (by omega) _ _ ?_;have hll:=zEx ks hi;simp[hlt,hll];refine⟨by omega,?_⟩;rw[zaB (by omega) (by omega)];have e:=zEy ks hlt;rw[List.append_assoc,List.singleton_append]at e;rw[e];refine hKb8 _ _ ⟨ks.length-(i+1),by omega,Back.at (J:=[_]) (H2:=H++[.cells [.int .i64 5,.int .i64 n,.sl (VT.css ks) .none],.cells [.str d.name,.int .i64 d.vars,.sl (d.cons.map Con.cs) .none],.cells (zcG ks (i+1))]) (by simp;rfl) (by simp) (hsc3 _ (hszsc _)) ?_ ⟨_,rfl,i+1,by omega,rfl,by simp,rfl⟩⟩;simp[zm3,AV.sc,AV.scV,AV.scA,AV.scB]
  ·obtain rfl:i=ks.length:=by omega
   have efull:zcG ks ks.length=ks.map λx=>.int .i64 x.nodes:=by simp[zcG]
   have hsc8':=hsc8;rw[efull]at hsc8' ⊢;simp[zsK,hc0',hc1',hcn,hcc,Con.cs,hgc];refine zQB (Inv:=λq t79 H'=>∃i:Nat,i≤co.args.length∧q=co.args.length-i∧t79=.int .i64 i∧(∀x∈co.args.take i,(subst ks x).nodes≤200)∧H'=H++[.cells [.int .i64 5,.int .i64 n,.sl (VT.css ks) .none],.cells [.str d.name,.int .i64 d.vars,.sl (d.cons.map Con.cs) .none],.cells (ks.map λx=>.int .i64 x.nodes)]) co.args.length ?_ ?_
   ·intro _;exact⟨0,by omega,by omega,rfl,by simp,rfl⟩
   ·rintro q t79 H' ⟨i,hi,rfl,rfl,hall,rfl⟩ hsc13 hlen13 hsF13 Kb13 hKb13;by_cases hlt:i<co.args.length
    ·have hmem:=List.getElem_mem hlt;obtain⟨x1,x2,x3,hvx,hx1,hx2,hx3⟩:=zaO co.args[i];simp[zsI,hlt,hvx,hx1,hx2,hx3];rw[←hvx];refine zIP ks (λy hy=>by have:=hkle y hy;omega) (by omega) _ co.args[i] (Nat.le_refl _) (by have:=han _ hmem;omega) _ (H.length+2) (by simp[zj6]) _ λr hr1 hr2 hr3=>?_;by_cases hbig:r≤200
     ·have hbig':¬ (200:Int)<r:=by omega
      simp[hbig'];rw[zaB (by omega) (by omega)];refine hKb13 _ _ ⟨co.args.length-(i+1),by omega,Back.at (J:=[_]) (H2:=H++[.cells [.int .i64 5,.int .i64 n,.sl (VT.css ks) .none],.cells [.str d.name,.int .i64 d.vars,.sl (d.cons.map Con.cs) .none],.cells (ks.map λx=>.int .i64 x.nodes)]) (by simp;rfl) (by simp) hsc8' ?_ ⟨_,rfl,i+1,by omega,rfl,by simp,zuT hlt hall (hr1.1 hbig),rfl⟩⟩;simp[zm1,AV.sc,AV.scV,AV.scA,AV.scB]
     ·have hbig':(200:Int)<r:=by omega
      simp[hbig',AV.isV];refine hF (hfe' none ?_) _;rw[if_neg];intro hal2;have:=List.all_eq_true.1 hal2 (subst ks co.args[i]) (List.mem_map.2 ⟨_,hmem,rfl⟩);exact hbig (hr1.2 (of_decide_eq_true this))
    ·obtain rfl:i=co.args.length:=by omega
     rw[List.take_length]at hall;have hfs:=hfe' (some (co.args.map (subst ks))) (if_pos (List.all_eq_true.2 λy hy=>by
      obtain⟨x,hx,rfl⟩:=List.mem_map.1 hy;exact decide_eq_true (hall x hx)))
     rw[hfs]at hK;simp[zsI,hc0',hc1',hcn,hcc,Con.cs,hgc];unfold zm4;refine ALoop.own 14 zbe 3 rfl ?_;have hlen1:(H++[AB.cells [.int .i64 5,.int .i64 n,.sl (VT.css ks) .none],.cells [.str d.name,.int .i64 d.vars,.sl (d.cons.map Con.cs) .none],.cells (ks.map λx=>.int .i64 x.nodes)]).length=H.length+3:=by simp
     rw[hlen1];have hperm:∀m,HSc (H++[.cells [.int .i64 5,.int .i64 n,.sl (VT.css ks) .none],.cells [.str d.name,.int .i64 d.vars,.sl (d.cons.map Con.cs) .none],.cells (ks.map λx=>.int .i64 x.nodes),.perm zbe 3 m]):=λm=>by have:=hsc8'.append (J:=[.perm zbe 3 m]) rfl;simpa using this
     rw[List.append_assoc];show zm4 (.ptr H.length 0) (.sl [] (.own (H.length+3))) (.sl (VT.css co.args) .none) (.int .i64 co.args.length) (.int .i64 0) (H++[.cells [.int .i64 5,.int .i64 n,.sl (VT.css ks) .none],.cells [.str d.name,.int .i64 d.vars,.sl (d.cons.map Con.cs) .none],.cells (ks.map λx=>.int .i64 x.nodes),.perm zbe 3 0]) (Out H.length K);refine zQC (Inv:=λq t14 t95 H'=>∃i:Nat,i≤co.args.length∧q=co.args.length-i∧t95=.int .i64 i∧t14=.sl (VT.css ((co.args.map (subst ks)).take i)) (.own (H.length+3))∧H'=H++[.cells [.int .i64 5,.int .i64 n,.sl (VT.css ks) .none],.cells [.str d.name,.int .i64 d.vars,.sl (d.cons.map Con.cs) .none],.cells (ks.map λx=>.int .i64 x.nodes),.perm zbe 3 i]) co.args.length ?_ ?_
     ·intro _;exact⟨0,by omega,by omega,rfl,by simp[VT.css],rfl⟩
     ·rintro q t14 t95 H' ⟨i,hi,rfl,rfl,rfl,rfl⟩ hsc20 hlen20 hsF20 Kb20 hKb20;by_cases hlt:i<co.args.length
      ·have hmem:=List.getElem_mem hlt;obtain⟨x1,x2,x3,hvx,hx1,hx2,hx3⟩:=zaO co.args[i];simp[zsJ,hlt,hvx,hx1,hx2,hx3];rw[←hvx];refine zIW _ ks (λy hy=>by have:=hkle y hy;omega) (by omega) co.args[i] (Nat.le_refl _) (by have:=han _ hmem;omega) _ _ ?_;rw[zdl];simp[zay,zbb,za0];refine⟨by omega,⟨by omega,by omega⟩,?_⟩;rw[zaB (by omega) (by omega),show min i co.args.length=i by omega];refine hKb20 _ _ ⟨co.args.length-(i+1),by omega,Back.at (H2:=H++[.cells [.int .i64 5,.int .i64 n,.sl (VT.css ks) .none],.cells [.str d.name,.int .i64 d.vars,.sl (d.cons.map Con.cs) .none],.cells (ks.map λx=>.int .i64 x.nodes),.perm zbe 3 (i+1)]) (J:=[_]) (by simp;rfl) (by simp) (hperm _) ?_ ⟨_,_,rfl,i+1,by omega,rfl,by simp,?_,rfl⟩⟩
       ·simp[zm2,AV.sc,AV.scV,AV.scA,AV.scB]
       ·rw[zg3 (by simpa using hlt)];simp
      ·obtain rfl:i=co.args.length:=by omega
       rw[List.take_of_length_le (by simp)];simp[zsJ,AV.isV];exact Out.tup hs hK ⟨slV,zcO rfl rfl,trivial⟩
end Go.Proofs.YtaifokkaaahdoaaGreatDoor
