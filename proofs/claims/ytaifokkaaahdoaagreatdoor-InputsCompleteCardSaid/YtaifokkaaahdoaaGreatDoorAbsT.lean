import Derived.Test.YtaifokkaaahdoaaGreatDoorLK6
import Derived.Test.YtaifokkaaahdoaaGreatDoorLJ5
import Derived.Test.YtaifokkaaahdoaaGreatDoorAbsU
import Derived.Deep.Slices
import Derived.DataReads
set_option linter.unusedSectionVars false
set_option linter.unusedSimpArgs false
set_option linter.unusedVariables false
set_option maxRecDepth 8000
namespace Go.Proofs.YtaifokkaaahdoaaGreatDoor
open Go Go.Abs
mutual
theorem zvC{args:List VT}(ha:∀ x∈args,nar x):∀ v:VT,nar v→nar (subst args v)
 |.mk k n ks,h=>by
  rw[nar]at h;unfold subst;split
  ·rename_i hv;have hn:n.toNat<args.length:=by omega
   rw[List.getElem?_eq_getElem hn];exact ha _ (List.getElem_mem hn)
  ·rw[nar,zpX];exact⟨h.1,zvA ha ks h.2⟩
theorem zvA{args:List VT}(ha:∀ x∈args,nar x):∀ l:List VT,zct l→zct (zaH args l)
 |[],_=>by rw[zaH,zct];trivial
 |v::vs,h=>by rw[zct]at h;rw[zaH,zct];exact⟨zvC ha v h.1,zvA ha vs h.2⟩
end
def zdZ(data:List Dat):VT→Int→Option (List VT)
 | .mk k n ks,c=>(if k=5∧0≤n∧0≤c then
  match data[n.toNat]? with
  | some d=>if (ks.length:Int)=d.vars then
    match d.cons[c.toNat]? with
    |some co=>if (co.args.map (subst ks)).all (λx=>decide (wsz x≤200))=true then some (co.args.map (subst ks)) else none
    |none=>none
   else none
  |none=>none
 else none)
theorem zfB(data:List Dat)(k n:Int)(ks:List VT)(c:Int):zdZ data (.mk k n ks) c=(if k=5∧0≤n∧0≤c then
  match data[n.toNat]? with
  | some d=>if (ks.length:Int)=d.vars then
    match d.cons[c.toNat]? with
    |some co=>if (co.args.map (subst ks)).all (λx=>decide (wsz x≤200))=true then some (co.args.map (subst ks)) else none
    |none=>none
   else none
  |none=>none
 else none):=rfl
theorem zC5{data:List Dat}{k n:Int}{ks:List VT}{c:Int}{l:List VT}(h:zdZ data (.mk k n ks) c=some l):
  k=5∧0≤n∧0≤c∧∃(hn:n.toNat<data.length) (hc:c.toNat<(data[n.toNat]).cons.length),(ks.length:Int)=(data[n.toNat]).vars∧l=((data[n.toNat]).cons[c.toNat]).args.map (subst ks)∧∀x∈l,wsz x≤200:=by
 rw[zfB]at h;split at h
 ·rename_i h5;split at h
  ·rename_i D hD;obtain⟨hn,rfl⟩:=List.getElem?_eq_some_iff.1 hD;split at h
   ·rename_i hv;split at h
    ·rename_i C hC;obtain⟨hc,rfl⟩:=List.getElem?_eq_some_iff.1 hC;split at h
     ·rename_i ha;simp only[Option.some.injEq]at h;subst h;exact⟨h5.1,h5.2.1,h5.2.2,hn,hc,hv,rfl,λx hx=>of_decide_eq_true (List.all_eq_true.1 ha x hx)⟩
     ·cases h
    ·cases h
   ·cases h
  ·cases h
 ·cases h
theorem RDataW.v6{data:List Dat}(h:RDataW data):∀D∈data,D.vars≤6:=λD hD=>by obtain⟨i,hi,rfl⟩:=List.mem_iff_getElem.1 hD;exact(h.dats i hi).v6
theorem RDataW.arg{data:List Dat}(h:RDataW data){d c:Nat}(hd:d<data.length)(hc:c<data[d].cons.length):∀x∈(data[d].cons[c]).args,zaz (data.take (d+1)) data[d].vars x=true:=by
 intro x hx;have h1:=((h.dats d hd).cons _ (List.getElem_mem hc)).args x hx;have h0:=(h.dats d hd).v0;unfold zfb at h1;rw[Bool.or_eq_true]at h1;rcases h1 with h1|h1
 ·obtain⟨k,n,al⟩:=x;simp only[zbT,Bool.and_eq_true,beq_iff_eq]at h1;obtain⟨⟨⟨rfl,rfl⟩,h3⟩,h4⟩:=h1;have h5:=(zpN (data.take (d+1)) data[d].vars al 0 h4 (by omega)).1;rw[zaz,h5];simp[zaC,zil,hd,h3]
 ·rw[zeK,Bool.and_eq_true]at h1;have hm:=zoJ data d data[d].vars x h1.2;rw[zqa data d _ x hm];exact h1.2
theorem zDF{data:List Dat}(h:RDataW data):data.length≤1000000∧(∀d∈data,∀c∈d.cons,c.args.length≤1000∧∀x∈c.args,nar x)∧(∀d∈data,d.cons.length≤1000000):=by
 refine⟨by have:=h.len;omega,λD hD c hc=>?_,λD hD=>?_⟩
 ·obtain⟨i,hi,rfl⟩:=List.mem_iff_getElem.1 hD;refine⟨by have:=((h.dats i hi).cons c hc).len;omega,λx hx=>?_⟩;obtain⟨j,hj,rfl⟩:=List.mem_iff_getElem.1 hc;exact zp9 (λD hD=>h.v6 D (List.mem_of_mem_take hD)) x (h.arg hi hj x hx)
 ·obtain⟨i,hi,rfl⟩:=List.mem_iff_getElem.1 hD;have:=(h.dats i hi).c8;omega
theorem zC4{data:List Dat}(hD:RDataW data){t:VT}(ht:zaz data 0 t=true){c:Int}{l:List VT}(h:zdZ data t c=some l):∀x∈l,zaz data 0 x=true:=by obtain⟨k,n,ks⟩:=t;obtain⟨rfl,h0,hc0,hn,hc,hv,rfl,hsz⟩:=zC5 h;intro x hx;obtain⟨a,ha,rfl⟩:=List.mem_map.1 hx;exact zqb (zkT ht) hv a (hD.arg hn hc a ha)
theorem zOi(data:List Dat)(hdl:data.length≤1000000)(hda:∀ d∈data,∀ c∈d.cons,c.args.length≤1000∧∀ x∈c.args,nar x)(hdc:∀ d∈data,d.cons.length≤1000000)(t:VT)(ht:nar t)(c:Int)(H:zaa)(K:AV→zaa→Prop)(hK:K (zdl (zdZ data t c)) H):
  ACalls tP zkd [.sl (data.map Dat.cs) .none,.agg t.cs,.int .i64 c] H K:=by
 refine ACalls.out (zAt λhs=>?_);obtain⟨k,n,ks⟩:=t;have hkn:ks.length≤1000∧zct ks:=by rw[nar]at ht;exact ht
 have hkl:=hkn.1;have hF:zdZ data (.mk k n ks) c=none→∀J,Out H.length K (.tup [.snil,.bool false]) (H++J):=λh J=>by rw[h]at hK;exact Out.tup hs hK ⟨zgQ,zb4 rfl rfl,trivial⟩
 have hFF:∀J,zdZ data (.mk k n ks) c=none→Out H.length K (.tup [.snil,.bool false]) (H++J):=λJ h=>hF h J;simp only[VT.cs,zsA];by_cases h5:k=5;case neg=>
  have:(k != 5)=true:=by simpa using h5
  simp[this,AV.isV];exact hF (by rw[zfB,if_neg (λh=>h5 h.1)]) _
 subst h5;by_cases h0:n<0
 ·simp[h0,AV.isV];exact hF (by rw[zfB,if_neg (λh=>by have:=h.2.1;omega)]) _
 by_cases h1:(data.length:Int)≤n
 ·simp[h0,h1,AV.isV];exact hF (by
   rw[zfB];split
   ·rw[List.getElem?_eq_none (by omega)]
   ·rfl) _
 have hn:n.toNat<data.length:=by omega
 have h1':n<data.length:=by omega
 have h0':0≤n:=by omega
 generalize hdd:data[n.toNat]=d at *;have hd:d∈data:=by rw[←hdd];exact List.getElem_mem hn
 have hget:data[n.toNat]?=some d:=by rw[List.getElem?_eq_getElem hn,hdd]
 cases hv:((ks.length:Int) == d.vars) with
 |false=>
  have hv':((ks.length:Int) != d.vars)=true:=by simp[bne,hv]
  simp[h0,h1,h0',h1',hn,hdd,Dat.cs,hv',AV.isV,hget];exact hF (by
   rw[zfB];split
   ·rw[hget];simp only;rw[if_neg (by simpa using hv)]
   ·rfl) _
 |true=>
 have hv':((ks.length:Int) != d.vars)=false:=by simp[bne,hv]
 have hve:(ks.length:Int)=d.vars:=by simpa using hv
 by_cases hc0:c<0
 ·simp[h0,h1,h0',h1',hn,hdd,Dat.cs,hv',AV.isV,hget,hc0];exact hF (by rw[zfB,if_neg (λh=>by have:=h.2.2;omega)]) _
 have hfe:∀o,(match d.cons[c.toNat]? with|some k=>if (k.args.map (subst ks)).all (λx=>decide (wsz x≤200))=true then some (k.args.map (subst ks)) else none|none=>none)=o→zdZ data (.mk 5 n ks) c=o:=λo h=>by rw[zfB,if_pos ⟨rfl,h0',by omega⟩,hget];simp only;rw[if_pos hve];exact h
 by_cases hc1:(d.cons.length:Int)≤c
 ·simp[h0,h1,h0',h1',hn,hdd,Dat.cs,hv',AV.isV,hget,hc0,hc1];exact hF (hfe none (by rw[List.getElem?_eq_none (by omega)])) _
 have hcn:c.toNat<d.cons.length:=by omega
 have hc1':c<d.cons.length:=by omega
 have hc0':0≤c:=by omega
 generalize hcc:d.cons[c.toNat]=co at *;have hco:co∈d.cons:=by rw[←hcc];exact List.getElem_mem hcn
 have hgc:d.cons[c.toNat]?=some co:=by rw[List.getElem?_eq_getElem hcn,hcc]
 obtain⟨hal,han⟩:=hda d hd co hco;have hfe':=λo=>hfe o;rw[hgc]at hfe';simp only at hfe';have hsub:∀x∈co.args,nar (subst ks x):=λx hx=>zvC (λy hy=>zib hkn.2 y hy) x (han x hx);simp[h0,h1,h0',h1',hn,hdd,Dat.cs,hv',AV.isV,hget,hc0,hc1,hc0',hc1',hcn,hcc,Con.cs,hgc];have hperm:∀m,HSc (H++[.cells [.int .i64 5,.int .i64 n,.sl (VT.css ks) .none],.perm za9 3 m]):=λm=>hs.append rfl;unfold zhc;refine ALoop.own 8 za9 3 rfl ?_;have hlen1:(H++[AB.cells [.int .i64 5,.int .i64 n,.sl (VT.css ks) .none]]).length=H.length+1:=by simp
 rw[hlen1,List.append_assoc];show zhc (.ptr H.length 0) (.sl [] (.own (H.length+1))) (.sl (VT.css co.args) .none) (.int .i64 co.args.length) (.int .i64 0) (H++[.cells [.int .i64 5,.int .i64 n,.sl (VT.css ks) .none],.perm za9 3 0]) (Out H.length K);refine zAs (Inv:=λq t8 t65 H'=>∃i:Nat,i≤co.args.length∧q=co.args.length-i∧t65=.int .i64 i∧t8=.sl (VT.css ((co.args.map (subst ks)).take i)) (.own (H.length+1))∧(∀x∈co.args.take i,wsz (subst ks x)≤200)∧H'=H++[.cells [.int .i64 5,.int .i64 n,.sl (VT.css ks) .none],.perm za9 3 i]) co.args.length ?_ ?_
 ·intro _;exact⟨0,by omega,by omega,rfl,by simp[VT.css],by simp,rfl⟩
 ·rintro q t8 t65 H' ⟨i,hi,rfl,rfl,rfl,hall,rfl⟩ hsc hlen hsF Kb hKb;by_cases hlt:i<co.args.length
  ·have hmem:=List.getElem_mem hlt;have hx3:=hsub _ hmem;obtain⟨x,y,z,hvx,hx,hy,hz⟩:=zaL co.args[i];simp[zi0,hlt,hvx,hx,hy,hz];rw[←hvx];refine zHi ks (λy hy=>zib hkn.2 y hy) (by omega) _ co.args[i] (Nat.le_refl _) (han _ hmem) _ _ ?_;obtain⟨x',y',z',hvx',hx',hy',hz'⟩:=zaL (subst ks co.args[i]);simp[hvx',hx',hy',hz'];rw[←hvx'];refine zAg _ _ (Nat.le_refl _) (zvB _ hx3) _ _ ?_;by_cases h200:wsz (subst ks co.args[i])≤200
   ·have h200':¬ (200:Int)<wsz (subst ks co.args[i]):=by omega
    simp[h200'];rw[zcX];simp[zax,zbc,za2];refine⟨by omega,by omega,?_⟩;rw[zav (by omega) (by omega),show min i co.args.length=i by omega];refine hKb _ _ ⟨co.args.length-(i+1),by omega,Back.at (H2:=H++[.cells [.int .i64 5,.int .i64 n,.sl (VT.css ks) .none],.perm za9 3 (i+1)]) (J:=[_,_]) (by simp;exact⟨rfl,rfl⟩) (by simp) (hperm _) ?_ ⟨_,_,rfl,i+1,by omega,rfl,by simp,?_,zoI hlt hall h200,rfl⟩⟩
    ·simp[zi1,AV.sc,AV.scV,AV.scA,AV.scB]
    ·rw[zeY (by simpa using hlt)];simp
   ·have h200':(200:Int)<wsz (subst ks co.args[i]):=by omega
    simp[h200',AV.isV];refine hF (hfe' none ?_) _;rw[if_neg];intro hal2;have:=List.all_eq_true.1 hal2 (subst ks co.args[i]) (List.mem_map.2 ⟨_,hmem,rfl⟩);exact h200 (of_decide_eq_true this)
  ·obtain rfl:i=co.args.length:=by omega
   rw[List.take_length]at hall;rw[List.take_of_length_le (by simp)];simp[zi0,AV.isV];have hfs:=hfe' (some (co.args.map (subst ks))) (if_pos (List.all_eq_true.2 λy hy=>by
    obtain⟨x,hx,rfl⟩:=List.mem_map.1 hy;exact decide_eq_true (hall x hx)))
   rw[hfs]at hK;exact Out.tup hs hK ⟨slV,zb4 rfl rfl,trivial⟩
mutual
def za4(data:List Dat):VT→VT→Bool
 |.mk vk vn vks,.mk k n al=>
  if k=1 then vk == 3 && decide (-1099511627776≤vn) && decide (vn≤1099511627776) && vks.length == 0
  else if k=2 then vk == 2 && (vn == 0 || vn == 1) && vks.length == 0
  else if k=3 then vk == 1 && vn == 0 && vks.length == 0
  else if k=6 then vk == 4 && vn == 0 && zcz data vks al
  else if k=5 then vk == 5 && decide (0≤vn) && decide (vn<8) && zfF data vks (zdZ data (.mk k n al) vn)
  else if k=7 then vk == 6 && vn == 0 && decide (vks.length≤4096) && zdG data vks (al.getD 0 (.mk 0 0 []))
  else if k=8 then vk == 7 && vn == 0 && zcz data vks al
  else vk == 8 && decide (0≤vn) && decide (vn<64) && vks.length == 0
def zfF(data:List Dat):List VT→Option (List VT)→Bool
 |_,none=>false
 |[],some ts=>ts.isEmpty
 | v::vs,some ts=>match ts with
  |[]=>false
  |t::ts=>za4 data v t && zcz data vs ts
def zcz(data:List Dat):List VT→List VT→Bool
 |[],ts=>ts.isEmpty
 | v::vs,ts=>match ts with
  |[]=>false
  |t::ts=>za4 data v t && zcz data vs ts
def zdG(data:List Dat):List VT→VT→Bool
 |[],_=>true
 |v::vs,t=>za4 data v t && zdG data vs t
end
theorem zDo(data:List Dat)(vs ts:List VT):zfF data vs (some ts)=zcz data vs ts:=by
 cases vs with
 |nil=>cases ts <;> rw[zfF,zcz]
 |cons v vs=>cases ts <;> simp only[zfF,zcz]
theorem zDn(data:List Dat)(vs:List VT):zfF data vs none=false:=by cases vs <;> rw[zfF]
theorem zoj(data:List Dat):∀ vs ts:List VT,zcz data vs ts=zbm (za4 data) vs ts
 |[],[]=>by simp[zcz,zbm]
 |[],_::_=>by simp[zcz,zbm]
 |_::_,[]=>by simp[zcz,zbm]
 |v::vs,t::ts=>by simp[zcz,zbm,zoj data vs ts]
theorem zDk{data:List Dat}{t:VT}{vs:List VT}{i:Nat}(h:i<vs.length):zdG data (vs.drop i) t=(za4 data vs[i] t && zdG data (vs.drop (i+1)) t):=by rw[List.drop_eq_getElem_cons h,zdG]
section
variable {data:List Dat} (hD:RDataW data)
def zny(data:List Dat)(v:VT):Prop:=∀(t:VT),zaz data 0 t=true→∀(H:zaa) (K:AV→zaa→Prop),K (.bool (za4 data v t)) H→ACalls tP zgA [.sl (data.map Dat.cs) .none,.agg v.cs,.agg t.cs] H K
theorem zC0{f:VT→VT→Bool}{x y:List VT}{i:Nat}(h:i<x.length)(h':i<y.length):zbm f (x.drop i) (y.drop i)=(f x[i] y[i] && zbm f (x.drop (i+1)) (y.drop (i+1))):=by rw[List.drop_eq_getElem_cons h,List.drop_eq_getElem_cons h',zbm]
theorem zAn(vs ts:List VT)(hl:vs.length≤1000000)(hv:∀ v∈vs,zny data v)(ht:∀ t∈ts,zaz data 0 t=true)(H:zaa)(K:AV→zaa→Prop)(hK:K (.bool (zcz data vs ts)) H):
  ACalls tP zh3 [.sl (data.map Dat.cs) .none,.sl (VT.css vs) .none,.sl (VT.css ts) .none] H K:=by
 refine ACalls.out (zAq λhs=>?_);rw[zoj]at hK;have hO:∀b,zbm (za4 data) vs ts=b→Out H.length K (.bool b) H:=λb h=>by have:=Out.bool (J:=[]) rfl (Nat.le_refl _) hs (h ▸ hK);simpa using this
 by_cases hlen:vs.length=ts.length;case neg=>
  have hl':((vs.length:Int) != ts.length)=true:=by simp;omega
  simp[ziX,hl'];exact hO _ (zgs hlen)
 simp[ziX,hlen];refine zAp (Inv:=λq t H'=>∃i:Nat,i≤vs.length∧q=vs.length-i∧t=.int .i64 i∧zbm (za4 data) (vs.drop i) (ts.drop i)=zbm (za4 data) vs ts∧H=H') vs.length ?_ ?_
 ·intro _;exact⟨0,by omega,by omega,rfl,by simp,rfl⟩
 rintro q t H' ⟨i,hi,rfl,rfl,ho,rfl⟩ hsc hle hsF Kb hKb;by_cases hlt:i<vs.length
 ·have hlt':i<ts.length:=by omega
  have hlt2:(i:Int)<ts.length:=by omega
  rw[zC0 hlt hlt']at ho;obtain⟨x,y,z,hvx,hx,hy,hz⟩:=zaL vs[i];obtain⟨x2,y2,z2,hvx2,hx2,hy2,hz2⟩:=zaL ts[i];simp[ziY,hlt,hlt',hlt2,hvx,hvx2];rw[←hvx,←hvx2];refine zaV (.bool (za4 data vs[i] ts[i])) (λJ=>hv _ (List.getElem_mem hlt) _ (ht _ (List.getElem_mem hlt')) _ _ ⟨rfl,rfl⟩) ?_;cases hb:za4 data vs[i] ts[i] with
  |false=>rw[hb,Bool.false_and]at ho;simp;exact hO _ ho.symm
  |true=>rw[hb,Bool.true_and]at ho;simp;rw[zav (by omega) (by omega)];refine hKb _ _ ⟨vs.length-(i+1),by omega,Back.here (Nat.le_refl _) hs ?_ ⟨_,rfl,i+1,by omega,rfl,by simp,ho,rfl⟩⟩;simp[ziZ,AV.sc,AV.scV,AV.scA,AV.scB]
 ·obtain rfl:i=vs.length:=by omega
  rw[List.drop_length,hlen,List.drop_length,zbm]at ho;simp[ziY,hlen];exact hO _ ho.symm
theorem zDl{data:List Dat}{vks ks:List VT}(h1:vks.length=1)(h2:ks.length=1):zcz data vks ks=zdG data vks (ks[0]'(by omega)):=by
 match vks,ks,h1,h2 with
 |[v],[k],_,_=>simp[zcz,zdG]
include hD in
theorem zMq:∀(m:Nat) (v:VT),v.nodes≤m→v.nodes≤1000000→zny data v:=by
 intro m;induction m with
 |zero=>intro v h;have:=v.nodes_pos;omega
 |succ m ih=>
  intro v hm hb t ht H K hK;obtain⟨vk,vn,vks⟩:=v;obtain⟨k,n,ks⟩:=t;refine ACalls.out (zzB λhs=>?_);have hO:∀b J,za4 data (.mk vk vn vks) (.mk k n ks)=b→Out H.length K (.bool b) (H++J):=λb J h=>Out.bool rfl (Nat.le_refl _) hs (h ▸ hK);have hll:=VT.len_le vks;have hnn:(VT.mk vk vn vks).nodes=VT.nodesL vks+1:=by simp[VT.nodes]
  have hkids:∀ x∈vks,zny data x:=λx hx=>ih x (by have:=zoz (k:=vk) (n:=vn) x hx;omega) (by have:=zfI (k:=vk) (n:=vn) x hx;omega);have htk:=zkT ht;have hto:=ht;have htn:=zp9 hD.v6 _ ht;obtain⟨f1,f2,f3⟩:=zDF hD;have loop:∀ (hk:ks.length=1) ,za4 data (.mk vk vn vks) (.mk k n ks)=zdG data vks (ks[0]'(by omega)) →
    zmv (.sl (data.map Dat.cs) .none) (.ptr H.length 0) (.ptr (H.length+1) 0) (.int .i64 vks.length) (.int .i64 0) (H++[.cells [.int .i64 vk,.int .i64 vn,.sl (VT.css vks) .none],.cells [.int .i64 k,.int .i64 n,.sl (VT.css ks) .none]]) (Out H.length K):=by
   intro hk e;have hk0:0<ks.length:=by omega
   refine zzA (Inv:=λq t10 H'=>∃i:Nat,i≤vks.length∧q=vks.length-i∧t10=.int .i64 i∧zdG data (vks.drop i) ks[0]=zdG data vks ks[0]∧H'=H++[.cells [.int .i64 vk,.int .i64 vn,.sl (VT.css vks) .none],.cells [.int .i64 k,.int .i64 n,.sl (VT.css ks) .none]]) vks.length ?_ ?_
   ·intro _;exact⟨0,by omega,by omega,rfl,by simp,rfl⟩
   rintro q t10 H' ⟨i,hi,rfl,rfl,ho,rfl⟩ hsc hle hsF Kb hKb;by_cases hlt:i<vks.length
   ·rw[zDk hlt]at ho;obtain⟨x,y,z,hvx,hx,hy,hz⟩:=zaL vks[i];obtain⟨x2,y2,z2,hvx2,hx2,hy2,hz2⟩:=zaL ks[0];simp[ziN,hlt,hvx,hk0,hvx2];rw[←hvx,←hvx2];refine zaV (.bool (za4 data vks[i] ks[0])) (λJ=>hkids _ (List.getElem_mem hlt) ks[0] (htk _ (List.getElem_mem hk0)) _ _ ⟨rfl,rfl⟩) ?_;cases hb2:za4 data vks[i] ks[0] with
    |false=>rw[hb2,Bool.false_and]at ho;simp;exact hO _ _ (e.trans ho.symm)
    |true=>rw[hb2,Bool.true_and]at ho;simp;rw[zav (by omega) (by omega)];refine hKb _ _ ⟨vks.length-(i+1),by omega,Back.here (by simp) hsc ?_ ⟨_,rfl,i+1,by omega,rfl,by simp,ho,rfl⟩⟩;simp[ziO,AV.sc,AV.scV,AV.scA,AV.scB]
   ·obtain rfl:i=vks.length:=by omega
    rw[List.drop_length,zdG]at ho;simp[ziN];exact hO _ _ (e.trans ho.symm)
  rcases zkU hto with ⟨rfl,rfl⟩|⟨rfl,rfl⟩|⟨rfl,rfl⟩|rfl|⟨rfl,hk⟩|⟨rfl,hk⟩|⟨rfl,hk⟩|⟨rfl,hk⟩
  ·simp[zcy,VT.cs,Nat.add_assoc];cases h1:(vk == 3) <;> simp
   ·exact hO _ _ (by simp[za4,h1])
   by_cases h2:-1099511627776≤vn <;> simp[h2]
   ·by_cases h3:vn≤1099511627776 <;> simp[h3]
    ·exact hO _ _ (by simp[za4,h1,h2,h3,i0])
    ·exact hO _ _ (by simp[za4,h1,h2,h3])
   ·exact hO _ _ (by simp[za4,h1,h2])
  ·simp[zcy,VT.cs,Nat.add_assoc];cases h1:(vk == 2) <;> simp
   ·exact hO _ _ (by simp[za4,h1])
   cases h2:(vn == 0) <;> simp
   ·cases h3:(vn == 1) <;> simp
    ·exact hO _ _ (by simp[za4,h1,h2,h3])
    ·exact hO _ _ (by simp[za4,h1,h2,h3,i0])
   ·exact hO _ _ (by simp[za4,h1,h2,i0])
  ·simp[zcy,VT.cs,Nat.add_assoc];cases h1:(vk == 1) <;> simp
   ·exact hO _ _ (by simp[za4,h1])
   cases h2:(vn == 0) <;> simp
   ·exact hO _ _ (by simp[za4,h1,h2])
   ·exact hO _ _ (by simp[za4,h1,h2,i0])
  ·-- a data type
   simp[zcy,VT.cs,Nat.add_assoc];cases h1:(vk == 5) with
   |false=>
    have:(vk != 5)=true:=by simp[bne,h1]
    simp[this];exact hO _ _ (by simp[za4,h1])
   |true=>
   have h1':(vk != 5)=false:=by simp[bne,h1]
   by_cases h2:vn<0
   ·simp[h1',h2];exact hO _ _ (by simp[za4,h1];omega)
   by_cases h3:8≤vn
   ·simp[h1',h2,h3];exact hO _ _ (by simp[za4,h1];omega)
   simp[h1',h2,h3,Nat.add_assoc];have e:∀o,zdZ data (.mk 5 n ks) vn=o→za4 data (.mk vk vn vks) (.mk 5 n ks)=zfF data vks o:=λo ho=>by
    have q1:0≤vn:=by omega
    have q2:vn<8:=by omega
    simp[za4,h1,q1,q2,ho]
   have hcs:(VT.mk 5 n ks).cs=[.int .i64 5,.int .i64 n,.sl (VT.css ks) .none]:=rfl;rw[←hcs];refine zOi data f1 f2 f3 (.mk 5 n ks) htn vn _ _ ?_;cases hf:zdZ data (.mk 5 n ks) vn with
   |none=>simp[zdl];exact hO _ _ (by rw[e _ hf,zDn])
   |some l=>simp[zdl,hcs];refine zAn vks l (by omega) hkids (zC4 hD hto hf) _ _ ?_;exact hO _ _ (by rw[e _ hf,zDo])
  ·simp[zcy,VT.cs,Nat.add_assoc];cases h1:(vk == 4) <;> simp
   ·exact hO _ _ (by simp[za4,h1])
   cases h2:(vn == 0) <;> simp
   ·exact hO _ _ (by simp[za4,h1,h2])
   refine zAn vks ks (by omega) hkids htk _ _ ?_;exact hO _ _ (by simp[za4,h1,h2])
  ·-- an array
   simp[zcy,zfn,VT.cs,Nat.add_assoc];have hk0:0<ks.length:=by omega
   cases h1:(vk == 6) with
   |false=>
    have:(vk != 6)=true:=by simp[bne,h1]
    simp[this];exact hO _ _ (by simp[za4,h1])
   |true=>
   have h1':(vk != 6)=false:=by simp[bne,h1]
   by_cases h3:vks.length≤4096;case neg=>
    have h3':(4096:Int)<vks.length:=by omega
    simp[h1',h3'];exact hO _ _ (by simp[za4,h1,h3])
   have h3':¬(4096:Int)<vks.length:=by omega
   cases h2:(vn == 0) with
   |false=>
    have:(vn != 0)=true:=by simp[bne,h2]
    simp[h1',h3',this];exact hO _ _ (by simp[za4,h1,h2])
   |true=>
   have h2':(vn != 0)=false:=by simp[bne,h2]
   simp[h1',h3',h2'];exact loop hk (by have:=zog hk0;simp[za4,h1,h2,h3,this,hk0])
  ·simp[zcy,zfn,VT.cs,Nat.add_assoc];have hk0:0<ks.length:=by omega
   cases h1:(vk == 7) with
   |false=>
    have:(vk != 7)=true:=by simp[bne,h1]
    simp[this];exact hO _ _ (by simp[za4,h1])
   |true=>
   have h1':(vk != 7)=false:=by simp[bne,h1]
   by_cases h3:vks.length=1;case neg=>
    have h3':((vks.length:Int) != 1)=true:=by simp;omega
    simp[h1',h3'];refine hO _ _ ?_;have:zcz data vks ks=false:=by rw[zoj];exact zgs (by omega)
    simp[za4,h1,this]
   have h3':((vks.length:Int) != 1)=false:=by simp;omega
   cases h2:(vn == 0) with
   |false=>
    have:(vn != 0)=true:=by simp[bne,h2]
    simp[h1',h3',this];exact hO _ _ (by simp[za4,h1,h2])
   |true=>
   have h2':(vn != 0)=false:=by simp[bne,h2]
   simp[h1',h3',h2'];exact loop hk (by rw[←zDl h3 hk];simp[za4,h1,h2])
  ·simp[zcy,zfn,VT.cs,Nat.add_assoc];cases h1:(vk == 8) <;> simp
   ·exact hO _ _ (by simp[za4,h1])
   by_cases h2:0≤vn <;> simp[h2]
   ·by_cases h3:vn<64 <;> simp[h3]
    ·exact hO _ _ (by simp[za4,h1,h2,h3,i0])
    ·exact hO _ _ (by simp[za4,h1,h2,h3])
   ·exact hO _ _ (by simp[za4,h1,h2])
end
theorem zP5(data:List Dat)(hk:znA data)(v t:VT)(ht:zaW t)(H:zaa)(K:Kt)(hK:∀ b:Bool,(b=true→v.nodes≤5000)→K (.bool b) H):
  ACalls tP zkg [.sl (data.map Dat.cs) .none,.agg v.cs,.agg t.cs] H K:=by
 refine ACalls.out (zBb λhs=>?_);have hO:∀(b:Bool) J,(b=true→v.nodes≤5000)→Out H.length K (.bool b) (H++J):=λb J h=>Out.bool rfl (Nat.le_refl _) hs (hK b h);obtain⟨x,y,z,hvx,hx,hy,hz⟩:=zaL v;obtain⟨x2,y2,z2,hvx2,hx2,hy2,hz2⟩:=zaL t;have hkl:=hk.1;simp[zq8,hvx,hvx2,Nat.add_assoc];refine zMc data hk _ _ λb hb=>?_;cases b with
 |false=>simp;exact hO _ _ (by simp)
 |true=>
  have hR:=hb.1 rfl;simp[Nat.add_assoc];rw[←hvx2];refine zzu data (by omega) 0 t ht _ _ ?_;cases hf:zeK data 0 t with
  |false=>simp;exact hO _ _ (by simp)
  |true=>
   rw[zeK,Bool.and_eq_true]at hf;simp[Nat.add_assoc];rw[←hvx];refine zzz _ v (Nat.le_refl _) 5000 (by omega) (by omega) _ (H.length+2) (by simp) _ (λhle=>?_) (λh=>?_)
   ·simp[Nat.add_assoc];have hle':v.nodes≤5000:=by omega
    refine zMq hR _ v (Nat.le_refl _) (by omega) t hf.2 _ _ ?_;exact hO _ _ (λ_=>hle')
   ·intro l';simp;exact hO _ _ (by simp)
def znv(data:List Dat):Prop:=∀D∈data,∀c∈D.cons,∀x∈c.args,x.nodes≤1000000
theorem zDE{data:List Dat}(h2:data.length≤2)(hk:Kpt data)(hN:znv data):znB data:=
 ⟨by omega,λD hD=>⟨trivial,by have:=(hk D hD).1;omega,λc hc=>⟨trivial,by have:=(hk D hD).2 c hc;omega,hN D hD c hc⟩⟩⟩
theorem zDD{data:List Dat}(h2:data.length≤2)(hk:Kpt data)(hT:∀D∈data,∀c∈D.cons,∀x∈c.args,zaW x):znA data:=
 ⟨by omega,λD hD=>⟨by have:=(hk D hD).1;omega,λc hc=>⟨by have:=(hk D hD).2 c hc;omega,hT D hD c hc⟩⟩⟩
theorem zCU{data:List Dat}(hD:zaD data=true):znv data:=λD hD' c hc x hx=>by obtain⟨d,hd,rfl⟩:=List.mem_iff_getElem.1 hD';simp only[zaD,Bool.and_eq_true,zjy,Nat.zero_add]at hD;have h1:=hD.1.1.2 d hd;simp only[zb8,Bool.and_eq_true]at h1;have h2:=List.all_eq_true.1 h1.2 _ hc;simp only[zcN,Bool.and_eq_true]at h2;have h3:=List.all_eq_true.1 h2.2.2 x hx;simp only[zdj,zaA,Bool.and_eq_true,decide_eq_true_eq]at h3;have:=h3.1.1;omega
theorem zGu{data:List Dat}{t:VT}(h:zaA data 0 t=true):t.nodes≤1000000:=by rw[zaA,Bool.and_eq_true,decide_eq_true_eq]at h;omega
theorem zOB:∀(m:Nat) (v:VT),v.nodes≤m→zaW v→∀(H:zaa) (K:Kt),K (.int .i64 (wsz v)) H→ACalls tP zka [.agg v.cs] H K:=by
 intro m;induction m with
 |zero=>intro v h;have:=v.nodes_pos;omega
 |succ m ih=>
  intro v hm hb H K hK;obtain⟨k,n,ks⟩:=v;have hfit:ks.length≤9223372036854775807∧zci ks:=by rw[zaW]at hb;exact hb
  have hw:wsz (.mk k n ks)=IntKind.i64.wrap ((1+VT.nodesL ks:Nat):Int):=by unfold wsz;simp[VT.nodes,Nat.add_comm]
  rw[hw]at hK;refine ACalls.out (zOF λhs=>?_);simp[zq6,VT.cs,Nat.add_assoc];refine zOD (Inv:=λq t3 t9 H'=>∃i:Nat,i≤ks.length∧ks.length-i=q∧t9=.int .i64 i∧t3=.int .i64 (IntKind.i64.wrap ((1+VT.nodesL (ks.take i):Nat):Int))∧H'=H++[.cells [.int .i64 k,.int .i64 n,.sl (VT.css ks) .none]]) ks.length ?_ ?_
  ·intro _;exact⟨0,by omega,rfl,rfl,by simp[VT.nodesL,zcV],rfl⟩
  ·rintro q t3 t9 H' ⟨i,hi,rfl,rfl,rfl,rfl⟩ hsc' hlen hsF Kb hKb;by_cases hlt:i<ks.length
   ·obtain⟨x,y,z,hvx,hx,hy,hz⟩:=zaL ks[i];have hkn:=VT.kid_lt (k:=k) (n:=n) hlt;have hts:=VT.nodesL_take hlt;have he:IntKind.i64.wrap (IntKind.i64.wrap ((1+VT.nodesL (ks.take i):Nat):Int)+wsz ks[i])=IntKind.i64.wrap ((1+VT.nodesL (ks.take (i+1)):Nat):Int):=by unfold wsz;rw[zxs,hts];congr 1;omega
    simp only[Int.natCast_add,Int.natCast_one]at he;simp[zsH,hlt,hvx,hx,hy,hz,wrM (n:=i) (by omega),Nat.add_assoc];rw[←hvx];refine ih ks[i] (by omega) (zfC hfit.2 _ (List.getElem_mem hlt)) _ _ ?_;simp[he];exact hKb _ _ ⟨ks.length-(i+1),by omega,Back.at (J:=[.cells (ks[i]).cs]) (H2:=H++[.cells [.int .i64 k,.int .i64 n,.sl (VT.css ks) .none]]) (by simp) (by simp) (hs.append (by simp[AB.sc,AV.scA,AV.scB])) (by simp[zm2,ux,AV.sc,AV.scA,AV.scB,AV.scV]) ⟨_,_,rfl,i+1,by omega,rfl,rfl,by simp,rfl⟩⟩
   ·obtain rfl:i=ks.length:=by omega
    rw[List.take_length]at *;simp[zsH];exact Out.int (J:=_) rfl (Nat.le_refl _) hs (by simpa using hK)
theorem zBt(data:List Dat)(hl:data.length≤9223372036854775807)(hT:∀ D∈data,∀ c∈D.cons,∀ x∈c.args,zaW x)(t:VT)(ht:zaW t)(v:VT)(hvf:zaW v)(xs:List Int)(H:zaa)(h0:H[0]?=some .nodr)(K:Kt)(hK:K (.bool true) H):
  ACalls tP zoL [.sl (data.map Dat.cs) .none,.agg t.cs,.agg v.cs,.sl (ints xs) .none] H K:=by
 refine ACalls.out (zLm λhs=>?_);have hlt0:0<H.length:=(List.getElem?_eq_some_iff.1 h0).1;have hO:∀J,Out H.length K (.bool true) (H++J):=λJ=>Out.bool rfl (Nat.le_refl _) hs hK;obtain⟨x,y,z,hvx,hx,hy,hz⟩:=zaL t;obtain⟨x2,y2,z2,hvx2,hx2,hy2,hz2⟩:=zaL v;simp only[zq1];simp[hvx,hvx2];obtain⟨A,hA⟩:∃A,A=H++[AB.cells t.cs,AB.cells v.cs]:=⟨_,rfl⟩;have hAl:A.length=H.length+2:=by rw[hA];simp
 have hAs:HSc A:=by rw[hA];exact hs.append (by simp[AB.sc])
 have g0:∀J:zaa,(A++J)[0]?=some .nodr:=λJ=>by rw[hA,List.append_assoc,List.getElem?_append_left hlt0];exact h0
 have g0':A[0]?=some .nodr:=by have:=g0 [];rwa [List.append_nil]at this
 have gt:∀J:zaa,(A++J)[H.length]?=some (.cells t.cs):=λJ=>by rw[hA];simp
 have gu:∀J:zaa,(A++J)[H.length+1]?=some (.cells v.cs):=λJ=>by rw[hA];simp[List.getElem?_append]
 have gt':A[H.length]?=some (.cells t.cs):=by have:=gt [];rwa [List.append_nil]at this
 have gu':A[H.length+1]?=some (.cells v.cs):=by have:=gu [];rwa [List.append_nil]at this
 rw[←hvx,←hvx2,←hA];have hOA:∀J,Out H.length K (.bool true) (A++J):=λJ=>by rw[hA,List.append_assoc];exact hO _
 have hOA0:Out H.length K (.bool true) A:=by have:=hOA [];rwa [List.append_nil]at this
 refine zNM _ g0' _ ?_;simp[gt',gu'];refine zOB _ v (Nat.le_refl _) hvf _ _ ?_;simp[gt',gu'];rw[zcX];refine ACalls.wk (args':=[.sl (data.map Dat.cs) .none,.sl (VT.css [t]) .none,.int .i64 (wsz v),.sl (ints xs) .none]) ?_ ⟨.atom (.refl _),.atom (.sl _ _),.atom (.refl _),.atom (.refl _),trivial⟩;refine zPk data hl [t] (by simp) (by simp[ht]) (wsz v) xs _ _ λb hb=>?_;cases b with
 |false=>simp;exact hOA0
 |true=>
  obtain⟨hd2,hn9,hx9,hk⟩:=hb rfl;have hF:=zC9 hT hk;by_cases hsm:znv data∧t.nodes≤1000000∧v.nodes≤5000;case neg=>
   simp[gt',gu'];refine zP5 data (zDD hd2 hk hT) v t ht _ _ λb hb5=>?_;cases b with
   |false=>simp;exact hOA0
   |true=>
    have hv5:=hb5 rfl;simp[gu'];refine zBo xs (by omega) _ v (Nat.le_refl _) (by omega) _ _ ?_;cases ho:zcB xs v with
    |false=>simp;exact hOA0
    |true=>
     simp[gt'];refine zqG hF (by omega) hk t ht xs (by omega) (wsz v) (by omega) _ g0' _ (λhe=>?_) (λhe=>?_)
     ·have hb:(zbH data [t] (wsz v) xs != 0)=true:=by simpa using he
      simp[hb];exact hOA0
     ·obtain⟨_,hff,_,_,_,_⟩:=zjK he;obtain⟨hD,hT2⟩:=zoa (hff t (by simp));exact absurd ⟨zCU hD,zGu hT2,hv5⟩ hsm
  obtain⟨hN,htn,hv5⟩:=hsm;have hvn:v.nodes≤1000000:=by omega
  have hwv:wsz v=v.nodes:=zav (by omega) (by omega);rw[hwv]at hn9 ⊢;simp[gt',gu'];refine zP6 data (zDE hd2 hk hN) v t htn _ _ ?_;cases hh:ze3 data v t with
  |false=>simp;exact hOA0
  |true=>
   simp[gu'];refine zBo xs (by omega) _ v (Nat.le_refl _) hvn _ _ ?_;cases ho:zcB xs v with
   |false=>simp;exact hOA0
   |true=>
    simp[gt'];refine zqG hF (by omega) hk t ht xs (by omega) v.nodes (by omega) _ g0' _ (λhe=>?_) (λhe=>?_)
    ·have hb:(zbH data [t] v.nodes xs != 0)=true:=by simpa using he
     simp[hb];exact hOA0
    ·obtain⟨_,hff,_,_,_,_⟩:=zjK he;have hft:=hff t (by simp);have hhv:zat data v t=true:=by unfold ze3 zhD at hh;simp at hh;exact hh.1.2
     have hmem:=zC7 hft hhv ho;have hVp:(zer data t v.nodes xs).Perm (vV data xs t v.nodes):=zpV _;obtain⟨V,hV⟩:∃V,V=zer data t v.nodes xs:=⟨_,rfl⟩;rw[←hV]at hVp ⊢;have hmV:v∈V:=hVp.mem_iff.2 hmem;have hVl:V.length≤1000000:=by
      have h1:=(zjK he).2.2.2.2.2;rw[zt1 _ _ _ (zb2 data xs.length t)]at h1;have h2:=zjh data t v.nodes xs;rw[←hV]at h2;have h3:((v.nodes:Int)).toNat=v.nodes:=by omega
      rw[h3]at h1;omega
     simp;refine zLk (Inv:=λq t50 H'=>∃i:Nat,i≤V.length∧V.length-i=q∧t50=.int .i64 i∧(∀w∈V.take i,w≠v)∧H'=A) V.length ?_ ?_
     ·intro _;exact⟨0,by omega,rfl,rfl,by simp,rfl⟩
     ·rintro q t50 H' ⟨i,hi,rfl,rfl,hne,rfl⟩ hsc hlen hsF Kb hKb;by_cases hlt:i<V.length
      ·obtain⟨x3,y3,z3,hvx3,hx3,hy3,hz3⟩:=zaL V[i];simp[zy3,hlt,hvx3,hx3,hy3,hz3,gu];rw[←hvx3];refine zxO _ v V[i] (Nat.le_refl _) hvn _ _ ?_;by_cases hc:VT.cmp v V[i]=0
       ·simp[hc];exact hOA _
       ·have hcb:(VT.cmp v V[i] == 0)=false:=by simpa using hc
        simp[hcb];rw[wr (by omega)];refine hKb _ _ ⟨V.length-(i+1),by omega,Back.at (J:=[.cells (V[i]).cs]) (H2:=H') rfl (by omega) hAs ?_ ⟨_,rfl,i+1,by omega,rfl,rfl,λw hw=>?_,rfl⟩⟩
        ·simp[zmi,ux,AV.sc,AV.scA,AV.scB,AV.scV,hAl]
        ·rw[List.take_succ_eq_append_getElem hlt]at hw;rcases List.mem_append.1 hw with h | h
         ·exact hne w h
         ·simp at h;rintro rfl;exact hc ((VT.cmp_zero _ _).2 ((zpK _ _).2 h))
      ·obtain rfl:i=V.length:=by omega
       rw[List.take_length]at hne;exact absurd rfl (hne v hmV)
end Go.Proofs.YtaifokkaaahdoaaGreatDoor
namespace Go.Abs
open Go Go.RowKit

def zbz(P:Program):Nat→TypeId→List AV→Prop
 |0,_,_=>False
 | n+1,t,asx=>match P.underlying t with
  |some .bool=>∃b,asx=[.bool b]
  |some (.int k)=>∃m,asx=[.int k m]∧(Lit.int k m).wf=true
  |some .string=>∃s,asx=[.str s]∧s.length≤maxLen
  |some (.slice e)=>∃es,asx=[.sl es .none]∧es.length≤maxLen∧∀c∈es,zbz P n e c
  |some (.struct fs)=>asx.length=P.cellsOf t∧∀f∈fs.toList,zbz P n f.type ((asx.drop f.offset).take (P.cellsOf f.type))
  |_=>False

def zff(P:Program):List Field→Nat→Nat→Bool
 |[],at_,n=>at_ == n
 |f::fs,at_,n=>f.offset == at_ && zff P fs (at_+P.cellsOf f.type) n
def zks(P:Program)(S:List TypeId):Bool:=
 S.all λt=>match P.underlying t with
  |some .bool|some (.int _)|some .string=>P.cellsOf t == 1
  |some (.slice e)=>S.contains e && decide (0<P.cellsOf e) && P.cellsOf t == 1
  |some (.struct fs)=>fs.toList.all (λf=>S.contains f.type) && zff P fs.toList 0 (P.cellsOf t)
  |_=>false

section
variable {Hh:Type} {enc:TypeId×Value→Hh} {P:Program} {w:World} {base:Nat} {spare:Nat→Bool} {held:Bool}

theorem zwV{R:Value→AV→Prop}{cs:List Value}:∀ (fs:List Field) (at_ n:Nat) (T:Field→List AV→Prop),zff P fs at_ n=true→cs.length=n →
  (∀f∈fs,∃asx,All2 R ((cs.drop f.offset).take (P.cellsOf f.type)) asx∧T f asx)→at_≤n →
  ∃asx,All2 R (cs.drop at_) asx∧∀f∈fs,T f ((asx.drop (f.offset-at_)).take (P.cellsOf f.type))∧at_≤f.offset
 |[],at_,n,T,ht,hl,hf,hle=>by simp[zff]at ht;subst ht;refine⟨[],?_,by simp⟩;rw[List.drop_eq_nil_of_le (by omega)];trivial
 |f::fs,at_,n,T,ht,hl,hf,hle=>by
  simp only[zff,Bool.and_eq_true,beq_iff_eq]at ht;obtain⟨h1,h2⟩:=ht;have hbound:∀(fs:List Field) (k n:Nat),zff P fs k n=true→k≤n:=by
   intro fs;induction fs with
   |nil=>intro k n h;simp[zff]at h;omega
   |cons g gs ih=>intro k n h;simp only[zff,Bool.and_eq_true]at h;have:=ih _ _ h.2;omega
  have hb:=hbound fs _ _ h2;obtain⟨as0,ha0,hT0⟩:=hf f (by simp);obtain⟨as1,ha1,hT1⟩:=zwV fs (at_+P.cellsOf f.type) n T h2 hl (λg hg=>hf g (by simp[hg])) hb;have hl0:as0.length=P.cellsOf f.type:=by have:=ha0.length;rw[List.length_take,List.length_drop]at this;omega
  refine⟨as0++as1,?_,?_⟩
  ·have:cs.drop at_=(cs.drop f.offset).take (P.cellsOf f.type)++cs.drop (at_+P.cellsOf f.type):=by rw[h1,←List.drop_drop,List.take_append_drop]
   rw[this];exact ha0.append ha1
  ·intro g hg;rcases List.mem_cons.1 hg with rfl | hg
   ·rw[h1,Nat.sub_self,List.drop_zero,←hl0,List.take_left];exact⟨hT0,Nat.le_refl _⟩
   ·obtain⟨k1,k2⟩:=hT1 g hg;refine⟨?_,by omega⟩;have:(as0++as1).drop (g.offset-at_)=as1.drop (g.offset-(at_+P.cellsOf f.type)):=by rw[List.drop_append,List.drop_eq_nil_of_le (by omega),List.nil_append];congr 1;omega
    rw[this];exact k1

theorem zjp{a:Addr}{n:Nat}{cs:List Value}(h:w.cells? base a n=some cs):cs.length=n∧∀j v,cs[j]?=some v→w.cell? (a.add j)=some v:=by
 unfold World.cells? at h;split at h
 ·have h1:=mapM_some_length h;refine⟨by simpa using h1,λj v hj=>?_⟩;have hjn:j<n:=by have:=(List.getElem?_eq_some_iff.1 hj).1;simp at h1;omega
  have:=mapM_some_get h j j (by simp[hjn]);rw[this];exact hj
 ·cases h

theorem zDM{b o:Nat}{v:Value}(h:w.cell? ⟨b,o,none⟩=some v):o<zcA w b:=by
 unfold World.cell? at h;unfold zcA;split at h
 ·rename_i c t fr hb;simp only[hb];simp at h;exact(Array.getElem?_eq_some_iff.1 h).1
 ·cases h

theorem zw0{S:List TypeId}(hS:zks P S=true):∀ (n:Nat) (t:TypeId) (cs:List Value) (x:DataW Hh × List MemPlace),t∈S→DataW.trod enc P w base spare held n t cs=some x →
  ∃asx,All2 (DRel w (zcA w)) cs asx∧zbz P n t asx:=by
 intro n;induction n with
 |zero=>intro t cs x _ h;simp[DataW.trod]at h
 |succ n ih=>
  intro t cs x ht h;have hp:=List.all_eq_true.1 hS t ht;unfold zbz;cases hu:P.underlying t with
  |none=>simp[hu]at hp
  |some d=>
   rw[hu]at hp;cases d <;> simp only[]at hp <;> try (cases hp;done)
   case bool=>obtain⟨b,rfl,_⟩:=DataW.trod_bool hu h;exact⟨[.bool b],⟨.bool b,trivial⟩,b,rfl⟩
   case int k=>obtain⟨m,rfl,_,hw⟩:=DataW.trod_int hu h;exact⟨[.int k m],⟨.int k m,trivial⟩,m,rfl,hw⟩
   case string=>
    obtain⟨s,rfl,_,hw⟩:=DataW.trod_string hu h;have hs:(⟨s.data.toList.toArray⟩:ByteArray)=s:=by simp
    refine⟨[.str s.data.toList],⟨?_,trivial⟩,s.data.toList,rfl,by rw[Array.length_toList];exact hw⟩;have:=DRel.str (w:=w) (L:=zcA w) s.data.toList;rwa [hs]at this
   case slice e=>
    simp only[Bool.and_eq_true,decide_eq_true_eq]at hp;obtain⟨⟨he,hpos⟩,_⟩:=hp;have he:e∈S:=by simpa using he
    rcases DataW.trod_slice hu h with ⟨rfl,_⟩|⟨a,len,cap,elems,rest,n',hn,rfl,_,hb,hl,hm,hlen,hel,_⟩
    ·exact⟨[.sl [] .none],⟨.slE _ _,trivial⟩,[],rfl,by simp,by simp⟩
    ·obtain rfl:n=n':=by omega
     have hat:∀i,i<len→∃cs asx,w.cells? base (a.add (i*P.cellsOf e)) (P.cellsOf e)=some cs∧All2 (DRel w (zcA w)) cs asx∧zbz P n e asx:=by
      intro i hi;have h1:=hel i hi;rw[List.getElem?_eq_getElem (by omega)]at h1;cases hc:w.cells? base (a.add (i*P.cellsOf e)) (P.cellsOf e) with
      |none=>rw[hc]at h1;cases h1
      |some cs=>rw[hc]at h1;obtain⟨asx,h2,h3⟩:=ih e cs _ he h1;exact⟨cs,asx,rfl,h2,h3⟩
     by_cases h0:len=0
     ·subst h0;exact⟨[.sl [] .none],⟨.slE _ _,trivial⟩,[],rfl,by simp,by simp⟩
     ·-- the address is a plain one
      have hspot:a.spot=none:=by obtain⟨cs,asx,h1,h2,_⟩:=hat 0 (by omega);obtain⟨h3,h4⟩:=zjp h1;have h5:=h4 0 cs[0] (by simp);have:=World.cell?_spot h5;simpa[Addr.add]using this
      obtain⟨b,off,sp⟩:=a;simp only at hspot;subst hspot;obtain⟨f,hf⟩:∃f:Nat→List Value×List AV,∀i,i<len→w.cells? base ((⟨b,off,none⟩:Addr).add (i*P.cellsOf e)) (P.cellsOf e)=some (f i).1∧All2 (DRel w (zcA w)) (f i).1 (f i).2∧zbz P n e (f i).2:=
       Deep.choose_lt (p:=λi (y:List Value × List AV)=>w.cells? base ((⟨b,off,none⟩:Addr).add (i*P.cellsOf e)) (P.cellsOf e)=some y.1∧All2 (DRel w (zcA w)) y.1 y.2∧zbz P n e y.2)
        (λi hi=>by obtain⟨cs,asx,h1,h2,h3⟩:=hat i hi;exact⟨(cs,asx),h1,h2,h3⟩)
      have hcell:∀i,i<len→∀j v,(f i).1[j]?=some v→w.cell? ⟨b,off+i*P.cellsOf e+j,none⟩=some v:=by intro i hi j v hj;have:=(zjp (hf i hi).1).2 j v hj;rw[add_lit,add_lit]at this;exact this
      have hlen2:∀i,i<len→(f i).2.length=P.cellsOf e:=λi hi=>by rw[←(hf i hi).2.1.length];exact(zjp (hf i hi).1).1
      refine⟨[.sl ((List.range len).map λi=>(f i).2) .none],⟨?_,trivial⟩,_,rfl,by simp;omega,?_⟩
      ·have:=DRel.sl (w:=w) (L:=zcA w) b off cap (P.cellsOf e) ((List.range len).map λi=>(f i).2) (λi j=>(f i).1.getD j undef) (by simp;exact h0) (by simpa using hl) ?_ ?_ ?_ ?_
       ·simpa using this
       ·-- the last cell is there
        have hi:len-1<len:=by omega
        have hj:P.cellsOf e-1<(f (len-1)).1.length:=by rw[(zjp (hf _ hi).1).1];omega
        have:=zDM (hcell (len-1) hi (P.cellsOf e-1) _ (List.getElem?_eq_getElem hj));have hmul:(len-1)*P.cellsOf e+P.cellsOf e=len*P.cellsOf e:=by rw[←Nat.succ_mul];congr 1;omega
        simp;omega
       ·intro i hi;simp at hi;simpa using hlen2 i hi
       ·intro i j hi hj;simp at hi hj;have hjl:j<(f i).1.length:=by rw[(hf i hi).2.1.length];exact hj
        simp only[List.getD_eq_getElem?_getD,List.getElem?_eq_getElem hjl,Option.getD_some];exact hcell i hi j _ (List.getElem?_eq_getElem hjl)
       ·intro i j hi hj;simp at hi hj;have hjl:j<(f i).1.length:=by rw[(hf i hi).2.1.length];exact hj
        obtain⟨c,h1,h2⟩:=(hf i hi).2.1.get' (List.getElem?_eq_getElem hjl);simp only[List.getD_eq_getElem?_getD,List.getElem?_eq_getElem hjl,Option.getD_some,List.getElem_map,List.getElem_range];have:(f i).2[j]=c:=by rw[List.getElem?_eq_getElem hj]at h1;exact Option.some.inj h1
        rw[this];exact h2
      ·intro c hc;obtain⟨i,hi,rfl⟩:=List.mem_map.1 hc;exact(hf i (by simpa using hi)).2.2
   case struct fs=>
    simp only[Bool.and_eq_true]at hp;obtain⟨hfs,htile⟩:=hp;obtain⟨xs,n',hn,_,hcl,hxl,hat⟩:=DataW.trod_struct hu h;obtain rfl:n=n':=by omega
    obtain⟨asx,h1,h2⟩:=zwV (P:=P) (R:=DRel w (zcA w)) (cs:=cs) fs.toList 0 (P.cellsOf t) (λf asx=>zbz P n f.type asx) htile hcl (λf hf=>by
     obtain⟨i,hi⟩:=List.mem_iff_getElem?.1 hf;have hi':fs[i]?=some f:=by simpa using hi
     have h3:=hat i f hi';have hlt:i<xs.length:=by rw[hxl];exact(Array.getElem?_eq_some_iff.1 hi').1
     rw[List.getElem?_eq_getElem hlt]at h3;exact ih f.type _ _ (by simpa using List.all_eq_true.1 hfs f hf) h3) (Nat.zero_le _)
    rw[List.drop_zero]at h1;refine⟨asx,h1,by rw[←h1.length];exact hcl,λf hf=>?_⟩;simpa using(h2 f hf).1
end

theorem zv0{Hh:Type}{enc:TypeId×Value→Hh}{P:Program}{w:World}{base:Nat}{spare:Nat→Bool}{held:Bool}{S:List TypeId}(hS:zks P S=true){t:TypeId}(ht:t∈S){cs:Array Value}{d:DataW Hh}{p:List MemPlace}(h:DataW.Trod enc P w base spare held t (.agg cs) d p):∃n asx,zbz P n t asx∧TRel w (G0 w) (.agg cs) (.agg asx):=by
 obtain⟨n,hn⟩:=h;obtain⟨asx,h1,h2⟩:=zw0 hS n t _ _ ht hn;exact⟨n,asx,h2,cs,rfl,h1.mono λ_ _ hd=>ARel.of_b (DRel.toB (G:=G0 w) hd)⟩
theorem zvZ{Hh:Type}{enc:TypeId×Value→Hh}{P:Program}{w:World}{base:Nat}{spare:Nat→Bool}{held:Bool}{S:List TypeId}(hS:zks P S=true){t:TypeId}(ht:t∈S){v:Value}{d:DataW Hh}{p:List MemPlace}(hv:v.cells=#[v])(h:DataW.Trod enc P w base spare held t v d p):∃n a,zbz P n t [a]∧TRel w (G0 w) v a:=by
 obtain⟨n,hn⟩:=h;obtain⟨asx,h1,h2⟩:=zw0 hS n t _ _ ht hn;rw[hv]at h1
 match asx,h1,h2 with
 |[a],h1,h2=>exact⟨n,a,h2,TRel.of_v (VRel.of_a (ARel.of_b (DRel.toB (G:=G0 w) h1.1)))⟩
section
variable {P:Program} {n:Nat} {t:TypeId} {l:List AV}
theorem zgU{k:IntKind}(hu:P.underlying t=some (.int k))(h:zbz P n t l):∃m,l=[.int k m]∧(Lit.int k m).wf=true:=by
 cases n with
 |zero=>exact h.elim
 |succ n=>unfold zbz at h;rw[hu]at h;exact h
theorem zxb(hu:P.underlying t=some .string)(h:zbz P n t l):∃s,l=[.str s]∧s.length≤maxLen:=by
 cases n with
 |zero=>exact h.elim
 |succ n=>unfold zbz at h;rw[hu]at h;exact h
theorem zgV{e:TypeId}(hu:P.underlying t=some (.slice e))(h:zbz P n t l):∃es n',n'<n∧l=[.sl es .none]∧es.length≤maxLen∧∀c∈es,zbz P n' e c:=by
 cases n with
 |zero=>exact h.elim
 |succ n=>unfold zbz at h;rw[hu]at h;obtain⟨es,h1,h2,h3⟩:=h;exact⟨es,n,by omega,h1,h2,h3⟩
theorem zkV{fs:Array Field}(hu:P.underlying t=some (.struct fs))(h:zbz P n t l):∃n',n'<n∧l.length=P.cellsOf t∧∀f∈fs.toList,zbz P n' f.type ((l.drop f.offset).take (P.cellsOf f.type)):=by
 cases n with
 |zero=>exact h.elim
 |succ n=>unfold zbz at h;rw[hu]at h;exact⟨n,by omega,h⟩
theorem zhI{α:Type}{cs:α→List AV}:∀ {es:List (List AV)},(∀ c∈es,∃ x,c=cs x)→∃ xs:List α,es=xs.map cs
 |[],_=>⟨[],rfl⟩
 |e::es,h=>by obtain⟨x,hx⟩:=h e (by simp);obtain⟨xs,hxs⟩:=zhI (es:=es) (λc hc=>h c (by simp[hc]));exact⟨x::xs,by simp[hx,hxs]⟩
end
end Go.Abs
