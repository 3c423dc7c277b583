import Derived.Test.YtaifokkaaahdoaaGreatDoorLI9
import Derived.Test.YtaifokkaaahdoaaGreatDoorLK1
import Derived.Test.YtaifokkaaahdoaaGreatDoorAbsU
import Derived.Deep.Slices
import Derived.DataReads
set_option linter.unusedSectionVars false
set_option linter.unusedSimpArgs false
set_option linter.unusedVariables false
set_option maxRecDepth 8000
namespace Go.Proofs.YtaifokkaaahdoaaGreatDoor
open Go Go.Abs
mutual
def zcu(S:Nat→Prop):VT→Prop
 |.mk k n ks=>k≠9∧(k=5→S n.toNat)∧zbP S ks
def zbP(S:Nat→Prop):List VT→Prop
 |[]=>True
 |v::vs=>zcu S v∧zbP S vs
end
theorem zgq{S:Nat→Prop}:∀ {l:List VT},zbP S l→∀ x∈l,zcu S x
 |[],_,x,hx=>by simp at hx
 |v::vs,h,x,hx=>by
  rw[zbP]at h;rcases List.mem_cons.1 hx with e|hx
  ·rw[e];exact h.1
  ·exact zgq h.2 x hx
mutual
theorem zvb{S S':Nat→Prop}(h:∀ d,S d→S' d):∀ v:VT,zcu S v→zcu S' v
 |.mk k n ks,hv=>by rw[zcu]at hv ⊢;exact⟨hv.1,λe=>h _ (hv.2.1 e),zjC h ks hv.2.2⟩
theorem zjC{S S':Nat→Prop}(h:∀ d,S d→S' d):∀ l:List VT,zbP S l→zbP S' l
 |[],_=>by rw[zbP];trivial
 |v::vs,hv=>by rw[zbP]at hv ⊢;exact⟨zvb h v hv.1,zjC h vs hv.2⟩
end
def zsN(data:List Dat)(S:Nat→Prop):Prop:=∀d:Nat,S d→∀c∈zbq data (d:Int),zbP S c.args
mutual
theorem zvc{S:Nat→Prop}{ks:List VT}(hk:zbP S ks):∀ a:VT,zcu S a→zcu S (subst ks a)
 |.mk k n al,h=>by
  unfold subst;split
  ·rename_i h4;cases hg:ks[n.toNat]? with
   |none=>exact absurd (List.getElem?_eq_none_iff.1 hg) (by omega)
   |some x=>exact zgq hk _ (List.mem_of_getElem? hg)
  ·rw[zcu]at h ⊢;exact⟨h.1,h.2.1,zva hk al h.2.2⟩
theorem zva{S:Nat→Prop}{ks:List VT}(hk:zbP S ks):∀ l:List VT,zbP S l→zbP S (zaS ks l)
 |[],_=>by rw[zaS,zbP];trivial
 |a::l,h=>by rw[zbP]at h;rw[zaS,zbP];exact⟨zvc hk a h.1,zva hk l h.2⟩
end
mutual
def zcA(xs:List Int):VT→Bool
 |.mk k n ks=>if k=3 then xs.contains n else zeo xs ks
def zeo(xs:List Int):List VT→Bool
 |[]=>true
 |v::vs=>zcA xs v && zeo xs vs
end
theorem zuN{data:List Dat}{g:VT→Nat→List VT}:∀ (vs ts:List VT),zbx data vs ts=true→(∀ (i:Nat) (h1:i<vs.length) (h2:i<ts.length),vs[i]∈g ts[i] (vs[i]).nodes)→vs∈lsL g ts (VT.nodesL vs)
 |[],ts,h,_=>by
  rw[zbx]at h;cases ts with
  |nil=>simp[lsL,VT.nodesL]
  |cons t ts=>simp at h
 |v::vs,[],h,_=>by simp[zbx]at h
 |v::vs,t::ts,h,hm=>by
  rw[zbx,Bool.and_eq_true]at h;have h0:=hm 0 (by simp) (by simp);have ih:=zuN vs ts h.2 λi h1 h2=>hm (i+1) (by simp;omega) (by simp;omega);have hp:=v.nodes_pos;refine lsL_cons.2 ⟨v.nodes-1,?_,v,?_,vs,?_,rfl⟩
  ·rw[VT.nodesL];omega
  ·have e:v.nodes-1+1=v.nodes:=by omega
   rw[e];exact h0
  ·have e:VT.nodesL (v::vs)-(v.nodes-1+1)=VT.nodesL vs:=by rw[VT.nodesL];omega
   rw[e];exact ih
theorem zte{g:Nat→List VT}:∀ (vs:List VT),(∀ v∈vs,v∈g v.nodes)→vs∈arL g (VT.nodesL vs)
 |[],_=>by simp[VT.nodesL,zm7]
 |v::vs,hm=>by
  have hp:=v.nodes_pos;have ih:=zte vs λx hx=>hm x (by simp[hx]);have h0:=hm v (by simp);obtain⟨N,hN⟩:∃N,VT.nodesL (v::vs)=N+1:=⟨VT.nodesL (v::vs)-1,by rw[VT.nodesL];omega⟩;rw[hN];have hN':N+1=v.nodes+VT.nodesL vs:=by rw[←hN,VT.nodesL]
  refine arL_iff.2 ⟨v.nodes-1,by omega,v,?_,vs,?_,rfl⟩
  ·have e:v.nodes-1+1=v.nodes:=by omega
   rw[e];exact h0
  ·have e:N+1-(v.nodes-1+1)=VT.nodesL vs:=by omega
   rw[e];exact ih
theorem zoO{xs:List Int}:∀ {l:List VT},zeo xs l=true→∀ v∈l,zcA xs v=true
 |[],_,v,hv=>by simp at hv
 |a::l,h,v,hv=>by
  rw[zeo,Bool.and_eq_true]at h;rcases List.mem_cons.1 hv with e|hv
  ·rw[e];exact h.1
  ·exact zoO h.2 v hv
theorem zFO{data:List Dat}(hD:zaB data=true){xs:List Int}{S:Nat→Prop}(hC:zsN data S):∀(m:Nat) (v t:VT),v.nodes≤m→zaz data 0 t=true→zcu S t→zat data v t=true→zcA xs v=true→v∈vV data xs t v.nodes:=by
 intro m;induction m with
 |zero=>intro v t h;have:=v.nodes_pos;omega
 |succ m ih=>
  intro v t hm htv hn hh ho;obtain⟨vk,vn,vks⟩:=v;obtain⟨k,n,al⟩:=t;have hkids:∀x∈vks,x.nodes≤m:=λx hx=>by obtain⟨i,hi,rfl⟩:=List.mem_iff_getElem.1 hx;have:=VT.kid_lt (k:=vk) (n:=vn) hi;omega
  have hnn:(VT.mk vk vn vks).nodes=VT.nodesL vks+1:=by simp[VT.nodes]
  have hto:=(by simpa[zaz]using htv:(VT.mk k n al).nodes≤200∧zaC data 0 (.mk k n al)=true).2;rw[hnn,zgD];have hkd:(VT.mk k n al).kind=k:=rfl;rw[hkd];rw[zcu]at hn;have fin:∀ (w:Int) (ts:List VT) (kk:Int),(∀ x∈ts,zaz data 0 x=true)→(∀ x∈ts,zcu S x)→zbx data vks ts=true→vk≠3→vn=w→vk=kk →
    VT.mk vk vn vks∈(lsL (vV data xs) ts (VT.nodesL vks)).map λks=>.mk kk w ks:=λw ts kk h1 h2 h3 h4 h5 h6=>by
   subst h5 h6;refine List.mem_map.2 ⟨vks,zuN vks ts h3 λi hi1 hi2=>?_,rfl⟩;rw[zcA,if_neg h4]at ho;exact ih vks[i] ts[i] (hkids _ (List.getElem_mem hi1)) (h1 _ (List.getElem_mem hi2)) (h2 _ (List.getElem_mem hi2)) (zuf h3 i hi1 hi2) (zoO ho _ (List.getElem_mem hi1))
  rcases zpt hto with ⟨rfl,rfl⟩|⟨rfl,rfl⟩|⟨rfl,rfl⟩|rfl|⟨rfl,hk⟩|⟨rfl,hk⟩|⟨rfl,hk⟩|⟨rfl,hk⟩
  ·simp[zat]at hh;obtain⟨⟨⟨rfl,_⟩,_⟩,rfl⟩:=hh;simp[zcA]at ho;simp[VT.nodesL];exact ho
  ·simp[zat]at hh;obtain⟨⟨rfl,h|h⟩,rfl⟩:=hh <;> subst h <;> simp[VT.nodesL]
  ·simp[zat]at hh;obtain⟨⟨rfl,rfl⟩,rfl⟩:=hh;simp[VT.nodesL]
  ·simp[zat]at hh;obtain⟨⟨⟨rfl,h0⟩,h8⟩,hl⟩:=hh;cases hf:zbl data (.mk 5 n al) vn with
   |none=>rw[hf,znx]at hl;cases hl
   |some ts=>
    rw[hf,zny]at hl;have hfv:=ziP hD (zdB htv) hf;obtain⟨_,hn0,hc0,hnl,hcl,_,hts,_⟩:=ziO hf;have hcd:zbq data n=(data[n.toNat]).cons:=by unfold zbq;rw[List.getD_eq_getElem?_getD,List.getElem?_eq_getElem hnl];rfl
    have hSn:=hC n.toNat (hn.2.1 rfl);have hnat:((n.toNat:Nat):Int)=n:=by omega
    rw[hnat,hcd]at hSn;have hNt:∀x∈ts,zcu S x:=λx hx=>by rw[hts]at hx;obtain⟨a,ha,rfl⟩:=List.mem_map.1 hx;exact zvc hn.2.2 a (zgq (hSn _ (List.getElem_mem hcl)) a ha)
    rw[if_neg (by omega),if_neg (by omega),if_neg (by omega),if_neg (by omega)];refine List.mem_flatMap.2 ⟨(vn,ts),?_,fin vn ts _ hfv hNt hl (by omega) rfl rfl⟩;rw[zaR,if_neg (by omega),if_pos rfl];have hvn:((vn.toNat:Nat):Int)=vn:=by omega
    refine List.mem_filterMap.2 ⟨vn.toNat,List.mem_range.2 (by rw[hcd];exact hcl),?_⟩;rw[hvn,hf];rfl
  ·simp[zat]at hh;obtain⟨⟨rfl,rfl⟩,hl⟩:=hh;rw[if_neg (by omega),if_neg (by omega),if_neg (by omega),if_neg (by omega)];refine List.mem_flatMap.2 ⟨(0,al),?_,fin 0 al _ (zd0 htv) (zgq hn.2.2) hl (by omega) rfl rfl⟩;rw[zaR,if_pos (.inl rfl)];simp
  ·simp[zat]at hh;obtain⟨⟨⟨rfl,rfl⟩,_⟩,hl⟩:=hh;rw[if_neg (by omega),if_neg (by omega),if_neg (by omega),if_pos rfl];have ha:zcg (.mk 7 n al)=al.getD 0 (.mk 0 0 []):=rfl;have hmem:al.getD 0 (.mk 0 0 [])∈al:=by rw[List.getD_eq_getElem?_getD,List.getElem?_eq_getElem (show 0<al.length by omega)];exact List.getElem_mem _
   rw[zcA,if_neg (by omega)]at ho;refine List.mem_map.2 ⟨vks,zte vks λv hv=>?_,rfl⟩;rw[ha];exact ih v _ (hkids v hv) (zd0 htv _ hmem) (zgq hn.2.2 _ hmem) (zud (by simpa[List.getD_eq_getElem?_getD]using hl) v hv) (zoO ho v hv)
  ·simp[zat]at hh;obtain⟨⟨rfl,rfl⟩,hl⟩:=hh;rw[if_neg (by omega),if_neg (by omega),if_neg (by omega),if_neg (by omega)];refine List.mem_flatMap.2 ⟨(0,al),?_,fin 0 al _ (zd0 htv) (zgq hn.2.2) hl (by omega) rfl rfl⟩;rw[zaR,if_pos (.inr rfl)];simp
  ·exact absurd rfl hn.1
def inS(s:List Bool)(d:Nat):Prop:=s.getD d false=true
structure Good (data:List Dat) (s s':List Bool):Prop where
 len:s'.length=s.length
 mono:∀d,inS s d→inS s' d
 new:∀d:Nat,inS s' d→¬inS s d→∀c∈zbq data (d:Int),zbP (inS s') c.args
theorem Good.refl(data:List Dat)(s:List Bool):Good data s s:=⟨rfl,λ_ h=>h,λd h h'=>absurd h h'⟩
theorem Good.trans{data:List Dat}{s s1 s2:List Bool}(h:Good data s s1)(h':Good data s1 s2):Good data s s2:=
 ⟨h'.len.trans h.len,λd hd=>h'.mono d (h.mono d hd),λd hd hn c hc=>by
  by_cases h1:inS s1 d
  ·exact zjC h'.mono _ (h.new d h1 hn c hc)
  ·exact h'.new d hd h1 c hc⟩
theorem zfs{s:List Bool}{i:Nat}(hi:i<s.length)(d:Nat):inS (s.set i true) d↔d=i∨inS s d:=by
 unfold inS;rw[List.getD_eq_getElem?_getD,List.getD_eq_getElem?_getD,List.getElem?_set];by_cases e:i=d
 ·subst e;simp[hi]
 ·simp[e,Ne.symm e]
def FoS(data:List Dat)(g:VT→List Bool→Bool×List Bool):Prop:=∀t s,TyIn data t→s.length=data.length→(g t s).1=true→Good data s (g t s).2∧zcu (inS (g t s).2) t
theorem znv{data:List Dat}{g:VT→List Bool→Bool × List Bool}(hg:FoS data g):∀ (ts:List VT) (s:List Bool),(∀ x∈ts,TyIn data x)→s.length=data.length→(foL g ts s).1=true→Good data s (foL g ts s).2∧zbP (inS (foL g ts s).2) ts
 |[],s,_,_,_=>⟨Good.refl data s,by rw[zbP];trivial⟩
 |t::ts,s,ht,hl,h=>by
  rw[foL]at h ⊢;split at h
  ·rename_i h1;rw[if_pos h1];obtain⟨k1,k2⟩:=hg t s (ht t (by simp)) hl h1;obtain⟨k3,k4⟩:=znv hg ts (g t s).2 (λx hx=>ht x (by simp[hx])) (k1.len.trans hl) h;exact⟨k1.trans k3,by rw[zbP];exact⟨zvb k3.mono t k2,k4⟩⟩
  ·cases h
theorem zt0{data:List Dat}{g:VT→List Bool→Bool × List Bool}(hg:FoS data g):∀ (cs:List Con) (s:List Bool),(∀ c∈cs,∀ x∈c.args,TyIn data x)→s.length=data.length→(foC g cs s).1=true→Good data s (foC g cs s).2∧∀ c∈cs,zbP (inS (foC g cs s).2) c.args
 |[],s,_,_,_=>⟨Good.refl data s,by simp⟩
 |c::cs,s,ht,hl,h=>by
  rw[foC]at h ⊢;split at h
  ·rename_i h1;rw[if_pos h1];obtain⟨k1,k2⟩:=znv hg c.args s (ht c (by simp)) hl h1;obtain⟨k3,k4⟩:=zt0 hg cs (foL g c.args s).2 (λx hx=>ht x (by simp[hx])) (k1.len.trans hl) h;refine⟨k1.trans k3,λx hx=>?_⟩;rcases List.mem_cons.1 hx with e | hx
   ·rw[e];exact zjC k3.mono _ k2
   ·exact k4 x hx
  ·cases h
theorem zt2{data:List Dat}(hD:zaB data=true):∀ f,FoS data (fo data f)
 |0,t,s,_,_,h=>by rw[fo]at h;cases h
 |f+1,.mk k n ks,s,ht,hl,h=>by
  have hg:=zt2 hD f;rw[fo]at h ⊢;split at h
  ·cases h
  ·rename_i h9;rw[if_neg h9];split at h
   ·rename_i h1;rw[if_pos h1];have hD1:Good data s (foD (fo data f) data k n s).2∧(k=5→inS (foD (fo data f) data k n s).2 n.toNat):=by
     unfold foD at h1 ⊢;split at h1
     ·rename_i h5;rw[if_pos h5];obtain⟨rfl,h0⟩:=h5;obtain⟨hn0,hnl⟩:=ht.num;have hcd:zbq data n=(data[n.toNat]).cons:=by unfold zbq;rw[List.getD_eq_getElem?_getD,List.getElem?_eq_getElem hnl];rfl
      have hsl:n.toNat<s.length:=by omega
      obtain⟨k1,k2⟩:=zt0 hg (zbq data n) (s.set n.toNat true) (λc hc x hx=>by
       rw[hcd]at hc;exact(zg4 hD hnl c hc).2 x hx) (by simpa using hl) h1
      refine⟨⟨by rw[k1.len];simp,λd hd=>k1.mono d ((zfs hsl d).2 (.inr hd)),λd hd hn c hc=>?_⟩,λ_=>k1.mono _ ((zfs hsl _).2 (.inl rfl))⟩;by_cases e:d=n.toNat
      ·subst e;have:((n.toNat:Nat):Int)=n:=by omega
       rw[this]at hc;exact k2 c hc
      ·exact k1.new d hd (λh=>((zfs hsl d).1 h).elim e hn) c hc
     ·rename_i h5;rw[if_neg h5];refine⟨Good.refl data s,λe=>?_⟩;subst e;unfold inS;cases hb:s.getD n.toNat false with
      |true=>rfl
      |false=>exact absurd ⟨rfl,hb⟩ h5
    obtain⟨k3,k4⟩:=znv hg ks _ (λx hx=>(ht.kid x hx).1) (hD1.1.len.trans hl) h;refine⟨hD1.1.trans k3,?_⟩;rw[zcu];exact⟨h9,λe=>k3.mono _ (hD1.2 e),k4⟩
   ·cases h
theorem zCm{data:List Dat}{t:VT}(h:zb9 data t=true):∃S:Nat→Prop,zsN data S∧zcu S t:=by unfold zb9 at h;rw[Bool.and_eq_true]at h;have hf:=zhb h.1;obtain⟨k1,k2⟩:=zt2 hf.1 3000 t (List.replicate data.length false) (ztU h.1) (by simp) h.2;refine⟨_,λd hd c hc=>k1.new d hd ?_ c hc,k2⟩;unfold inS;simp[List.getD_eq_getElem?_getD,List.getElem?_replicate];split <;> simp
theorem zCl{data:List Dat}{t v:VT}{xs:List Int}(h:zb9 data t=true)(hh:zat data v t=true)(ho:zcA xs v=true):v∈vV data xs t v.nodes:=by obtain⟨S,h1,h2⟩:=zCm h;obtain⟨h3,h4⟩:=zhb (by unfold zb9 at h;rw[Bool.and_eq_true]at h;exact h.1);exact zFO h3 h1 _ v t (Nat.le_refl _) h4 h2 hh ho
def zeT(data:List Dat)(v t:VT):Bool:=zhi data v t && decide (v.nodes≤5000)
theorem zPA(data:List Dat)(hk:zmS data)(v t:VT)(ht:t.nodes≤1000000)(H:zaa)(K:Kt)(hK:K (.bool (zeT data v t)) H):
  ACalls tP zoE [.sl (data.map Dat.cs) .none,.agg v.cs,.agg t.cs] H K:=by
 refine ACalls.out (zPC λhs=>?_);have hO:∀b J,zeT data v t=b→Out H.length K (.bool b) (H++J):=λb J h=>Out.bool rfl (Nat.le_refl _) hs (h ▸ hK);obtain⟨x,y,z,hvx,hx,hy,hz⟩:=zaU v;obtain⟨x2,y2,z2,hvx2,hx2,hy2,hz2⟩:=zaU t;have hkl:=hk.1;simp[zq8,hvx,hvx2,Nat.add_assoc];refine zLt data hk _ _ λb hb=>?_;have hbd:b=zaB data:=by rw[Bool.eq_iff_iff,hb,zCb]
 subst hbd;cases hd:zaB data with
 |false=>simp;exact hO _ _ (by simp[zeT,zhi,zdb,hd])
 |true=>
  simp[Nat.add_assoc];rw[←hvx2];refine zyY data (by omega) 0 t (by omega) _ _ ?_;cases hf:zaz data 0 t with
  |false=>simp;exact hO _ _ (by simp[zeT,zhi,zdb,hf])
  |true=>
   simp[Nat.add_assoc];rw[←hvx];refine zLK _ v (Nat.le_refl _) 5000 (by omega) (by omega) _ (H.length+2) (by simp) _ (λhle=>?_) (λh=>?_)
   ·simp[Nat.add_assoc];have hle':v.nodes≤5000:=by omega
    refine zLR ⟨hd⟩ _ v (Nat.le_refl _) (by omega) t hf _ _ ?_;exact hO _ _ (by simp[zeT,zhi,zdb,hd,hf,hle'])
   ·intro l';simp;have hle':¬ v.nodes≤5000:=by omega
    exact hO _ _ (by simp[zeT,hle'])
theorem zN5:∀(m:Nat) (v:VT),v.nodes≤m→v.nodes≤1000000000→∀(H:zaa) (K:Kt),K (.int .i64 v.nodes) H→ACalls tP zjr [.agg v.cs] H K:=by
 intro m;induction m with
 |zero=>intro v h;have:=v.nodes_pos;omega
 |succ m ih=>
  intro v hm hb H K hK;obtain⟨k,n,ks⟩:=v;have hnn:(VT.mk k n ks).nodes=VT.nodesL ks+1:=by simp[VT.nodes]
  have hll:=VT.len_le ks;refine ACalls.out (zN9 λhs=>?_);simp[zq6,VT.cs,Nat.add_assoc];refine zN7 (Inv:=λq t3 t9 H'=>∃i:Nat,i≤ks.length∧ks.length-i=q∧t9=.int .i64 i∧t3=.int .i64 ((VT.nodesL (ks.take i)+1:Nat):Int)∧H'=H++[.cells [.int .i64 k,.int .i64 n,.sl (VT.css ks) .none]]) ks.length ?_ ?_
  ·intro _;exact⟨0,by omega,rfl,rfl,by simp[VT.nodesL],rfl⟩
  ·rintro q t3 t9 H' ⟨i,hi,rfl,rfl,rfl,rfl⟩ hsc' hlen hsF Kb hKb;have htk:=VT.nodesL_take_le ks i;by_cases hlt:i<ks.length
   ·obtain⟨x,y,z,hvx,hx,hy,hz⟩:=zaU ks[i];have hkn:=VT.kid_lt (k:=k) (n:=n) hlt;have hts:=VT.nodesL_take hlt;have hts2:=VT.nodesL_take_le ks (i+1);simp[zr7,hlt,hvx,hx,hy,hz,wr (n:=i) (by omega),Nat.add_assoc];rw[←hvx];refine ih ks[i] (by omega) (by omega) _ _ ?_;have hw:IntKind.i64.wrap ((VT.nodesL (ks.take i):Int)+(1+(ks[i]).nodes))=((VT.nodesL (ks.take (i+1))+1:Nat):Int):=by rw[zax (by omega) (by omega)];omega
    have hw2:IntKind.i64.wrap ((VT.nodesL (ks.take i):Int)+1+(ks[i]).nodes)=((VT.nodesL (ks.take (i+1))+1:Nat):Int):=by rw[zax (by omega) (by omega)];omega
    simp[hw,hw2];exact hKb _ _ ⟨ks.length-(i+1),by omega,Back.at (J:=[.cells (ks[i]).cs]) (H2:=H++[.cells [.int .i64 k,.int .i64 n,.sl (VT.css ks) .none]]) (by simp) (by simp) (hs.append (by simp[AB.sc,AV.scA,AV.scB])) (by simp[zml,ux,AV.sc,AV.scA,AV.scB,AV.scV]) ⟨_,_,rfl,i+1,by omega,rfl,rfl,rfl,rfl⟩⟩
   ·obtain rfl:i=ks.length:=by omega
    simp[zr7];refine Out.int (J:=_) rfl (Nat.le_refl _) hs ?_;rw[hnn]at hK;simpa using hK
theorem zB0(xs:List Int)(n:Int)(i:Nat)(h:i<xs.length):(xs.take (i+1)).contains n=((xs.take i).contains n || xs[i] == n):=by rw[List.take_succ_eq_append_getElem h,List.contains_eq_any_beq,List.contains_eq_any_beq,List.any_append];simp[Bool.beq_comm]
theorem zDP{xs:List Int}{l:List VT}{i:Nat}(h:i<l.length):zeo xs (l.drop i)=(zcA xs l[i] && zeo xs (l.drop (i+1))):=by rw[List.drop_eq_getElem_cons h,zeo]
theorem zQc(xs:List Int)(hxl:xs.length≤1000000):∀(m:Nat) (v:VT),v.nodes≤m→v.nodes≤1000000→∀(H:zaa) (K:Kt),K (.bool (zcA xs v)) H→ACalls tP zjA [.agg v.cs,.sl (ints xs) .none] H K:=by
 intro m;induction m with
 |zero=>intro v h;have:=v.nodes_pos;omega
 |succ m ih=>
  intro v hm hb H K hK;obtain⟨k,n,ks⟩:=v;have hll:=VT.len_le ks;have hnn:(VT.mk k n ks).nodes=VT.nodesL ks+1:=by simp[VT.nodes]
  refine ACalls.out (zQb λhs=>?_);obtain⟨A,hA⟩:∃A,A=H++[AB.cells [.int .i64 k,.int .i64 n,.sl (VT.css ks) .none]]:=⟨_,rfl⟩;have hAl:A.length=H.length+1:=by rw[hA];simp
  have hAs:HSc A:=by rw[hA];exact hs.snoc (by simp[AB.sc,AV.scA,AV.scB])
  have hg:A[H.length]?=some (.cells [.int .i64 k,.int .i64 n,.sl (VT.css ks) .none]):=by rw[hA];simp
  have hO:∀b J,zcA xs (.mk k n ks)=b→Out H.length K (.bool b) (A++J):=λb J h=>by rw[hA,List.append_assoc];exact Out.bool rfl (Nat.le_refl _) hs (h ▸ hK)
  have hO0:∀b,zcA xs (.mk k n ks)=b→Out H.length K (.bool b) A:=λb h=>by have:=hO b [] h;rwa [List.append_nil]at this
  by_cases h3:k=3
  ·simp[zq9,VT.cs,h3,zdc];subst h3;rw[←hA];rw[zcA,if_pos rfl]at hO0;refine zP8 (Inv:=λq t5 t15 H'=>∃i:Nat,i≤xs.length∧xs.length-i=q∧t15=.int .i64 i∧t5=.bool ((xs.take i).contains n)∧H'=A) xs.length ?_ ?_
   ·intro _;exact⟨0,by omega,rfl,rfl,rfl,rfl⟩
   ·rintro q t5 t15 H' ⟨i,hi,rfl,rfl,rfl,rfl⟩ hsc hlen hsF Kb hKb;by_cases hlt:i<xs.length
    ·have g1:=znG hlt;have e1:xs.getD i 0=xs[i]:=by simp[List.getD_eq_getElem?_getD,hlt]
     rw[e1]at g1;have next:Kb (ziq (.ptr H.length 0) (.bool ((xs.take (i+1)).contains n)) (.sl (ints xs) .none) (.int .i64 xs.length) (.int .i64 (i+1:Nat))) H':=
      hKb _ _ ⟨xs.length-(i+1),by omega,Back.here (Nat.le_refl _) hAs (by simp[ziq,ux,AV.sc,AV.scA,AV.scB,AV.scV,hAl]) ⟨_,_,rfl,i+1,by omega,rfl,rfl,rfl,rfl⟩⟩
     rw[zB0 xs n i hlt]at next
     cases hb1:(xs.take i).contains n with
     |true=>
      rw[hb1]at next
      simp[zmM,hlt,g1,zdc];rw[wr (by omega)];simpa using next
     |false=>
      rw[hb1]at next
      simp[zmM,hlt,g1,zdc,hg];rw[wr (by omega)];simpa using next
    ·obtain rfl:i=xs.length:=by omega
     simp[zmM,zdc];exact hO0 _ (by simp)
  ·have b3:(k == 3)=false:=by simpa using h3
   simp[zq9,VT.cs,b3];rw[←hA];rw[zcA,if_neg h3]at hO hO0;refine zP7 (Inv:=λq t31 H'=>∃i:Nat,i≤ks.length∧ks.length-i=q∧t31=.int .i64 i∧zeo xs (ks.drop i)=zeo xs ks∧H'=A) ks.length ?_ ?_
   ·intro _;exact⟨0,by omega,rfl,rfl,rfl,rfl⟩
   ·rintro q t31 H' ⟨i,hi,rfl,rfl,ho,rfl⟩ hsc hlen hsF Kb hKb;by_cases hlt:i<ks.length
    ·obtain⟨x,y,z,hvx,hx,hy,hz⟩:=zaU ks[i];have hkn:=VT.kid_lt (k:=k) (n:=n) hlt;rw[zDP hlt]at ho;simp[zsM,hlt,hvx,hx,hy,hz];rw[←hvx];refine ih ks[i] (by omega) (by omega) _ _ ?_;cases hb1:zcA xs ks[i] with
     |false=>rw[hb1]at ho;simp;exact hO _ _ (by simpa using ho.symm)
     |true=>rw[hb1,Bool.true_and]at ho;simp;rw[wr (by omega)];refine hKb _ _ ⟨ks.length-(i+1),by omega,Back.at (J:=[.cells (ks[i]).cs]) (H2:=H') rfl (by omega) hAs ?_ ⟨_,rfl,i+1,by omega,rfl,rfl,ho,rfl⟩⟩;simp[zmN,ux,AV.sc,AV.scA,AV.scB,AV.scV,hAl]
    ·obtain rfl:i=ks.length:=by omega
     rw[List.drop_length]at ho;simp[zsM];exact hO0 _ ho.symm
def zmO(data:List Dat):Prop:=∀D∈data,∀c∈D.cons,∀x∈c.args,x.nodes≤1000000
theorem zCN{data:List Dat}(h2:data.length≤2)(hk:Kpt data)(hN:zmO data):zmS data:=
 ⟨by omega,λD hD=>⟨trivial,by have:=(hk D hD).1;omega,λc hc=>⟨trivial,by have:=(hk D hD).2 c hc;omega,hN D hD c hc⟩⟩⟩
theorem zAJ(data:List Dat)(hl:data.length≤9223372036854775807)(hT:∀ D∈data,∀ c∈D.cons,∀ x∈c.args,zbm x)(hN:zmO data)(t:VT)(ht:zbm t)(htn:t.nodes≤1000000)(v:VT)(hvf:zbm v)(hvn:v.nodes≤1000000)(xs:List Int)(H:zaa)(h0:H[0]?=some .nodr)(K:Kt)(hK:K (.bool true) H):
  ACalls tP znZ [.sl (data.map Dat.cs) .none,.agg t.cs,.agg v.cs,.sl (ints xs) .none] H K:=by
 refine ACalls.out (zKD λhs=>?_);have hlt0:0<H.length:=(List.getElem?_eq_some_iff.1 h0).1;have hO:∀J,Out H.length K (.bool true) (H++J):=λJ=>Out.bool rfl (Nat.le_refl _) hs hK;obtain⟨x,y,z,hvx,hx,hy,hz⟩:=zaU t;obtain⟨x2,y2,z2,hvx2,hx2,hy2,hz2⟩:=zaU v;simp only[zq1];simp[hvx,hvx2];obtain⟨A,hA⟩:∃A,A=H++[AB.cells t.cs,AB.cells v.cs]:=⟨_,rfl⟩;have hAl:A.length=H.length+2:=by rw[hA];simp
 have hAs:HSc A:=by rw[hA];exact hs.append (by simp[AB.sc])
 have g0:∀J:zaa,(A++J)[0]?=some .nodr:=λJ=>by rw[hA,List.append_assoc,List.getElem?_append_left hlt0];exact h0
 have g0':A[0]?=some .nodr:=by have:=g0 [];rwa [List.append_nil]at this
 have gt:∀J:zaa,(A++J)[H.length]?=some (.cells t.cs):=λJ=>by rw[hA];simp
 have gu:∀J:zaa,(A++J)[H.length+1]?=some (.cells v.cs):=λJ=>by rw[hA];simp[List.getElem?_append]
 have gt':A[H.length]?=some (.cells t.cs):=by have:=gt [];rwa [List.append_nil]at this
 have gu':A[H.length+1]?=some (.cells v.cs):=by have:=gu [];rwa [List.append_nil]at this
 rw[←hvx,←hvx2,←hA];have hOA:∀J,Out H.length K (.bool true) (A++J):=λJ=>by rw[hA,List.append_assoc];exact hO _
 have hOA0:Out H.length K (.bool true) A:=by have:=hOA [];rwa [List.append_nil]at this
 refine zM9 _ g0' _ ?_;simp[gt',gu'];refine zN5 _ v (Nat.le_refl _) (by omega) _ _ ?_;simp[gt',gu'];rw[zdL];refine ACalls.wk (args':=[.sl (data.map Dat.cs) .none,.sl (VT.css [t]) .none,.int .i64 v.nodes,.sl (ints xs) .none]) ?_ ⟨.atom (.refl _),.atom (.sl _ _),.atom (.refl _),.atom (.refl _),trivial⟩;refine zOP data hl [t] (by simp) (by simp[ht]) v.nodes xs _ _ λb hb=>?_;cases b with
 |false=>simp;exact hOA0
 |true=>
  obtain⟨hd2,hn9,hx9,hk⟩:=hb rfl;have hF:=zCn hT hk;simp[gt',gu'];refine zPA data (zCN hd2 hk hN) v t htn _ _ ?_;cases hh:zeT data v t with
  |false=>simp;exact hOA0
  |true=>
   simp[gu'];refine zQc xs (by omega) _ v (Nat.le_refl _) hvn _ _ ?_;cases ho:zcA xs v with
   |false=>simp;exact hOA0
   |true=>
    simp[gt'];refine zxe hF (by omega) hk t ht xs (by omega) v.nodes (by omega) _ g0' _ (λhe=>?_) (λhe=>?_)
    ·have hb:(zbF data [t] v.nodes xs != 0)=true:=by simpa using he
     simp[hb];exact hOA0
    ·obtain⟨_,hff,_,_,_,_⟩:=znP he;have hft:=hff t (by simp);have hhv:zat data v t=true:=by unfold zeT zhi at hh;simp at hh;exact hh.1.2
     have hmem:=zCl hft hhv ho;have hVp:(zeg data t v.nodes xs).Perm (vV data xs t v.nodes):=zpe _;obtain⟨V,hV⟩:∃V,V=zeg data t v.nodes xs:=⟨_,rfl⟩;rw[←hV]at hVp ⊢;have hmV:v∈V:=hVp.mem_iff.2 hmem;have hVl:V.length≤1000000:=by
      have h1:=(znP he).2.2.2.2.2;rw[ztu _ _ _ (zbW data xs.length t)]at h1;have h2:=zix data t v.nodes xs;rw[←hV]at h2;have h3:((v.nodes:Int)).toNat=v.nodes:=by omega
      rw[h3]at h1;omega
     simp;refine zKB (Inv:=λq t50 H'=>∃i:Nat,i≤V.length∧V.length-i=q∧t50=.int .i64 i∧(∀w∈V.take i,w≠v)∧H'=A) V.length ?_ ?_
     ·intro _;exact⟨0,by omega,rfl,rfl,by simp,rfl⟩
     ·rintro q t50 H' ⟨i,hi,rfl,rfl,hne,rfl⟩ hsc hlen hsF Kb hKb;by_cases hlt:i<V.length
      ·obtain⟨x3,y3,z3,hvx3,hx3,hy3,hz3⟩:=zaU V[i];simp[zyz,hlt,hvx3,hx3,hy3,hz3,gu];rw[←hvx3];refine zxl _ v V[i] (Nat.le_refl _) hvn _ _ ?_;by_cases hc:VT.cmp v V[i]=0
       ·simp[hc];exact hOA _
       ·have hcb:(VT.cmp v V[i] == 0)=false:=by simpa using hc
        simp[hcb];rw[wr (by omega)];refine hKb _ _ ⟨V.length-(i+1),by omega,Back.at (J:=[.cells (V[i]).cs]) (H2:=H') rfl (by omega) hAs ?_ ⟨_,rfl,i+1,by omega,rfl,rfl,λw hw=>?_,rfl⟩⟩
        ·simp[zls,ux,AV.sc,AV.scA,AV.scB,AV.scV,hAl]
        ·rw[List.take_succ_eq_append_getElem hlt]at hw;rcases List.mem_append.1 hw with h | h
         ·exact hne w h
         ·simp at h;rintro rfl;exact hc ((VT.cmp_zero _ _).2 ((zo4 _ _).2 h))
      ·obtain rfl:i=V.length:=by omega
       rw[List.take_length]at hne;exact absurd rfl (hne v hmV)
end Go.Proofs.YtaifokkaaahdoaaGreatDoor
namespace Go.Abs
open Go Go.RowKit

def zcv(P:Program):Nat→TypeId→List AV→Prop
 |0,_,_=>False
 | n+1,t,asx=>match P.underlying t with
  |some .bool=>∃b,asx=[.bool b]
  |some (.int k)=>∃m,asx=[.int k m]∧(Lit.int k m).wf=true
  |some .string=>∃s,asx=[.str s]∧s.length≤maxLen
  |some (.slice e)=>∃es,asx=[.sl es .none]∧es.length≤maxLen∧∀c∈es,zcv P n e c
  |some (.struct fs)=>asx.length=P.cellsOf t∧∀f∈fs.toList,zcv P n f.type ((asx.drop f.offset).take (P.cellsOf f.type))
  |_=>False

def ze4(P:Program):List Field→Nat→Nat→Bool
 |[],at_,n=>at_ == n
 |f::fs,at_,n=>f.offset == at_ && ze4 P fs (at_+P.cellsOf f.type) n
def zgu(P:Program)(S:List TypeId):Bool:=
 S.all λt=>match P.underlying t with
  |some .bool|some (.int _)|some .string=>P.cellsOf t == 1
  |some (.slice e)=>S.contains e && decide (0<P.cellsOf e) && P.cellsOf t == 1
  |some (.struct fs)=>fs.toList.all (λf=>S.contains f.type) && ze4 P fs.toList 0 (P.cellsOf t)
  |_=>false

section
variable {Hh:Type} {enc:TypeId×Value→Hh} {P:Program} {w:World} {base:Nat} {spare:Nat→Bool} {held:Bool}

theorem zpn{R:Value→AV→Prop}{cs:List Value}:∀ (fs:List Field) (at_ n:Nat) (T:Field→List AV→Prop),ze4 P fs at_ n=true→cs.length=n →
  (∀f∈fs,∃asx,All2 R ((cs.drop f.offset).take (P.cellsOf f.type)) asx∧T f asx)→at_≤n →
  ∃asx,All2 R (cs.drop at_) asx∧∀f∈fs,T f ((asx.drop (f.offset-at_)).take (P.cellsOf f.type))∧at_≤f.offset
 |[],at_,n,T,ht,hl,hf,hle=>by simp[ze4]at ht;subst ht;refine⟨[],?_,by simp⟩;rw[List.drop_eq_nil_of_le (by omega)];trivial
 |f::fs,at_,n,T,ht,hl,hf,hle=>by
  simp only[ze4,Bool.and_eq_true,beq_iff_eq]at ht;obtain⟨h1,h2⟩:=ht;have hbound:∀(fs:List Field) (k n:Nat),ze4 P fs k n=true→k≤n:=by
   intro fs;induction fs with
   |nil=>intro k n h;simp[ze4]at h;omega
   |cons g gs ih=>intro k n h;simp only[ze4,Bool.and_eq_true]at h;have:=ih _ _ h.2;omega
  have hb:=hbound fs _ _ h2;obtain⟨as0,ha0,hT0⟩:=hf f (by simp);obtain⟨as1,ha1,hT1⟩:=zpn fs (at_+P.cellsOf f.type) n T h2 hl (λg hg=>hf g (by simp[hg])) hb;have hl0:as0.length=P.cellsOf f.type:=by have:=ha0.length;rw[List.length_take,List.length_drop]at this;omega
  refine⟨as0++as1,?_,?_⟩
  ·have:cs.drop at_=(cs.drop f.offset).take (P.cellsOf f.type)++cs.drop (at_+P.cellsOf f.type):=by rw[h1,←List.drop_drop,List.take_append_drop]
   rw[this];exact ha0.append ha1
  ·intro g hg;rcases List.mem_cons.1 hg with rfl | hg
   ·rw[h1,Nat.sub_self,List.drop_zero,←hl0,List.take_left];exact⟨hT0,Nat.le_refl _⟩
   ·obtain⟨k1,k2⟩:=hT1 g hg;refine⟨?_,by omega⟩;have:(as0++as1).drop (g.offset-at_)=as1.drop (g.offset-(at_+P.cellsOf f.type)):=by rw[List.drop_append,List.drop_eq_nil_of_le (by omega),List.nil_append];congr 1;omega
    rw[this];exact k1

theorem zeO{a:Addr}{n:Nat}{cs:List Value}(h:w.cells? base a n=some cs):cs.length=n∧∀j v,cs[j]?=some v→w.cell? (a.add j)=some v:=by
 unfold World.cells? at h;split at h
 ·have h1:=mapM_some_length h;refine⟨by simpa using h1,λj v hj=>?_⟩;have hjn:j<n:=by have:=(List.getElem?_eq_some_iff.1 hj).1;simp at h1;omega
  have:=mapM_some_get h j j (by simp[hjn]);rw[this];exact hj
 ·cases h

theorem zuF{b o:Nat}{v:Value}(h:w.cell? ⟨b,o,none⟩=some v):o<zbE w b:=by
 unfold World.cell? at h;unfold zbE;split at h
 ·rename_i c t fr hb;simp only[hb];simp at h;exact(Array.getElem?_eq_some_iff.1 h).1
 ·cases h

theorem zFy{S:List TypeId}(hS:zgu P S=true):∀ (n:Nat) (t:TypeId) (cs:List Value) (x:DataW Hh × List MemPlace),t∈S→DataW.trod enc P w base spare held n t cs=some x →
  ∃asx,All2 (DRel w (zbE w)) cs asx∧zcv P n t asx:=by
 intro n;induction n with
 |zero=>intro t cs x _ h;simp[DataW.trod]at h
 |succ n ih=>
  intro t cs x ht h;have hp:=List.all_eq_true.1 hS t ht;unfold zcv;cases hu:P.underlying t with
  |none=>simp[hu]at hp
  |some d=>
   rw[hu]at hp;cases d <;> simp only[]at hp <;> try (cases hp;done)
   case bool=>obtain⟨b,rfl,_⟩:=DataW.trod_bool hu h;exact⟨[.bool b],⟨.bool b,trivial⟩,b,rfl⟩
   case int k=>obtain⟨m,rfl,_,hw⟩:=DataW.trod_int hu h;exact⟨[.int k m],⟨.int k m,trivial⟩,m,rfl,hw⟩
   case string=>
    obtain⟨s,rfl,_,hw⟩:=DataW.trod_string hu h;have hs:(⟨s.data.toList.toArray⟩:ByteArray)=s:=by simp
    refine⟨[.str s.data.toList],⟨?_,trivial⟩,s.data.toList,rfl,by rw[Array.length_toList];exact hw⟩;have:=DRel.str (w:=w) (L:=zbE w) s.data.toList;rwa [hs]at this
   case slice e=>
    simp only[Bool.and_eq_true,decide_eq_true_eq]at hp;obtain⟨⟨he,hpos⟩,_⟩:=hp;have he:e∈S:=by simpa using he
    rcases DataW.trod_slice hu h with ⟨rfl,_⟩|⟨a,len,cap,elems,rest,n',hn,rfl,_,hb,hl,hm,hlen,hel,_⟩
    ·exact⟨[.sl [] .none],⟨.slE _ _,trivial⟩,[],rfl,by simp,by simp⟩
    ·obtain rfl:n=n':=by omega
     have hat:∀i,i<len→∃cs asx,w.cells? base (a.add (i*P.cellsOf e)) (P.cellsOf e)=some cs∧All2 (DRel w (zbE w)) cs asx∧zcv P n e asx:=by
      intro i hi;have h1:=hel i hi;rw[List.getElem?_eq_getElem (by omega)]at h1;cases hc:w.cells? base (a.add (i*P.cellsOf e)) (P.cellsOf e) with
      |none=>rw[hc]at h1;cases h1
      |some cs=>rw[hc]at h1;obtain⟨asx,h2,h3⟩:=ih e cs _ he h1;exact⟨cs,asx,rfl,h2,h3⟩
     by_cases h0:len=0
     ·subst h0;exact⟨[.sl [] .none],⟨.slE _ _,trivial⟩,[],rfl,by simp,by simp⟩
     ·-- the address is a plain one
      have hspot:a.spot=none:=by obtain⟨cs,asx,h1,h2,_⟩:=hat 0 (by omega);obtain⟨h3,h4⟩:=zeO h1;have h5:=h4 0 cs[0] (by simp);have:=World.cell?_spot h5;simpa[Addr.add]using this
      obtain⟨b,off,sp⟩:=a;simp only at hspot;subst hspot;obtain⟨f,hf⟩:∃f:Nat→List Value×List AV,∀i,i<len→w.cells? base ((⟨b,off,none⟩:Addr).add (i*P.cellsOf e)) (P.cellsOf e)=some (f i).1∧All2 (DRel w (zbE w)) (f i).1 (f i).2∧zcv P n e (f i).2:=
       Deep.choose_lt (p:=λi (y:List Value × List AV)=>w.cells? base ((⟨b,off,none⟩:Addr).add (i*P.cellsOf e)) (P.cellsOf e)=some y.1∧All2 (DRel w (zbE w)) y.1 y.2∧zcv P n e y.2)
        (λi hi=>by obtain⟨cs,asx,h1,h2,h3⟩:=hat i hi;exact⟨(cs,asx),h1,h2,h3⟩)
      have hcell:∀i,i<len→∀j v,(f i).1[j]?=some v→w.cell? ⟨b,off+i*P.cellsOf e+j,none⟩=some v:=by intro i hi j v hj;have:=(zeO (hf i hi).1).2 j v hj;rw[add_lit,add_lit]at this;exact this
      have hlen2:∀i,i<len→(f i).2.length=P.cellsOf e:=λi hi=>by rw[←(hf i hi).2.1.length];exact(zeO (hf i hi).1).1
      refine⟨[.sl ((List.range len).map λi=>(f i).2) .none],⟨?_,trivial⟩,_,rfl,by simp;omega,?_⟩
      ·have:=DRel.sl (w:=w) (L:=zbE w) b off cap (P.cellsOf e) ((List.range len).map λi=>(f i).2) (λi j=>(f i).1.getD j undef) (by simp;exact h0) (by simpa using hl) ?_ ?_ ?_ ?_
       ·simpa using this
       ·-- the last cell is there
        have hi:len-1<len:=by omega
        have hj:P.cellsOf e-1<(f (len-1)).1.length:=by rw[(zeO (hf _ hi).1).1];omega
        have:=zuF (hcell (len-1) hi (P.cellsOf e-1) _ (List.getElem?_eq_getElem hj));have hmul:(len-1)*P.cellsOf e+P.cellsOf e=len*P.cellsOf e:=by rw[←Nat.succ_mul];congr 1;omega
        simp;omega
       ·intro i hi;simp at hi;simpa using hlen2 i hi
       ·intro i j hi hj;simp at hi hj;have hjl:j<(f i).1.length:=by rw[(hf i hi).2.1.length];exact hj
        simp only[List.getD_eq_getElem?_getD,List.getElem?_eq_getElem hjl,Option.getD_some];exact hcell i hi j _ (List.getElem?_eq_getElem hjl)
       ·intro i j hi hj;simp at hi hj;have hjl:j<(f i).1.length:=by rw[(hf i hi).2.1.length];exact hj
        obtain⟨c,h1,h2⟩:=(hf i hi).2.1.get' (List.getElem?_eq_getElem hjl);simp only[List.getD_eq_getElem?_getD,List.getElem?_eq_getElem hjl,Option.getD_some,List.getElem_map,List.getElem_range];have:(f i).2[j]=c:=by rw[List.getElem?_eq_getElem hj]at h1;exact Option.some.inj h1
        rw[this];exact h2
      ·intro c hc;obtain⟨i,hi,rfl⟩:=List.mem_map.1 hc;exact(hf i (by simpa using hi)).2.2
   case struct fs=>
    simp only[Bool.and_eq_true]at hp;obtain⟨hfs,htile⟩:=hp;obtain⟨xs,n',hn,_,hcl,hxl,hat⟩:=DataW.trod_struct hu h;obtain rfl:n=n':=by omega
    obtain⟨asx,h1,h2⟩:=zpn (P:=P) (R:=DRel w (zbE w)) (cs:=cs) fs.toList 0 (P.cellsOf t) (λf asx=>zcv P n f.type asx) htile hcl (λf hf=>by
     obtain⟨i,hi⟩:=List.mem_iff_getElem?.1 hf;have hi':fs[i]?=some f:=by simpa using hi
     have h3:=hat i f hi';have hlt:i<xs.length:=by rw[hxl];exact(Array.getElem?_eq_some_iff.1 hi').1
     rw[List.getElem?_eq_getElem hlt]at h3;exact ih f.type _ _ (by simpa using List.all_eq_true.1 hfs f hf) h3) (Nat.zero_le _)
    rw[List.drop_zero]at h1;refine⟨asx,h1,by rw[←h1.length];exact hcl,λf hf=>?_⟩;simpa using(h2 f hf).1
end

theorem zDR{Hh:Type}{enc:TypeId×Value→Hh}{P:Program}{w:World}{base:Nat}{spare:Nat→Bool}{held:Bool}{S:List TypeId}(hS:zgu P S=true){t:TypeId}(ht:t∈S){v:Value}{d:DataW Hh}{p:List MemPlace}(hv:v.cells=#[v])(h:DataW.Trod enc P w base spare held t v d p):∃n a,zcv P n t [a]∧TRel w (G0 w) v a:=by
 obtain⟨n,hn⟩:=h;obtain⟨asx,h1,h2⟩:=zFy hS n t _ _ ht hn;rw[hv]at h1
 match asx,h1,h2 with
 |[a],h1,h2=>exact⟨n,a,h2,TRel.of_v (VRel.of_a (ARel.of_b (DRel.toB (G:=G0 w) h1.1)))⟩
section
variable {P:Program} {n:Nat} {t:TypeId} {l:List AV}
theorem zFG{k:IntKind}(hu:P.underlying t=some (.int k))(h:zcv P n t l):∃m,l=[.int k m]∧(Lit.int k m).wf=true:=by
 cases n with
 |zero=>exact h.elim
 |succ n=>unfold zcv at h;rw[hu]at h;exact h
theorem zFH{e:TypeId}(hu:P.underlying t=some (.slice e))(h:zcv P n t l):∃es n',n'<n∧l=[.sl es .none]∧es.length≤maxLen∧∀c∈es,zcv P n' e c:=by
 cases n with
 |zero=>exact h.elim
 |succ n=>unfold zcv at h;rw[hu]at h;obtain⟨es,h1,h2,h3⟩:=h;exact⟨es,n,by omega,h1,h2,h3⟩
theorem zuI{α:Type}{cs:α→List AV}:∀ {es:List (List AV)},(∀ c∈es,∃ x,c=cs x)→∃ xs:List α,es=xs.map cs
 |[],_=>⟨[],rfl⟩
 |e::es,h=>by obtain⟨x,hx⟩:=h e (by simp);obtain⟨xs,hxs⟩:=zuI (es:=es) (λc hc=>h c (by simp[hc]));exact⟨x::xs,by simp[hx,hxs]⟩
end
end Go.Abs
