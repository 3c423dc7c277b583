import Derived.Test.YtdmamdnkcefmmaaGreatDoorKMF
import Derived.Test.YtdmamdnkcefmmaaGreatDoorKNum
import Derived.Test.YtdmamdnkcefmmaaGreatDoorProg
import Derived.KernelRfl
import Derived.Test.YtdmamdnkcefmmaaGreatDoorAbsQ1
import Derived.Test.YtdmamdnkcefmmaaGreatDoorKME
import Derived.Test.YtdmamdnkcefmmaaGreatDoorKUA
set_option linter.unusedSimpArgs false
set_option linter.unusedVariables false
set_option maxRecDepth 8000
namespace Go.Proofs.YtdmamdnkcefmmaaGreatDoor
open Go Go.Abs
theorem zna {s:List (IT × Nat)} {i:IT} {c:Nat}:∀ p∈zc9 s i c,(∃ q∈s,q.1=p.1∧q.2≤p.2)∨(0<c∧p.1=i∧c≤p.2):=by
 intro p hp
 unfold zc9 at hp
 split at hp
 ·exact .inl ⟨p,hp,rfl,Nat.le_refl _⟩
 ·rename_i hc
  rcases zCb p hp with (h | h) | ⟨q,hq,h⟩
  ·exact .inl ⟨p,h,rfl,Nat.le_refl _⟩
  ·exact .inr ⟨by omega,by rw[h],by rw[h];exact Nat.le_refl _⟩
  ·exact .inl ⟨q,hq,by rw[h],by rw[h];simp⟩
theorem zeS:∀ (l s:List (IT × Nat)),(∀ q∈s,0<q.2)→∀ p∈zb9 s l,0<p.2∧((∃ q∈s,q.1=p.1)∨∃ q∈l,0<q.2∧q.1=p.1)
 | [],s,hs,p,hp=>⟨hs p hp,.inl ⟨p,hp,rfl⟩⟩
 | x::l,s,hs,p,hp=>by
  have hp:p∈zb9 (zc9 s x.1 x.2) l:=hp
  have h1:∀ q∈zc9 s x.1 x.2,0<q.2:=fun q hq=>by
   rcases zna q hq with ⟨r,hr,_,h⟩ | ⟨h,_,h2⟩
   ·have:=hs r hr;omega
   ·omega
  obtain⟨h2,h3⟩:=zeS l _ h1 p hp
  refine⟨h2,?_⟩
  rcases h3 with ⟨q,hq,he⟩ | ⟨q,hq,h4,he⟩
  ·rcases zna q hq with ⟨r,hr,h5,_⟩ | ⟨h5,h6,_⟩
   ·exact .inl ⟨r,hr,by rw[h5,he]⟩
   ·exact .inr ⟨x,by simp,h5,by rw[←he,h6]⟩
  ·exact .inr ⟨q,by simp[hq],h4,he⟩
theorem znS {s:List (IT × Nat)} {p:IT × Nat} (h:p∈s):p.2≤zaJ (fun _=>1) s:=by
 induction s with
 | nil=>simp at h
 | cons q s ih=>
  rw[zcQ]
  rcases List.mem_cons.1 h with rfl | h
  ·omega
  ·have:=ih h;omega
theorem zuZ {s:List (IT × Nat)} (h:∀ p∈s,0<p.2):s.length≤zaJ (fun _=>1) s:=by
 induction s with
 | nil=>simp
 | cons q s ih=>
  have h1:=ih fun p hp=>h p (by simp[hp])
  have h2:=h q (by simp)
  rw[zcQ,List.length_cons];omega
theorem zF6 (f:IT→Nat) (l:List (IT × Nat)) (k:Nat):zaJ f (l.take k)≤zaJ f l:=by
 have h:=zju f (l.take k) (l.drop k)
 rw[List.take_append_drop]at h
 omega
theorem zf2 {data:List Dat} (x:IT) (t:VT):∀ (a:List IT) (ts:List VT) (s:Int),a.length=ts.length→0≤s→0≤rdA data a ts s→rdA data (a++[x]) (ts++[t]) s=if rdV data x t<0∨rdA data a ts s+rdV data x t>6 then -1 else rdA data a ts s+rdV data x t
 | [],[],s,_,hs,_=>by
  have e:rdA data [] [] s=s:=by simp only[rdA]
  rw[e,List.nil_append,List.nil_append]
  simp only[rdA]
 | [],_::_,_,h,_,_=>by simp at h
 | _::_,[],_,h,_,_=>by simp at h
 | v::a,t'::ts,s,h,hs,hr=>by
  simp only[rdA]at hr
  by_cases hc:rdV data v t'<0∨s+rdV data v t'>6
  ·rw[if_pos hc]at hr;omega
  ·rw[if_neg hc]at hr
   have:=zf2 x t a ts (s+rdV data v t') (by simpa using h) (by omega) hr
   simp only[List.cons_append,rdA,if_neg hc]
   exact this
theorem zc0 {data:List Dat}:∀ (a:List IT) (ts:List VT) (s:Int) (k:Nat),a.length=ts.length→0≤s→0≤rdA data a ts s→0≤rdA data (a.take k) (ts.take k) s∧rdA data (a.take k) (ts.take k) s≤rdA data a ts s
 | a,ts,s,0,_,hs,hr=>by
  have:=zo3 a ts s hs hr
  simp only[List.take_zero,rdA];omega
 | [],[],s,k+1,_,hs,hr=>by simp only[List.take_nil,rdA];omega
 | [],_::_,_,_+1,h,_,_=>by simp at h
 | _::_,[],_,_+1,h,_,_=>by simp at h
 | v::a,t::ts,s,k+1,h,hs,hr=>by
  simp only[rdA]at hr
  by_cases hc:rdV data v t<0∨s+rdV data v t>6
  ·rw[if_pos hc]at hr;omega
  ·rw[if_neg hc]at hr
   have:=zc0 a ts (s+rdV data v t) k (by simpa using h) (by omega) hr
   simp only[List.take_succ_cons,rdA,if_neg hc]
   exact this
theorem zjl {data:List Dat} (h8:∀ D∈data,D.cons.length≤8) (t:VT) (a:IT) (l:List IT) (h:0≤rdE data (a::l) t 0):0≤rdE data [a] t 0∧0≤rdE data l t 0∧rdE data (a::l) t 0=rdE data [a] t 0+rdE data l t 0:=by
 have e:[[a],l].flatten=a::l:=by simp
 rw[←e]at h
 obtain⟨h1,h2⟩:=zjk h8 _ _ 0 (by omega) (by omega) h
 rw[e]at h2
 refine⟨h1 [a] (by simp),h1 l (by simp),?_⟩
 rw[h2];simp
theorem zo5 {data:List Dat} (h8:∀ D∈data,D.cons.length≤8) (t:VT) (a:IT) (l:List IT) (h1:0≤rdE data [a] t 0) (h2:0≤rdE data l t 0) (h3:rdE data [a] t 0+rdE data l t 0≤6):rdE data (a::l) t 0=rdE data [a] t 0+rdE data l t 0:=by
 have e:a::l=[a]++l:=rfl
 rw[e,zo4 h8 _ _ _ _ (by omega) (by omega),if_neg (by omega),zji l t _ h1 (by omega),zeR h2 h3]
theorem zEE {data:List Dat} {c:Int} {ks:List IT} {t:VT} {ps:List VT} (h0:0≤c) (h8:c<8) (hp:za6 data t c=some ps) (hl:ps.length=ks.length) (hr:0≤rdA data ks ps 0) (h6:1+rdA data ks ps 0≤6):rdE data [.mk c ks] t 0=1+rdA data ks ps 0:=by
 rw[zec,if_neg (by omega),hp]
 simp only
 rw[if_pos hl,if_neg (by omega)]
 simp only[rdE];omega
theorem zhm {data:List Dat} {c:Int} {ks:List IT} {t:VT} (h:0≤rdE data [.mk c ks] t 0):0≤c∧c<8∧∃ ps,za6 data t c=some ps∧ps.length=ks.length∧0≤rdA data ks ps 0∧rdE data [.mk c ks] t 0=1+rdA data ks ps 0:=by
 rw[zec]at h ⊢
 split at h
 ·omega
 ·rename_i hc
  cases hp:za6 data t c with
  | none=>rw[hp]at h;simp at h
  | some ps=>
   rw[hp]at h
   simp only at h
   by_cases hl:ps.length=ks.length
   ·rw[if_pos hl]at h
    by_cases hx:rdA data ks ps 0<0∨0+1+rdA data ks ps 0>6
    ·rw[if_pos hx]at h;omega
    ·refine⟨by omega,by omega,ps,rfl,hl,by omega,?_⟩
     rw[if_neg hc]
     simp only
     rw[if_pos hl,if_neg hx]
     simp only[rdE];omega
   ·rw[if_neg hl]at h;omega
theorem p3 {a b:Int} (h0:0≤a) (h:a≤b):3 ^ a.toNat≤3 ^ b.toNat:=Nat.pow_le_pow_right (by omega) (by omega)
theorem zoU {a b:Int} (h0:0≤a) (h:0≤b):3 ^ (a+b).toNat=3 ^ a.toNat*3 ^ b.toNat:=by
 rw[show (a+b).toNat=a.toNat+b.toNat by omega,Nat.pow_add]
def zmY (data:List Dat) (f:Nat):Prop:=∀ (t:VT) (i j:IT),i.nodes+j.nodes≤f→0≤rdV data i t→0≤rdV data j t→rdV data i t+rdV data j t≤6 →
 (∀ p∈zbw data f t i j,0<p.2∧0≤rdV data p.1 t∧rdV data p.1 t≤rdV data i t+rdV data j t∧rdV data i t≤rdV data p.1 t∧rdV data j t≤rdV data p.1 t∧p.1.nodes≤i.nodes+j.nodes)∧zaJ (fun _=>1) (zbw data f t i j)≤3 ^ (rdV data i t+rdV data j t).toNat
def zhZ (data:List Dat) (f:Nat):Prop:=∀ (ts:List VT) (l m:List IT),IT.nodesL l+IT.nodesL m+1≤f→l.length=ts.length→m.length=ts.length→0≤rdA data l ts 0→0≤rdA data m ts 0→rdA data l ts 0+rdA data m ts 0≤6 →
 (∀ r∈zcl data f ts l m,0<r.2∧r.1.length=ts.length∧0≤rdA data r.1 ts 0∧rdA data r.1 ts 0≤rdA data l ts 0+rdA data m ts 0∧rdA data l ts 0≤rdA data r.1 ts 0∧rdA data m ts 0≤rdA data r.1 ts 0∧IT.nodesL r.1≤IT.nodesL l+IT.nodesL m) ∧
  zbm (fun _=>1) (zcl data f ts l m)≤3 ^ (rdA data l ts 0+rdA data m ts 0).toNat
def zh0 (data:List Dat) (f:Nat):Prop:=∀ (t:VT) (l m:List IT),IT.nodesL l+IT.nodesL m+1≤f→0≤rdE data l t 0→0≤rdE data m t 0→rdE data l t 0+rdE data m t 0≤6 →
 (∀ p∈za5 data f t l m,0<p.2∧zaQ p.1=0∧0≤rdE data (zaD p.1) t 0∧rdE data (zaD p.1) t 0≤rdE data l t 0+rdE data m t 0∧rdE data l t 0≤rdE data (zaD p.1) t 0∧rdE data m t 0≤rdE data (zaD p.1) t 0∧IT.nodesL (zaD p.1)≤IT.nodesL l+IT.nodesL m) ∧
  zaJ (fun _=>1) (za5 data f t l m)≤3 ^ (rdE data l t 0+rdE data m t 0).toNat
theorem zEN (out:List (List IT × Nat)) (ws:List (IT × Nat)):zbm (fun _=>1) (zdi out ws)=zbm (fun _=>1) out*zaJ (fun _=>1) ws:=zEO _ (fun _=>1) (fun _=>1) ws out (fun r _ w _=>by simp)
theorem zCV {data:List Dat} {f:Nat} (hP:zmY data f):zhZ data (f+1):=by
 intro ts l m hf hl hm hA hB h6
 rw[zil]
 have key:∀ k,k≤ts.length→(∀ r∈zcf data f ts l m k,0<r.2∧0≤rdA data r.1 (ts.take k) 0∧rdA data r.1 (ts.take k) 0≤rdA data (l.take k) (ts.take k) 0+rdA data (m.take k) (ts.take k) 0∧rdA data (l.take k) (ts.take k) 0≤rdA data r.1 (ts.take k) 0∧rdA data (m.take k) (ts.take k) 0≤rdA data r.1 (ts.take k) 0 ∧
   IT.nodesL r.1≤IT.nodesL (l.take k)+IT.nodesL (m.take k))∧zbm (fun _=>1) (zcf data f ts l m k)≤3 ^ (rdA data (l.take k) (ts.take k) 0+rdA data (m.take k) (ts.take k) 0).toNat:=by
  intro k
  induction k with
  | zero=>
   intro _
   refine⟨fun r hr=>?_,by simp[zo8,rdA]⟩
   simp[zo8]at hr
   subst hr
   simp[rdA,IT.nodesL]
  | succ k ih=>
   intro hk
   obtain⟨ih1,ih2⟩:=ih (by omega)
   have h1:k<ts.length:=by omega
   have h3:k<l.length:=by omega
   have h4:k<m.length:=by omega
   have eg:zbw data f (ts.getD k tz) (l.getD k d0) (m.getD k d0)=zbw data f ts[k] l[k] m[k]:=by simp[List.getD_eq_getElem?_getD,h1,h3,h4]
   have a1:=zc0 l ts 0 k hl (by omega) hA
   have a2:=zc0 l ts 0 (k+1) hl (by omega) hA
   have b1:=zc0 m ts 0 k hm (by omega) hB
   have b2:=zc0 m ts 0 (k+1) hm (by omega) hB
   have ea:ts.take (k+1)=ts.take k++[ts[k]]:=List.take_succ_eq_append_getElem h1
   have el:l.take (k+1)=l.take k++[l[k]]:=List.take_succ_eq_append_getElem h3
   have em:m.take (k+1)=m.take k++[m[k]]:=List.take_succ_eq_append_getElem h4
   have sl:=zf2 (data:=data) l[k] ts[k] (l.take k) (ts.take k) 0 (by simp;omega) (by omega) a1.1
   have sm:=zf2 (data:=data) m[k] ts[k] (m.take k) (ts.take k) 0 (by simp;omega) (by omega) b1.1
   rw[←el,←ea]at sl
   rw[←em,←ea]at sm
   by_cases cl:rdV data l[k] ts[k]<0∨rdA data (l.take k) (ts.take k) 0+rdV data l[k] ts[k]>6
   ·rw[if_pos cl]at sl;omega
   ·rw[if_neg cl]at sl
    by_cases cm:rdV data m[k] ts[k]<0∨rdA data (m.take k) (ts.take k) 0+rdV data m[k] ts[k]>6
    ·rw[if_pos cm]at sm;omega
    ·rw[if_neg cm]at sm
     have n1:=zd8 h3
     have n2:=zd8 h4
     obtain⟨hp1,hp2⟩:=hP ts[k] l[k] m[k] (by omega) (by omega) (by omega) (by omega)
     have nl:=IT.nodesL_take h3
     have nm:=IT.nodesL_take h4
     rw[zhn,eg]
     constructor
     ·intro r hr
      obtain⟨q,hq,w,hw,rfl⟩:=zwd hr
      obtain⟨q1,q2,q3,q4,q5,q6⟩:=ih1 q hq
      obtain⟨w1,w2,w3,w4,w5,w6⟩:=hp1 w hw
      have hql:=zv9 k q hq
      have sr:=zf2 (data:=data) w.1 ts[k] q.1 (ts.take k) 0 (by simp;omega) (by omega) q2
      rw[←ea,if_neg (by omega)]at sr
      simp only
      rw[sr,IT.nodesL_app]
      simp only[IT.nodesL]
      exact⟨Nat.mul_pos q1 w1,by omega,by omega,by omega,by omega,by omega⟩
     ·rw[zEN,sl,sm]
      rw[show rdA data (l.take k) (ts.take k) 0+rdV data l[k] ts[k]+(rdA data (m.take k) (ts.take k) 0+rdV data m[k] ts[k])=(rdA data (l.take k) (ts.take k) 0+rdA data (m.take k) (ts.take k) 0)+(rdV data l[k] ts[k]+rdV data m[k] ts[k]) by omega,zoU (by omega) (by omega)]
      exact Nat.mul_le_mul ih2 hp2
 obtain⟨k1,k2⟩:=key ts.length (Nat.le_refl _)
 rw[List.take_length,List.take_of_length_le (l:=l) (by omega),List.take_of_length_le (l:=m) (by omega)]at k1 k2
 exact⟨fun r hr=>by
  obtain⟨q1,q2,q3,q4,q5,q6⟩:=k1 r hr
  exact⟨q1,zv9 _ r hr,q2,q3,q4,q5,q6⟩,k2⟩
theorem zCW {data:List Dat} (h8:∀ D∈data,D.cons.length≤8) {f:Nat} (hQ:zhZ data f) (hR:zh0 data f):zh0 data (f+1):=by
 intro t l m hf hl hm h6
 cases l with
 | nil=>
  have e0:rdE data [] t 0=0:=by simp only[rdE]
  have hN:=p3 (a:=0) (b:=rdE data m t 0) (by omega) (by omega)
  refine⟨fun p hp=>?_,by simp[za5,e0];simpa using hN⟩
  simp[za5]at hp
  subst hp
  simp only[zaQ,zaD,e0,IT.nodesL]
  exact⟨by omega,trivial,hm,by omega,by omega,by omega,by omega⟩
 | cons a l=>
  cases m with
  | nil=>
   have e0:rdE data [] t 0=0:=by simp only[rdE]
   have hN:=p3 (a:=0) (b:=rdE data (a::l) t 0) (by omega) (by omega)
   refine⟨fun p hp=>?_,by simp[za5,e0];simpa using hN⟩
   simp[za5]at hp
   subst hp
   simp only[zaQ,zaD,e0,IT.nodesL]
   exact⟨by omega,trivial,hl,by omega,by omega,by omega,by omega⟩
  | cons b m=>
   have hna:=a.nodes_pos
   have hnb:=b.nodes_pos
   obtain⟨la,ll,el⟩:=zjl h8 t a l hl
   obtain⟨mb,mm,em⟩:=zjl h8 t b m hm
   simp only[IT.nodesL]at hf
   obtain⟨ca,pa⟩:=a
   obtain⟨cb,pb⟩:=b
   obtain⟨ca0,ca8,psa,hpa,hla,hra,ea⟩:=zhm la
   obtain⟨cb0,cb8,psb,hpb,hlb,hrb,eb⟩:=zhm mb
   obtain⟨A1,A2⟩:=hR t l (.mk cb pb::m) (by simp only[IT.nodesL];omega) ll hm (by omega)
   obtain⟨B1,B2⟩:=hR t (.mk ca pa::l) m (by simp only[IT.nodesL];omega) hl mm (by omega)
   obtain⟨C1,C2⟩:=hR t l m (by omega) ll mm (by omega)
   obtain⟨s,hs⟩:∃ s,s=rdE data (.mk ca pa::l) t 0+rdE data (.mk cb pb::m) t 0:=⟨_,rfl⟩
   have n1:zaJ (fun _=>1) (zb9 [] ((za5 data f t l (.mk cb pb::m)).map fun w=>(bef (.mk ca pa) w.1,w.2)))≤3 ^ (s-1).toNat:=by
    rw[zcu,zdz,Nat.zero_add,zjw _ (fun _=>1) (bef (.mk ca pa)) 1 (fun x=>by simp),Nat.one_mul]
    exact Nat.le_trans A2 (p3 (by omega) (by omega))
   have n2:zaJ (fun _=>1) ((za5 data f t (.mk ca pa::l) m).map fun w=>(bef (.mk cb pb) w.1,w.2))≤3 ^ (s-1).toNat:=by
    rw[zjw _ (fun _=>1) (bef (.mk cb pb)) 1 (fun x=>by simp),Nat.one_mul]
    exact Nat.le_trans B2 (p3 (by omega) (by omega))
   have h3s:3 ^ s.toNat=3*3 ^ (s-1).toNat:=by
    rw[show s.toNat=(s-1).toNat+1 by omega,Nat.pow_succ,Nat.mul_comm]
   -- the terms of the three parts
   have t1:∀ w∈za5 data f t l (.mk cb pb::m),0<w.2→zaQ (bef (.mk ca pa) w.1)=0∧0≤rdE data (zaD (bef (.mk ca pa) w.1)) t 0∧rdE data (zaD (bef (.mk ca pa) w.1)) t 0≤s∧rdE data (.mk ca pa::l) t 0≤rdE data (zaD (bef (.mk ca pa) w.1)) t 0∧rdE data (.mk cb pb::m) t 0≤rdE data (zaD (bef (.mk ca pa) w.1)) t 0∧IT.nodesL (zaD (bef (.mk ca pa) w.1))≤IT.nodesL (.mk ca pa::l)+IT.nodesL (.mk cb pb::m):=by
    intro w hw _
    obtain⟨_,_,w2,w3,w4,w5,w6⟩:=A1 w hw
    have ej:=zo5 h8 t (.mk ca pa) (zaD w.1) la w2 (by omega)
    have eb:zaD (bef (.mk ca pa) w.1)=.mk ca pa::zaD w.1:=rfl
    rw[eb]
    simp only[IT.nodesL]at w6 ⊢
    exact⟨rfl,by omega,by omega,by omega,by omega,by omega⟩
   have t2:∀ w∈za5 data f t (.mk ca pa::l) m,0<w.2→zaQ (bef (.mk cb pb) w.1)=0∧0≤rdE data (zaD (bef (.mk cb pb) w.1)) t 0∧rdE data (zaD (bef (.mk cb pb) w.1)) t 0≤s∧rdE data (.mk ca pa::l) t 0≤rdE data (zaD (bef (.mk cb pb) w.1)) t 0∧rdE data (.mk cb pb::m) t 0≤rdE data (zaD (bef (.mk cb pb) w.1)) t 0∧IT.nodesL (zaD (bef (.mk cb pb) w.1))≤IT.nodesL (.mk ca pa::l)+IT.nodesL (.mk cb pb::m):=by
    intro w hw _
    obtain⟨_,_,w2,w3,w4,w5,w6⟩:=B1 w hw
    have ej:=zo5 h8 t (.mk cb pb) (zaD w.1) mb w2 (by omega)
    have eb:zaD (bef (.mk cb pb) w.1)=.mk cb pb::zaD w.1:=rfl
    rw[eb]
    simp only[IT.nodesL]at w6 ⊢
    exact⟨rfl,by omega,by omega,by omega,by omega,by omega⟩
   rw[←hs]
   have emp:∀ q∈([]:List (IT × Nat)),0<q.2:=fun q hq=>by simp at hq
   have g1:=zeS ((za5 data f t l (.mk cb pb::m)).map fun w=>(bef (.mk ca pa) w.1,w.2)) [] emp
   have g2:=zeS ((za5 data f t (.mk ca pa::l) m).map fun w=>(bef (.mk cb pb) w.1,w.2)) (zb9 [] ((za5 data f t l (.mk cb pb::m)).map fun w=>(bef (.mk ca pa) w.1,w.2))) (fun q hq=>(g1 q hq).1)
   have two:∀ p∈zb9 (zb9 [] ((za5 data f t l (.mk cb pb::m)).map fun w=>(bef (.mk ca pa) w.1,w.2))) ((za5 data f t (.mk ca pa::l) m).map fun w=>(bef (.mk cb pb) w.1,w.2)),0<p.2∧zaQ p.1=0∧0≤rdE data (zaD p.1) t 0∧rdE data (zaD p.1) t 0≤s∧rdE data (.mk ca pa::l) t 0≤rdE data (zaD p.1) t 0∧rdE data (.mk cb pb::m) t 0≤rdE data (zaD p.1) t 0∧IT.nodesL (zaD p.1)≤IT.nodesL (.mk ca pa::l)+IT.nodesL (.mk cb pb::m):=by
    intro p hp
    obtain⟨h0,h | h⟩:=g2 p hp
    ·obtain⟨q,hq,he⟩:=h
     obtain⟨_,h | h⟩:=g1 q hq
     ·obtain⟨x,hx,_⟩:=h;simp at hx
     ·obtain⟨x,hx,hx0,hxe⟩:=h
      obtain⟨w,hw,rfl⟩:=List.mem_map.1 hx
      simp only at hxe hx0
      rw[←he,←hxe]
      exact⟨h0,t1 w hw hx0⟩
    ·obtain⟨x,hx,hx0,hxe⟩:=h
     obtain⟨w,hw,rfl⟩:=List.mem_map.1 hx
     simp only at hxe hx0
     rw[←hxe]
     exact⟨h0,t2 w hw hx0⟩
   rw[za5]
   by_cases hab:zaQ (.mk ca pa)=zaQ (.mk cb pb)
   ·rw[if_neg (by simpa using hab)]
    simp only[zaQ]at hab
    subst hab
    rw[hpa]at hpb
    cases hpb
    obtain⟨Q1,Q2⟩:=hQ psa pa pb (by simp only[IT.nodes]at hf;omega) hla.symm hlb.symm hra hrb (by omega)
    have t3:∀ r∈zcl data f psa pa pb,∀ w∈za5 data f t l m,zaQ (bef (.mk ca r.1) w.1)=0∧0≤rdE data (zaD (bef (.mk ca r.1) w.1)) t 0∧rdE data (zaD (bef (.mk ca r.1) w.1)) t 0≤s∧rdE data (.mk ca pa::l) t 0≤rdE data (zaD (bef (.mk ca r.1) w.1)) t 0∧rdE data (.mk ca pb::m) t 0≤rdE data (zaD (bef (.mk ca r.1) w.1)) t 0∧IT.nodesL (zaD (bef (.mk ca r.1) w.1))≤IT.nodesL (.mk ca pa::l)+IT.nodesL (.mk ca pb::m):=by
     intro r hr w hw
     obtain⟨_,r1,r2,r3,r4,r5,r6⟩:=Q1 r hr
     obtain⟨_,_,w2,w3,w4,w5,w6⟩:=C1 w hw
     have eo:=zEE ca0 ca8 hpa r1.symm r2 (by omega)
     have ej:=zo5 h8 t (.mk ca r.1) (zaD w.1) (by omega) w2 (by omega)
     have eb:zaD (bef (.mk ca r.1) w.1)=.mk ca r.1::zaD w.1:=rfl
     rw[eb]
     simp only[IT.nodesL,IT.nodes]at w6 ⊢
     exact⟨rfl,by omega,by omega,by omega,by omega,by omega⟩
    simp only[zaQ,zaD,hpa,Option.getD_some]
    have g3:=zeS ((zcl data f psa pa pb).flatMap fun r=>(za5 data f t l m).map fun w=>(bef (.mk ca r.1) w.1,r.2*w.2)) _ (fun q hq=>(g2 q hq).1)
    constructor
    ·intro p hp
     obtain⟨h0,h | h⟩:=g3 p hp
     ·obtain⟨q,hq,he⟩:=h
      have:=(two q hq).2
      rw[he]at this
      exact⟨h0,this⟩
     ·obtain⟨x,hx,_,hxe⟩:=h
      obtain⟨r,hr,hx⟩:=List.mem_flatMap.1 hx
      obtain⟨w,hw,rfl⟩:=List.mem_map.1 hx
      simp only at hxe
      rw[←hxe]
      exact⟨h0,t3 r hr w hw⟩
    ·rw[zcu,zcu]
     have n3:zaJ (fun _=>1) ((zcl data f psa pa pb).flatMap fun r=>(za5 data f t l m).map fun w=>(bef (.mk ca r.1) w.1,r.2*w.2))=zbm (fun _=>1) (zcl data f psa pa pb)*zaJ (fun _=>1) (za5 data f t l m):=by
      generalize zcl data f psa pa pb=R
      induction R with
      | nil=>simp
      | cons r R ih=>
       rw[List.flatMap_cons,zju,ih,zwN,zjw _ (fun _=>1) (bef (.mk ca r.1)) 1 (fun x=>by simp),zhv,Nat.add_mul]
       simp
     have n4:zbm (fun _=>1) (zcl data f psa pa pb)*zaJ (fun _=>1) (za5 data f t l m)≤3 ^ (s-1).toNat:=by
      refine Nat.le_trans (Nat.mul_le_mul Q2 C2) ?_
      rw[←zoU (by omega) (by omega)]
      exact p3 (by omega) (by omega)
     rw[n3,h3s]
     omega
   ·rw[if_pos (by simpa using hab)]
    refine⟨two,?_⟩
    rw[zcu,h3s]
    omega
theorem ztQ:∀ a,a<7→∀ b,b<7→a+b≤6→zpp (a+b+1) (fun k=>pcf a b k)≤3 ^ (a+b):=by decide +kernel
theorem zEt:∀ a,a<7→∀ b,b<7→∀ k,k<13→0<pcf a b k→a≤k∧b≤k:=by
 intro a _ b _ k _ h
 unfold pcf at h
 split at h
 ·omega
 ·omega
theorem zCU {data:List Dat} (h8:∀ D∈data,D.cons.length≤8) {f:Nat} (hQ:zhZ data f) (hR:zh0 data f):zmY data (f+1):=by
 intro t i j hf hi hj h6
 obtain⟨k,tn,tks⟩:=t
 obtain⟨n,l⟩:=i
 obtain⟨n',m⟩:=j
 simp only[IT.nodes]at hf
 have emp:∀ q∈([]:List (IT × Nat)),0<q.2:=fun q hq=>by simp at hq
 rw[zbw]
 by_cases k6:k=6
 ·subst k6
  have ev:∀ (n:Int) (l:List IT),0≤rdV data (.mk n l) (.mk 6 tn tks)→n=0∧l.length=tks.length∧rdV data (.mk n l) (.mk 6 tn tks)=rdA data l tks 0:=fun n l h=>by
   rw[rdV]at h ⊢
   simp only[VT.kind,VT.kids,if_true]at h ⊢
   by_cases hn:n=0
   ·by_cases hl:tks.length=l.length
    ·simp[hn,hl]
    ·simp[hn,hl]at h
   ·simp[hn]at h
  have ev2:∀ l:List IT,l.length=tks.length→rdV data (.mk 0 l) (.mk 6 tn tks)=rdA data l tks 0:=fun l h=>by
   rw[rdV];simp[VT.kind,VT.kids,h]
  obtain⟨i1,i2,i3⟩:=ev n l hi
  obtain⟨j1,j2,j3⟩:=ev n' m hj
  rw[i3]at hi h6 ⊢
  rw[j3]at hj h6 ⊢
  obtain⟨Q1,Q2⟩:=hQ tks l m (by omega) i2 j2 hi hj h6
  simp only[VT.kind,VT.kids,if_true,zaD,IT.nodes]
  constructor
  ·intro p hp
   obtain⟨h0,h | h⟩:=zeS _ _ emp p hp
   ·obtain⟨x,hx,_⟩:=h;simp at hx
   ·obtain⟨x,hx,_,hxe⟩:=h
    obtain⟨r,hr,rfl⟩:=List.mem_map.1 hx
    simp only at hxe
    obtain⟨_,r1,r2,r3,r4,r5,r6⟩:=Q1 r hr
    rw[←hxe,ev2 r.1 r1]
    simp only[IT.nodes]
    exact⟨h0,r2,r3,r4,r5,by omega⟩
  ·rw[zcu,zdz,Nat.zero_add,zjv]
   exact Q2
 ·by_cases k7:k=7
  ·subst k7
   have ev:∀ (n:Int) (l:List IT),0≤rdV data (.mk n l) (.mk 7 tn tks)→0≤n∧n≤6∧rdV data (.mk n l) (.mk 7 tn tks)=n:=fun n l h=>by
    rw[rdV]at h ⊢
    simp only[VT.kind,k6,if_false,if_true]at h ⊢
    by_cases hc:0≤n∧n≤6∧l.length=0
    ·rw[if_pos hc];exact⟨hc.1,hc.2.1,rfl⟩
    ·rw[if_neg hc]at h;omega
   obtain⟨i1,i2,i3⟩:=ev n l hi
   obtain⟨j1,j2,j3⟩:=ev n' m hj
   rw[i3]at hi h6 ⊢
   rw[j3]at hj h6 ⊢
   obtain⟨a,rfl⟩:∃ a:Nat,n=a:=⟨n.toNat,by omega⟩
   obtain⟨b,rfl⟩:∃ b:Nat,n'=b:=⟨n'.toNat,by omega⟩
   simp only[VT.kind,k6,if_false,if_true,zaQ,IT.nodes,Int.toNat_natCast]
   constructor
   ·intro p hp
    obtain⟨h0,h | h⟩:=zeS _ _ emp p hp
    ·obtain⟨x,hx,_⟩:=h;simp at hx
    ·obtain⟨x,hx,hx0,hxe⟩:=h
     obtain⟨q,hq,rfl⟩:=List.mem_map.1 hx
     rw[List.mem_range]at hq
     simp only at hx0 hxe
     obtain⟨q1,q2⟩:=zEt a (by omega) b (by omega) q (by omega) hx0
     have e:rdV data (.mk (q:Int) []) (.mk 7 tn tks)=q:=by
      rw[rdV]
      simp only[VT.kind,k6,if_false,if_true]
      rw[if_pos ⟨by omega,by omega,rfl⟩]
     rw[←hxe,e]
     simp only[IT.nodes,IT.nodesL]
     exact⟨h0,by omega,by omega,by omega,by omega,by omega⟩
   ·rw[zcu,zdz,Nat.zero_add,zbH,zjv]
    have:=ztQ a (by omega) b (by omega) (by omega)
    unfold zpp at this
    rw[show ((a:Int)+(b:Int)).toNat=a+b by omega]
    simpa using this
  ·by_cases k5:k=5
   ·subst k5
    have ev:∀ (n:Int) (l:List IT),0≤rdV data (.mk n l) (.mk 5 tn tks)→n=0∧l.length≤6∧rdV data (.mk n l) (.mk 5 tn tks)=rdE data l (.mk 5 tn tks) 0:=fun n l h=>by
     rw[zjm]at h ⊢
     by_cases hc:n=0∧l.length≤6
     ·rw[if_pos hc];exact⟨hc.1,hc.2,rfl⟩
     ·rw[if_neg hc]at h;omega
    obtain⟨i1,i2,i3⟩:=ev n l hi
    obtain⟨j1,j2,j3⟩:=ev n' m hj
    rw[i3]at hi h6 ⊢
    rw[j3]at hj h6 ⊢
    obtain⟨R1,R2⟩:=hR (.mk 5 tn tks) l m (by omega) hi hj h6
    simp only[VT.kind,k6,k7,if_false,if_true,zaD,IT.nodes]
    constructor
    ·intro p hp
     obtain⟨h0,h | h⟩:=zeS _ _ emp p hp
     ·obtain⟨x,hx,_⟩:=h;simp at hx
     ·obtain⟨x,hx,hx0,hxe⟩:=h
      obtain⟨_,r1,r2,r3,r4,r5,r6⟩:=R1 x hx
      rw[←hxe]
      obtain⟨⟨xn,xk⟩,xc⟩:=x
      simp only[zaQ,zaD]at r1 r2 r3 r4 r5 r6 ⊢
      subst r1
      have hge:=zjj (data:=data) xk (.mk 5 tn tks) 0 (by omega)
      have e:rdV data (.mk 0 xk) (.mk 5 tn tks)=rdE data xk (.mk 5 tn tks) 0:=by rw[zjm,if_pos ⟨rfl,by omega⟩]
      rw[e]
      simp only[IT.nodes]
      exact⟨h0,r2,r3,r4,r5,by omega⟩
    ·rw[zcu,zdz,Nat.zero_add]
     exact R2
   ·have ev:∀ (n:Int) (l:List IT),0≤rdV data (.mk n l) (.mk k tn tks)→rdV data (.mk n l) (.mk k tn tks)=0:=fun n l h=>by
     rw[rdV]at h ⊢
     simp only[VT.kind,k6,k7,k5,if_false]at h ⊢
     by_cases hc:n=0∧l.length=0
     ·rw[if_pos hc]
     ·rw[if_neg hc]at h;omega
    rw[ev n l hi,ev n' m hj]
    simp only[VT.kind,k6,k7,k5,if_false]
    refine⟨fun p hp=>?_,by simp⟩
    simp at hp
    subst hp
    have e:rdV data (.mk 0 []) (.mk k tn tks)=0:=by rw[rdV];simp[VT.kind,k6,k7,k5]
    rw[e]
    simp only[IT.nodes,IT.nodesL]
    exact⟨by omega,by omega,by omega,by omega,by omega,by omega⟩
theorem zd4 {data:List Dat} (h8:∀ D∈data,D.cons.length≤8):∀ f,zmY data f∧zhZ data f∧zh0 data f
 | 0=>⟨fun t i j h=>by have:=i.nodes_pos;omega,fun ts l m h=>by omega,fun t l m h=>by omega⟩
 | f+1=>by
  obtain⟨h1,h2,h3⟩:=zd4 h8 f
  exact⟨zCU h8 h2 h3,zCV h1,zCW h8 h2 h3⟩
def zbM (out:List (List IT × Nat)) (ws:List (IT × Nat)):List (List IT × Nat):=out.flatMap fun r=>ws.map fun w=>(r.1++[w.1],r.2*w.2)
mutual
def za9 (data:List Dat):Nat→VT→IT→IT→List (IT × Nat)
 | 0,_,_,_=>[]
 | f+1,t,i,j=>if t.kind=6 then (zcg data f t.kids (zaD i) (zaD j)).map fun r=>(.mk 0 r.1,r.2)
  else if t.kind=7 then (zbH (zaQ i).toNat (zaQ j).toNat).filter fun p=>p.2 != 0
  else if t.kind=5 then (zaX data f t (zaD i) (zaD j)).map fun r=>(.mk 0 r.1,r.2) else [(.mk 0 [],1)]
def zcg (data:List Dat):Nat→List VT→List IT→List IT→List (List IT × Nat)
 | 0,_,_,_=>[]
 | f+1,ts,l,m=>(List.range ts.length).foldl (fun out k=>zbM out (za9 data f (ts.getD k tz) (l.getD k d0) (m.getD k d0))) [([],1)]
def zaX (data:List Dat):Nat→VT→List IT→List IT→List (List IT × Nat)
 | 0,_,_,_=>[]
 | f+1,t,[],m=>[(m,1)]
 | f+1,t,a::l,[]=>[(a::l,1)]
 | f+1,t,a::l,b::m=>
  (zaX data f t l (b::m)).map (fun r=>(a::r.1,r.2))++(zaX data f t (a::l) m).map (fun r=>(b::r.1,r.2)) ++
   if zaQ a=zaQ b then (zcg data f ((za6 data t (zaQ a)).getD []) (zaD a) (zaD b)).flatMap fun r=>(zaX data f t l m).map fun x=>(.mk (zaQ a) r.1::x.1,r.2*x.2) else []
end
def zaA {α:Type} (g:α→Nat) (s:List (α × Nat)):Nat:=(s.map fun p=>p.2*g p.1).foldr (·+·) 0
theorem zc1 (g:IT→Nat) (s:List (IT × Nat)):zaJ g s=zaA g s:=rfl
theorem zfi (g:List IT→Nat) (s:List (List IT × Nat)):zbm g s=zaA g s:=rfl
section
variable {α β γ:Type}
@[simp] theorem zpo (g:α→Nat):zaA g []=0:=rfl
@[simp] theorem za7 (g:α→Nat) (p:α × Nat) (s:List (α × Nat)):zaA g (p::s)=p.2*g p.1+zaA g s:=rfl
theorem zwP (g:α→Nat):∀ a b:List (α × Nat),zaA g (a++b)=zaA g a+zaA g b
 | [],b=>by simp
 | p::a,b=>by rw[List.cons_append,za7,za7,zwP g a b];omega
theorem zfj (g:β→Nat) (h:α→β):∀ s:List (α × Nat),zaA g (s.map fun p=>(h p.1,p.2))=zaA (fun x=>g (h x)) s
 | []=>rfl
 | p::s=>by rw[List.map_cons,za7,za7,zfj g h s]
theorem zwR (g:β→Nat) (h:α→β) (c:Nat):∀ s:List (α × Nat),zaA g (s.map fun p=>(h p.1,c*p.2))=c*zaA (fun x=>g (h x)) s
 | []=>rfl
 | p::s=>by rw[List.map_cons,za7,za7,zwR g h c s,Nat.mul_add,Nat.mul_assoc]
theorem zht (g:γ→Nat) (h:α→β→γ) (ws:List (β × Nat)):∀ s:List (α × Nat),zaA g (s.flatMap fun r=>ws.map fun w=>(h r.1 w.1,r.2*w.2))=zaA (fun a=>zaA (fun b=>g (h a b)) ws) s
 | []=>rfl
 | p::s=>by rw[List.flatMap_cons,zwP,za7,zht g h ws s,zwR g (h p.1)]
theorem zwO (g1 g2:α→Nat):∀ s:List (α × Nat),zaA (fun x=>g1 x+g2 x) s=zaA g1 s+zaA g2 s
 | []=>rfl
 | p::s=>by rw[za7,za7,za7,zwO g1 g2 s,Nat.mul_add];omega
theorem zwQ (c:Nat) (g:α→Nat):∀ s:List (α × Nat),zaA (fun x=>c*g x) s=c*zaA g s
 | []=>by simp
 | p::s=>by rw[za7,za7,zwQ c g s,Nat.mul_add,Nat.mul_left_comm]
theorem zwT:∀ s:List (α × Nat),zaA (fun _=>0) s=0
 | []=>rfl
 | p::s=>by rw[za7,zwT s];rfl
theorem zwS (h:α→β→Nat) (ws:List (β × Nat)):∀ s:List (α × Nat),zaA (fun a=>zaA (fun b=>h a b) ws) s=zaA (fun b=>zaA (fun a=>h a b) s) ws
 | []=>by simp[zwT]
 | p::s=>by
  rw[za7,zwS h ws s]
  have:(fun b=>zaA (fun a=>h a b) (p::s))=fun b=>p.2*h p.1 b+zaA (fun a=>h a b) s:=by funext b;rw[za7]
  rw[this,zwO,zwQ]
theorem zpn (g:α→Nat):∀ s:List (α × Nat),zaA g (s.filter fun p=>p.2 != 0)=zaA g s
 | []=>rfl
 | p::s=>by
  rw[List.filter_cons]
  by_cases h:p.2=0
  ·simp[h,zpn g s]
  ·simp[h,zpn g s]
end
def zto (data:List Dat) (f:Nat):Prop:=∀ (t:VT) (i j:IT) (g:IT→Nat),zaJ g (za9 data f t i j)=zaJ g (zbw data f t i j)
def zBR (data:List Dat) (f:Nat):Prop:=∀ (ts:List VT) (l m:List IT) (g:List IT→Nat),zbm g (zcg data f ts l m)=zbm g (zcl data f ts l m)
def zBQ (data:List Dat) (f:Nat):Prop:=∀ (t:VT) (l m:List IT) (g:IT→Nat),zbm (fun x=>g (.mk 0 x)) (zaX data f t l m)=zaJ g (za5 data f t l m)
theorem zpd (g:List IT→Nat) (out:List (List IT × Nat)) (ws:List (IT × Nat)):zbm g (zdi out ws)=zaA (fun x=>zaA (fun l=>g (l++[x])) out) ws:=by
 have h:zdi out ws=ws.flatMap fun w=>out.map fun r=>(r.1++[w.1],w.2*r.2):=by
  unfold zdi;congr 1;funext w;congr 1;funext r;rw[Nat.mul_comm]
 rw[h,zfi]
 exact zht g (fun x l=>l++[x]) out ws
theorem zFY (g:List IT→Nat) (out:List (List IT × Nat)) (ws:List (IT × Nat)):zbm g (zbM out ws)=zbm g (zdi out ws):=by
 rw[zpd,zfi]
 unfold zbM
 rw[zht g (fun l x=>l++[x]) ws out,zwS]
def zch (data:List Dat) (f:Nat) (ts:List VT) (l m:List IT) (k:Nat):List (List IT × Nat):=(List.range k).foldl (fun out k=>zbM out (za9 data f (ts.getD k tz) (l.getD k d0) (m.getD k d0))) [([],1)]
theorem zpb (data:List Dat) (f:Nat) (ts:List VT) (l m:List IT):zch data f ts l m 0=[([],1)]:=rfl
theorem zjo (data:List Dat) (f:Nat) (ts:List VT) (l m:List IT) (k:Nat):zch data f ts l m (k+1)=zbM (zch data f ts l m k) (za9 data f (ts.getD k tz) (l.getD k d0) (m.getD k d0)):=by
 rw[zch,List.range_succ,List.foldl_append];rfl
theorem zjp (data:List Dat) (f:Nat) (ts:List VT) (l m:List IT):zcg data (f+1) ts l m=zch data f ts l m ts.length:=by rw[zcg];rfl
theorem zpa {data:List Dat} {f:Nat} (hP:zto data f) (ts:List VT) (l m:List IT):∀ (k:Nat) (g:List IT→Nat),zbm g (zch data f ts l m k)=zbm g (zcf data f ts l m k)
 | 0,g=>rfl
 | k+1,g=>by
  rw[zjo,zhn,zFY,zpd,zpd]
  have h1:∀ x,zaA (fun l=>g (l++[x])) (zch data f ts l m k)=zaA (fun l=>g (l++[x])) (zcf data f ts l m k):=fun x=>zpa hP ts l m k fun l=>g (l++[x])
  simp only[h1]
  exact hP (ts.getD k tz) (l.getD k d0) (m.getD k d0) fun x=>zaA (fun l=>g (l++[x])) (zcf data f ts l m k)
theorem zfl (data:List Dat):∀ f,zto data f∧zBR data f∧zBQ data f
 | 0=>⟨fun t i j g=>by rw[za9,zbw],fun ts l m g=>by rw[zcg,zcl],fun t l m g=>by rw[zaX,za5];rfl⟩
 | f+1=>by
  obtain⟨hP,hQ,hM⟩:=zfl data f
  refine⟨fun t i j g=>?_,fun ts l m g=>?_,fun t l m g=>?_⟩
  ·rw[za9,zbw]
   by_cases k6:t.kind=6
   ·simp only[k6,if_true]
    rw[zcu,zdz,Nat.zero_add,zc1,zc1,zfj g (fun l=>IT.mk 0 l),zfj g (fun l=>IT.mk 0 l)]
    exact hQ t.kids (zaD i) (zaD j) fun l=>g (.mk 0 l)
   ·by_cases k7:t.kind=7
    ·simp only[k7,if_true,if_neg (show ¬ (7:Int)=6 by omega)]
     rw[zcu,zdz,Nat.zero_add,zc1,zc1,zpn]
    ·by_cases k5:t.kind=5
     ·simp only[k5,if_true,if_neg (show ¬ (5:Int)=6 by omega),if_neg (show ¬ (5:Int)=7 by omega)]
      rw[zcu,zdz,Nat.zero_add,zc1,zfj g (fun l=>IT.mk 0 l)]
      exact hM _ _ _ _
     ·simp only[k6,k7,k5,if_false]
  ·rw[zjp,zil];exact zpa hP ts l m _ g
  ·cases l with
   | nil=>rw[zaX,za5];rfl
   | cons a l=>
    cases m with
    | nil=>rw[zaX,za5];rfl
    | cons b m=>
     have e1:=hM t l (b::m) fun i=>g (bef a i)
     have e2:=hM t (a::l) m fun i=>g (bef b i)
     rw[zaX,za5]
     have h1:∀ (c:IT) (s:List (List IT × Nat)),zbm (fun x=>g (.mk 0 x)) (s.map fun r=>(c::r.1,r.2))=zbm (fun x=>g (bef c (.mk 0 x))) s:=fun c s=>zfj (fun x=>g (.mk 0 x)) (fun x=>c::x) s
     have h2:∀ (c:IT) (s:List (IT × Nat)),zaJ g (s.map fun w=>(bef c w.1,w.2))=zaJ (fun i=>g (bef c i)) s:=fun c s=>zfj g (bef c) s
     by_cases hab:zaQ a=zaQ b
     ·rw[if_pos hab,if_neg (by simpa using hab),zhu,zhu,zcu,zcu,zcu,zdz,h1,h1,h2,h2,e1,e2]
      have h3:=zht (fun x=>g (.mk 0 x)) (fun (r x:List IT)=>IT.mk (zaQ a) r::x) (zaX data f t l m) (zcg data f ((za6 data t (zaQ a)).getD []) (zaD a) (zaD b))
      have h4:=zht g (fun (r:List IT) (x:IT)=>bef (.mk (zaQ a) r) x) (za5 data f t l m) (zcl data f ((za6 data t (zaQ a)).getD []) (zaD a) (zaD b))
      rw[zfi,zc1 _ (List.flatMap _ _),h3,h4]
      have h5:∀ r,zaA (fun x=>g (.mk 0 (IT.mk (zaQ a) r::x))) (zaX data f t l m)=zaA (fun x=>g (bef (.mk (zaQ a) r) x)) (za5 data f t l m):=fun r=>hM t l m fun i=>g (bef (.mk (zaQ a) r) i)
      simp only[h5]
      have h6:=hQ ((za6 data t (zaQ a)).getD []) (zaD a) (zaD b) fun r=>zaA (fun x=>g (bef (.mk (zaQ a) r) x)) (za5 data f t l m)
      rw[zfi,zfi]at h6
      rw[h6,zc1,zc1]
      omega
     ·rw[if_neg hab,if_pos (by simpa using hab),List.append_nil,zhu,zcu,zcu,zdz,h1,h1,h2,h2,e1,e2]
      omega
def Asc (s:List (IT × Nat)):Prop:=s.Pairwise fun p q=>IT.cmp p.1 q.1<0
theorem zuf {a b c:IT} (h1:IT.cmp a b<0) (h2:IT.cmp b c≤0):IT.cmp a c<0:=by
 obtain⟨h3,h4⟩:=IT.cmp_tri a b c (by omega) h2
 by_cases h:IT.cmp a c=0
 ·have:=h4 h;omega
 ·omega
theorem zfJ (a:IT):IT.cmp a a=0:=by have:=IT.cmp_anti a a;omega
theorem ztD {i:IT} {c:Nat}:∀ {s:List (IT × Nat)},Asc s→Asc (zcV s i c)∧∀ p∈zcV s i c,p.1=i∨∃ q∈s,q.1=p.1
 | [],_=>⟨by simp[zcV,Asc],fun p hp=>by simp[zcV]at hp;exact .inl (by rw[hp])⟩
 | x::s,h=>by
  have h1:=List.pairwise_cons.1 h
  unfold zcV
  by_cases ha:IT.cmp x.1 i<0
  ·obtain⟨k1,k2⟩:=ztD (i:=i) (c:=c) h1.2
   rw[if_pos ha]
   refine⟨List.pairwise_cons.2 ⟨fun p hp=>?_,k1⟩,fun p hp=>?_⟩
   ·rcases k2 p hp with e | ⟨q,hq,e⟩
    ·rw[e];exact ha
    ·rw[←e];exact h1.1 q hq
   ·rcases List.mem_cons.1 hp with e | hp
    ·exact .inr ⟨x,List.mem_cons_self,by rw[e]⟩
    ·rcases k2 p hp with e | ⟨q,hq,e⟩
     ·exact .inl e
     ·exact .inr ⟨q,List.mem_cons_of_mem _ hq,e⟩
  ·rw[if_neg ha]
   by_cases h0:IT.cmp x.1 i=0
   ·rw[if_pos h0]
    refine⟨List.pairwise_cons.2 ⟨h1.1,h1.2⟩,fun p hp=>?_⟩
    rcases List.mem_cons.1 hp with e | hp
    ·exact .inr ⟨x,List.mem_cons_self,by rw[e]⟩
    ·exact .inr ⟨p,List.mem_cons_of_mem _ hp,rfl⟩
   ·rw[if_neg h0]
    have hix:IT.cmp i x.1<0:=by have:=IT.cmp_anti i x.1;omega
    refine⟨List.pairwise_cons.2 ⟨fun p hp=>?_,h⟩,fun p hp=>?_⟩
    ·rcases List.mem_cons.1 hp with e | hp
     ·rw[e];exact hix
     ·exact zuf hix (by have:=h1.1 p hp;omega)
    ·rcases List.mem_cons.1 hp with e | hp
     ·exact .inl (by rw[e])
     ·exact .inr ⟨p,hp,rfl⟩
theorem zCc {i:IT} {c:Nat} {s:List (IT × Nat)} (h:Asc s):Asc (zc9 s i c):=by
 unfold zc9
 split
 ·exact h
 ·exact (ztD h).1
theorem zh7:∀ (l s:List (IT × Nat)),Asc s→Asc (zb9 s l)
 | [],s,h=>h
 | p::l,s,h=>zh7 l _ (zCc h)
open Classical in
noncomputable def one {α:Type} (x:α):α→Nat:=fun y=>if y=x then 1 else 0
theorem zvC {α:Type} (x:α):one x x=1:=by simp[one]
theorem zvD {α:Type} {x y:α} (h:y≠x):one x y=0:=by simp[one,h]
theorem zwW {α:Type} {g:α→Nat}:∀ {s:List (α × Nat)},0<zaA g s→∃ q∈s,0<q.2∧0<g q.1
 | [],h=>by simp at h
 | p::s,h=>by
  rw[za7]at h
  by_cases h0:0<p.2*g p.1
  ·exact⟨p,List.mem_cons_self,Nat.pos_of_mul_pos_right h0,Nat.pos_of_mul_pos_left h0⟩
  ·obtain⟨q,hq,h1⟩:=zwW (s:=s) (g:=g) (by omega)
   exact⟨q,List.mem_cons_of_mem _ hq,h1⟩
theorem ze5 {α:Type} (g:α→Nat):∀ {s:List (α × Nat)} {p:α × Nat},p∈s→p.2*g p.1≤zaA g s
 | x::s,p,h=>by
  rw[za7]
  rcases List.mem_cons.1 h with rfl | h
  ·omega
  ·have:=ze5 g h;omega
theorem zd6 {α:Type} {s s':List (α × Nat)} (h:∀ g:α→Nat,zaA g s=zaA g s') {p:α × Nat} (hp:p∈s) (h0:0<p.2):∃ q∈s',q.1=p.1:=by
 have h1:=ze5 (one p.1) hp
 rw[zvC,h]at h1
 obtain⟨q,hq,_,h2⟩:=zwW (s:=s') (g:=one p.1) (by omega)
 refine⟨q,hq,?_⟩
 by_cases he:q.1=p.1
 ·exact he
 ·rw[zvD he]at h2;omega
theorem zpq {x:IT}:∀ {s:List (IT × Nat)},(∀ p∈s,p.1≠x)→zaA (one x) s=0
 | [],_=>rfl
 | p::s,h=>by
  rw[za7,zvD (h p List.mem_cons_self),zpq fun q hq=>h q (List.mem_cons_of_mem _ hq)];rfl
theorem ztS:∀ {s s':List (IT × Nat)},Asc s→Asc s'→(∀ p∈s,0<p.2)→(∀ p∈s',0<p.2)→(∀ g:IT→Nat,zaA g s=zaA g s')→s=s'
 | [],[],_,_,_,_,_=>rfl
 | [],q::s',_,_,_,h2,h=>by
  obtain⟨x,hx,_⟩:=zd6 (fun g=>(h g).symm) (List.mem_cons_self (a:=q)) (h2 q List.mem_cons_self)
  simp at hx
 | p::s,[],_,_,h1,_,h=>by
  obtain⟨x,hx,_⟩:=zd6 h (List.mem_cons_self (a:=p)) (h1 p List.mem_cons_self)
  simp at hx
 | p::s,q::s',a1,a2,h1,h2,h=>by
  have b1:=List.pairwise_cons.1 a1
  have b2:=List.pairwise_cons.1 a2
  have c1:IT.cmp q.1 p.1≤0:=by
   obtain⟨x,hx,he⟩:=zd6 h (List.mem_cons_self (a:=p)) (h1 p List.mem_cons_self)
   rcases List.mem_cons.1 hx with rfl | hx
   ·rw[he,zfJ];omega
   ·have:=b2.1 x hx;rw[he]at this;omega
  have c2:IT.cmp p.1 q.1≤0:=by
   obtain⟨x,hx,he⟩:=zd6 (fun g=>(h g).symm) (List.mem_cons_self (a:=q)) (h2 q List.mem_cons_self)
   rcases List.mem_cons.1 hx with rfl | hx
   ·rw[he,zfJ];omega
   ·have:=b1.1 x hx;rw[he]at this;omega
  have he:p.1=q.1:=znm (by have:=IT.cmp_anti p.1 q.1;omega)
  have n1:zaA (one p.1) s=0:=zpq fun x hx e=>by have:=b1.1 x hx;rw[e,zfJ]at this;omega
  have n2:zaA (one p.1) s'=0:=zpq fun x hx e=>by have:=b2.1 x hx;rw[e,he,zfJ]at this;omega
  have hc:=h (one p.1)
  rw[za7,za7,n1,n2,←he,zvC]at hc
  have hpq:p=q:=Prod.ext he (by omega)
  subst hpq
  have:=ztS b1.2 b2.2 (fun x hx=>h1 x (List.mem_cons_of_mem _ hx)) (fun x hx=>h2 x (List.mem_cons_of_mem _ hx)) fun g=>by
   have:=h g
   rw[za7,za7]at this
   omega
  rw[this]
theorem zjx {α:Type} (g:α→Nat) (c:α→Bool):∀ s:List (α × Nat),zaA g (s.filter fun p=>c p.1)=zaA (fun x=>if c x then g x else 0) s
 | []=>rfl
 | p::s=>by
  rw[List.filter_cons,za7]
  by_cases h:c p.1=true
  ·simp only[h,if_true];rw[za7,zjx g c s]
  ·simp only[h,Bool.false_eq_true,if_false];rw[zjx g c s];simp
theorem zF7 {α:Type} (g:α→Nat) {s s':List (α × Nat)} (h:s.Perm s'):zaA g s=zaA g s':=by
 induction h with
 | nil=>rfl
 | cons x _ ih=>rw[za7,za7,ih]
 | swap x y l=>simp only[za7];omega
 | trans _ _ h1 h2=>rw[h1,h2]
end Go.Proofs.YtdmamdnkcefmmaaGreatDoor
namespace Go.Proofs.YtdmamdnkcefmmaaGreatDoor
open Go Go.Abs
set_option maxRecDepth 100000
end Go.Proofs.YtdmamdnkcefmmaaGreatDoor
namespace Go.Proofs.YtdmamdnkcefmmaaGreatDoor
open Go Go.Abs
def tmC (p:IT × Nat):List AV:=p.1.cs++zak (p.2:Int)
def tms (s:List (IT × Nat)):List AV:=(s.map tmC).flatten
@[simp] theorem zGf (p:IT × Nat):(tmC p).length=5:=by simp[tmC,zak]
@[simp] theorem zWy (s:List (IT × Nat)):(tms s).length=s.length*5:=by
 induction s with
 | nil=>rfl
 | cons p s ih=>simp only[tms,List.map_cons,List.flatten_cons,List.length_append,zGf,List.length_cons]at ih ⊢;omega
theorem zjC (a b:List (IT × Nat)):tms (a++b)=tms a++tms b:=by simp[tms]
theorem zhw (p:IT × Nat) (s:List (IT × Nat)):tms (p::s)=tmC p++tms s:=by simp[tms]
theorem zpz {s:List (IT × Nat)} {k:Nat} (h:k<s.length):tms s=tms (s.take k)++(tmC s[k]++tms (s.drop (k+1))):=by
 rw[←zhw,←zjC,←List.drop_eq_getElem_cons h,List.take_append_drop]
theorem zpA {s:List (IT × Nat)} {k:Nat} (h:k≤s.length):(tms (s.take k)).length=k*5:=by simp[Nat.min_eq_left h]
theorem zGg {s:List (IT × Nat)} {k:Nat} (h:k<s.length):((tms s).drop (k*5+2)).take 3=zak (s[k].2:Int):=by
 have e:tms s=(tms (s.take k)++s[k].1.cs)++(zak (s[k].2:Int)++tms (s.drop (k+1))):=by rw[zpz h,tmC];simp
 have hl:(tms (s.take k)++s[k].1.cs).length=k*5+2:=by rw[List.length_append,zpA (by omega)];simp
 rw[e,List.drop_left' hl,List.take_left' (by simp[zak])]
theorem zGj {s:List (IT × Nat)} {k:Nat} (h:k<s.length) (x:Nat):(tms s).take (k*5+2)++zak (x:Int)++(tms s).drop (k*5+2+3)=tms (s.set k (s[k].1,x)):=by
 have e:tms s=(tms (s.take k)++s[k].1.cs)++(zak (s[k].2:Int)++tms (s.drop (k+1))):=by rw[zpz h,tmC];simp
 have hl:(tms (s.take k)++s[k].1.cs).length=k*5+2:=by rw[List.length_append,zpA (by omega)];simp
 have e1:(tms s).take (k*5+2)=tms (s.take k)++s[k].1.cs:=by rw[e,List.take_left' hl]
 have e2:(tms s).drop (k*5+2+3)=tms (s.drop (k+1)):=by
  rw[←List.drop_drop,e,List.drop_left' hl,List.drop_left' (by simp[zak])]
 rw[e1,e2,List.set_eq_take_append_cons_drop,if_pos h,zjC,zhw,tmC]
 simp
theorem zpy (s:List (IT × Nat)) (n:Nat):(tms s).all (AV.scA n)=true:=by
 induction s with
 | nil=>rfl
 | cons p s ih=>rw[zhw,List.all_append,ih,tmC,List.all_append,IT.cs_scA,zjh];rfl
theorem zGi (s:List (IT × Nat)):(tms s).all AV.known=true:=by
 induction s with
 | nil=>rfl
 | cons p s ih=>rw[zhw,List.all_append,ih,tmC,List.all_append,IT.cs_known];simp[zak,AV.known]
end Go.Proofs.YtdmamdnkcefmmaaGreatDoor
namespace Go.Proofs.YtdmamdnkcefmmaaGreatDoor
open Go Go.Abs
set_option maxRecDepth 100000
end Go.Proofs.YtdmamdnkcefmmaaGreatDoor
namespace Go.Proofs.YtdmamdnkcefmmaaGreatDoor
open Go Go.Abs
def zaT (s:List (IT × Nat)):List (List AV):=s.map tmC
@[simp] theorem zWx (s:List (IT × Nat)):(zaT s).length=s.length:=by simp[zaT]
theorem zwY (s:List (IT × Nat)):(zaT s).flatten=tms s:=rfl
@[simp] theorem zWw {s:List (IT × Nat)} {i:Nat} (h:i<(zaT s).length):(zaT s)[i]=tmC (s[i]'(by simpa using h)):=by simp[zaT]
theorem zhk:∀ {a b c d:List AV},plain a=some c→plain b=some d→plain (a++b)=some (c++d)
 | [],b,c,d,h,h'=>by simp[plain]at h;subst h;simpa using h'
 | x::a,b,c,d,h,h'=>by
  simp only[plain]at h
  split at h
  ·rename_i p q hp hq
   cases h
   simp only[List.cons_append,plain]
   rw[hp,zhk hq h']
  ·cases h
theorem zjg (v:IT):plain v.cs=some v.cs:=by
 obtain⟨n,ks⟩:=v
 simp[IT.cs,plain,AV.pd]
theorem zcZ (z:Int):plain (zak z)=some (zak z):=rfl
theorem zoZ (p:IT × Nat):plain (tmC p)=some (tmC p):=zhk (zjg p.1) (zcZ _)
theorem zo0:∀ s:List (IT × Nat),plain (tms s)=some (tms s)
 | []=>rfl
 | p::s=>by rw[zhw];exact zhk (zoZ p) (zo0 s)
theorem zEk {H J:zaa} {K:Kt} (s:List (IT × Nat)) (id:Nat) (hle:H.length≤id) (hid:(H++J)[id]?=some (.vec zaB 5 s.length (tms s))) (hs:HSc H) (hK:K (.sl (zaT s) .none) H):Out H.length K (.ov id s.length) (H++J):=
 ⟨.sl (zaT s) .none,H,J,rfl,Nat.le_refl _,hs,.one (.vfz id zaB 5 s.length (tms s) (zaT s) hle hid (by rw[zwY];exact zo0 s) (by simp) (fun c hc=>by
  obtain⟨p,_,rfl⟩:=List.mem_map.1 hc;simp)),hK⟩
def zaM (out:List (List IT × Nat)):List (List AV):=out.map fun r=>.sl (IT.css r.1) .none::zak (r.2:Int)
@[simp] theorem zWe (s:List (List IT × Nat)):(zaM s).length=s.length:=by simp[zaM]
@[simp] theorem zWd {s:List (List IT × Nat)} {i:Nat} (h:i<(zaM s).length):(zaM s)[i]=.sl (IT.css (s[i]'(by simpa using h)).1) .none::zak ((s[i]'(by simpa using h)).2:Int):=by simp[zaM]
theorem zpc (a b:List (List IT × Nat)):zaM (a++b)=zaM a++zaM b:=by simp[zaM]
theorem zwa {data:List Dat} {f:Nat} {ts:List VT} {l m:List IT} {k:Nat}:∀ j,j≤k→zcf data f (ts.take k) (l.take k) (m.take k) j=zcf data f ts l m j:=by
 intro j
 induction j with
 | zero=>intro _;rfl
 | succ j ih=>
  intro h
  rw[zhn,zhn,ih (by omega)]
  simp[List.getD_eq_getElem?_getD,List.getElem?_take,show j<k by omega]
theorem zDK {s:List (List IT × Nat)} {p:List IT × Nat} (h:p∈s):p.2≤zbm (fun _=>1) s:=by
 induction s with
 | nil=>simp at h
 | cons q s ih=>
  rw[zhv]
  rcases List.mem_cons.1 h with rfl | h
  ·omega
  ·have:=ih h;omega
theorem zDD {s:List (List IT × Nat)} (h:∀ p∈s,0<p.2):s.length≤zbm (fun _=>1) s:=by
 induction s with
 | nil=>simp
 | cons q s ih=>
  have h1:=ih fun p hp=>h p (by simp[hp])
  have h2:=h q (by simp)
  rw[zhv,List.length_cons];omega
theorem zeB {a:Int} (h:a≤6):3 ^ a.toNat≤729:=Nat.le_trans (Nat.pow_le_pow_right (by omega) (show a.toNat≤6 by omega)) (by decide)
theorem zEL {data:List Dat} (h8:∀ D∈data,D.cons.length≤8) {f:Nat} {ts:List VT} {l m:List IT} (hf:IT.nodesL l+IT.nodesL m≤f) (hl:l.length=ts.length) (hm:m.length=ts.length) (hA:0≤rdA data l ts 0) (hB:0≤rdA data m ts 0) (h6:rdA data l ts 0+rdA data m ts 0≤6) (k:Nat) (hk:k≤ts.length) :
  (∀ r∈zcf data f ts l m k,0<r.2∧r.2≤729∧IT.nodesL r.1≤IT.nodesL l+IT.nodesL m)∧(zcf data f ts l m k).length≤729:=by
 have a1:=zc0 l ts 0 k hl (by omega) hA
 have b1:=zc0 m ts 0 k hm (by omega) hB
 have n1:=IT.nodesL_take_le l k
 have n2:=IT.nodesL_take_le m k
 obtain⟨h1,h2⟩:=(zd4 h8 (f+1)).2.1 (ts.take k) (l.take k) (m.take k) (by omega) (by simp;omega) (by simp;omega) a1.1 b1.1 (by omega)
 have e:zcl data (f+1) (ts.take k) (l.take k) (m.take k)=zcf data f ts l m k:=by
  rw[zil,List.length_take,Nat.min_eq_left hk,zwa k (Nat.le_refl _)]
 rw[e]at h1 h2
 have hN:zbm (fun _=>1) (zcf data f ts l m k)≤729:=Nat.le_trans h2 (zeB (by omega))
 refine⟨fun r hr=>?_,Nat.le_trans (zDD fun p hp=>(h1 p hp).1) hN⟩
 obtain⟨q1,_,_,_,_,_,q6⟩:=h1 r hr
 have:=zDK hr
 exact⟨q1,by omega,by omega⟩
theorem zFZ {out:List (List IT × Nat)} {ws:List (IT × Nat)} (h1:∀ r∈out,0<r.2) (h2:∀ w∈ws,0<w.2):∀ r∈zbM out ws,0<r.2:=by
 intro r hr
 obtain⟨x,hx,hr⟩:=List.mem_flatMap.1 hr
 obtain⟨w,hw,rfl⟩:=List.mem_map.1 hr
 exact Nat.mul_pos (h1 x hx) (h2 w hw)
theorem zo9 {data:List Dat} {f:Nat} (hP:∀ (t:VT) (i j:IT),∀ p∈za9 data f t i j,0<p.2) (ts:List VT) (l m:List IT):∀ k,∀ r∈zch data f ts l m k,0<r.2
 | 0,r,hr=>by rw[zpb]at hr;simp at hr;rw[hr];omega
 | k+1,r,hr=>by
  rw[zjo]at hr
  exact zFZ (zo9 hP ts l m k) (hP _ _ _) r hr
theorem zf0 (data:List Dat):∀ f,(∀ (t:VT) (i j:IT),∀ p∈za9 data f t i j,0<p.2)∧(∀ (ts:List VT) (l m:List IT),∀ r∈zcg data f ts l m,0<r.2)∧(∀ (t:VT) (l m:List IT),∀ r∈zaX data f t l m,0<r.2)
 | 0=>⟨fun t i j p hp=>by rw[za9]at hp;simp at hp,fun ts l m r hr=>by rw[zcg]at hr;simp at hr,fun t l m r hr=>by rw[zaX]at hr;simp at hr⟩
 | f+1=>by
  obtain⟨hP,hQ,hM⟩:=zf0 data f
  refine⟨fun t i j p hp=>?_,fun ts l m r hr=>?_,fun t l m r hr=>?_⟩
  ·rw[za9]at hp
   split at hp
   ·obtain⟨r,hr,rfl⟩:=List.mem_map.1 hp
    exact hQ _ _ _ r hr
   ·split at hp
    ·have:=(List.mem_filter.1 hp).2
     simp at this;omega
    ·split at hp
     ·obtain⟨r,hr,rfl⟩:=List.mem_map.1 hp
      exact hM _ _ _ r hr
     ·simp at hp;rw[hp];omega
  ·rw[zjp]at hr
   exact zo9 hP ts l m _ r hr
  ·cases l with
   | nil=>rw[zaX]at hr;simp at hr;rw[hr];omega
   | cons a l=>
    cases m with
    | nil=>rw[zaX]at hr;simp at hr;rw[hr];omega
    | cons b m=>
     rw[zaX]at hr
     rcases List.mem_append.1 hr with hr | hr
     ·rcases List.mem_append.1 hr with hr | hr
      ·obtain⟨x,hx,rfl⟩:=List.mem_map.1 hr
       exact hM _ _ _ x hx
      ·obtain⟨x,hx,rfl⟩:=List.mem_map.1 hr
       exact hM _ _ _ x hx
     ·split at hr
      ·obtain⟨x,hx,hr⟩:=List.mem_flatMap.1 hr
       obtain⟨w,hw,rfl⟩:=List.mem_map.1 hr
       exact Nat.mul_pos (hQ _ _ _ x hx) (hM _ _ _ w hw)
      ·simp at hr
theorem ze1 {α:Type}:∀ {s:List (α × Nat)},(∀ p∈s,0<p.2)→s.length≤zaA (fun _=>1) s
 | [],_=>by simp
 | p::s,h=>by
  rw[List.length_cons,za7]
  have:=h p List.mem_cons_self
  have:=ze1 fun q hq=>h q (List.mem_cons_of_mem p hq)
  omega
theorem ztZ {data:List Dat} (h8:∀ D∈data,D.cons.length≤8) {f:Nat} {t:VT} {i j:IT} (hf:i.nodes+j.nodes≤f) (hi:0≤rdV data i t) (hj:0≤rdV data j t) (h6:rdV data i t+rdV data j t≤6) :
  (∀ p∈za9 data f t i j,0<p.2∧p.2≤729∧0≤rdV data p.1 t∧rdV data p.1 t≤rdV data i t+rdV data j t∧rdV data i t≤rdV data p.1 t∧rdV data j t≤rdV data p.1 t∧p.1.nodes≤i.nodes+j.nodes)∧zaA (fun _=>1) (za9 data f t i j)≤3 ^ (rdV data i t+rdV data j t).toNat∧zaA (fun _=>1) (za9 data f t i j)≤729∧(za9 data f t i j).length≤729:=by
 obtain⟨d1,d2⟩:=(zd4 h8 f).1 t i j hf hi hj h6
 have hs:=(zfl data f).1 t i j
 have hp0:=(zf0 data f).1 t i j
 have h1:zaA (fun _=>1) (za9 data f t i j)≤3 ^ (rdV data i t+rdV data j t).toNat:=by rw[←zc1,hs];exact d2
 have h2:=Nat.le_trans h1 (zeB h6)
 refine⟨fun p hp=>?_,h1,h2,Nat.le_trans (ze1 hp0) h2⟩
 obtain⟨q,hq,he⟩:=zd6 (s:=za9 data f t i j) (s':=zbw data f t i j) hs hp (hp0 p hp)
 have:=d1 q hq
 rw[he]at this
 have hm:=ze5 (fun _=>1) hp
 rw[Nat.mul_one]at hm
 exact⟨hp0 p hp,by omega,this.2⟩
theorem zt0 {data:List Dat} (h8:∀ D∈data,D.cons.length≤8) {f:Nat} {ts:List VT} {l m:List IT} (hf:IT.nodesL l+IT.nodesL m+1≤f) (hl:l.length=ts.length) (hm:m.length=ts.length) (hi:0≤rdA data l ts 0) (hj:0≤rdA data m ts 0) (h6:rdA data l ts 0+rdA data m ts 0≤6) :
  (∀ r∈zcg data f ts l m,0<r.2∧r.2≤729∧r.1.length=ts.length∧0≤rdA data r.1 ts 0∧rdA data r.1 ts 0≤rdA data l ts 0+rdA data m ts 0∧IT.nodesL r.1≤IT.nodesL l+IT.nodesL m)∧zaA (fun _=>1) (zcg data f ts l m)≤3 ^ (rdA data l ts 0+rdA data m ts 0).toNat∧zaA (fun _=>1) (zcg data f ts l m)≤729∧(zcg data f ts l m).length≤729:=by
 obtain⟨d1,d2⟩:=(zd4 h8 f).2.1 ts l m hf hl hm hi hj h6
 have hs:=(zfl data f).2.1 ts l m
 have hp0:=(zf0 data f).2.1 ts l m
 have h1:zaA (fun _=>1) (zcg data f ts l m)≤3 ^ (rdA data l ts 0+rdA data m ts 0).toNat:=by rw[←zfi,hs];exact d2
 have h2:=Nat.le_trans h1 (zeB h6)
 refine⟨fun p hp=>?_,h1,h2,Nat.le_trans (ze1 hp0) h2⟩
 obtain⟨q,hq,he⟩:=zd6 (s:=zcg data f ts l m) (s':=zcl data f ts l m) hs hp (hp0 p hp)
 obtain⟨_,e1,e2,e3,_,_,e6⟩:=d1 q hq
 rw[he]at e1 e2 e3 e6
 have hm:=ze5 (fun _=>1) hp
 rw[Nat.mul_one]at hm
 exact⟨hp0 p hp,by omega,e1,e2,e3,e6⟩
theorem zia {data:List Dat} (h8:∀ D∈data,D.cons.length≤8) {f:Nat} {t:VT} {l m:List IT} (hf:IT.nodesL l+IT.nodesL m+1≤f) (hi:0≤rdE data l t 0) (hj:0≤rdE data m t 0) (h6:rdE data l t 0+rdE data m t 0≤6) :
  (∀ r∈zaX data f t l m,0<r.2∧r.2≤729∧0≤rdE data r.1 t 0∧rdE data r.1 t 0≤rdE data l t 0+rdE data m t 0∧IT.nodesL r.1≤IT.nodesL l+IT.nodesL m)∧zaA (fun _=>1) (zaX data f t l m)≤3 ^ (rdE data l t 0+rdE data m t 0).toNat∧zaA (fun _=>1) (zaX data f t l m)≤729∧(zaX data f t l m).length≤729:=by
 obtain⟨d1,d2⟩:=(zd4 h8 f).2.2 t l m hf hi hj h6
 have hs:=(zfl data f).2.2 t l m
 have hp0:=(zf0 data f).2.2 t l m
 have h1:zaA (fun _=>1) (zaX data f t l m)≤3 ^ (rdE data l t 0+rdE data m t 0).toNat:=by
  have:=hs fun _=>1
  rw[zfi]at this
  rw[this];exact d2
 have h2:=Nat.le_trans h1 (zeB h6)
 refine⟨fun p hp=>?_,h1,h2,Nat.le_trans (ze1 hp0) h2⟩
 have hs':∀ g:IT→Nat,zaA g ((zaX data f t l m).map fun r=>(IT.mk 0 r.1,r.2))=zaA g (za5 data f t l m):=fun g=>by
  rw[zfj g (fun x=>IT.mk 0 x)];exact hs g
 obtain⟨q,hq,he⟩:=zd6 hs' (p:=(IT.mk 0 p.1,p.2)) (List.mem_map.2 ⟨p,hp,rfl⟩) (hp0 p hp)
 obtain⟨_,_,e2,e3,_,_,e6⟩:=d1 q hq
 simp only at he
 rw[he]at e2 e3 e6
 have hm:=ze5 (fun _=>1) hp
 rw[Nat.mul_one]at hm
 exact⟨hp0 p hp,by omega,e2,e3,e6⟩
def Gd (s:List (IT × Nat)):Prop:=∀ p∈s,p.1.nodes≤1000∧0<p.2
theorem Gd.add {s:List (IT × Nat)} (h:Gd s) {i:IT} (hi:i.nodes≤1000) (c:Nat):Gd (zc9 s i c):=by
 intro p hp
 rcases zna p hp with ⟨q,hq,he,hle⟩ | ⟨h0,he,hle⟩
 ·have:=h q hq;rw[←he];omega
 ·rw[he];omega
theorem Gd.nil:Gd []:=fun p hp=>by simp at hp
theorem zfm (p:IT × Nat):List.take 5 (tmC p)=tmC p:=List.take_of_length_le (by simp)
theorem zdA (p:IT × Nat):List.take 2 (tmC p)=p.1.cs:=by rw[tmC,List.take_left' (by simp)]
theorem zc2 (p:IT × Nat):List.take 3 (List.drop 2 (tmC p))=zak (p.2:Int):=by rw[tmC,List.drop_left' (by simp),List.take_of_length_le (by simp[zak])]
theorem zfn (p:IT × Nat):∀ x∈tmC p,x.known=true:=List.all_eq_true.1 (by rw[tmC,List.all_append,IT.cs_known,zhl];rfl)
def hpM (H:zaa) (tn:Int) (tks:List VT) (s:List (IT × Nat)):zaa:=H++[.cells [.int .i64 5,.int .i64 tn,.sl (VT.css tks) .none],.vec zaB 5 s.length (tms s)]
@[simp] theorem zDn {H:zaa} {tn:Int} {tks:List VT} {s:List (IT × Nat)}:(hpM H tn tks s).length=H.length+2:=by simp[hpM]
@[simp] theorem zVS {H:zaa} {tn:Int} {tks:List VT} {s:List (IT × Nat)} {c:AB} {J:zaa}:(hpM H tn tks s++c::J)[H.length+2]?=some c:=by
 rw[←zDn (H:=H) (tn:=tn) (tks:=tks) (s:=s)];simp
@[simp] theorem zVQ {H:zaa} {tn:Int} {tks:List VT} {s:List (IT × Nat)} {J:zaa}:(hpM H tn tks s++J)[H.length]?=some (.cells [.int .i64 5,.int .i64 tn,.sl (VT.css tks) .none]):=by
 simp[hpM,List.getElem?_append]
@[simp] theorem zVR {H:zaa} {tn:Int} {tks:List VT} {s:List (IT × Nat)}:(hpM H tn tks s)[H.length]?=some (.cells [.int .i64 5,.int .i64 tn,.sl (VT.css tks) .none]):=by
 simp[hpM,List.getElem?_append]
@[simp] theorem zVT {H:zaa} {tn:Int} {tks:List VT} {s:List (IT × Nat)} (h:H.length<(hpM H tn tks s).length):(hpM H tn tks s)[H.length]=.cells [.int .i64 5,.int .i64 tn,.sl (VT.css tks) .none]:=by
 simp[hpM,List.getElem_append]
def zcd (l:List Nat):List (List AV):=l.map fun (z:Nat)=>zak (z:Int)
@[simp] theorem zEz (l:List Nat):(zcd l).length=l.length:=by simp[zcd]
@[simp] theorem zV6 {l:List Nat} {i:Nat} (h:i<(zcd l).length):(zcd l)[i]=zak ((l[i]'(by simpa using h):Nat):Int):=by simp[zcd]
def zcN (a b n:Nat):List Nat:=(List.range n).map (pcf a b)
def hpL (H:zaa) (t:VT) (i j:IT) (s:List (IT × Nat)):zaa:=H++[.cells t.cs,.cells i.cs,.cells j.cs,.vec zaB 5 s.length (tms s)]
@[simp] theorem zDm {H:zaa} {t:VT} {i j:IT} {s:List (IT × Nat)}:(hpL H t i j s).length=H.length+4:=by simp[hpL]
@[simp] theorem zVP {H:zaa} {t:VT} {i j:IT} {s:List (IT × Nat)} {c:AB} {J:zaa}:(hpL H t i j s++c::J)[H.length+4]?=some c:=by
 rw[←zDm (H:=H) (t:=t) (i:=i) (j:=j) (s:=s)];simp
def ofD (data:List Dat) (t:VT) (s:List (IT × Nat)) (d:Nat):List (IT × Nat):=s.filter fun p=>rdV data p.1 t == (d:Int)
def zbQ (data:List Dat) (t:VT) (s:List (IT × Nat)) (d:Nat):List (IT × Nat):=(List.range d).flatMap (ofD data t s)
theorem zvI (data:List Dat) (t:VT) (s:List (IT × Nat)) (d:Nat):zbQ data t s (d+1)=zbQ data t s d++ofD data t s d:=by
 simp[zbQ,List.range_succ]
theorem zvB (data:List Dat) (t:VT) (f:IT→Nat):∀ (s:List (IT × Nat)),(∀ p∈s,0≤rdV data p.1 t∧rdV data p.1 t≤6)→∀ d:Nat,zaJ f (zbQ data t s d)=zaJ f (s.filter fun p=>decide (rdV data p.1 t<(d:Int)))
 | s,h,0=>by
  have:(s.filter fun p=>decide (rdV data p.1 t<((0:Nat):Int)))=[]:=by
   rw[List.filter_eq_nil_iff];intro p hp;have:=h p hp;simp;omega
  rw[this];rfl
 | s,h,d+1=>by
  rw[zvI,zju,zvB data t f s h d]
  unfold ofD
  clear h
  induction s with
  | nil=>rfl
  | cons p s ih=>
   simp only[List.filter_cons]
   by_cases h1:rdV data p.1 t<(d:Int)
   ·have h2:(rdV data p.1 t == (d:Int))=false:=by simp;omega
    have h3:rdV data p.1 t<((d+1:Nat):Int):=by omega
    simp only[h1,h2,h3,decide_true,if_true,Bool.false_eq_true,if_false,zcQ]
    omega
   ·by_cases h2:rdV data p.1 t=(d:Int)
    ·have h3:rdV data p.1 t<((d+1:Nat):Int):=by omega
     have h4:(rdV data p.1 t == (d:Int))=true:=by simpa using h2
     simp only[h1,h4,h3,decide_true,decide_false,if_true,Bool.false_eq_true,if_false,zcQ]
     omega
    ·have h3:¬ rdV data p.1 t<((d+1:Nat):Int):=by omega
     have h4:(rdV data p.1 t == (d:Int))=false:=by simpa using h2
     simp only[h1,h4,h3,decide_false,if_false,Bool.false_eq_true]
     omega
theorem zvJ {data:List Dat} {t:VT} {s:List (IT × Nat)} (h:∀ p∈s,0≤rdV data p.1 t∧rdV data p.1 t≤6) (f:IT→Nat):zaJ f (zbQ data t s 7)=zaJ f s:=by
 rw[zvB data t f s h 7]
 congr 1
 rw[List.filter_eq_self]
 intro p hp
 have:=h p hp
 simp;omega
theorem zEg {data:List Dat} {t:VT} {s:List (IT × Nat)} {d:Nat}:∀ p∈zbQ data t s d,p∈s:=by
 intro p hp
 obtain⟨k,_,h⟩:=List.mem_flatMap.1 hp
 exact (List.mem_filter.1 h).1
theorem zD3 {data:List Dat} {t:VT} {s:List (IT × Nat)} {d j:Nat} (hj:j<s.length):ofD data t (s.take (j+1)) d=ofD data t (s.take j) d++if rdV data s[j].1 t=(d:Int) then [s[j]] else []:=by
 rw[List.take_succ_eq_append_getElem hj]
 simp only[ofD,List.filter_append,List.filter_cons,List.filter_nil]
 by_cases h:rdV data s[j].1 t=(d:Int)
 ·simp[h]
 ·have h4:(rdV data s[j].1 t == (d:Int))=false:=by simpa using h
  simp[h,h4]
theorem zoQ {data:List Dat} {t:VT} {s:List (IT × Nat)} {d:Nat}:(ofD data t s d).length≤s.length:=List.length_filter_le _ _
theorem zoR {data:List Dat} {t:VT} {s:List (IT × Nat)}:∀ d:Nat,(zbQ data t s d).length≤d*s.length
 | 0=>by simp[zbQ]
 | d+1=>by
  rw[zvI,List.length_append,Nat.succ_mul]
  have:=zoR (data:=data) (t:=t) (s:=s) d
  have:=zoQ (data:=data) (t:=t) (s:=s) (d:=d)
  omega
def za4:List (IT × Nat)→IT→Nat→List (IT × Nat)
 | [],i,c=>[(i,c)]
 | p::s,i,c=>if IT.same p.1 i then (p.1,p.2+c)::s else p::za4 s i c
theorem zwk (i:IT):IT.same i i=true:=(IT.cmp_zero i i).1 (zfJ i)
theorem znb (g:IT→Nat) (i:IT) (c:Nat):∀ s:List (IT × Nat),zaA g (za4 s i c)=zaA g s+c*g i
 | []=>by simp[za4]
 | p::s=>by
  unfold za4
  split
  ·rename_i h
   rw[za7,za7,same_eq _ _ h,Nat.add_mul];omega
  ·rw[za7,za7,znb g i c s];omega
theorem zgr {i:IT} {c:Nat}:∀ {s:List (IT × Nat)} {p:IT × Nat},p∈za4 s i c→p.1=i∧c≤p.2∨p∈s
 | [],p,h=>by simp[za4]at h;rw[h];exact .inl ⟨rfl,Nat.le_refl _⟩
 | x::s,p,h=>by
  unfold za4 at h
  split at h
  ·rename_i he
   rcases List.mem_cons.1 h with rfl | h
   ·exact .inl ⟨same_eq _ _ he,by simp⟩
   ·exact .inr (List.mem_cons_of_mem _ h)
  ·rcases List.mem_cons.1 h with rfl | h
   ·exact .inr List.mem_cons_self
   ·rcases zgr h with h | h
    ·exact .inl h
    ·exact .inr (List.mem_cons_of_mem _ h)
theorem ztG {i:IT} {c:Nat}:∀ {s:List (IT × Nat)},(s.map Prod.fst).Nodup→((za4 s i c).map Prod.fst).Nodup
 | [],_=>by simp[za4]
 | x::s,h=>by
  rw[List.map_cons,List.nodup_cons]at h
  unfold za4
  split
  ·rw[List.map_cons,List.nodup_cons];exact h
  ·rename_i he
   rw[List.map_cons,List.nodup_cons]
   refine⟨fun hx=>?_,ztG h.2⟩
   obtain⟨p,hp,hpe⟩:=List.mem_map.1 hx
   rcases zgr hp with ⟨h1,_⟩ | h1
   ·exact he (by rw[←hpe,h1,zwk])
   ·exact h.1 (List.mem_map.2 ⟨p,h1,hpe⟩)
theorem ztE {i:IT} {c:Nat}:∀ {s:List (IT × Nat)} {k:Nat} (hk:k<s.length),s[k].1=i→(s.map Prod.fst).Nodup→za4 s i c=s.set k (s[k].1,s[k].2+c)
 | x::s,0,_,he,_=>by
  simp only[List.getElem_cons_zero]at he
  unfold za4
  rw[if_pos (by rw[he];exact zwk i)];rfl
 | x::s,k+1,hk,he,hn=>by
  rw[List.map_cons,List.nodup_cons]at hn
  simp only[List.getElem_cons_succ]at he
  have hks:k<s.length:=by simpa using hk
  unfold za4
  rw[if_neg fun h=>hn.1 (by rw[same_eq _ _ h,←he];exact List.mem_map.2 ⟨s[k],List.getElem_mem hks,rfl⟩),ztE hks he hn.2]
  rfl
theorem ztH {i:IT} {c:Nat}:∀ {s:List (IT × Nat)},(∀ p∈s,p.1≠i)→za4 s i c=s++[(i,c)]
 | [],_=>rfl
 | x::s,h=>by
  unfold za4
  rw[if_neg fun he=>h x List.mem_cons_self (same_eq _ _ he),ztH fun p hp=>h p (List.mem_cons_of_mem _ hp)]
  rfl
def zbo (s l:List (IT × Nat)):List (IT × Nat):=l.foldl (fun s p=>za4 s p.1 p.2) s
theorem zCH (s:List (IT × Nat)):zbo s []=s:=rfl
theorem zCI (s l:List (IT × Nat)) (p:IT × Nat):zbo s (l++[p])=za4 (zbo s l) p.1 p.2:=by simp[zbo]
theorem znp (g:IT→Nat):∀ (l s:List (IT × Nat)),zaA g (zbo s l)=zaA g s+zaA g l
 | [],s=>by simp[zbo]
 | p::l,s=>by
  have:=znp g l (za4 s p.1 p.2)
  rw[znb]at this
  show zaA g (zbo (za4 s p.1 p.2) l)=_
  rw[this,za7];omega
theorem zno:∀ (l s:List (IT × Nat)),(s.map Prod.fst).Nodup→((zbo s l).map Prod.fst).Nodup
 | [],s,h=>h
 | p::l,s,h=>zno l _ (ztG h)
theorem zui:∀ (l s:List (IT × Nat)),(∀ q∈s,0<q.2)→(∀ q∈l,0<q.2)→∀ p∈zbo s l,0<p.2∧((∃ q∈s,q.1=p.1)∨∃ q∈l,q.1=p.1)
 | [],s,hs,_,p,hp=>⟨hs p hp,.inl ⟨p,hp,rfl⟩⟩
 | x::l,s,hs,hl,p,hp=>by
  have hx:=hl x List.mem_cons_self
  obtain⟨h1,h2⟩:=zui l (za4 s x.1 x.2) (fun q hq=>(zgr hq).elim (fun h=>Nat.lt_of_lt_of_le hx h.2) (hs q)) (fun q hq=>hl q (List.mem_cons_of_mem _ hq)) p hp
  refine⟨h1,?_⟩
  rcases h2 with ⟨q,hq,he⟩ | ⟨q,hq,he⟩
  ·rcases zgr hq with ⟨h,_⟩ | h
   ·exact .inr ⟨x,List.mem_cons_self,by rw[←he,h]⟩
   ·exact .inl ⟨q,h,he⟩
  ·exact .inr ⟨q,List.mem_cons_of_mem _ hq,he⟩
theorem zCj {data:List Dat} {t:VT} {d:Nat} {s r L:List (IT × Nat)} (hr:r.Perm (ofD data t s d)) (hso:r.Pairwise fun p q=>¬ IT.cmp q.1 p.1<0) (hn:(s.map Prod.fst).Nodup) (hs:∀ p∈s,0<p.2) (hL:Asc L) (hL0:∀ p∈L,0<p.2) (hsum:∀ g:IT→Nat,zaA g s=zaA g L):r=ofD data t L d:=by
 have hnr:(r.map Prod.fst).Nodup:=((hr.map Prod.fst).nodup_iff).2 (hn.sublist ((List.filter_sublist).map _))
 have hasc:Asc r:=by
  unfold List.Nodup at hnr
  rw[List.pairwise_map]at hnr
  refine (hso.and hnr).imp fun {p q} h=>?_
  have h0:=IT.cmp_anti p.1 q.1
  by_cases h1:IT.cmp p.1 q.1=0
  ·exact absurd (znm h1) h.2
  ·omega
 refine ztS hasc (hL.sublist List.filter_sublist) (fun p hp=>hs p (List.mem_filter.1 (hr.subset hp)).1) (fun p hp=>hL0 p (List.mem_filter.1 hp).1) fun g=>?_
 rw[zF7 g hr]
 have h1:=zjx g (fun x=>rdV data x t == (d:Int)) s
 have h2:=zjx g (fun x=>rdV data x t == (d:Int)) L
 unfold ofD
 rw[h1,h2,hsum]
theorem zDN (data:List Dat) (f:Nat) (t:VT) (i j:IT):Asc (zbw data f t i j):=by
 have h0:Asc ([]:List (IT × Nat)):=List.Pairwise.nil
 cases f with
 | zero=>rw[zbw];exact h0
 | succ f=>
  rw[zbw]
  split
  ·exact zh7 _ _ h0
  ·split
   ·exact zh7 _ _ h0
   ·split
    ·exact zh7 _ _ h0
    ·exact List.pairwise_singleton _ _
end Go.Proofs.YtdmamdnkcefmmaaGreatDoor
