import Derived.Test.YtjkkonpjecoieaaGreatKMF
import Derived.Test.YtjkkonpjecoieaaGreatKNum
import Derived.Test.YtjkkonpjecoieaaGreatProg
import Derived.KernelRfl
set_option linter.unusedSimpArgs false
set_option linter.unusedVariables false
namespace Go.Proofs.YtjkkonpjecoieaaGreat
open Go Go.Abs
theorem zod {s:List (IT × Nat)} {i:IT} {c:Nat}:∀ p∈zbd s i c,(∃ q∈s,q.1=p.1∧q.2≤p.2)∨(0<c∧p.1=i∧c≤p.2):=by
 intro p hp
 unfold zbd at hp
 split at hp
 ·exact .inl ⟨p,hp,rfl,Nat.le_refl _⟩
 ·rename_i hc
  rcases zDk p hp with (h | h) | ⟨q,hq,h⟩
  ·exact .inl ⟨p,h,rfl,Nat.le_refl _⟩
  ·exact .inr ⟨by omega,by rw[h],by rw[h];exact Nat.le_refl _⟩
  ·exact .inl ⟨q,hq,by rw[h],by rw[h];simp⟩
theorem zfc:∀ (l s:List (IT × Nat)),(∀ q∈s,0<q.2)→∀ p∈zaD s l,0<p.2∧((∃ q∈s,q.1=p.1)∨∃ q∈l,0<q.2∧q.1=p.1)
 | [],s,hs,p,hp=>⟨hs p hp,.inl ⟨p,hp,rfl⟩⟩
 | x::l,s,hs,p,hp=>by
  have hp:p∈zaD (zbd s x.1 x.2) l:=hp
  have h1:∀ q∈zbd s x.1 x.2,0<q.2:=fun q hq=>by
   rcases zod q hq with ⟨r,hr,_,h⟩ | ⟨h,_,h2⟩
   ·have:=hs r hr;omega
   ·omega
  obtain⟨h2,h3⟩:=zfc l _ h1 p hp
  refine⟨h2,?_⟩
  rcases h3 with ⟨q,hq,he⟩ | ⟨q,hq,h4,he⟩
  ·rcases zod q hq with ⟨r,hr,h5,_⟩ | ⟨h5,h6,_⟩
   ·exact .inl ⟨r,hr,by rw[h5,he]⟩
   ·exact .inr ⟨x,by simp,h5,by rw[←he,h6]⟩
  ·exact .inr ⟨q,by simp[hq],h4,he⟩
theorem zeN {s:List (IT × Nat)} {p:IT × Nat} (h:p∈s):p.2≤zaG (fun _=>1) s:=by
 induction s with
 | nil=>simp at h
 | cons q s ih=>
  rw[zcq]
  rcases List.mem_cons.1 h with rfl | h
  ·omega
  ·have:=ih h;omega
theorem zeJ {s:List (IT × Nat)} (h:∀ p∈s,0<p.2):s.length≤zaG (fun _=>1) s:=by
 induction s with
 | nil=>simp
 | cons q s ih=>
  have h1:=ih fun p hp=>h p (by simp[hp])
  have h2:=h q (by simp)
  rw[zcq,List.length_cons];omega
theorem zfD (f:IT→Nat) (l:List (IT × Nat)) (k:Nat):zaG f (l.take k)≤zaG f l:=by
 have h:=zfB f (l.take k) (l.drop k)
 rw[List.take_append_drop]at h
 omega
theorem zgs {data:List Dat} (x:IT) (t:VT):∀ (a:List IT) (ts:List VT) (s:Int),a.length=ts.length→0≤s→0≤rdA data a ts s→rdA data (a++[x]) (ts++[t]) s=if rdV data x t<0∨rdA data a ts s+rdV data x t>6 then -1 else rdA data a ts s+rdV data x t
 | [],[],s,_,hs,_=>by
  have e:rdA data [] [] s=s:=by simp only[rdA]
  rw[e,List.nil_append,List.nil_append]
  simp only[rdA]
 | [],_::_,_,h,_,_=>by simp at h
 | _::_,[],_,h,_,_=>by simp at h
 | v::a,t'::ts,s,h,hs,hr=>by
  simp only[rdA]at hr
  by_cases hc:rdV data v t'<0∨s+rdV data v t'>6
  ·rw[if_pos hc]at hr;omega
  ·rw[if_neg hc]at hr
   have:=zgs x t a ts (s+rdV data v t') (by simpa using h) (by omega) hr
   simp only[List.cons_append,rdA,if_neg hc]
   exact this
theorem zdN {data:List Dat}:∀ (a:List IT) (ts:List VT) (s:Int) (k:Nat),a.length=ts.length→0≤s→0≤rdA data a ts s→0≤rdA data (a.take k) (ts.take k) s∧rdA data (a.take k) (ts.take k) s≤rdA data a ts s
 | a,ts,s,0,_,hs,hr=>by
  have:=zp7 a ts s hs hr
  simp only[List.take_zero,rdA];omega
 | [],[],s,k+1,_,hs,hr=>by simp only[List.take_nil,rdA];omega
 | [],_::_,_,_+1,h,_,_=>by simp at h
 | _::_,[],_,_+1,h,_,_=>by simp at h
 | v::a,t::ts,s,k+1,h,hs,hr=>by
  simp only[rdA]at hr
  by_cases hc:rdV data v t<0∨s+rdV data v t>6
  ·rw[if_pos hc]at hr;omega
  ·rw[if_neg hc]at hr
   have:=zdN a ts (s+rdV data v t) k (by simpa using h) (by omega) hr
   simp only[List.take_succ_cons,rdA,if_neg hc]
   exact this
theorem zka {data:List Dat} (h8:∀ D∈data,D.cons.length≤8) (t:VT) (a:IT) (l:List IT) (h:0≤rdE data (a::l) t 0):0≤rdE data [a] t 0∧0≤rdE data l t 0∧rdE data (a::l) t 0=rdE data [a] t 0+rdE data l t 0:=by
 have e:[[a],l].flatten=a::l:=by simp
 rw[←e]at h
 obtain⟨h1,h2⟩:=zeT h8 _ _ 0 (by omega) (by omega) h
 rw[e]at h2
 refine⟨h1 [a] (by simp),h1 l (by simp),?_⟩
 rw[h2];simp
theorem zp9 {data:List Dat} (h8:∀ D∈data,D.cons.length≤8) (t:VT) (a:IT) (l:List IT) (h1:0≤rdE data [a] t 0) (h2:0≤rdE data l t 0) (h3:rdE data [a] t 0+rdE data l t 0≤6):rdE data (a::l) t 0=rdE data [a] t 0+rdE data l t 0:=by
 have e:a::l=[a]++l:=rfl
 rw[e,zp8 h8 _ _ _ _ (by omega) (by omega),if_neg (by omega),zj7 l t _ h1 (by omega),zfb h2 h3]
theorem zFi {data:List Dat} {c:Int} {ks:List IT} {t:VT} {ps:List VT} (h0:0≤c) (h8:c<8) (hp:za8 data t c=some ps) (hl:ps.length=ks.length) (hr:0≤rdA data ks ps 0) (h6:1+rdA data ks ps 0≤6):rdE data [.mk c ks] t 0=1+rdA data ks ps 0:=by
 rw[zd3,if_neg (by omega),hp]
 simp only
 rw[if_pos hl,if_neg (by omega)]
 simp only[rdE];omega
theorem zj9 {data:List Dat} {c:Int} {ks:List IT} {t:VT} (h:0≤rdE data [.mk c ks] t 0):0≤c∧c<8∧∃ ps,za8 data t c=some ps∧ps.length=ks.length∧0≤rdA data ks ps 0∧rdE data [.mk c ks] t 0=1+rdA data ks ps 0:=by
 rw[zd3]at h ⊢
 split at h
 ·omega
 ·rename_i hc
  cases hp:za8 data t c with
  | none=>rw[hp]at h;simp at h
  | some ps=>
   rw[hp]at h
   simp only at h
   by_cases hl:ps.length=ks.length
   ·rw[if_pos hl]at h
    by_cases hx:rdA data ks ps 0<0∨0+1+rdA data ks ps 0>6
    ·rw[if_pos hx]at h;omega
    ·refine⟨by omega,by omega,ps,rfl,hl,by omega,?_⟩
     rw[if_neg hc]
     simp only
     rw[if_pos hl,if_neg hx]
     simp only[rdE];omega
   ·rw[if_neg hl]at h;omega
theorem p3 {a b:Int} (h0:0≤a) (h:a≤b):3 ^ a.toNat≤3 ^ b.toNat:=Nat.pow_le_pow_right (by omega) (by omega)
theorem zpY {a b:Int} (h0:0≤a) (h:0≤b):3 ^ (a+b).toNat=3 ^ a.toNat*3 ^ b.toNat:=by
 rw[show (a+b).toNat=a.toNat+b.toNat by omega,Nat.pow_add]
def zn1 (data:List Dat) (f:Nat):Prop:=∀ (t:VT) (i j:IT),i.nodes+j.nodes≤f→0≤rdV data i t→0≤rdV data j t→rdV data i t+rdV data j t≤6 →
 (∀ p∈zbv data f t i j,0<p.2∧0≤rdV data p.1 t∧rdV data p.1 t≤rdV data i t+rdV data j t∧rdV data i t≤rdV data p.1 t∧rdV data j t≤rdV data p.1 t∧p.1.nodes≤i.nodes+j.nodes)∧zaG (fun _=>1) (zbv data f t i j)≤3 ^ (rdV data i t+rdV data j t).toNat
def ziG (data:List Dat) (f:Nat):Prop:=∀ (ts:List VT) (l m:List IT),IT.nodesL l+IT.nodesL m+1≤f→l.length=ts.length→m.length=ts.length→0≤rdA data l ts 0→0≤rdA data m ts 0→rdA data l ts 0+rdA data m ts 0≤6 →
 (∀ r∈zcd data f ts l m,0<r.2∧r.1.length=ts.length∧0≤rdA data r.1 ts 0∧rdA data r.1 ts 0≤rdA data l ts 0+rdA data m ts 0∧rdA data l ts 0≤rdA data r.1 ts 0∧rdA data m ts 0≤rdA data r.1 ts 0∧IT.nodesL r.1≤IT.nodesL l+IT.nodesL m) ∧
  zbw (fun _=>1) (zcd data f ts l m)≤3 ^ (rdA data l ts 0+rdA data m ts 0).toNat
def ziH (data:List Dat) (f:Nat):Prop:=∀ (t:VT) (l m:List IT),IT.nodesL l+IT.nodesL m+1≤f→0≤rdE data l t 0→0≤rdE data m t 0→rdE data l t 0+rdE data m t 0≤6 →
 (∀ p∈zaK data f t l m,0<p.2∧zaW p.1=0∧0≤rdE data (zaC p.1) t 0∧rdE data (zaC p.1) t 0≤rdE data l t 0+rdE data m t 0∧rdE data l t 0≤rdE data (zaC p.1) t 0∧rdE data m t 0≤rdE data (zaC p.1) t 0∧IT.nodesL (zaC p.1)≤IT.nodesL l+IT.nodesL m) ∧
  zaG (fun _=>1) (zaK data f t l m)≤3 ^ (rdE data l t 0+rdE data m t 0).toNat
theorem zFu (out:List (List IT × Nat)) (ws:List (IT × Nat)):zbw (fun _=>1) (zbL out ws)=zbw (fun _=>1) out*zaG (fun _=>1) ws:=zxj _ (fun _=>1) (fun _=>1) ws out (fun r _ w _=>by simp)
theorem zD1 {data:List Dat} {f:Nat} (hP:zn1 data f):ziG data (f+1):=by
 intro ts l m hf hl hm hA hB h6
 rw[zjb]
 have key:∀ k,k≤ts.length→(∀ r∈zcb data f ts l m k,0<r.2∧0≤rdA data r.1 (ts.take k) 0∧rdA data r.1 (ts.take k) 0≤rdA data (l.take k) (ts.take k) 0+rdA data (m.take k) (ts.take k) 0∧rdA data (l.take k) (ts.take k) 0≤rdA data r.1 (ts.take k) 0∧rdA data (m.take k) (ts.take k) 0≤rdA data r.1 (ts.take k) 0 ∧
   IT.nodesL r.1≤IT.nodesL (l.take k)+IT.nodesL (m.take k))∧zbw (fun _=>1) (zcb data f ts l m k)≤3 ^ (rdA data (l.take k) (ts.take k) 0+rdA data (m.take k) (ts.take k) 0).toNat:=by
  intro k
  induction k with
  | zero=>
   intro _
   refine⟨fun r hr=>?_,by simp[zgw,rdA]⟩
   simp[zgw]at hr
   subst hr
   simp[rdA,IT.nodesL]
  | succ k ih=>
   intro hk
   obtain⟨ih1,ih2⟩:=ih (by omega)
   have h1:k<ts.length:=by omega
   have h3:k<l.length:=by omega
   have h4:k<m.length:=by omega
   have eg:zbv data f (ts.getD k tz) (l.getD k d0) (m.getD k d0)=zbv data f ts[k] l[k] m[k]:=by simp[List.getD_eq_getElem?_getD,h1,h3,h4]
   have a1:=zdN l ts 0 k hl (by omega) hA
   have a2:=zdN l ts 0 (k+1) hl (by omega) hA
   have b1:=zdN m ts 0 k hm (by omega) hB
   have b2:=zdN m ts 0 (k+1) hm (by omega) hB
   have ea:ts.take (k+1)=ts.take k++[ts[k]]:=List.take_succ_eq_append_getElem h1
   have el:l.take (k+1)=l.take k++[l[k]]:=List.take_succ_eq_append_getElem h3
   have em:m.take (k+1)=m.take k++[m[k]]:=List.take_succ_eq_append_getElem h4
   have sl:=zgs (data:=data) l[k] ts[k] (l.take k) (ts.take k) 0 (by simp;omega) (by omega) a1.1
   have sm:=zgs (data:=data) m[k] ts[k] (m.take k) (ts.take k) 0 (by simp;omega) (by omega) b1.1
   rw[←el,←ea]at sl
   rw[←em,←ea]at sm
   by_cases cl:rdV data l[k] ts[k]<0∨rdA data (l.take k) (ts.take k) 0+rdV data l[k] ts[k]>6
   ·rw[if_pos cl]at sl;omega
   ·rw[if_neg cl]at sl
    by_cases cm:rdV data m[k] ts[k]<0∨rdA data (m.take k) (ts.take k) 0+rdV data m[k] ts[k]>6
    ·rw[if_pos cm]at sm;omega
    ·rw[if_neg cm]at sm
     have n1:=zgq h3
     have n2:=zgq h4
     obtain⟨hp1,hp2⟩:=hP ts[k] l[k] m[k] (by omega) (by omega) (by omega) (by omega)
     have nl:=IT.nodesL_take h3
     have nm:=IT.nodesL_take h4
     rw[zgv,eg]
     constructor
     ·intro r hr
      obtain⟨q,hq,w,hw,rfl⟩:=zxi hr
      obtain⟨q1,q2,q3,q4,q5,q6⟩:=ih1 q hq
      obtain⟨w1,w2,w3,w4,w5,w6⟩:=hp1 w hw
      have hql:=zqe k q hq
      have sr:=zgs (data:=data) w.1 ts[k] q.1 (ts.take k) 0 (by simp;omega) (by omega) q2
      rw[←ea,if_neg (by omega)]at sr
      simp only
      rw[sr,IT.nodesL_app]
      simp only[IT.nodesL]
      exact⟨Nat.mul_pos q1 w1,by omega,by omega,by omega,by omega,by omega⟩
     ·rw[zFu,sl,sm]
      rw[show rdA data (l.take k) (ts.take k) 0+rdV data l[k] ts[k]+(rdA data (m.take k) (ts.take k) 0+rdV data m[k] ts[k])=(rdA data (l.take k) (ts.take k) 0+rdA data (m.take k) (ts.take k) 0)+(rdV data l[k] ts[k]+rdV data m[k] ts[k]) by omega,zpY (by omega) (by omega)]
      exact Nat.mul_le_mul ih2 hp2
 obtain⟨k1,k2⟩:=key ts.length (Nat.le_refl _)
 rw[List.take_length,List.take_of_length_le (l:=l) (by omega),List.take_of_length_le (l:=m) (by omega)]at k1 k2
 exact⟨fun r hr=>by
  obtain⟨q1,q2,q3,q4,q5,q6⟩:=k1 r hr
  exact⟨q1,zqe _ r hr,q2,q3,q4,q5,q6⟩,k2⟩
theorem zD2 {data:List Dat} (h8:∀ D∈data,D.cons.length≤8) {f:Nat} (hQ:ziG data f) (hR:ziH data f):ziH data (f+1):=by
 intro t l m hf hl hm h6
 cases l with
 | nil=>
  have e0:rdE data [] t 0=0:=by simp only[rdE]
  have hN:=p3 (a:=0) (b:=rdE data m t 0) (by omega) (by omega)
  refine⟨fun p hp=>?_,by simp[zaK,e0];simpa using hN⟩
  simp[zaK]at hp
  subst hp
  simp only[zaW,zaC,e0,IT.nodesL]
  exact⟨by omega,trivial,hm,by omega,by omega,by omega,by omega⟩
 | cons a l=>
  cases m with
  | nil=>
   have e0:rdE data [] t 0=0:=by simp only[rdE]
   have hN:=p3 (a:=0) (b:=rdE data (a::l) t 0) (by omega) (by omega)
   refine⟨fun p hp=>?_,by simp[zaK,e0];simpa using hN⟩
   simp[zaK]at hp
   subst hp
   simp only[zaW,zaC,e0,IT.nodesL]
   exact⟨by omega,trivial,hl,by omega,by omega,by omega,by omega⟩
  | cons b m=>
   have hna:=a.nodes_pos
   have hnb:=b.nodes_pos
   obtain⟨la,ll,el⟩:=zka h8 t a l hl
   obtain⟨mb,mm,em⟩:=zka h8 t b m hm
   simp only[IT.nodesL]at hf
   obtain⟨ca,pa⟩:=a
   obtain⟨cb,pb⟩:=b
   obtain⟨ca0,ca8,psa,hpa,hla,hra,ea⟩:=zj9 la
   obtain⟨cb0,cb8,psb,hpb,hlb,hrb,eb⟩:=zj9 mb
   obtain⟨A1,A2⟩:=hR t l (.mk cb pb::m) (by simp only[IT.nodesL];omega) ll hm (by omega)
   obtain⟨B1,B2⟩:=hR t (.mk ca pa::l) m (by simp only[IT.nodesL];omega) hl mm (by omega)
   obtain⟨C1,C2⟩:=hR t l m (by omega) ll mm (by omega)
   obtain⟨s,hs⟩:∃ s,s=rdE data (.mk ca pa::l) t 0+rdE data (.mk cb pb::m) t 0:=⟨_,rfl⟩
   have n1:zaG (fun _=>1) (zaD [] ((zaK data f t l (.mk cb pb::m)).map fun w=>(bef (.mk ca pa) w.1,w.2)))≤3 ^ (s-1).toNat:=by
    rw[zcy,zcQ,Nat.zero_add,zdP _ (fun _=>1) (bef (.mk ca pa)) 1 (fun x=>by simp),Nat.one_mul]
    exact Nat.le_trans A2 (p3 (by omega) (by omega))
   have n2:zaG (fun _=>1) ((zaK data f t (.mk ca pa::l) m).map fun w=>(bef (.mk cb pb) w.1,w.2))≤3 ^ (s-1).toNat:=by
    rw[zdP _ (fun _=>1) (bef (.mk cb pb)) 1 (fun x=>by simp),Nat.one_mul]
    exact Nat.le_trans B2 (p3 (by omega) (by omega))
   have h3s:3 ^ s.toNat=3*3 ^ (s-1).toNat:=by
    rw[show s.toNat=(s-1).toNat+1 by omega,Nat.pow_succ,Nat.mul_comm]
   -- the terms of the three parts
   have t1:∀ w∈zaK data f t l (.mk cb pb::m),0<w.2→zaW (bef (.mk ca pa) w.1)=0∧0≤rdE data (zaC (bef (.mk ca pa) w.1)) t 0∧rdE data (zaC (bef (.mk ca pa) w.1)) t 0≤s∧rdE data (.mk ca pa::l) t 0≤rdE data (zaC (bef (.mk ca pa) w.1)) t 0∧rdE data (.mk cb pb::m) t 0≤rdE data (zaC (bef (.mk ca pa) w.1)) t 0∧IT.nodesL (zaC (bef (.mk ca pa) w.1))≤IT.nodesL (.mk ca pa::l)+IT.nodesL (.mk cb pb::m):=by
    intro w hw _
    obtain⟨_,_,w2,w3,w4,w5,w6⟩:=A1 w hw
    have ej:=zp9 h8 t (.mk ca pa) (zaC w.1) la w2 (by omega)
    have eb:zaC (bef (.mk ca pa) w.1)=.mk ca pa::zaC w.1:=rfl
    rw[eb]
    simp only[IT.nodesL]at w6 ⊢
    exact⟨rfl,by omega,by omega,by omega,by omega,by omega⟩
   have t2:∀ w∈zaK data f t (.mk ca pa::l) m,0<w.2→zaW (bef (.mk cb pb) w.1)=0∧0≤rdE data (zaC (bef (.mk cb pb) w.1)) t 0∧rdE data (zaC (bef (.mk cb pb) w.1)) t 0≤s∧rdE data (.mk ca pa::l) t 0≤rdE data (zaC (bef (.mk cb pb) w.1)) t 0∧rdE data (.mk cb pb::m) t 0≤rdE data (zaC (bef (.mk cb pb) w.1)) t 0∧IT.nodesL (zaC (bef (.mk cb pb) w.1))≤IT.nodesL (.mk ca pa::l)+IT.nodesL (.mk cb pb::m):=by
    intro w hw _
    obtain⟨_,_,w2,w3,w4,w5,w6⟩:=B1 w hw
    have ej:=zp9 h8 t (.mk cb pb) (zaC w.1) mb w2 (by omega)
    have eb:zaC (bef (.mk cb pb) w.1)=.mk cb pb::zaC w.1:=rfl
    rw[eb]
    simp only[IT.nodesL]at w6 ⊢
    exact⟨rfl,by omega,by omega,by omega,by omega,by omega⟩
   rw[←hs]
   have emp:∀ q∈([]:List (IT × Nat)),0<q.2:=fun q hq=>by simp at hq
   have g1:=zfc ((zaK data f t l (.mk cb pb::m)).map fun w=>(bef (.mk ca pa) w.1,w.2)) [] emp
   have g2:=zfc ((zaK data f t (.mk ca pa::l) m).map fun w=>(bef (.mk cb pb) w.1,w.2)) (zaD [] ((zaK data f t l (.mk cb pb::m)).map fun w=>(bef (.mk ca pa) w.1,w.2))) (fun q hq=>(g1 q hq).1)
   have two:∀ p∈zaD (zaD [] ((zaK data f t l (.mk cb pb::m)).map fun w=>(bef (.mk ca pa) w.1,w.2))) ((zaK data f t (.mk ca pa::l) m).map fun w=>(bef (.mk cb pb) w.1,w.2)),0<p.2∧zaW p.1=0∧0≤rdE data (zaC p.1) t 0∧rdE data (zaC p.1) t 0≤s∧rdE data (.mk ca pa::l) t 0≤rdE data (zaC p.1) t 0∧rdE data (.mk cb pb::m) t 0≤rdE data (zaC p.1) t 0∧IT.nodesL (zaC p.1)≤IT.nodesL (.mk ca pa::l)+IT.nodesL (.mk cb pb::m):=by
    intro p hp
    obtain⟨h0,h | h⟩:=g2 p hp
    ·obtain⟨q,hq,he⟩:=h
     obtain⟨_,h | h⟩:=g1 q hq
     ·obtain⟨x,hx,_⟩:=h;simp at hx
     ·obtain⟨x,hx,hx0,hxe⟩:=h
      obtain⟨w,hw,rfl⟩:=List.mem_map.1 hx
      simp only at hxe hx0
      rw[←he,←hxe]
      exact⟨h0,t1 w hw hx0⟩
    ·obtain⟨x,hx,hx0,hxe⟩:=h
     obtain⟨w,hw,rfl⟩:=List.mem_map.1 hx
     simp only at hxe hx0
     rw[←hxe]
     exact⟨h0,t2 w hw hx0⟩
   rw[zaK]
   by_cases hab:zaW (.mk ca pa)=zaW (.mk cb pb)
   ·rw[if_neg (by simpa using hab)]
    simp only[zaW]at hab
    subst hab
    rw[hpa]at hpb
    cases hpb
    obtain⟨Q1,Q2⟩:=hQ psa pa pb (by simp only[IT.nodes]at hf;omega) hla.symm hlb.symm hra hrb (by omega)
    have t3:∀ r∈zcd data f psa pa pb,∀ w∈zaK data f t l m,zaW (bef (.mk ca r.1) w.1)=0∧0≤rdE data (zaC (bef (.mk ca r.1) w.1)) t 0∧rdE data (zaC (bef (.mk ca r.1) w.1)) t 0≤s∧rdE data (.mk ca pa::l) t 0≤rdE data (zaC (bef (.mk ca r.1) w.1)) t 0∧rdE data (.mk ca pb::m) t 0≤rdE data (zaC (bef (.mk ca r.1) w.1)) t 0∧IT.nodesL (zaC (bef (.mk ca r.1) w.1))≤IT.nodesL (.mk ca pa::l)+IT.nodesL (.mk ca pb::m):=by
     intro r hr w hw
     obtain⟨_,r1,r2,r3,r4,r5,r6⟩:=Q1 r hr
     obtain⟨_,_,w2,w3,w4,w5,w6⟩:=C1 w hw
     have eo:=zFi ca0 ca8 hpa r1.symm r2 (by omega)
     have ej:=zp9 h8 t (.mk ca r.1) (zaC w.1) (by omega) w2 (by omega)
     have eb:zaC (bef (.mk ca r.1) w.1)=.mk ca r.1::zaC w.1:=rfl
     rw[eb]
     simp only[IT.nodesL,IT.nodes]at w6 ⊢
     exact⟨rfl,by omega,by omega,by omega,by omega,by omega⟩
    simp only[zaW,zaC,hpa,Option.getD_some]
    have g3:=zfc ((zcd data f psa pa pb).flatMap fun r=>(zaK data f t l m).map fun w=>(bef (.mk ca r.1) w.1,r.2*w.2)) _ (fun q hq=>(g2 q hq).1)
    constructor
    ·intro p hp
     obtain⟨h0,h | h⟩:=g3 p hp
     ·obtain⟨q,hq,he⟩:=h
      have:=(two q hq).2
      rw[he]at this
      exact⟨h0,this⟩
     ·obtain⟨x,hx,_,hxe⟩:=h
      obtain⟨r,hr,hx⟩:=List.mem_flatMap.1 hx
      obtain⟨w,hw,rfl⟩:=List.mem_map.1 hx
      simp only at hxe
      rw[←hxe]
      exact⟨h0,t3 r hr w hw⟩
    ·rw[zcy,zcy]
     have n3:zaG (fun _=>1) ((zcd data f psa pa pb).flatMap fun r=>(zaK data f t l m).map fun w=>(bef (.mk ca r.1) w.1,r.2*w.2))=zbw (fun _=>1) (zcd data f psa pa pb)*zaG (fun _=>1) (zaK data f t l m):=by
      generalize zcd data f psa pa pb=R
      induction R with
      | nil=>simp
      | cons r R ih=>
       rw[List.flatMap_cons,zfB,ih,zh9,zdP _ (fun _=>1) (bef (.mk ca r.1)) 1 (fun x=>by simp),zeX,Nat.add_mul]
       simp
     have n4:zbw (fun _=>1) (zcd data f psa pa pb)*zaG (fun _=>1) (zaK data f t l m)≤3 ^ (s-1).toNat:=by
      refine Nat.le_trans (Nat.mul_le_mul Q2 C2) ?_
      rw[←zpY (by omega) (by omega)]
      exact p3 (by omega) (by omega)
     rw[n3,h3s]
     omega
   ·rw[if_pos (by simpa using hab)]
    refine⟨two,?_⟩
    rw[zcy,h3s]
    omega
theorem zu9:∀ a,a<7→∀ b,b<7→a+b≤6→zbX (a+b+1) (fun k=>pcf a b k)≤3 ^ (a+b):=by decide +kernel
theorem zFb:∀ a,a<7→∀ b,b<7→∀ k,k<13→0<pcf a b k→a≤k∧b≤k:=by
 intro a _ b _ k _ h
 unfold pcf at h
 split at h
 ·omega
 ·omega
theorem zD0 {data:List Dat} (h8:∀ D∈data,D.cons.length≤8) {f:Nat} (hQ:ziG data f) (hR:ziH data f):zn1 data (f+1):=by
 intro t i j hf hi hj h6
 obtain⟨k,tn,tks⟩:=t
 obtain⟨n,l⟩:=i
 obtain⟨n',m⟩:=j
 simp only[IT.nodes]at hf
 have emp:∀ q∈([]:List (IT × Nat)),0<q.2:=fun q hq=>by simp at hq
 rw[zbv]
 by_cases k6:k=6
 ·subst k6
  have ev:∀ (n:Int) (l:List IT),0≤rdV data (.mk n l) (.mk 6 tn tks)→n=0∧l.length=tks.length∧rdV data (.mk n l) (.mk 6 tn tks)=rdA data l tks 0:=fun n l h=>by
   rw[rdV]at h ⊢
   simp only[VT.kind,VT.kids,if_true]at h ⊢
   by_cases hn:n=0
   ·by_cases hl:tks.length=l.length
    ·simp[hn,hl]
    ·simp[hn,hl]at h
   ·simp[hn]at h
  have ev2:∀ l:List IT,l.length=tks.length→rdV data (.mk 0 l) (.mk 6 tn tks)=rdA data l tks 0:=fun l h=>by
   rw[rdV];simp[VT.kind,VT.kids,h]
  obtain⟨i1,i2,i3⟩:=ev n l hi
  obtain⟨j1,j2,j3⟩:=ev n' m hj
  rw[i3]at hi h6 ⊢
  rw[j3]at hj h6 ⊢
  obtain⟨Q1,Q2⟩:=hQ tks l m (by omega) i2 j2 hi hj h6
  simp only[VT.kind,VT.kids,if_true,zaC,IT.nodes]
  constructor
  ·intro p hp
   obtain⟨h0,h | h⟩:=zfc _ _ emp p hp
   ·obtain⟨x,hx,_⟩:=h;simp at hx
   ·obtain⟨x,hx,_,hxe⟩:=h
    obtain⟨r,hr,rfl⟩:=List.mem_map.1 hx
    simp only at hxe
    obtain⟨_,r1,r2,r3,r4,r5,r6⟩:=Q1 r hr
    rw[←hxe,ev2 r.1 r1]
    simp only[IT.nodes]
    exact⟨h0,r2,r3,r4,r5,by omega⟩
  ·rw[zcy,zcQ,Nat.zero_add,zfC]
   exact Q2
 ·by_cases k7:k=7
  ·subst k7
   have ev:∀ (n:Int) (l:List IT),0≤rdV data (.mk n l) (.mk 7 tn tks)→0≤n∧n≤6∧rdV data (.mk n l) (.mk 7 tn tks)=n:=fun n l h=>by
    rw[rdV]at h ⊢
    simp only[VT.kind,k6,if_false,if_true]at h ⊢
    by_cases hc:0≤n∧n≤6∧l.length=0
    ·rw[if_pos hc];exact⟨hc.1,hc.2.1,rfl⟩
    ·rw[if_neg hc]at h;omega
   obtain⟨i1,i2,i3⟩:=ev n l hi
   obtain⟨j1,j2,j3⟩:=ev n' m hj
   rw[i3]at hi h6 ⊢
   rw[j3]at hj h6 ⊢
   obtain⟨a,rfl⟩:∃ a:Nat,n=a:=⟨n.toNat,by omega⟩
   obtain⟨b,rfl⟩:∃ b:Nat,n'=b:=⟨n'.toNat,by omega⟩
   simp only[VT.kind,k6,if_false,if_true,zaW,IT.nodes,Int.toNat_natCast]
   constructor
   ·intro p hp
    obtain⟨h0,h | h⟩:=zfc _ _ emp p hp
    ·obtain⟨x,hx,_⟩:=h;simp at hx
    ·obtain⟨x,hx,hx0,hxe⟩:=h
     obtain⟨q,hq,rfl⟩:=List.mem_map.1 hx
     rw[List.mem_range]at hq
     simp only at hx0 hxe
     obtain⟨q1,q2⟩:=zFb a (by omega) b (by omega) q (by omega) hx0
     have e:rdV data (.mk (q:Int) []) (.mk 7 tn tks)=q:=by
      rw[rdV]
      simp only[VT.kind,k6,if_false,if_true]
      rw[if_pos ⟨by omega,by omega,rfl⟩]
     rw[←hxe,e]
     simp only[IT.nodes,IT.nodesL]
     exact⟨h0,by omega,by omega,by omega,by omega,by omega⟩
   ·rw[zcy,zcQ,Nat.zero_add,zbJ,zfC]
    have:=zu9 a (by omega) b (by omega) (by omega)
    unfold zbX at this
    rw[show ((a:Int)+(b:Int)).toNat=a+b by omega]
    simpa using this
  ·by_cases k5:k=5
   ·subst k5
    have ev:∀ (n:Int) (l:List IT),0≤rdV data (.mk n l) (.mk 5 tn tks)→n=0∧l.length≤6∧rdV data (.mk n l) (.mk 5 tn tks)=rdE data l (.mk 5 tn tks) 0:=fun n l h=>by
     rw[zgt]at h ⊢
     by_cases hc:n=0∧l.length≤6
     ·rw[if_pos hc];exact⟨hc.1,hc.2,rfl⟩
     ·rw[if_neg hc]at h;omega
    obtain⟨i1,i2,i3⟩:=ev n l hi
    obtain⟨j1,j2,j3⟩:=ev n' m hj
    rw[i3]at hi h6 ⊢
    rw[j3]at hj h6 ⊢
    obtain⟨R1,R2⟩:=hR (.mk 5 tn tks) l m (by omega) hi hj h6
    simp only[VT.kind,k6,k7,if_false,if_true,zaC,IT.nodes]
    constructor
    ·intro p hp
     obtain⟨h0,h | h⟩:=zfc _ _ emp p hp
     ·obtain⟨x,hx,_⟩:=h;simp at hx
     ·obtain⟨x,hx,hx0,hxe⟩:=h
      obtain⟨_,r1,r2,r3,r4,r5,r6⟩:=R1 x hx
      rw[←hxe]
      obtain⟨⟨xn,xk⟩,xc⟩:=x
      simp only[zaW,zaC]at r1 r2 r3 r4 r5 r6 ⊢
      subst r1
      have hge:=zh1 (data:=data) xk (.mk 5 tn tks) 0 (by omega)
      have e:rdV data (.mk 0 xk) (.mk 5 tn tks)=rdE data xk (.mk 5 tn tks) 0:=by rw[zgt,if_pos ⟨rfl,by omega⟩]
      rw[e]
      simp only[IT.nodes]
      exact⟨h0,r2,r3,r4,r5,by omega⟩
    ·rw[zcy,zcQ,Nat.zero_add]
     exact R2
   ·have ev:∀ (n:Int) (l:List IT),0≤rdV data (.mk n l) (.mk k tn tks)→rdV data (.mk n l) (.mk k tn tks)=0:=fun n l h=>by
     rw[rdV]at h ⊢
     simp only[VT.kind,k6,k7,k5,if_false]at h ⊢
     by_cases hc:n=0∧l.length=0
     ·rw[if_pos hc]
     ·rw[if_neg hc]at h;omega
    rw[ev n l hi,ev n' m hj]
    simp only[VT.kind,k6,k7,k5,if_false]
    refine⟨fun p hp=>?_,by simp⟩
    simp at hp
    subst hp
    have e:rdV data (.mk 0 []) (.mk k tn tks)=0:=by rw[rdV];simp[VT.kind,k6,k7,k5]
    rw[e]
    simp only[IT.nodes,IT.nodesL]
    exact⟨by omega,by omega,by omega,by omega,by omega,by omega⟩
theorem zdu {data:List Dat} (h8:∀ D∈data,D.cons.length≤8):∀ f,zn1 data f∧ziG data f∧ziH data f
 | 0=>⟨fun t i j h=>by have:=i.nodes_pos;omega,fun ts l m h=>by omega,fun t l m h=>by omega⟩
 | f+1=>by
  obtain⟨h1,h2,h3⟩:=zdu h8 f
  exact⟨zD0 h8 h2 h3,zD1 h1,zD2 h8 h2 h3⟩
end Go.Proofs.YtjkkonpjecoieaaGreat
namespace Go.Proofs.YtjkkonpjecoieaaGreat
open Go Go.Abs
set_option maxRecDepth 100000
def zkJ:Nat→List Bool
 | 2=>rl false [0,1,3,2,1,1,82]
 | 400002=>rl false [0,1]
 | 400004=>rl false [0,1]
 | 400005=>rl false [0,1]
 | _=>[]
noncomputable def zq6:Code:=Tryz.f108.body.getD .skip
noncomputable def zHW:List ResultVar:=Tryz.f108.results.toList
def zkK (t0 t4 t5 t7:AV):List AV:=t0::ux 3 (t4::t5::ux 1 (t7::ux 82 []))
def zHU:List Bool:=zkJ 2
noncomputable def zHS:Code:=zap [1,1,0,0,0] zq6
def zHR (K:Kt):AExit→List AV→zaa→Prop:=zaq tP zkJ [1,1,0,0] zq6 (zaA tP zHW K)
def zyS (t0 t4 t5 t7:AV) (H:zaa) (K:Kt):Prop:=ALoop tP zHS (zHR K) (zkK t0 t4 t5 t7) H
def zq7 (t0:AV) (H:zaa) (K:Kt):Prop:=
 K t0 H
def zq5 (t0 t4 t5 t7:AV) (H:zaa) (K:Kt) (Kb2:Lt):Prop:=
 zad H (fun K'=>K' t7 H) fun t8=>
 zad H (fun K'=>K' t0 H) fun t9=>
 zad H (fun K'=>zah 1 t9 (K' · H)) fun t10=>
 zad H (fun K'=>zac .lss false t8 t10 (K' · H)) fun t11=>
 zad H (fun K'=>K' t11 H) fun t12=>
 zab t12 true H (fun K'=>zad H (fun K''=>K'' t0 H) (K' · H)) fun t13 H=>
 zab t12 true H (fun K'=>zad H (fun K''=>K'' t7 H) (K' · H)) fun t14 H=>
 zab t12 true H (fun K'=>zad H (fun K''=>zai 5 t13 t14 (K'' · H)) (K' · H)) fun t15 H=>
 zab t12 true H (fun K'=>zad H (fun K''=>zaf 0 t15 (K'' · H)) (K' · H)) fun t16 H=>
 zab t12 true H (fun K'=>zad H (fun K''=>zae true 2 t16 H (K'' · H)) (K' · H)) fun t17 H=>
 zab t12 true H (fun K'=>zad H (fun K''=>zae true 2 t4 H (K'' · H)) (K' · H)) fun t18 H=>
 zab t12 true H (fun K'=>zaE H (fun H K''=>ACalls tP zgi [t17,t18] H K'') (K' · H)) fun t19 H=>
 zab t12 true H (fun K'=>zad H (fun K''=>zac .lss false t19 (.int .i64 0) (K'' · H)) (K' · H)) fun t20 H=>
 zad H (fun K'=>zaj t12 t20 (.bool false) (K' · H)) fun t21=>
 zag t21
 (zac .add false t7 (.int .i64 1) fun t23=>
 Kb2 (zkK t0 t4 t5 t23) H)
 (zad H (fun K'=>K' t7 H) fun t24=>
 zad H (fun K'=>K' t0 H) fun t25=>
 zad H (fun K'=>zah 1 t25 (K' · H)) fun t26=>
 zad H (fun K'=>zac .lss false t24 t26 (K' · H)) fun t27=>
 zad H (fun K'=>K' t27 H) fun t28=>
 zab t28 true H (fun K'=>zad H (fun K''=>K'' t0 H) (K' · H)) fun t29 H=>
 zab t28 true H (fun K'=>zad H (fun K''=>K'' t7 H) (K' · H)) fun t30 H=>
 zab t28 true H (fun K'=>zad H (fun K''=>zai 5 t29 t30 (K'' · H)) (K' · H)) fun t31 H=>
 zab t28 true H (fun K'=>zad H (fun K''=>zaf 0 t31 (K'' · H)) (K' · H)) fun t32 H=>
 zab t28 true H (fun K'=>zad H (fun K''=>zae true 2 t32 H (K'' · H)) (K' · H)) fun t33 H=>
 zab t28 true H (fun K'=>zad H (fun K''=>zae true 2 t4 H (K'' · H)) (K' · H)) fun t34 H=>
 zab t28 true H (fun K'=>zaE H (fun H K''=>ACalls tP zgi [t33,t34] H K'') (K' · H)) fun t35 H=>
 zab t28 true H (fun K'=>zad H (fun K''=>zac .eql false t35 (.int .i64 0) (K'' · H)) (K' · H)) fun t36 H=>
 zad H (fun K'=>zaj t28 t36 (.bool false) (K' · H)) fun t37=>
 zag t37
 (zad H (fun K'=>K' t0 H) fun t38=>
 zad H (fun K'=>K' t7 H) fun t39=>
 zad H (fun K'=>K' t0 H) fun t40=>
 zad H (fun K'=>K' t7 H) fun t41=>
 zad H (fun K'=>zai 5 t40 t41 (K' · H)) fun t42=>
 zad H (fun K'=>zaf 2 t42 (K' · H)) fun t43=>
 zad H (fun K'=>zae true 3 t43 H (K' · H)) fun t44=>
 zad H (fun K'=>zae true 3 t5 H (K' · H)) fun t45=>
 zaE H (fun H K'=>ACalls tP zfs [t44,t45] H K') fun t46=>
 zad H (fun K'=>zai 5 t38 t39 (K' · H)) fun t47=>
 zad H (fun K'=>zaf 2 t47 (K' · H)) fun t48=>
 zam 3 t48 t46 H fun H=>
 zai 5 t0 t7 fun t51=>
 zaf 2 t51 fun t52=>
 zae true 3 t52 H fun t53=>
 ACalls tP zfv [t53] H fun t54 H=>
 zac .eql false t54 (.int .i64 0) fun t55=>
 zag t55
 (zad H (fun K'=>K' t0 H) fun t56=>
 zad H (fun K'=>K' t7 H) fun t57=>
 zad H (fun K'=>zaJ 1 5 t56 none (some t57) (K' · H)) fun t58=>
 zad H (fun K'=>K' t0 H) fun t59=>
 zad H (fun K'=>K' t7 H) fun t60=>
 zad H (fun K'=>zac .add false t60 (.int .i64 1) (K' · H)) fun t61=>
 zad H (fun K'=>zaJ 1 5 t59 (some t61) none (K' · H)) fun t62=>
 zax za5 5 88 t58 t62 H fun t63 H=>
 zad H (fun K'=>K' t63 H) fun t0=>
 zq7 t0 H K)
 (zq7 t0 H K))
 (zae true 3 t5 H fun t65=>
 ACalls tP zfv [t65] H fun t66 H=>
 zac .eql false t66 (.int .i64 0) fun t67=>
 zag t67
 (K t0 H)
 (zaz [(.int .i64 0),.snil,(.bool false),.snil,.snil] [(0,2),(2,3)] [] fun t70=>
 zaB 5 [(.int .i64 0),.snil,(.bool false),.snil,.snil] 1 [(0,t70)] fun t71=>
 zax za5 5 88 t0 t71 H fun t72 H=>
 zad H (fun K'=>K' t72 H) fun t73=>
 zad H (fun K'=>K' t7 H) fun t74=>
 zad H (fun K'=>zac .add false t74 (.int .i64 1) (K' · H)) fun t75=>
 zad H (fun K'=>zaJ 1 5 t73 (some t75) none (K' · H)) fun t76=>
 zad H (fun K'=>K' t72 H) fun t77=>
 zad H (fun K'=>K' t7 H) fun t78=>
 zad H (fun K'=>zaJ 1 5 t77 (some t78) none (K' · H)) fun t79=>
 ze8 5 t76 t79 H fun t80 H=>
 zad H (fun K'=>K' t72 H) fun t81=>
 zad H (fun K'=>K' t7 H) fun t82=>
 zad H (fun K'=>zal true 2 t4 H (K' · H)) fun t83=>
 zaE H (fun H K'=>ACalls tP zhz [t83] H K') fun t84=>
 zad H (fun K'=>zal true 3 t5 H (K' · H)) fun t85=>
 zaE H (fun H K'=>ACalls tP zdH [t85] H K') fun t86=>
 zad H (fun K'=>zaz [(.int .i64 0),.snil,(.bool false),.snil,.snil] [(0,2),(2,3)] [(0,t84),(1,t86)] (K' · H)) fun t87=>
 zad H (fun K'=>zai 5 t81 t82 (K' · H)) fun t88=>
 zam 5 t88 t87 H fun H=>
 K t72 H)))
def zyR (t0 t1 t2:AV) (H:zaa) (K:Kt):Prop:=
 zao t1 H fun t4 H=>
 zao t2 H fun t5 H=>
 zyS t0 t4 t5 (.int .i64 0) H K
theorem zHT {t0 t4 t5 t7:AV} {H:zaa} {K:Kt} (Inv:Nat→AV→zaa→Prop) (n:Nat) (h0:HSc H→Inv n t7 H)
  (round:Rd1 (fun t7=>zkK t0 t4 t5 t7) (fun t7=>fun H Kb2=>zq5 t0 t4 t5 t7 H K Kb2) H Inv):zyS t0 t4 t5 t7 H K:=
 lp1 (M:=zkJ) zHU t7 (by kernel_rfl) Inv n h0 round
theorem zHV {t0 t1 t2:AV} {H:zaa} {K:Kt} (h:HSc H→zyR t0 t1 t2 H K):ACalls tP zdc [t0,t1,t2] H K:=
 zan (M:=zkJ) Tryz.func108 (c:=zq6) (by kernel_rfl) (fun hs=>Eq.mpr (by kernel_rfl) (h hs))
def zec:Nat→List Bool
 | 6=>rl false [9,1,23,3,56]
 | 13=>rl false [9,1,47,3,32]
 | 19=>rl false [9,1,68,3,11]
 | _=>[]
noncomputable def zfT:Code:=Tryz.f64.body.getD .skip
noncomputable def ztT:List ResultVar:=Tryz.f64.results.toList
def zni (t9 t33 t34 t35:AV):List AV:=ux 9 (t9::ux 23 (t33::t34::t35::ux 56 []))
def zRt:List Bool:=zec 6
noncomputable def zRn:Code:=zap [1,1,0,1,0,1,0,1,0,0] zfT
def zRk (K:Kt):AExit→List AV→zaa→Prop:=zaq tP zec [1,1,0,1,0,1,0,1,0] zfT (zaA tP ztT K)
def znm (t9 t33 t34 t35:AV) (H:zaa) (K:Kt):Prop:=ALoop tP zRn (zRk K) (zni t9 t33 t34 t35) H
def znj (t9:AV) (H:zaa) (K:Kt):Prop:=
 K t9 H
def zfU (t9:AV) (H:zaa) (K:Kt):Prop:=
 znj t9 H K
def ztS (t9 t33 t34 t35:AV) (H:zaa) (K:Kt) (Kb6:Lt):Prop:=
 zac .lss false t35 t34 fun t36=>
 zag t36
 (zai 4 t33 t35 fun t37=>
 zae true 4 t37 H fun t38=>
 zaw [.snil,(.bool false),.snil,.snil] H fun t11 H=>
 zam 4 t11 t38 H fun H=>
 zaf 0 t11 fun t40=>
 zae false 1 t40 H fun t41=>
 zaz [(.int .i64 0),.snil] [(0,1),(1,1)] [(1,t41)] fun t42=>
 zaf 1 t11 fun t43=>
 zae true 3 t43 H fun t44=>
 ACalls tP zdc [t9,t42,t44] H fun t45 H=>
 zac .add false t35 (.int .i64 1) fun t46=>
 Kb6 (zni t45 t33 t34 t46) H)
 (zfU t9 H K)
def zng (t9 t57 t58 t59:AV):List AV:=ux 9 (t9::ux 47 (t57::t58::t59::ux 32 []))
def zRr:List Bool:=zec 13
noncomputable def zRl:Code:=zap [1,1,0,1,0,1,1,1,0,1,1,0,0] zfT
def zRi (K:Kt):AExit→List AV→zaa→Prop:=zaq tP zec [1,1,0,1,0,1,1,1,0,1,1,0] zfT (zaA tP ztT K)
def znk (t9 t57 t58 t59:AV) (H:zaa) (K:Kt):Prop:=ALoop tP zRl (zRi K) (zng t9 t57 t58 t59) H
def ztQ (t9 t57 t58 t59:AV) (H:zaa) (K:Kt) (Kb13:Lt):Prop:=
 zac .lss false t59 t58 fun t60=>
 zag t60
 (zai 3 t57 t59 fun t62=>
 zae true 3 t62 H fun t63=>
 zaw [(.bool false),.snil,.snil] H fun t15 H=>
 zam 3 t15 t63 H fun H=>
 zaz [(.int .i64 0),.snil] [(0,1),(1,1)] [(0,t59)] fun t66=>
 zae true 3 t15 H fun t67=>
 ACalls tP zdc [t9,t66,t67] H fun t68 H=>
 zac .add false t59 (.int .i64 1) fun t69=>
 Kb13 (zng t68 t57 t58 t69) H)
 (zfU t9 H K)
def znh (t9 t78 t79 t80:AV):List AV:=ux 9 (t9::ux 68 (t78::t79::t80::ux 11 []))
def zRs:List Bool:=zec 19
noncomputable def zRm:Code:=zap [1,1,0,1,0,1,1,1,1,1,0,1,0,0] zfT
def zRj (K:Kt):AExit→List AV→zaa→Prop:=zaq tP zec [1,1,0,1,0,1,1,1,1,1,0,1,0] zfT (zaA tP ztT K)
def znl (t9 t78 t79 t80:AV) (H:zaa) (K:Kt):Prop:=ALoop tP zRm (zRj K) (znh t9 t78 t79 t80) H
def ztR (t9 t78 t79 t80:AV) (H:zaa) (K:Kt) (Kb19:Lt):Prop:=
 zac .lss false t80 t79 fun t81=>
 zag t81
 (zai 5 t78 t80 fun t82=>
 zae true 5 t82 H fun t83=>
 zaw [(.int .i64 0),.snil,(.bool false),.snil,.snil] H fun t17 H=>
 zam 5 t17 t83 H fun H=>
 zaf 0 t17 fun t85=>
 zae true 2 t85 H fun t86=>
 zaf 2 t17 fun t87=>
 zae true 3 t87 H fun t88=>
 ACalls tP zdc [t9,t86,t88] H fun t89 H=>
 zac .add false t80 (.int .i64 1) fun t90=>
 Kb19 (znh t89 t78 t79 t90) H)
 (zfU t9 H K)
def ziy (t0 t1 t2 t3:AV) (H:zaa) (K:Kt):Prop:=
 zao t1 H fun t5 H=>
 zao t2 H fun t6 H=>
 zao t3 H fun t7 H=>
 zaf 0 t5 fun t18=>
 zae false 1 t18 H fun t19=>
 zac .eql false t19 (.int .i64 6) fun t25=>
 zag t25
 (zaf 2 t5 fun t27=>
 zae false 1 t27 H fun t28=>
 zaf 1 t6 fun t29=>
 zae false 1 t29 H fun t30=>
 zaf 1 t7 fun t31=>
 zae false 1 t31 H fun t32=>
 ACalls tP zjf [t0,t28,t30,t32] H fun t33 H=>
 zah 1 t33 fun t34=>
 znm .snil t33 t34 (.int .i64 0) H K)
 (zac .eql false t19 (.int .i64 7) fun t48=>
 zag t48
 (zaf 0 t6 fun t50=>
 zae false 1 t50 H fun t51=>
 zaf 0 t7 fun t52=>
 zae false 1 t52 H fun t53=>
 ACalls tP zo4 [t51,t53] H fun t54 H=>
 zay t54 0 fun t55=>
 zay t54 1 fun t56=>
 zah 1 t55 fun t58=>
 znk .snil t55 t58 (.int .i64 0) H K)
 (zac .eql false t19 (.int .i64 5) fun t71=>
 zag t71
 (zae true 3 t5 H fun t73=>
 zaf 1 t6 fun t74=>
 zae false 1 t74 H fun t75=>
 zaf 1 t7 fun t76=>
 zae false 1 t76 H fun t77=>
 ACalls tP zgh [t0,t73,t75,t77] H fun t78 H=>
 zah 1 t78 fun t79=>
 znl .snil t78 t79 (.int .i64 0) H K)
 (zaz [(.int .i64 0),.snil] [(0,1),(1,1)] [] fun t21=>
 ACalls tP zb3 [(.int .i64 1)] H fun t22 H=>
 ACalls tP zdc [.snil,t21,t22] H fun t23 H=>
 zfU t23 H K)))
theorem zRq {t9 t33 t34 t35:AV} {H:zaa} {K:Kt} (Inv:Nat→AV→AV→zaa→Prop) (n:Nat) (h0:HSc H→Inv n t9 t35 H)
  (round:Rd2 (fun t9=>fun t35=>zni t9 t33 t34 t35) (fun t9=>fun t35=>fun H Kb6=>ztS t9 t33 t34 t35 H K Kb6) H Inv):znm t9 t33 t34 t35 H K:=
 lp2 (M:=zec) zRt t9 t35 (by kernel_rfl) Inv n h0 round
theorem zRo {t9 t57 t58 t59:AV} {H:zaa} {K:Kt} (Inv:Nat→AV→AV→zaa→Prop) (n:Nat) (h0:HSc H→Inv n t9 t59 H)
  (round:Rd2 (fun t9=>fun t59=>zng t9 t57 t58 t59) (fun t9=>fun t59=>fun H Kb13=>ztQ t9 t57 t58 t59 H K Kb13) H Inv):znk t9 t57 t58 t59 H K:=
 lp2 (M:=zec) zRr t9 t59 (by kernel_rfl) Inv n h0 round
theorem zRp {t9 t78 t79 t80:AV} {H:zaa} {K:Kt} (Inv:Nat→AV→AV→zaa→Prop) (n:Nat) (h0:HSc H→Inv n t9 t80 H)
  (round:Rd2 (fun t9=>fun t80=>znh t9 t78 t79 t80) (fun t9=>fun t80=>fun H Kb19=>ztR t9 t78 t79 t80 H K Kb19) H Inv):znl t9 t78 t79 t80 H K:=
 lp2 (M:=zec) zRs t9 t80 (by kernel_rfl) Inv n h0 round
theorem zRu {t0 t1 t2 t3:AV} {H:zaa} {K:Kt} (h:HSc H→ziy t0 t1 t2 t3 H K):ACalls tP zjH [t0,t1,t2,t3] H K:=
 zan (M:=zec) Tryz.func64 (c:=zfT) (by kernel_rfl) (fun hs=>Eq.mpr (by kernel_rfl) (h hs))
def zd8:Nat→List Bool
 | 3=>rl false [0,4,5,1,10,2,48]
 | 7=>rl false [0,4,5,1,1,1,8,2,15,3,30]
 | 10=>rl false [0,4,5,1,1,1,1,1,6,2,15,3,3,3,24]
 | _=>[]
noncomputable def zq1:Code:=Tryz.f107.body.getD .skip
noncomputable def zHQ:List ResultVar:=Tryz.f107.results.toList
def zif (t0 t1 t2 t3 t9 t20 t21:AV):List AV:=t0::t1::t2::t3::ux 5 (t9::ux 10 (t20::t21::ux 48 []))
def zyP:List Bool:=zd8 3
noncomputable def zq2:Code:=zap [1,1,0,1,0,0] zq1
def zyL (K:Kt):AExit→List AV→zaa→Prop:=zaq tP zd8 [1,1,0,1,0] zq1 (zaA tP zHQ K)
def zyO (t0 t1 t2 t3 t9 t20 t21:AV) (H:zaa) (K:Kt):Prop:=ALoop tP zq2 (zyL K) (zif t0 t1 t2 t3 t9 t20 t21) H
def zkH (t0 t1 t2 t3 t9 t11 t20 t21 t37 t38 t39:AV):List AV:=t0::t1::t2::t3::ux 5 (t9::ux 1 (t11::ux 8 (t20::t21::ux 15 (t37::t38::t39::ux 30 []))))
def zyQ:List Bool:=zd8 7
noncomputable def zq4:Code:=zap [1,1,0,0,1,1,0,1,0,0] zq2
def zyM (K:Kt) (Kb3:Lt):AExit→List AV→zaa→Prop:=zaq tP zd8 [1,1,0,0,1,1,0,1,0] zq2 (zbD zyP Kb3 (zyL K))
def zkI (t0 t1 t2 t3 t9 t11 t20 t21 t37 t38 t39:AV) (H:zaa) (K:Kt) (Kb3:Lt):Prop:=ALoop tP zq4 (zyM K Kb3) (zkH t0 t1 t2 t3 t9 t11 t20 t21 t37 t38 t39) H
def zkG (t0 t1 t2 t3 t9 t11 t13 t20 t21 t37 t38 t39 t43 t44 t45:AV):List AV:=t0::t1::t2::t3::ux 5 (t9::ux 1 (t11::ux 1 (t13::ux 6 (t20::t21::ux 15 (t37::t38::t39::ux 3 (t43::t44::t45::ux 24 []))))))
def zHO:List Bool:=zd8 10
noncomputable def zHK:Code:=zap [1,1,0,0,1,1,0,0] zq4
def zHJ (K:Kt) (Kb3:Lt) (Kb7:Lt):AExit→List AV→zaa→Prop:=zaq tP zd8 [1,1,0,0,1,1,0] zq4 (zbD zyQ Kb7 (zyM K Kb3))
def zyN (t0 t1 t2 t3 t9 t11 t13 t20 t21 t37 t38 t39 t43 t44 t45:AV) (H:zaa) (K:Kt) (Kb3:Lt) (Kb7:Lt):Prop:=ALoop tP zHK (zHJ K Kb3 Kb7) (zkG t0 t1 t2 t3 t9 t11 t13 t20 t21 t37 t38 t39 t43 t44 t45) H
def zqY (t0 t1 t2 t3 t9 t11 t13 t20 t21 t37 t38 t39 t43 t44 t45:AV) (H:zaa) (K:Kt) (Kb3:Lt) (Kb7:Lt) (Kb10:Lt):Prop:=
 zac .lss false t45 t44 fun t46=>
 zag t46
 (zai 4 t43 t45 fun t47=>
 zae true 4 t47 H fun t48=>
 zaw [.snil,(.bool false),.snil,.snil] H fun t15 H=>
 zam 4 t15 t48 H fun H=>
 zad H (fun K'=>K' t11 H) fun t49=>
 zad H (fun K'=>zaf 0 t15 (K' · H)) fun t50=>
 zad H (fun K'=>zal false 1 t50 H (K' · H)) fun t51=>
 zax zbl 2 32 .snil t51 H fun t52 H=>
 zad H (fun K'=>zaf 0 t13 (K' · H)) fun t53=>
 zad H (fun K'=>zal true 2 t53 H (K' · H)) fun t54=>
 zad H (fun K'=>zaB 2 [(.int .i64 0),.snil] 1 [(0,t54)] (K' · H)) fun t55=>
 zax zbl 2 32 t52 t55 H fun t56 H=>
 zad H (fun K'=>zaf 1 t15 (K' · H)) fun t57=>
 zad H (fun K'=>zal true 3 t57 H (K' · H)) fun t58=>
 zad H (fun K'=>zaf 2 t13 (K' · H)) fun t59=>
 zad H (fun K'=>zal true 3 t59 H (K' · H)) fun t60=>
 zaE H (fun H K'=>ACalls tP zdd [t58,t60] H K') fun t61=>
 zad H (fun K'=>zaz [.snil,(.bool false),.snil,.snil] [(0,1),(1,3)] [(0,t56),(1,t61)] (K' · H)) fun t62=>
 zad H (fun K'=>zaB 4 [.snil,(.bool false),.snil,.snil] 1 [(0,t62)] (K' · H)) fun t63=>
 zax zdv 4 80 t49 t63 H fun t64 H=>
 zad H (fun K'=>K' t64 H) fun t11=>
 zac .add false t45 (.int .i64 1) fun t65=>
 Kb10 (zkG t0 t1 t2 t3 t9 t11 t13 t20 t21 t37 t38 t39 t43 t44 t65) H)
 (zac .add false t39 (.int .i64 1) fun t66=>
 Kb7 (zkH t0 t1 t2 t3 t9 t11 t20 t21 t37 t38 t66) H)
def zq0 (t0 t1 t2 t3 t9 t11 t20 t21 t37 t38 t39:AV) (H:zaa) (K:Kt) (Kb3:Lt) (Kb7:Lt):Prop:=
 zac .lss false t39 t38 fun t40=>
 zag t40
 (zai 5 t37 t39 fun t41=>
 zae true 5 t41 H fun t42=>
 zaw [(.int .i64 0),.snil,(.bool false),.snil,.snil] H fun t13 H=>
 zam 5 t13 t42 H fun H=>
 zah 1 t9 fun t44=>
 zyN t0 t1 t2 t3 t9 t11 t13 t20 t21 t37 t38 t39 t9 t44 (.int .i64 0) H K Kb3 Kb7)
 (zac .add false t21 (.int .i64 1) fun t68=>
 Kb3 (zif t0 t1 t2 t3 t11 t20 t68) H)
def zqZ (t0 t1 t2 t3 t9 t20 t21:AV) (H:zaa) (K:Kt) (Kb3:Lt):Prop:=
 zac .lss false t21 t20 fun t22=>
 zag t22
 (zad H (fun K'=>K' t0 H) fun t24=>
 zad H (fun K'=>K' t1 H) fun t25=>
 zad H (fun K'=>K' t21 H) fun t26=>
 zad H (fun K'=>zai 3 t25 t26 (K' · H)) fun t27=>
 zad H (fun K'=>zal true 3 t27 H (K' · H)) fun t28=>
 zad H (fun K'=>K' t2 H) fun t29=>
 zad H (fun K'=>K' t21 H) fun t30=>
 zad H (fun K'=>zai 2 t29 t30 (K' · H)) fun t31=>
 zad H (fun K'=>zal true 2 t31 H (K' · H)) fun t32=>
 zad H (fun K'=>K' t3 H) fun t33=>
 zad H (fun K'=>K' t21 H) fun t34=>
 zad H (fun K'=>zai 2 t33 t34 (K' · H)) fun t35=>
 zad H (fun K'=>zal true 2 t35 H (K' · H)) fun t36=>
 zaE H (fun H K'=>ACalls tP zjH [t24,t28,t32,t36] H K') fun t37=>
 zad H (fun K'=>zah 1 t37 (K' · H)) fun t38=>
 zad H (fun K'=>K' (.int .i64 0) H) fun t39=>
 zkI t0 t1 t2 t3 t9 .snil t20 t21 t37 t38 t39 H K Kb3)
 (K t9 H)
def zyK (t0 t1 t2 t3:AV) (H:zaa) (K:Kt):Prop:=
 ACalls tP zb3 [(.int .i64 1)] H fun t16 H=>
 zaz [.snil,(.bool false),.snil,.snil] [(0,1),(1,3)] [(0,.snil),(1,t16)] fun t17=>
 zaB 4 [.snil,(.bool false),.snil,.snil] 1 [(0,t17)] fun t18=>
 zah 1 t1 fun t20=>
 zyO t0 t1 t2 t3 t18 t20 (.int .i64 0) H K
theorem zHL {t0 t1 t2 t3 t9 t11 t13 t20 t21 t37 t38 t39 t43 t44 t45:AV} {H:zaa} {K:Kt} {Kb3:Lt} {Kb7:Lt} (Inv:Nat→AV→AV→zaa→Prop) (n:Nat) (h0:HSc H→Inv n t11 t45 H)
  (round:Rd2 (fun t11=>fun t45=>zkG t0 t1 t2 t3 t9 t11 t13 t20 t21 t37 t38 t39 t43 t44 t45) (fun t11=>fun t45=>fun H Kb10=>zqY t0 t1 t2 t3 t9 t11 t13 t20 t21 t37 t38 t39 t43 t44 t45 H K Kb3 Kb7 Kb10) H Inv):zyN t0 t1 t2 t3 t9 t11 t13 t20 t21 t37 t38 t39 t43 t44 t45 H K Kb3 Kb7:=
 lp2 (M:=zd8) zHO t11 t45 (by kernel_rfl) Inv n h0 round
theorem zHN {t0 t1 t2 t3 t9 t11 t20 t21 t37 t38 t39:AV} {H:zaa} {K:Kt} {Kb3:Lt} (Inv:Nat→AV→AV→zaa→Prop) (n:Nat) (h0:HSc H→Inv n t11 t39 H)
  (round:Rd2 (fun t11=>fun t39=>zkH t0 t1 t2 t3 t9 t11 t20 t21 t37 t38 t39) (fun t11=>fun t39=>fun H Kb7=>zq0 t0 t1 t2 t3 t9 t11 t20 t21 t37 t38 t39 H K Kb3 Kb7) H Inv):zkI t0 t1 t2 t3 t9 t11 t20 t21 t37 t38 t39 H K Kb3:=
 lp2 (M:=zd8) zyQ t11 t39 (by kernel_rfl) Inv n h0 round
theorem zHM {t0 t1 t2 t3 t9 t20 t21:AV} {H:zaa} {K:Kt} (Inv:Nat→AV→AV→zaa→Prop) (n:Nat) (h0:HSc H→Inv n t9 t21 H)
  (round:Rd2 (fun t9=>fun t21=>zif t0 t1 t2 t3 t9 t20 t21) (fun t9=>fun t21=>fun H Kb3=>zqZ t0 t1 t2 t3 t9 t20 t21 H K Kb3) H Inv):zyO t0 t1 t2 t3 t9 t20 t21 H K:=
 lp2 (M:=zd8) zyP t9 t21 (by kernel_rfl) Inv n h0 round
theorem zHP {t0 t1 t2 t3:AV} {H:zaa} {K:Kt} (h:HSc H→zyK t0 t1 t2 t3 H K):ACalls tP zjf [t0,t1,t2,t3] H K:=
 zan (M:=zd8) Tryz.func107 (c:=zq1) (by kernel_rfl) (fun hs=>Eq.mpr (by kernel_rfl) (h hs))
def zdj:Nat→List Bool
 | 7=>rl false [0,1,1,2,1,1,3,1,32,3,105]
 | 200009=>rl false [0,6]
 | 12=>rl false [0,1,1,2,1,1,3,1,54,3,83]
 | 200014=>rl false [0,6]
 | 21=>rl false [2,1,6,1,6,1,101,3,29]
 | 24=>rl false [2,1,6,1,6,1,1,1,99,3,3,3,23]
 | 200026=>rl false [0,6]
 | _=>[]
noncomputable def zfG:Code:=Tryz.f110.body.getD .skip
noncomputable def zrh:List ResultVar:=Tryz.f110.results.toList
def zkU (t0 t2 t3 t5 t9 t42 t43 t44:AV):List AV:=t0::ux 1 (t2::t3::ux 1 (t5::ux 3 (t9::ux 32 (t42::t43::t44::ux 105 []))))
def zIh:List Bool:=zdj 7
noncomputable def zIa:Code:=zap [1,1,1,1,0,1,0,0] zfG
def zH7 (K:Kt):AExit→List AV→zaa→Prop:=zaq tP zdj [1,1,1,1,0,1,0] zfG (zaA tP zrh K)
def zkV (t0 t2 t3 t5 t9 t42 t43 t44:AV) (H:zaa) (K:Kt):Prop:=ALoop tP zIa (zH7 K) (zkU t0 t2 t3 t5 t9 t42 t43 t44) H
def zkR (t0 t2 t3 t5 t9 t64 t65 t66:AV):List AV:=t0::ux 1 (t2::t3::ux 1 (t5::ux 3 (t9::ux 54 (t64::t65::t66::ux 83 []))))
def zIf:List Bool:=zdj 12
noncomputable def zH8:Code:=zap [1,1,1,1,1,0,1,0,0] zfG
def zH5 (K:Kt):AExit→List AV→zaa→Prop:=zaq tP zdj [1,1,1,1,1,0,1,0] zfG (zaA tP zrh K)
def zrf (t0 t2 t3 t5 t9 t64 t65 t66:AV) (H:zaa) (K:Kt):Prop:=ALoop tP zH8 (zH5 K) (zkR t0 t2 t3 t5 t9 t64 t65 t66) H
def zkS (t2 t9 t16 t118 t119 t120:AV):List AV:=ux 2 (t2::ux 6 (t9::ux 6 (t16::ux 101 (t118::t119::t120::ux 29 []))))
def zyW:List Bool:=zdj 21
noncomputable def zre:Code:=zap [1,1,1,1,1,1,1,1,1,0,1,0,0] zfG
def zyU (K:Kt):AExit→List AV→zaa→Prop:=zaq tP zdj [1,1,1,1,1,1,1,1,1,0,1,0] zfG (zaA tP zrh K)
def zrg (t2 t9 t16 t118 t119 t120:AV) (H:zaa) (K:Kt):Prop:=ALoop tP zre (zyU K) (zkS t2 t9 t16 t118 t119 t120) H
def zkT (t2 t9 t16 t18 t118 t119 t120 t124 t125 t126:AV):List AV:=ux 2 (t2::ux 6 (t9::ux 6 (t16::ux 1 (t18::ux 99 (t118::t119::t120::ux 3 (t124::t125::t126::ux 23 []))))))
def zIg:List Bool:=zdj 24
noncomputable def zH9:Code:=zap [1,1,0,0,1,1,0,0] zre
def zH6 (K:Kt) (Kb21:Lt):AExit→List AV→zaa→Prop:=zaq tP zdj [1,1,0,0,1,1,0] zre (zbD zyW Kb21 (zyU K))
def zyV (t2 t9 t16 t18 t118 t119 t120 t124 t125 t126:AV) (H:zaa) (K:Kt) (Kb21:Lt):Prop:=ALoop tP zH9 (zH6 K Kb21) (zkT t2 t9 t16 t18 t118 t119 t120 t124 t125 t126) H
def zrc (t2 t9 t16 t18 t118 t119 t120 t124 t125 t126:AV) (H:zaa) (K:Kt) (Kb21:Lt) (Kb24:Lt):Prop:=
 zac .lss false t126 t125 fun t127=>
 zag t127
 (zai 5 t124 t126 fun t128=>
 zae true 5 t128 H fun t129=>
 zaw [(.int .i64 0),.snil,(.bool false),.snil,.snil] H fun t20 H=>
 zam 5 t20 t129 H fun H=>
 zad H (fun K'=>K' t9 H) fun t130=>
 zad H (fun K'=>K' t2 H) fun t131=>
 zad H (fun K'=>zai 2 t131 (.int .i64 0) (K' · H)) fun t132=>
 zad H (fun K'=>zaf 0 t132 (K' · H)) fun t133=>
 zad H (fun K'=>zal false 1 t133 H (K' · H)) fun t134=>
 zad H (fun K'=>zaf 0 t18 (K' · H)) fun t135=>
 zad H (fun K'=>zal false 1 t135 H (K' · H)) fun t136=>
 zad H (fun K'=>zaz [(.int .i64 0),.snil] [(0,1),(1,1)] [(0,t134),(1,t136)] (K' · H)) fun t137=>
 zad H (fun K'=>zaf 0 t20 (K' · H)) fun t138=>
 zad H (fun K'=>zal true 2 t138 H (K' · H)) fun t139=>
 zaE H (fun H K'=>ACalls tP zhA [t137,t139] H K') fun t140=>
 zad H (fun K'=>zaf 1 t18 (K' · H)) fun t141=>
 zad H (fun K'=>zal true 3 t141 H (K' · H)) fun t142=>
 zad H (fun K'=>zaf 2 t20 (K' · H)) fun t143=>
 zad H (fun K'=>zal true 3 t143 H (K' · H)) fun t144=>
 zaE H (fun H K'=>ACalls tP zdd [t142,t144] H K') fun t145=>
 ACalls tP zdc [t130,t140,t145] H fun t146 H=>
 zac .add false t126 (.int .i64 1) fun t147=>
 Kb24 (zkT t2 t146 t16 t18 t118 t119 t120 t124 t125 t147) H)
 (zac .add false t120 (.int .i64 1) fun t148=>
 Kb21 (zkS t2 t9 t16 t118 t119 t148) H)
def zrb (t2 t9 t16 t118 t119 t120:AV) (H:zaa) (K:Kt) (Kb21:Lt):Prop:=
 zac .lss false t120 t119 fun t121=>
 zag t121
 (zai 4 t118 t120 fun t122=>
 zae true 4 t122 H fun t123=>
 zaw [.snil,(.bool false),.snil,.snil] H fun t18 H=>
 zam 4 t18 t123 H fun H=>
 zah 1 t16 fun t125=>
 zyV t2 t9 t16 t18 t118 t119 t120 t16 t125 (.int .i64 0) H K Kb21)
 (K t9 H)
def zkQ (t0 t2 t3 t5 t9 t64 t65 t66:AV) (H:zaa) (K:Kt) (Kb12:Lt):Prop:=
 zac .lss false t66 t65 fun t67=>
 zag t67
 (zai 5 t64 t66 fun t68=>
 zae true 5 t68 H fun t69=>
 zaw [(.int .i64 0),.snil,(.bool false),.snil,.snil] H fun t13 H=>
 zam 5 t13 t69 H fun H=>
 zad H (fun K'=>K' t9 H) fun t70=>
 zad H (fun K'=>K' t3 H) fun t71=>
 zad H (fun K'=>zai 2 t71 (.int .i64 0) (K' · H)) fun t72=>
 zad H (fun K'=>zal true 2 t72 H (K' · H)) fun t73=>
 zad H (fun K'=>zaf 0 t13 (K' · H)) fun t74=>
 zad H (fun K'=>zal true 2 t74 H (K' · H)) fun t75=>
 zaE H (fun H K'=>ACalls tP zhA [t73,t75] H K') fun t76=>
 zad H (fun K'=>zaf 2 t13 (K' · H)) fun t77=>
 zad H (fun K'=>zal true 3 t77 H (K' · H)) fun t78=>
 ACalls tP zdc [t70,t76,t78] H fun t79 H=>
 zac .add false t66 (.int .i64 1) fun t80=>
 Kb12 (zkR t0 t2 t3 t5 t79 t64 t65 t80) H)
 (zad H (fun K'=>K' t2 H) fun t81=>
 zad H (fun K'=>zai 2 t81 (.int .i64 0) (K' · H)) fun t82=>
 zad H (fun K'=>zaf 0 t82 (K' · H)) fun t83=>
 zad H (fun K'=>zal false 1 t83 H (K' · H)) fun t84=>
 zad H (fun K'=>K' t3 H) fun t85=>
 zad H (fun K'=>zai 2 t85 (.int .i64 0) (K' · H)) fun t86=>
 zad H (fun K'=>zaf 0 t86 (K' · H)) fun t87=>
 zad H (fun K'=>zal false 1 t87 H (K' · H)) fun t88=>
 zad H (fun K'=>zac .neq false t84 t88 (K' · H)) fun t89=>
 zag t89
 (K t9 H)
 (zad H (fun K'=>K' t0 H) fun t92=>
 zad H (fun K'=>zal true 3 t5 H (K' · H)) fun t93=>
 zad H (fun K'=>K' t2 H) fun t94=>
 zad H (fun K'=>zai 2 t94 (.int .i64 0) (K' · H)) fun t95=>
 zad H (fun K'=>zaf 0 t95 (K' · H)) fun t96=>
 zad H (fun K'=>zal false 1 t96 H (K' · H)) fun t97=>
 zaE H (fun H K'=>ACalls tP zhT [t92,t93,t97] H K') fun t98=>
 zad H (fun K'=>K' t98 H) fun t91=>
 zad H (fun K'=>zay t91 0 (K' · H)) fun t99=>
 zad H (fun K'=>zay t91 1 (K' · H)) fun t100=>
 zad H (fun K'=>K' t99 H) fun t14=>
 zad H (fun K'=>K' t100 H) fun t15=>
 zad H (fun K'=>K' t0 H) fun t101=>
 zad H (fun K'=>zal true 3 t5 H (K' · H)) fun t102=>
 zad H (fun K'=>K' t2 H) fun t103=>
 zad H (fun K'=>zaJ 1 2 t103 (some (.int .i64 1)) none (K' · H)) fun t104=>
 zad H (fun K'=>K' t3 H) fun t105=>
 zad H (fun K'=>zaJ 1 2 t105 (some (.int .i64 1)) none (K' · H)) fun t106=>
 zaE H (fun H K'=>ACalls tP zgh [t101,t102,t104,t106] H K') fun t107=>
 zad H (fun K'=>K' t107 H) fun t16=>
 zad H (fun K'=>K' t0 H) fun t108=>
 zad H (fun K'=>K' t14 H) fun t109=>
 zad H (fun K'=>K' t2 H) fun t110=>
 zad H (fun K'=>zai 2 t110 (.int .i64 0) (K' · H)) fun t111=>
 zad H (fun K'=>zaf 1 t111 (K' · H)) fun t112=>
 zad H (fun K'=>zal false 1 t112 H (K' · H)) fun t113=>
 zad H (fun K'=>K' t3 H) fun t114=>
 zad H (fun K'=>zai 2 t114 (.int .i64 0) (K' · H)) fun t115=>
 zad H (fun K'=>zaf 1 t115 (K' · H)) fun t116=>
 zad H (fun K'=>zal false 1 t116 H (K' · H)) fun t117=>
 zaE H (fun H K'=>ACalls tP zjf [t108,t109,t113,t117] H K') fun t118=>
 zad H (fun K'=>zah 1 t118 (K' · H)) fun t119=>
 zad H (fun K'=>K' (.int .i64 0) H) fun t120=>
 zrg t2 t9 t16 t118 t119 t120 H K))
def zrd (t0 t2 t3 t5 t9 t42 t43 t44:AV) (H:zaa) (K:Kt) (Kb7:Lt):Prop:=
 zac .lss false t44 t43 fun t45=>
 zag t45
 (zai 5 t42 t44 fun t46=>
 zae true 5 t46 H fun t47=>
 zaw [(.int .i64 0),.snil,(.bool false),.snil,.snil] H fun t11 H=>
 zam 5 t11 t47 H fun H=>
 zad H (fun K'=>K' t9 H) fun t48=>
 zad H (fun K'=>K' t2 H) fun t49=>
 zad H (fun K'=>zai 2 t49 (.int .i64 0) (K' · H)) fun t50=>
 zad H (fun K'=>zal true 2 t50 H (K' · H)) fun t51=>
 zad H (fun K'=>zaf 0 t11 (K' · H)) fun t52=>
 zad H (fun K'=>zal true 2 t52 H (K' · H)) fun t53=>
 zaE H (fun H K'=>ACalls tP zhA [t51,t53] H K') fun t54=>
 zad H (fun K'=>zaf 2 t11 (K' · H)) fun t55=>
 zad H (fun K'=>zal true 3 t55 H (K' · H)) fun t56=>
 ACalls tP zdc [t48,t54,t56] H fun t57 H=>
 zac .add false t44 (.int .i64 1) fun t58=>
 Kb7 (zkU t0 t2 t3 t5 t57 t42 t43 t58) H)
 (zad H (fun K'=>K' t0 H) fun t59=>
 zad H (fun K'=>zal true 3 t5 H (K' · H)) fun t60=>
 zad H (fun K'=>K' t2 H) fun t61=>
 zad H (fun K'=>K' t3 H) fun t62=>
 zad H (fun K'=>zaJ 1 2 t62 (some (.int .i64 1)) none (K' · H)) fun t63=>
 zaE H (fun H K'=>ACalls tP zgh [t59,t60,t61,t63] H K') fun t64=>
 zad H (fun K'=>zah 1 t64 (K' · H)) fun t65=>
 zad H (fun K'=>K' (.int .i64 0) H) fun t66=>
 zrf t0 t2 t3 t5 t9 t64 t65 t66 H K)
def zkP (t0 t1 t2 t3:AV) (H:zaa) (K:Kt):Prop:=
 zao t1 H fun t5 H=>
 zah 1 t2 fun t22=>
 zac .eql false t22 (.int .i64 0) fun t23=>
 zag t23
 (zaz [(.int .i64 0),.snil] [(0,1),(1,1)] [(1,t3)] fun t26=>
 ACalls tP zb3 [(.int .i64 1)] H fun t27 H=>
 ACalls tP zdc [.snil,t26,t27] H fun t28 H=>
 K t28 H)
 (zah 1 t3 fun t30=>
 zac .eql false t30 (.int .i64 0) fun t31=>
 zag t31
 (zaz [(.int .i64 0),.snil] [(0,1),(1,1)] [(1,t2)] fun t34=>
 ACalls tP zb3 [(.int .i64 1)] H fun t35 H=>
 ACalls tP zdc [.snil,t34,t35] H fun t36 H=>
 K t36 H)
 (zad H (fun K'=>K' t0 H) fun t37=>
 zad H (fun K'=>zal true 3 t5 H (K' · H)) fun t38=>
 zad H (fun K'=>K' t2 H) fun t39=>
 zad H (fun K'=>zaJ 1 2 t39 (some (.int .i64 1)) none (K' · H)) fun t40=>
 zad H (fun K'=>K' t3 H) fun t41=>
 zaE H (fun H K'=>ACalls tP zgh [t37,t38,t40,t41] H K') fun t42=>
 zad H (fun K'=>zah 1 t42 (K' · H)) fun t43=>
 zad H (fun K'=>K' (.int .i64 0) H) fun t44=>
 zkV t0 t2 t3 t5 .snil t42 t43 t44 H K))
theorem zId {t2 t9 t16 t18 t118 t119 t120 t124 t125 t126:AV} {H:zaa} {K:Kt} {Kb21:Lt} (Inv:Nat→AV→AV→zaa→Prop) (n:Nat) (h0:HSc H→Inv n t9 t126 H)
  (round:Rd2 (fun t9=>fun t126=>zkT t2 t9 t16 t18 t118 t119 t120 t124 t125 t126) (fun t9=>fun t126=>fun H Kb24=>zrc t2 t9 t16 t18 t118 t119 t120 t124 t125 t126 H K Kb21 Kb24) H Inv):zyV t2 t9 t16 t18 t118 t119 t120 t124 t125 t126 H K Kb21:=
 lp2 (M:=zdj) zIg t9 t126 (by kernel_rfl) Inv n h0 round
theorem zIc {t2 t9 t16 t118 t119 t120:AV} {H:zaa} {K:Kt} (Inv:Nat→AV→AV→zaa→Prop) (n:Nat) (h0:HSc H→Inv n t9 t120 H)
  (round:Rd2 (fun t9=>fun t120=>zkS t2 t9 t16 t118 t119 t120) (fun t9=>fun t120=>fun H Kb21=>zrb t2 t9 t16 t118 t119 t120 H K Kb21) H Inv):zrg t2 t9 t16 t118 t119 t120 H K:=
 lp2 (M:=zdj) zyW t9 t120 (by kernel_rfl) Inv n h0 round
theorem zIb {t0 t2 t3 t5 t9 t64 t65 t66:AV} {H:zaa} {K:Kt} (Inv:Nat→AV→AV→zaa→Prop) (n:Nat) (h0:HSc H→Inv n t9 t66 H)
  (round:Rd2 (fun t9=>fun t66=>zkR t0 t2 t3 t5 t9 t64 t65 t66) (fun t9=>fun t66=>fun H Kb12=>zkQ t0 t2 t3 t5 t9 t64 t65 t66 H K Kb12) H Inv):zrf t0 t2 t3 t5 t9 t64 t65 t66 H K:=
 lp2 (M:=zdj) zIf t9 t66 (by kernel_rfl) Inv n h0 round
theorem zIe {t0 t2 t3 t5 t9 t42 t43 t44:AV} {H:zaa} {K:Kt} (Inv:Nat→AV→AV→zaa→Prop) (n:Nat) (h0:HSc H→Inv n t9 t44 H)
  (round:Rd2 (fun t9=>fun t44=>zkU t0 t2 t3 t5 t9 t42 t43 t44) (fun t9=>fun t44=>fun H Kb7=>zrd t0 t2 t3 t5 t9 t42 t43 t44 H K Kb7) H Inv):zkV t0 t2 t3 t5 t9 t42 t43 t44 H K:=
 lp2 (M:=zdj) zIh t9 t44 (by kernel_rfl) Inv n h0 round
theorem zIi {t0 t1 t2 t3:AV} {H:zaa} {K:Kt} (h:HSc H→zkP t0 t1 t2 t3 H K):ACalls tP zgh [t0,t1,t2,t3] H K:=
 zan (M:=zdj) Tryz.func110 (c:=zfG) (by kernel_rfl) (fun hs=>Eq.mpr (by kernel_rfl) (h hs))
def zfV:Nat→List Bool
 | 3=>rl false [0,1,1,1,1,1,2,2,25]
 | 6=>rl false [0,1,1,1,1,1,2,2,6,3,16]
 | _=>[]
noncomputable def ztW:Code:=Tryz.f65.body.getD .skip
noncomputable def zRB:List ResultVar:=Tryz.f65.results.toList
def znn (t0 t2 t4 t7 t8:AV):List AV:=t0::ux 1 (t2::ux 1 (t4::ux 2 (t7::t8::ux 25 [])))
def zCf:List Bool:=zfV 3
noncomputable def ztX:Code:=zap [1,1,0,1,0,0] ztW
def zCd (K:Kt):AExit→List AV→zaa→Prop:=zaq tP zfV [1,1,0,1,0] ztW (zaA tP zRB K)
def znp (t0 t2 t4 t7 t8:AV) (H:zaa) (K:Kt):Prop:=ALoop tP ztX (zCd K) (znn t0 t2 t4 t7 t8) H
def ziz (t0 t2 t4 t7 t8 t15 t16 t17:AV):List AV:=t0::ux 1 (t2::ux 1 (t4::ux 2 (t7::t8::ux 6 (t15::t16::t17::ux 16 []))))
def zRz:List Bool:=zfV 6
noncomputable def zRw:Code:=zap [1,0,0,1,0,0] ztX
def zRv (K:Kt) (Kb3:Lt):AExit→List AV→zaa→Prop:=zaq tP zfV [1,0,0,1,0] ztX (zbD zCf Kb3 (zCd K))
def zCe (t0 t2 t4 t7 t8 t15 t16 t17:AV) (H:zaa) (K:Kt) (Kb3:Lt):Prop:=ALoop tP zRw (zRv K Kb3) (ziz t0 t2 t4 t7 t8 t15 t16 t17) H
def ztY (t0 t2 t4 t7 t8 t15 t16 t17:AV) (H:zaa) (K:Kt) (Kb3:Lt) (Kb6:Lt):Prop:=
 zac .add false t17 (.int .i64 1) fun t32=>
 Kb6 (ziz t0 t2 t4 t7 t8 t15 t16 t32) H
def zno (t0 t2 t4 t7 t8 t15 t16 t17:AV) (H:zaa) (K:Kt) (Kb3:Lt) (Kb6:Lt):Prop:=
 ztY t0 t2 t4 t7 t8 t15 t16 t17 H K Kb3 Kb6
def ztV (t0 t2 t4 t7 t8 t15 t16 t17:AV) (H:zaa) (K:Kt) (Kb3:Lt) (Kb6:Lt):Prop:=
 zac .lss false t17 t16 fun t18=>
 zag t18
 (zai 5 t15 t17 fun t19=>
 zae true 5 t19 H fun t20=>
 zaw [(.int .i64 0),.snil,(.bool false),.snil,.snil] H fun t10 H=>
 zam 5 t10 t20 H fun H=>
 zae true 3 t4 H fun t22=>
 zaf 0 t10 fun t23=>
 zae true 2 t23 H fun t24=>
 ACalls tP zo5 [t0,t22,t24] H fun t25 H=>
 zac .eql false t25 t8 fun t27=>
 zag t27
 (zae true 5 t10 H fun t29=>
 zaB 5 [(.int .i64 0),.snil,(.bool false),.snil,.snil] 1 [(0,t29)] fun t30=>
 zax za5 5 88 t7 t30 H fun t31 H=>
 zno t0 t2 t4 t31 t8 t15 t16 t17 H K Kb3 Kb6)
 (zno t0 t2 t4 t7 t8 t15 t16 t17 H K Kb3 Kb6))
 (zac .add false t8 (.int .i64 1) fun t14=>
 Kb3 (znn t0 t2 t4 t7 t14) H)
def ztU (t0 t2 t4 t7 t8:AV) (H:zaa) (K:Kt) (Kb3:Lt):Prop:=
 zac .leq false t8 (.int .i64 6) fun t12=>
 zag t12
 (zah 1 t2 fun t16=>
 zCe t0 t2 t4 t7 t8 t2 t16 (.int .i64 0) H K Kb3)
 (K t7 H)
def zCc (t0 t1 t2:AV) (H:zaa) (K:Kt):Prop:=
 zao t1 H fun t4 H=>
 znp t0 t2 t4 .snil (.int .i64 0) H K
theorem zRy {t0 t2 t4 t7 t8 t15 t16 t17:AV} {H:zaa} {K:Kt} {Kb3:Lt} (Inv:Nat→AV→AV→zaa→Prop) (n:Nat) (h0:HSc H→Inv n t7 t17 H)
  (round:Rd2 (fun t7=>fun t17=>ziz t0 t2 t4 t7 t8 t15 t16 t17) (fun t7=>fun t17=>fun H Kb6=>ztV t0 t2 t4 t7 t8 t15 t16 t17 H K Kb3 Kb6) H Inv):zCe t0 t2 t4 t7 t8 t15 t16 t17 H K Kb3:=
 lp2 (M:=zfV) zRz t7 t17 (by kernel_rfl) Inv n h0 round
theorem zRx {t0 t2 t4 t7 t8:AV} {H:zaa} {K:Kt} (Inv:Nat→AV→AV→zaa→Prop) (n:Nat) (h0:HSc H→Inv n t7 t8 H)
  (round:Rd2 (fun t7=>fun t8=>znn t0 t2 t4 t7 t8) (fun t7=>fun t8=>fun H Kb3=>ztU t0 t2 t4 t7 t8 H K Kb3) H Inv):znp t0 t2 t4 t7 t8 H K:=
 lp2 (M:=zfV) zCf t7 t8 (by kernel_rfl) Inv n h0 round
theorem zRA {t0 t1 t2:AV} {H:zaa} {K:Kt} (h:HSc H→zCc t0 t1 t2 H K):ACalls tP zpL [t0,t1,t2] H K:=
 zan (M:=zfV) Tryz.func65 (c:=ztW) (by kernel_rfl) (fun hs=>Eq.mpr (by kernel_rfl) (h hs))
def zN6 (_:Nat):List Bool:=[]
noncomputable def zN7:Code:=Tryz.f25.body.getD .skip
def zA0 (t0 t1 t2 t3:AV) (H:zaa) (K:Kt):Prop:=
 zao t1 H fun t5 H=>
 zao t2 H fun t6 H=>
 zao t3 H fun t7 H=>
 zad H (fun K'=>K' t0 H) fun t13=>
 zad H (fun K'=>zal true 3 t5 H (K' · H)) fun t14=>
 zad H (fun K'=>zal true 2 t6 H (K' · H)) fun t15=>
 zaE H (fun H K'=>ACalls tP zhJ [t13,t14,t15] H K') fun t16=>
 zad H (fun K'=>K' t0 H) fun t17=>
 zad H (fun K'=>zal true 3 t5 H (K' · H)) fun t18=>
 zad H (fun K'=>zal true 2 t7 H (K' · H)) fun t19=>
 zaE H (fun H K'=>ACalls tP zhJ [t17,t18,t19] H K') fun t20=>
 zad H (fun K'=>K' t16 H) fun t10=>
 zad H (fun K'=>K' t20 H) fun t11=>
 zac .lss false t10 (.int .i64 0) fun t22=>
 zab t22 false H (fun K'=>K' t11 H) fun t24 H=>
 zab t22 false H (fun K'=>zac .lss false t24 (.int .i64 0) (K' · H)) fun t25 H=>
 zaj t22 (.bool true) t25 fun t26=>
 zag t26
 (zaI [.snil,(.int .i64 1)] (K · H))
 (zac .add false t10 t11 fun t29=>
 zac .gtr false t29 (.int .i64 6) fun t30=>
 zag t30
 (zaI [.snil,(.int .i64 13)] (K · H))
 (zae true 3 t5 H fun t32=>
 zae true 2 t6 H fun t33=>
 zae true 2 t7 H fun t34=>
 ACalls tP zjH [t0,t32,t33,t34] H fun t35 H=>
 zah 1 t35 fun t37=>
 zac .gtr false t37 (.int .i64 1000) fun t38=>
 zag t38
 (zaI [.snil,(.int .i64 9)] (K · H))
 (zae true 3 t5 H fun t40=>
 ACalls tP zpL [t0,t40,t35] H fun t42 H=>
 zaI [t42,(.int .i64 0)] (K · H))))
theorem zN8 {t0 t1 t2 t3:AV} {H:zaa} {K:Kt} (h:HSc H→zA0 t0 t1 t2 t3 H K):ACalls tP zpz [t0,t1,t2,t3] H K:=
 zan (M:=zN6) Tryz.func25 (c:=zN7) (by kernel_rfl) (fun hs=>Eq.mpr (by kernel_rfl) (h hs))
def zkL:Nat→List Bool
 | 5=>rl false [0,2,4,2,57]
 | _=>[]
noncomputable def zra:Code:=Tryz.f109.body.getD .skip
noncomputable def zH3:List ResultVar:=Tryz.f109.results.toList
def zkM (t0 t1 t6 t7:AV):List AV:=t0::t1::ux 4 (t6::t7::ux 57 [])
def zH1:List Bool:=zkL 5
noncomputable def zHZ:Code:=zap [1,1,1,0,1,0,0] zra
def zHY (K:Kt):AExit→List AV→zaa→Prop:=zaq tP zkL [1,1,1,0,1,0] zra (zaA tP zH3 K)
def zkO (t0 t1 t6 t7:AV) (H:zaa) (K:Kt):Prop:=ALoop tP zHZ (zHY K) (zkM t0 t1 t6 t7) H
def zkN (t0 t1 t6 t7 t8:AV) (H:zaa) (K:Kt) (Kb5:Lt):Prop:=
 zae true 3 t8 H fun t61=>
 zaB 3 [(.bool false),.snil,.snil] 1 [(0,t61)] fun t62=>
 zax zfj 3 56 t6 t62 H fun t63 H=>
 zac .add false t7 (.int .i64 1) fun t30=>
 Kb5 (zkM t0 t1 t63 t30) H
def zq8 (t0 t1 t6 t7:AV) (H:zaa) (K:Kt) (Kb5:Lt):Prop:=
 zac .add false t0 t1 fun t27=>
 zac .leq false t7 t27 fun t28=>
 zag t28
 (ACalls tP zb3 [(.int .i64 0)] H fun t31 H=>
 zaw [(.bool false),.snil,.snil] H fun t8 H=>
 zam 3 t8 t31 H fun H=>
 zf4 t0 t1 fun t35=>
 zac .geq false t7 t35 fun t36=>
 zag t36
 (zac .sub false t7 t0 fun t39=>
 ACalls tP zgj [t39] H fun t40 H=>
 zac .sub false t7 t1 fun t43=>
 ACalls tP zgj [t43] H fun t44 H=>
 ACalls tP zdd [t40,t44] H fun t45 H=>
 zac .add false t0 t1 fun t48=>
 zac .sub false t48 t7 fun t50=>
 ACalls tP zgj [t50] H fun t51 H=>
 ACalls tP zdd [t45,t51] H fun t52 H=>
 zaw [(.bool false),.snil,.snil] H fun t9 H=>
 zam 3 t9 t52 H fun H=>
 zad H (fun K'=>K' t7 H) fun t54=>
 zaE H (fun H K'=>ACalls tP zgj [t54] H K') fun t55=>
 zad H (fun K'=>zal true 3 t9 H (K' · H)) fun t56=>
 zaE H (fun H K'=>ACalls tP zjm [t55,t56] H K') fun t57=>
 zad H (fun K'=>K' t57 H) fun t53=>
 zad H (fun K'=>zay t53 0 (K' · H)) fun t58=>
 zad H (fun K'=>zay t53 1 (K' · H)) fun t59=>
 zam 3 t8 t58 H fun H=>
 zkN t0 t1 t6 t7 t8 H K Kb5)
 (zkN t0 t1 t6 t7 t8 H K Kb5))
 (zaI [t6,(.bool true)] (K · H))
def zyT (t0 t1:AV) (H:zaa) (K:Kt):Prop:=
 zac .lss false t0 (.int .i64 0) fun t11=>
 zab t11 false H (fun K'=>K' t1 H) fun t13 H=>
 zab t11 false H (fun K'=>zac .lss false t13 (.int .i64 0) (K' · H)) fun t14 H=>
 zaj t11 (.bool true) t14 fun t15=>
 zab t15 false H (fun K'=>K' t0 H) fun t17 H=>
 zab t15 false H (fun K'=>zac .gtr false t17 (.int .i64 16) (K' · H)) fun t18 H=>
 zaj t15 (.bool true) t18 fun t19=>
 zab t19 false H (fun K'=>K' t1 H) fun t21 H=>
 zab t19 false H (fun K'=>zac .gtr false t21 (.int .i64 16) (K' · H)) fun t22 H=>
 zaj t19 (.bool true) t22 fun t23=>
 zag t23
 (zaI [.snil,(.bool false)] (K · H))
 (zkO t0 t1 .snil (.int .i64 0) H K)
theorem zH0 {t0 t1 t6 t7:AV} {H:zaa} {K:Kt} (Inv:Nat→AV→AV→zaa→Prop) (n:Nat) (h0:HSc H→Inv n t6 t7 H)
  (round:Rd2 (fun t6=>fun t7=>zkM t0 t1 t6 t7) (fun t6=>fun t7=>fun H Kb5=>zq8 t0 t1 t6 t7 H K Kb5) H Inv):zkO t0 t1 t6 t7 H K:=
 lp2 (M:=zkL) zH1 t6 t7 (by kernel_rfl) Inv n h0 round
theorem zH2 {t0 t1:AV} {H:zaa} {K:Kt} (h:HSc H→zyT t0 t1 H K):ACalls tP zo4 [t0,t1] H K:=
 zan (M:=zkL) Tryz.func109 (c:=zra) (by kernel_rfl) (fun hs=>Eq.mpr (by kernel_rfl) (h hs))
def zfO:Nat→List Bool
 | 5=>rl false [0,1,6,2,2,2,1,1,24,3,44]
 | 11=>rl false [0,1,6,2,2,2,1,1,1,2,21,3,11,2,31]
 | _=>[]
noncomputable def zsM:Code:=Tryz.f26.body.getD .skip
noncomputable def zOh:List ResultVar:=Tryz.f26.results.toList
def zmd (t0 t7 t8 t11 t12 t14 t39 t40 t41:AV):List AV:=t0::ux 6 (t7::t8::ux 2 (t11::t12::ux 1 (t14::ux 24 (t39::t40::t41::ux 44 []))))
def zA5:List Bool:=zfO 5
noncomputable def zsN:Code:=zap [1,1,1,1,0,1,0,0] zsM
def zA2 (K:Kt):AExit→List AV→zaa→Prop:=zaq tP zfO [1,1,1,1,0,1,0] zsM (zaA tP zOh K)
def zA4 (t0 t7 t8 t11 t12 t14 t39 t40 t41:AV) (H:zaa) (K:Kt):Prop:=ALoop tP zsN (zA2 K) (zmd t0 t7 t8 t11 t12 t14 t39 t40 t41) H
def zmc (t0 t7 t8 t11 t12 t14 t16 t17 t39 t40 t41 t53 t54:AV):List AV:=t0::ux 6 (t7::t8::ux 2 (t11::t12::ux 1 (t14::ux 1 (t16::t17::ux 21 (t39::t40::t41::ux 11 (t53::t54::ux 31 []))))))
def zOe:List Bool:=zfO 11
noncomputable def zOb:Code:=zap [1,1,0,0,1,1,1,0,1,0,0] zsN
def zOa (K:Kt) (Kb5:Lt):AExit→List AV→zaa→Prop:=zaq tP zfO [1,1,0,0,1,1,1,0,1,0] zsN (zbD zA5 Kb5 (zA2 K))
def zA3 (t0 t7 t8 t11 t12 t14 t16 t17 t39 t40 t41 t53 t54:AV) (H:zaa) (K:Kt) (Kb5:Lt):Prop:=ALoop tP zOb (zOa K Kb5) (zmc t0 t7 t8 t11 t12 t14 t16 t17 t39 t40 t41 t53 t54) H
def zsK (t0 t7 t8 t11 t12 t14 t16 t17 t39 t40 t41 t53 t54:AV) (H:zaa) (K:Kt) (Kb5:Lt) (Kb11:Lt):Prop:=
 zac .lss false t54 t53 fun t55=>
 zag t55
 (zad H (fun K'=>K' t0 H) fun t58=>
 zad H (fun K'=>K' t12 H) fun t59=>
 zad H (fun K'=>K' t54 H) fun t60=>
 zad H (fun K'=>zai 3 t59 t60 (K' · H)) fun t61=>
 zad H (fun K'=>zal true 3 t61 H (K' · H)) fun t62=>
 zad H (fun K'=>K' t16 H) fun t63=>
 zad H (fun K'=>K' t54 H) fun t64=>
 zad H (fun K'=>zai 2 t63 t64 (K' · H)) fun t65=>
 zad H (fun K'=>zal true 2 t65 H (K' · H)) fun t66=>
 zad H (fun K'=>zaf 2 t7 (K' · H)) fun t67=>
 zad H (fun K'=>zal false 1 t67 H (K' · H)) fun t68=>
 zad H (fun K'=>K' t54 H) fun t69=>
 zad H (fun K'=>zai 3 t68 t69 (K' · H)) fun t70=>
 zad H (fun K'=>zal true 3 t70 H (K' · H)) fun t71=>
 zaE H (fun H K'=>ACalls tP zpj [t58,t62,t66,t71] H K') fun t72=>
 zad H (fun K'=>K' t72 H) fun t57=>
 zad H (fun K'=>zay t57 0 (K' · H)) fun t73=>
 zad H (fun K'=>zay t57 1 (K' · H)) fun t74=>
 zaw [(.bool false),.snil,.snil] H fun t19 H=>
 zam 3 t19 t73 H fun H=>
 zad H (fun K'=>K' t74 H) fun t20=>
 zae true 3 t17 H fun t75=>
 zae true 3 t19 H fun t76=>
 ACalls tP zdd [t75,t76] H fun t77 H=>
 zam 3 t17 t77 H fun H=>
 zac .add false t54 (.int .i64 1) fun t78=>
 Kb11 (zmc t0 t7 t8 t11 t12 t14 t16 t17 t39 t40 t41 t53 t78) H)
 (zae true 3 t14 H fun t79=>
 zae true 3 t17 H fun t80=>
 ACalls tP zfs [t79,t80] H fun t81 H=>
 zam 3 t14 t81 H fun H=>
 zac .add false t41 (.int .i64 1) fun t82=>
 Kb5 (zmd t0 t7 t8 t11 t12 t14 t39 t40 t82) H)
def zsL (t0 t7 t8 t11 t12 t14 t39 t40 t41:AV) (H:zaa) (K:Kt) (Kb5:Lt):Prop:=
 zac .lss false t41 t40 fun t42=>
 zag t42
 (zai 1 t39 t41 fun t43=>
 zae false 1 t43 H fun t44=>
 zah 1 t44 fun t46=>
 zah 1 t12 fun t48=>
 zac .neq false t46 t48 fun t49=>
 zag t49
 (zae true 3 t14 H fun t50=>
 zam 3 t8 t50 H fun H=>
 zae true 3 t8 H fun r0=>
 zaI [r0,(.bool false)] (K · H))
 (ACalls tP zb3 [(.int .i64 1)] H fun t51 H=>
 zaw [(.bool false),.snil,.snil] H fun t17 H=>
 zam 3 t17 t51 H fun H=>
 zah 1 t44 fun t53=>
 zA3 t0 t7 t8 t11 t12 t14 t44 t17 t39 t40 t41 t53 (.int .i64 0) H K Kb5))
 (zae true 3 t14 H fun t83=>
 zac .eql false t11 (.int .i64 0) fun t85=>
 zam 3 t8 t83 H fun H=>
 zae true 3 t8 H fun r0=>
 zaI [r0,t85] (K · H))
def zA1 (t0 t1 t2 t3:AV) (H:zaa) (K:Kt):Prop:=
 zao t1 H fun t5 H=>
 zao t2 H fun t6 H=>
 zao t3 H fun t7 H=>
 zaw [(.bool false),.snil,.snil] H fun t8 H=>
 zae true 3 t5 H fun t23=>
 zaf 1 t7 fun t24=>
 zae false 1 t24 H fun t25=>
 zae true 2 t6 H fun t26=>
 ACalls tP zhB [t0,t23,t25,t26] H fun t27 H=>
 zay t27 0 fun t28=>
 zay t27 1 fun t29=>
 zae true 3 t5 H fun t32=>
 zaf 1 t7 fun t33=>
 zae false 1 t33 H fun t34=>
 ACalls tP zgk [t0,t32,t34] H fun t35 H=>
 zay t35 0 fun t36=>
 zay t35 1 fun t37=>
 ACalls tP zb3 [(.int .i64 0)] H fun t38 H=>
 zaw [(.bool false),.snil,.snil] H fun t14 H=>
 zam 3 t14 t38 H fun H=>
 zah 1 t28 fun t40=>
 zA4 t0 t7 t8 t29 t36 t14 t28 t40 (.int .i64 0) H K
theorem zOc {t0 t7 t8 t11 t12 t14 t16 t17 t39 t40 t41 t53 t54:AV} {H:zaa} {K:Kt} {Kb5:Lt} (Inv:Nat→AV→zaa→Prop) (n:Nat) (h0:HSc H→Inv n t54 H)
  (round:Rd1 (fun t54=>zmc t0 t7 t8 t11 t12 t14 t16 t17 t39 t40 t41 t53 t54) (fun t54=>fun H Kb11=>zsK t0 t7 t8 t11 t12 t14 t16 t17 t39 t40 t41 t53 t54 H K Kb5 Kb11) H Inv):zA3 t0 t7 t8 t11 t12 t14 t16 t17 t39 t40 t41 t53 t54 H K Kb5:=
 lp1 (M:=zfO) zOe t54 (by kernel_rfl) Inv n h0 round
theorem zOd {t0 t7 t8 t11 t12 t14 t39 t40 t41:AV} {H:zaa} {K:Kt} (Inv:Nat→AV→zaa→Prop) (n:Nat) (h0:HSc H→Inv n t41 H)
  (round:Rd1 (fun t41=>zmd t0 t7 t8 t11 t12 t14 t39 t40 t41) (fun t41=>fun H Kb5=>zsL t0 t7 t8 t11 t12 t14 t39 t40 t41 H K Kb5) H Inv):zA4 t0 t7 t8 t11 t12 t14 t39 t40 t41 H K:=
 lp1 (M:=zfO) zA5 t41 (by kernel_rfl) Inv n h0 round
theorem zOg {t0 t1 t2 t3:AV} {H:zaa} {K:Kt} (h:HSc H→zA1 t0 t1 t2 t3 H K):ACalls tP zhG [t0,t1,t2,t3] H K:=
 zan (M:=zfO) Tryz.func26 (c:=zsM) (by kernel_rfl) (fun hs=>Eq.mpr (by kernel_rfl) (h hs))
def zmr:Nat→List Bool
 | 8=>rl false [0,1,5,4,3,1,56,3,52]
 | _=>[]
noncomputable def zta:Code:=Tryz.f5.body.getD .skip
noncomputable def zPi:List ResultVar:=Tryz.f5.results.toList
def zms (t0 t6 t7 t8 t9 t13 t70 t71 t72:AV):List AV:=t0::ux 5 (t6::t7::t8::t9::ux 3 (t13::ux 56 (t70::t71::t72::ux 52 [])))
def zPg:List Bool:=zmr 8
noncomputable def zPe:Code:=zap [1,1,1,1,1,0,1,0,0] zta
def zPd (K:Kt):AExit→List AV→zaa→Prop:=zaq tP zmr [1,1,1,1,1,0,1,0] zta (zaA tP zPi K)
def zBw (t0 t6 t7 t8 t9 t13 t70 t71 t72:AV) (H:zaa) (K:Kt):Prop:=ALoop tP zPe (zPd K) (zms t0 t6 t7 t8 t9 t13 t70 t71 t72) H
def zs9 (t0 t6 t7 t8 t9 t13 t70 t71 t72:AV) (H:zaa) (K:Kt) (Kb8:Lt):Prop:=
 zac .lss false t72 t71 fun t73=>
 zag t73
 (zai 5 t70 t72 fun t74=>
 zae true 5 t74 H fun t75=>
 zaw [(.int .i64 0),.snil,(.bool false),.snil,.snil] H fun t15 H=>
 zam 5 t15 t75 H fun H=>
 zae true 3 t6 H fun t78=>
 zaf 0 t15 fun t79=>
 zae true 2 t79 H fun t80=>
 zae true 3 t9 H fun t81=>
 ACalls tP zhG [t0,t78,t80,t81] H fun t82 H=>
 zay t82 0 fun t83=>
 zay t82 1 fun t84=>
 zaw [(.bool false),.snil,.snil] H fun t16 H=>
 zam 3 t16 t83 H fun H=>
 aUn .not t84 fun t86=>
 zag t86
 (K (.bool false) H)
 (zad H (fun K'=>zal true 3 t13 H (K' · H)) fun t87=>
 zad H (fun K'=>zaf 2 t15 (K' · H)) fun t88=>
 zad H (fun K'=>zal true 3 t88 H (K' · H)) fun t89=>
 zad H (fun K'=>zal true 3 t16 H (K' · H)) fun t90=>
 zaE H (fun H K'=>ACalls tP zdd [t89,t90] H K') fun t91=>
 zaE H (fun H K'=>ACalls tP zfs [t87,t91] H K') fun t92=>
 zam 3 t13 t92 H fun H=>
 zac .add false t72 (.int .i64 1) fun t93=>
 Kb8 (zms t0 t6 t7 t8 t9 t13 t70 t71 t93) H))
 (zae true 3 t6 H fun t96=>
 zae true 2 t7 H fun t97=>
 zae true 3 t9 H fun t98=>
 ACalls tP zhG [t0,t96,t97,t98] H fun t99 H=>
 zay t99 0 fun t100=>
 zay t99 1 fun t101=>
 zaw [(.bool false),.snil,.snil] H fun t18 H=>
 zam 3 t18 t100 H fun H=>
 zae true 3 t6 H fun t104=>
 zae true 2 t8 H fun t105=>
 zae true 3 t9 H fun t106=>
 ACalls tP zhG [t0,t104,t105,t106] H fun t107 H=>
 zay t107 0 fun t108=>
 zay t107 1 fun t109=>
 zaw [(.bool false),.snil,.snil] H fun t20 H=>
 zam 3 t20 t108 H fun H=>
 zad H (fun K'=>K' t101 H) fun t110=>
 zad H (fun K'=>K' t110 H) fun t111=>
 zab t111 true H (fun K'=>zad H (fun K''=>K'' t109 H) (K' · H)) fun t112 H=>
 zad H (fun K'=>zaj t111 t112 (.bool false) (K' · H)) fun t113=>
 zad H (fun K'=>K' t113 H) fun t114=>
 zab t114 true H (fun K'=>zad H (fun K''=>zal true 3 t13 H (K'' · H)) (K' · H)) fun t115 H=>
 zab t114 true H (fun K'=>zad H (fun K''=>zal true 3 t18 H (K'' · H)) (K' · H)) fun t116 H=>
 zab t114 true H (fun K'=>zad H (fun K''=>zal true 3 t20 H (K'' · H)) (K' · H)) fun t117 H=>
 zab t114 true H (fun K'=>zaE H (fun H K''=>ACalls tP zdd [t116,t117] H K'') (K' · H)) fun t118 H=>
 zab t114 true H (fun K'=>zaE H (fun H K''=>ACalls tP zpB [t115,t118] H K'') (K' · H)) fun t119 H=>
 zab t114 true H (fun K'=>zad H (fun K''=>zac .eql false t119 (.int .i64 0) (K'' · H)) (K' · H)) fun t120 H=>
 zad H (fun K'=>zaj t114 t120 (.bool false) (K' · H)) fun t121=>
 zad H (fun K'=>K' t121 H) fun t122=>
 zab t122 true H (fun K'=>zaE H (fun H K''=>ACalls tP zjw [] H K'') (K' · H)) fun t123 H=>
 zad H (fun K'=>zaj t122 t123 (.bool false) (K' · H)) fun t124=>
 zad H (fun K'=>K' t124 H) fun t10=>
 K t10 H)
def zq3 (t0 t1 t2 t3 t4:AV) (H:zaa) (K:Kt):Prop:=
 zao t1 H fun t6 H=>
 zao t2 H fun t7 H=>
 zao t3 H fun t8 H=>
 zao t4 H fun t9 H=>
 zae true 3 t6 H fun t23=>
 ACalls tP zpN [t0,t23] H fun t24 H=>
 aUn .not t24 fun t25=>
 zab t25 false H (fun K'=>zae true 2 t7 H (K' · H)) fun t27 H=>
 zab t25 false H (fun K'=>ACalls tP zjc [t27] H K') fun t28 H=>
 zab t25 false H (fun K'=>aUn .not t28 (K' · H)) fun t29 H=>
 zaj t25 (.bool true) t29 fun t30=>
 zab t30 false H (fun K'=>zae true 2 t8 H (K' · H)) fun t32 H=>
 zab t30 false H (fun K'=>ACalls tP zjc [t32] H K') fun t33 H=>
 zab t30 false H (fun K'=>aUn .not t33 (K' · H)) fun t34 H=>
 zaj t30 (.bool true) t34 fun t35=>
 zab t35 false H (fun K'=>zae true 3 t9 H (K' · H)) fun t37 H=>
 zab t35 false H (fun K'=>ACalls tP zo6 [t37] H K') fun t38 H=>
 zab t35 false H (fun K'=>aUn .not t38 (K' · H)) fun t39 H=>
 zaj t35 (.bool true) t39 fun t40=>
 zab t40 false H (fun K'=>zae true 3 t9 H (K' · H)) fun t42 H=>
 zab t40 false H (fun K'=>ACalls tP zjg [t42] H K') fun t43 H=>
 zab t40 false H (fun K'=>zac .gtr false t43 (.int .i64 60) (K' · H)) fun t44 H=>
 zaj t40 (.bool true) t44 fun t45=>
 zab t45 false H (fun K'=>zaf 0 t6 (K' · H)) fun t47 H=>
 zab t45 false H (fun K'=>zae false 1 t47 H (K' · H)) fun t48 H=>
 zab t45 false H (fun K'=>zac .neq false t48 (.int .i64 5) (K' · H)) fun t49 H=>
 zaj t45 (.bool true) t49 fun t50=>
 zab t50 false H (fun K'=>K' t0 H) fun t52 H=>
 zab t50 false H (fun K'=>zae true 3 t9 H (K' · H)) fun t53 H=>
 zab t50 false H (fun K'=>zae true 3 t6 H (K' · H)) fun t54 H=>
 zab t50 false H (fun K'=>ACalls tP zjj [t52,t53,t54] H K') fun t55 H=>
 zab t50 false H (fun K'=>aUn .not t55 (K' · H)) fun t56 H=>
 zaj t50 (.bool true) t56 fun t57=>
 zag t57
 (K (.bool true) H)
 (zae true 3 t6 H fun t60=>
 zae true 2 t7 H fun t61=>
 zae true 2 t8 H fun t62=>
 ACalls tP zpz [t0,t60,t61,t62] H fun t63 H=>
 zay t63 0 fun t64=>
 zay t63 1 fun t65=>
 zac .neq false t65 (.int .i64 0) fun t67=>
 zag t67
 (ACalls tP zjw [] H fun t68 H=>
 K t68 H)
 (ACalls tP zb3 [(.int .i64 0)] H fun t69 H=>
 zaw [(.bool false),.snil,.snil] H fun t13 H=>
 zam 3 t13 t69 H fun H=>
 zah 1 t64 fun t71=>
 zBw t0 t6 t7 t8 t9 t13 t64 t71 (.int .i64 0) H K))
theorem zPf {t0 t6 t7 t8 t9 t13 t70 t71 t72:AV} {H:zaa} {K:Kt} (Inv:Nat→AV→zaa→Prop) (n:Nat) (h0:HSc H→Inv n t72 H)
  (round:Rd1 (fun t72=>zms t0 t6 t7 t8 t9 t13 t70 t71 t72) (fun t72=>fun H Kb8=>zs9 t0 t6 t7 t8 t9 t13 t70 t71 t72 H K Kb8) H Inv):zBw t0 t6 t7 t8 t9 t13 t70 t71 t72 H K:=
 lp1 (M:=zmr) zPg t72 (by kernel_rfl) Inv n h0 round
theorem zPh {t0 t1 t2 t3 t4:AV} {H:zaa} {K:Kt} (h:HSc H→zq3 t0 t1 t2 t3 t4 H K):ACalls tP zpF [t0,t1,t2,t3,t4] H K:=
 zan (M:=zmr) Tryz.func5 (c:=zta) (by kernel_rfl) (fun hs=>Eq.mpr (by kernel_rfl) (h hs))
def zOi (_:Nat):List Bool:=[]
noncomputable def zOj:Code:=Tryz.f27.body.getD .skip
def zA6 (t0 t1:AV) (H:zaa) (K:Kt):Prop:=
 zao t0 H fun t2 H=>
 zao t1 H fun t3 H=>
 zae true 3 t2 H fun t5=>
 zae true 3 t3 H fun t6=>
 ACalls tP zjI [t5,t6] H fun t7 H=>
 ACalls tP zfv [t7] H fun t8 H=>
 K t8 H
theorem zOk {t0 t1:AV} {H:zaa} {K:Kt} (h:HSc H→zA6 t0 t1 H K):ACalls tP zpB [t0,t1] H K:=
 zan (M:=zOi) Tryz.func27 (c:=zOj) (by kernel_rfl) (fun hs=>Eq.mpr (by kernel_rfl) (h hs))
def zIj (_:Nat):List Bool:=[]
noncomputable def zIk:Code:=Tryz.f111.body.getD .skip
def zyX (t0 t1 t2:AV) (H:zaa) (K:Kt):Prop:=
 zao t1 H fun t4 H=>
 zao t2 H fun t5 H=>
 zae true 3 t4 H fun t8=>
 zae true 2 t5 H fun t9=>
 ACalls tP zhQ [t0,t8,t9] H fun t10 H=>
 K t10 H
theorem zIl {t0 t1 t2:AV} {H:zaa} {K:Kt} (h:HSc H→zyX t0 t1 t2 H K):ACalls tP zo5 [t0,t1,t2] H K:=
 zan (M:=zIj) Tryz.func111 (c:=zIk) (by kernel_rfl) (fun hs=>Eq.mpr (by kernel_rfl) (h hs))
end Go.Proofs.YtjkkonpjecoieaaGreat
