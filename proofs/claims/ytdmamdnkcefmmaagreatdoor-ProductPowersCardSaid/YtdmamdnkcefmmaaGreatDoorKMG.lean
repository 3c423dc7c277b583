import Derived.Test.YtdmamdnkcefmmaaGreatDoorKPW
import Derived.Test.YtdmamdnkcefmmaaGreatDoorKY4
import Derived.Test.YtdmamdnkcefmmaaGreatDoorVO
set_option linter.unusedSimpArgs false
set_option linter.unusedVariables false
set_option maxRecDepth 8000
namespace Go.Proofs.YtdmamdnkcefmmaaGreatDoor
theorem zsf{d7:List Dat}:∀ (l:List IT) (ts:List VT) (a:Int),0≤a→0≤rdA d7 l ts a→a≤rdA d7 l ts a
 |[],ts,a,_,_=>by rw[rdA];exact Int.le_refl _
 |i::l,[],a,_,h=>by simp[rdA]at h
 |i::l,t::ts,a,ha,h=>by
  simp only[rdA]at h ⊢;by_cases hc:rdV d7 i t<0∨a+rdV d7 i t>6
  ·rw[az hc]at h;omega
  ·rw[au hc]at h ⊢;have:=zsf l ts _ (by omega) h;omega
mutual
theorem zx5{d7:List Dat}{N:Nat}(hN:1≤N):∀(i:IT) (t v:VT),v.nodes≤N→0≤rdV d7 i t→atV d7 i t v≤N ^ (rdV d7 i t).toNat
 |.mk n ks,t,v,hv,hd=>by
  have mA:∀x∈v.kids,x.nodes≤N:=by obtain⟨a,b,c⟩:=v;intro x hx;simp only[VT.kids]at hx;have:=zjU (k:=a) (n:=b) x hx;omega
  rw[rdV]at hd ⊢;rw[atV];by_cases h6:t.kind=6
  ·simp only[h6,a6]at hd ⊢;by_cases hn:n=0
   ·by_cases hl:t.kids.length=ks.length
    ·simp only[hn,hl,a6]at hd ⊢;have:=zqg hN ks t.kids v.kids 0 (by omega) mA hd;simpa using this
    ·simp[hn,hl]at hd
   ·simp[hn]at hd
  ·by_cases h7:t.kind=7
   ·simp only[h6,h7,aN,a6]at hd ⊢;by_cases hc:0≤n∧n≤6∧ks.length=0
    ·simp only[hc,and_self,a6]at hd ⊢;simp;refine ap (zjJ _ _) (dm ?_ _);obtain⟨a,b,c⟩:=v;have:=VT.len_le c;simp only[VT.kids,VT.nodes]at hv ⊢;omega
    ·rw[au hc]at hd;omega
   ·by_cases h5:t.kind=5
    ·simp only[h6,h7,h5,aN,a6]at hd ⊢;by_cases hc:n=0∧ks.length≤6
     ·simp only[hc,and_self,a6]at hd ⊢;have fe:=zAi (zd4 d7 t.num.toNat) v;have:=zAP hN ks t (zfV (zd4 d7 t.num.toNat) v) 0 (by omega) (by omega) (zJZ _ N v hv) hd;simpa using this
     ·rw[au hc]at hd;omega
    ·simp only[h6,h7,h5,aN]at hd ⊢;exact dH hN
theorem zqg{d7:List Dat}{N:Nat}(hN:1≤N):∀(l:List IT) (ts vs:List VT) (a:Int),0≤a→(∀x∈vs,x.nodes≤N)→0≤rdA d7 l ts a→atL d7 l ts vs≤N ^ (rdA d7 l ts a-a).toNat
 |[],ts,vs,a,_,_,_=>by rw[atL];exact dH hN
 |i::l,[],vs,a,_,_,_=>by simp only[atL];exact dH hN
 |i::l,t::ts,[],a,_,_,_=>by simp only[atL];exact dH hN
 |i::l,t::ts,v::vs,a,ha,hv,hd=>by
  simp only[rdA]at hd ⊢;by_cases hc:rdV d7 i t<0∨a+rdV d7 i t>6
  ·rw[az hc]at hd;omega
  ·rw[au hc]at hd ⊢;have h1:=zx5 (d7:=d7) hN i t v (hv v (by simp)) (by omega);have h2:=zqg hN l ts vs (a+rdV d7 i t) (by omega) (λx hx=>hv x (by simp[hx])) hd;have gK:=(zsf l ts (a+rdV d7 i t) (by omega) hd);simp only[atL];refine ap (bf h1 h2) ?_;rw[←dj];exact a7 hN (by omega)
theorem zAP{d7:List Dat}{N:Nat}(hN:1≤N):∀(es:List IT) (t:VT) (nodes:List VT) (a:Int),0≤a→nodes.length≤N→(∀x∈nodes,x.nodes≤N)→0≤rdE d7 es t a→zcJ (wtL d7 es t) nodes≤N ^ (rdE d7 es t a-a).toNat
 |[],t,nodes,a,_,_,_,_=>by simp only[wtL,zcJ];exact dH hN
 |.mk c ks::es,t,nodes,a,ha,hl,hv,hd=>by
  rw[zeO]at hd ⊢;by_cases hc:c<0∨8≤c
  ·rw[az hc]at hd;omega
  ·rw[au hc]at hd ⊢;cases hp:zbi d7 t c with
   |none=>rw[hp]at hd;simp at hd
   |some ps=>
    rw[hp]at hd;simp only at hd ⊢;by_cases ek:ps.length=ks.length
    ·rw[az ek]at hd ⊢;by_cases hx:rdA d7 ks ps 0<0∨a+1+rdA d7 ks ps 0>6
     ·rw[az hx]at hd;omega
     ·rw[au hx]at hd ⊢;have h2:=zAP hN es t nodes (a+(1+rdA d7 ks ps 0)) (by omega) hl hv hd;have hw:∀x∈nodes,wtE d7 (.mk c ks) t x≤N ^ (rdA d7 ks ps 0).toNat:=by
       intro x hxm;rw[wtE];split
       ·rw[hp];have hpk:∀ y∈pick x.kids ((zd4 d7 t.num.toNat).getD c.toNat []),y.nodes≤N:=by intro y hy;have h3:=hv x hxm;obtain⟨p,q,r⟩:=x;have iW:y∈r:=zgY hy;have:=zjU (k:=p) (n:=q) y iW;omega
        have:=zqg (d7:=d7) hN ks ps (pick x.kids ((zd4 d7 t.num.toNat).getD c.toNat [])) 0 (by omega) hpk (by omega);simpa using this
       ·exact bv _
      have h3:=zAO (wtE d7 (.mk c ks) t) (wtL d7 es t) nodes;have h4:=zBi nodes hw;have gK:rdE d7 es t (a+(1+rdA d7 ks ps 0))=-1∨(a+(1+rdA d7 ks ps 0))+es.length≤rdE d7 es t (a+(1+rdA d7 ks ps 0)):=zk8 es t _ (by omega);rw[wtL];refine ap h3 (ap (bf (ap h4 (ar _ hl)) h2) ?_);rw[show N*N ^ (rdA d7 ks ps 0).toNat=N ^ ((rdA d7 ks ps 0).toNat+1) by rw[Nat.pow_succ,bi],←dj];exact a7 hN (by omega)
    ·rw[au ek]at hd;omega
end
def zaO:IT→Int
 |.mk n _=>n
def bef(e i:IT):IT:=.mk 0 (e::zaI i)
def fct:Nat→Nat
 |0=>1
 |n+1=>(n+1)*fct n
def pcf(a b k:Nat):Nat:=if max a b≤k then fct k / (fct (k-a)*fct (k-b)*fct (a+b-k)) else 0
def zaU(a b:Nat):List (IT×Nat):=(List.range (a+b+1)).map λ(k:Nat)=>(.mk (k:Int) [],pcf a b k)
def zbM(out:List (List IT×Nat))(ws:List (IT×Nat)):List (List IT×Nat):=ws.flatMap λw=>out.map λr=>(r.1++[w.1],r.2*w.2)
mutual
def zbd(d7:List Dat):Nat→VT→IT→IT→List (IT × Nat)
 |0,_,_,_=>[]
 | f+1,t,i,j=>if t.kind=6 then zaA [] ((zcj d7 f t.kids (zaI i) (zaI j)).map λr=>(.mk 0 r.1,r.2))
  else if t.kind=7 then zaA [] (zaU (zaO i).toNat (zaO j).toNat)
  else if t.kind=5 then zaA [] (zaS d7 f t (zaI i) (zaI j)) else [(.mk 0 [],1)]
def zcj(d7:List Dat):Nat→List VT→List IT→List IT→List (List IT × Nat)
 |0,_,_,_=>[]
 |f+1,ts,l,m=>(List.range ts.length).foldl (λout k=>zbM out (zbd d7 f (ts.getD k tz) (l.getD k d0) (m.getD k d0))) [([],1)]
def zaS(d7:List Dat):Nat→VT→List IT→List IT→List (IT × Nat)
 |0,_,_,_=>[]
 |f+1,t,[],m=>[(.mk 0 m,1)]
 |f+1,t,a::l,[]=>[(.mk 0 (a::l),1)]
 |f+1,t,a::l,b::m=>
  if zaO a≠zaO b then zaA (zaA [] ((zaS d7 f t l (b::m)).map λw=>(bef a w.1,w.2))) ((zaS d7 f t (a::l) m).map λw=>(bef b w.1,w.2))
  else zaA (zaA (zaA [] ((zaS d7 f t l (b::m)).map λw=>(bef a w.1,w.2))) ((zaS d7 f t (a::l) m).map λw=>(bef b w.1,w.2)))
   ((zcj d7 f ((zbi d7 t (zaO a)).getD []) (zaI a) (zaI b)).flatMap λr=>(zaS d7 f t l m).map λw=>(bef (.mk (zaO a) r.1) w.1,r.2*w.2))
end
def zbo(g:List IT→Nat)(s:List (List IT×Nat)):Nat:=(s.map λr=>r.2*g r.1).foldr (·+·) 0
@[simp] theorem yeK(g:List IT→Nat):zbo g []=0:=rfl
@[simp] theorem zf7(g:List IT→Nat)(r:List IT×Nat)(s:List (List IT×Nat)):zbo g (r::s)=r.2*g r.1+zbo g s:=rfl
theorem ziO(g:List IT→Nat):∀ a b,zbo g (a++b)=zbo g a+zbo g b
 |[],b=>by simp
 |p::a,b=>by simp[ziO g a b];omega
theorem zg8{β:Type}(f:IT→Nat)(h:β→IT × Nat):∀ l:List β,zaH f (l.map h)=(l.map λx=>(h x).2*f (h x).1).foldr (·+·) 0
 |[]=>rfl
 |x::l=>by simp[zg8 f h l]
theorem ziN(f g:IT→Nat)(h:IT→IT)(c:Nat)(he:∀ x,f (h x)=c*g x):∀ l:List (IT × Nat),zaH f (l.map λw=>(h w.1,w.2))=c*zaH g l
 |[]=>by simp
 |w::l=>by rw[aF,zc5,zc5,ziN f g h c he l,he,cH];simp only[bi,Nat.mul_left_comm,cV]
theorem zKf(g:List IT→Nat)(g':List IT→Nat)(u:IT→Nat)(ws:List (IT×Nat))(out:List (List IT×Nat))(h:∀r∈out,∀w∈ws,g (r.1++[w.1])=g' r.1*u w.1):zbo g (zbM out ws)=zbo g' out*zaH u ws:=by
 unfold zbM;induction ws with
 |nil=>simp
 |cons w ws ih=>
  rw[aZ,ziO,ih (λr hr x hx=>h r hr x (by simp[hx])),zc5,cH];congr 1;have:∀out:List (List IT×Nat),(∀r∈out,g (r.1++[w.1])=g' r.1*u w.1)→zbo g (out.map λr=>(r.1++[w.1],r.2*w.2))=zbo g' out*(w.2*u w.1):=by
   intro out ho;induction out with
   |nil=>simp
   |cons r out ih=>rw[List.map_cons,zf7,zf7,ih (λx hx=>ho x (by simp[hx])),ho r (by simp),Nat.add_mul];grind
  exact this out (λr hr=>h r hr w (by simp))
theorem zAD{out:List (List IT×Nat)}{ws:List (IT×Nat)}{x:List IT×Nat}(h:x∈zbM out ws):∃r∈out,∃w∈ws,x=(r.1++[w.1],r.2*w.2):=by unfold zbM at h;obtain⟨w,hw,h⟩:=bY.1 h;obtain⟨r,hr,rfl⟩:=aA.1 h;exact⟨r,hr,w,hw,rfl⟩
def zb5(d7:List Dat)(f:Nat)(ts:List VT)(l m:List IT)(k:Nat):List (List IT×Nat):=(List.range k).foldl (λout k=>zbM out (zbd d7 f (ts.getD k tz) (l.getD k d0) (m.getD k d0))) [([],1)]
theorem ziG(d7:List Dat)(f:Nat)(ts:List VT)(l m:List IT):zb5 d7 f ts l m 0=[([],1)]:=rfl
theorem zg3(d7:List Dat)(f:Nat)(ts:List VT)(l m:List IT)(k:Nat):zb5 d7 f ts l m (k+1)=zbM (zb5 d7 f ts l m k) (zbd d7 f (ts.getD k tz) (l.getD k d0) (m.getD k d0)):=by rw[zb5,bU,List.foldl_append];rfl
theorem zh6(d7:List Dat)(f:Nat)(ts:List VT)(l m:List IT):zcj d7 (f+1) ts l m=zb5 d7 f ts l m ts.length:=by rw[zcj];rfl
theorem zAy{d7:List Dat}{f:Nat}{ts:List VT}{l m:List IT}:∀k,∀r∈zb5 d7 f ts l m k,r.1.length=k:=by
 intro k;induction k with
 |zero=>intro r hr;simp[ziG]at hr;subst hr;rfl
 |succ k ih=>intro r hr;rw[zg3]at hr;obtain⟨q,hq,w,_,rfl⟩:=zAD hr;simp[ih q hq]
def zlm(K:Nat)(f:Nat→Nat):Nat:=((List.range K).map f).foldr (·+·) 0
structure AtOk (d7:List Dat) (i:IT) (t v:VT):Prop where
 tn:t.nodes≤1000
 tv:za0 d7 0 t=true
 rd:0≤rdV d7 i t
 hv:za2 d7 v t=true
 vn:v.nodes≤1000
 inn:i.nodes≤900
theorem AtOk.le{d7:List Dat}{i:IT}{t v:VT}(h8:∀D∈d7,D.cons.length≤8)(h:AtOk d7 i t v):atV d7 i t v≤1000 ^ 6:=by have h1:=zx5 (N:=1000) (by omega) i t v h.vn h.rd;have h2:=zeQ (h8:=h8) i t;exact ap h1 (a7 (by omega) (by omega))
def zrC:List AV:=[.bool false,.snil,.snil]
def rz(l:List Nat):List AV:=(l.map λ(z:Nat)=>zai (z:Int)).flatten
def zz(m:Nat):List AV:=(List.replicate m zrC).flatten
@[simp] theorem yeu(l:List Nat):(rz l).length=l.length*3:=by
 induction l with
 |nil=>rfl
 |cons x l ih=>simp only[rz,aF,List.flatten_cons,aw,zJ1,List.length_cons]at ih ⊢;omega
@[simp] theorem yeW(m:Nat):(zz m).length=m*3:=by
 induction m with
 |zero=>rfl
 |succ m ih=>simp only[zz,List.replicate_succ,List.flatten_cons,aw]at ih ⊢;rw[ih];simp[zrC];omega
theorem zsa{d7:List Dat}{k n:Int}{ks:List VT}{c:Int}{l:List VT}(hk:zbx d7)(hf:zbt d7 (.mk k n ks) c=some l):
  ∃ bs,(zd4 d7 n.toNat).getD c.toNat []=bs∧l.length=bs.length∧l.length≤8∧zbi d7 (.mk k n ks) c=some (pick l bs)∧(∀ x∈l,x.nodes≤200)∧k=5 ∧
   (∀H K,K (.sl (zb2 bs) .none) H→ACalls tP zfQ [.sl (d7.map Dat.cs) .none,.int .i64 n,.int .i64 c] H K) ∧
   (∀H K,K (.sl (zb2 bs) .none) H→ACalls tP zgR [.sl (d7.map Dat.cs) .none,.int .i64 n,.int .i64 c] H K) ∧
   (∀j,bs.getD j false=true→l.getD j tz=.mk 5 n ks)∧0≤c∧∃(hn:n.toNat<d7.length) (hc:c.toNat<(d7[n.toNat]).cons.length),l.length=((d7[n.toNat]).cons[c.toNat]).args.length:=by
 obtain⟨k5,n0,c0,hn,hc,hv,rfl,gn⟩:=zhO hf;obtain⟨f1,f2,f3⟩:=zfM hk;have hd:=af hn;have fO:=af hc;obtain⟨g1,g2⟩:=f2 _ hd _ fO;have g3:=f3 _ hd;have h8:=((hk.2 _ hd).2.2 _ fO).2.1;refine⟨zcI n.toNat d7[n.toNat] (d7[n.toNat]).cons[c.toNat],by simp[zd4,hn,hc,List.getD_eq_getElem?_getD],by simp[zcI],by simpa using h8,?_,gn,k5,λH K hK=>?_,λH K hK=>?_,λj hj=>?_,c0,hn,hc,by simp⟩
 ·simp[zbi,hf,zd4,hn,hc,List.getD_eq_getElem?_getD,VT.num]
 ·have:=zuB d7 n.toNat c.toNat hn hc f1 g3 (by omega) (λx hx=>by have:=g2 x hx;omega) H K (by simpa[zb2,zcI,Function.comp_def]using hK);rwa [bp n0,bp c0]at this
 ·have:=zEa d7 n.toNat c.toNat hn hc f1 g3 (by omega) (λx hx=>by have:=g2 x hx;omega) H K hK;rwa [bp n0,bp c0]at this
 ·have eI:j<((d7[n.toNat]).cons[c.toNat]).args.length:=by refine bW λeP=>?_;rw[List.getD_eq_getElem?_getD,List.getElem?_eq_none (by simpa[zcI]using eP)]at hj;simp at hj
  simp only[List.getD_eq_getElem?_getD,zcI,List.getElem?_map,List.getElem?_eq_getElem eI,Option.map_some,Option.getD_some]at hj ⊢;rw[zKw hj hv,bp n0]
theorem zBD{d7:List Dat}{t:VT}(ht:za0 d7 0 t=true):zbb d7 0 t=true:=by rw[za0,aj]at ht;exact ht.2
theorem zsu:∀ l:List IT,l=(l.map λx=>[x]).flatten
 |[]=>rfl
 |x::l=>by rw[aF,List.flatten_cons,←zsu l];rfl
theorem zJ5{d7:List Dat}(h8:∀ D∈d7,D.cons.length≤8){t:VT}{ks:List IT}(h:0≤rdE d7 ks t 0){j:Nat}(hj:j<ks.length){c:Int}{eks:List IT}(he:ks[j]=.mk c eks):
  ∃ps,zbi d7 t c=some ps∧ps.length=eks.length∧0≤rdA d7 eks ps 0∧rdA d7 eks ps 0≤6:=by
 rw[zsu ks]at h;have h1:=(zk9 h8 t (ks.map λx=>[x]) 0 (by omega) (by omega) h).1 [ks[j]] (aA.2 ⟨ks[j],af hj,rfl⟩);rw[he,zeO]at h1;split at h1
 ·omega
 ·split at h1
  ·omega
  ·rename_i ps hp;split at h1
   ·rename_i hl;split at h1
    ·omega
    ·rename_i hc;exact⟨ps,hp,hl,by omega,by omega⟩
   ·omega
theorem zc3{l:List IT}{i:Nat}(h:i<l.length):l[i].nodes≤IT.nodesL l:=by have:=IT.kid_lt (n:=0) h;simp only[IT.nodes]at this;omega
theorem zlh(f:IT→Nat)(h:IT→IT)(c:Nat):∀ l:List (IT × Nat),zaH f (l.map λw=>(h w.1,c*w.2))=c*zaH f (l.map λw=>(h w.1,w.2))
 |[]=>by simp
 |w::l=>by rw[aF,aF,zc5,zc5,zlh f h c l,cH,cV]
theorem zjC{s:List (IT×Nat)}{i:IT}{c:Nat}:∀p∈za5 s i c,(∃q∈s,q.1=p.1∧q.2≤p.2)∨(0<c∧p.1=i∧c≤p.2):=by
 intro p hp;unfold za5 at hp;split at hp
 ·exact .inl ⟨p,hp,rfl,ac _⟩
 ·rename_i hc;rcases zHx p hp with (h | h) | ⟨q,hq,h⟩
  ·exact .inl ⟨p,h,rfl,ac _⟩
  ·exact .inr ⟨by omega,by rw[h],by rw[h];exact ac _⟩
  ·exact .inl ⟨q,hq,by rw[h],by rw[h];simp⟩
theorem ze5:∀ (l s:List (IT × Nat)),(∀ q∈s,0<q.2)→∀ p∈zaA s l,0<p.2∧((∃ q∈s,q.1=p.1)∨∃ q∈l,0<q.2∧q.1=p.1)
 |[],s,hs,p,hp=>⟨hs p hp,.inl ⟨p,hp,rfl⟩⟩
 |x::l,s,hs,p,hp=>by
  have hp:p∈zaA (za5 s x.1 x.2) l:=hp;have h1:∀q∈za5 s x.1 x.2,0<q.2:=λq hq=>by
   rcases zjC q hq with ⟨r,hr,_,h⟩|⟨h,_,h2⟩
   ·have:=hs r hr;omega
   ·omega
  obtain⟨h2,h3⟩:=ze5 l _ h1 p hp;refine⟨h2,?_⟩;rcases h3 with ⟨q,hq,he⟩|⟨q,hq,h4,he⟩
  ·rcases zjC q hq with ⟨r,hr,h5,_⟩ | ⟨h5,h6,_⟩
   ·exact .inl ⟨r,hr,by rw[h5,he]⟩
   ·exact .inr ⟨x,by simp,h5,by rw[←he,h6]⟩
  ·exact .inr ⟨q,by simp[hq],h4,he⟩
theorem zeg{s:List (IT×Nat)}{p:IT×Nat}(h:p∈s):p.2≤zaH (λ_=>1) s:=by
 induction s with
 |nil=>simp at h
 |cons q s ih=>
  rw[zc5];rcases aP.1 h with rfl|h
  ·omega
  ·have:=ih h;omega
theorem zeI{s:List (IT×Nat)}(h:∀p∈s,0<p.2):s.length≤zaH (λ_=>1) s:=by
 induction s with
 |nil=>simp
 |cons q s ih=>have h1:=ih λp hp=>h p (by simp[hp]);have h2:=h q (by simp);rw[zc5,List.length_cons];omega
theorem zg9(f:IT→Nat)(l:List (IT×Nat))(k:Nat):zaH f (l.take k)≤zaH f l:=by have h:=zf2 f (l.take k) (l.drop k);rw[aJ]at h;omega
theorem zej{d7:List Dat}(x:IT)(t:VT):∀ (a:List IT) (ts:List VT) (s:Int),a.length=ts.length→0≤s→0≤rdA d7 a ts s→rdA d7 (a++[x]) (ts++[t]) s=if rdV d7 x t<0∨rdA d7 a ts s+rdV d7 x t>6 then -1 else rdA d7 a ts s+rdV d7 x t
 |[],[],s,_,hs,_=>by
  have e:rdA d7 [] [] s=s:=by simp only[rdA]
  rw[e,List.nil_append,List.nil_append];simp only[rdA]
 |[],_::_,_,h,_,_=>by simp at h
 |_::_,[],_,h,_,_=>by simp at h
 |v::a,t'::ts,s,h,hs,hr=>by
  simp only[rdA]at hr;by_cases hc:rdV d7 v t'<0∨s+rdV d7 v t'>6
  ·rw[az hc]at hr;omega
  ·rw[au hc]at hr;have:=zej x t a ts (s+rdV d7 v t') (by simpa using h) (by omega) hr;simp only[List.cons_append,rdA,au hc];exact this
theorem zck{d7:List Dat}:∀ (a:List IT) (ts:List VT) (s:Int) (k:Nat),a.length=ts.length→0≤s→0≤rdA d7 a ts s→0≤rdA d7 (a.take k) (ts.take k) s∧rdA d7 (a.take k) (ts.take k) s≤rdA d7 a ts s
 |a,ts,s,0,_,hs,hr=>by have:=zsf a ts s hs hr;simp only[List.take_zero,rdA];omega
 |[],[],s,k+1,_,hs,hr=>by simp only[List.take_nil,rdA];omega
 |[],_::_,_,_+1,h,_,_=>by simp at h
 |_::_,[],_,_+1,h,_,_=>by simp at h
 |v::a,t::ts,s,k+1,h,hs,hr=>by
  simp only[rdA]at hr;by_cases hc:rdV d7 v t<0∨s+rdV d7 v t>6
  ·rw[az hc]at hr;omega
  ·rw[au hc]at hr;have:=zck a ts (s+rdV d7 v t) k (by simpa using h) (by omega) hr;simp only[List.take_succ_cons,rdA,au hc];exact this
theorem zfl{d7:List Dat}(h8:∀D∈d7,D.cons.length≤8)(t:VT)(a:IT)(l:List IT)(h:0≤rdE d7 (a::l) t 0):0≤rdE d7 [a] t 0∧0≤rdE d7 l t 0∧rdE d7 (a::l) t 0=rdE d7 [a] t 0+rdE d7 l t 0:=by
 have e:[[a],l].flatten=a::l:=by simp
 rw[←e]at h;obtain⟨h1,h2⟩:=zk9 h8 _ _ 0 (by omega) (by omega) h;rw[e]at h2;refine⟨h1 [a] (by simp),h1 l (by simp),?_⟩;rw[h2];simp
theorem zsh{d7:List Dat}(h8:∀D∈d7,D.cons.length≤8)(t:VT)(a:IT)(l:List IT)(h1:0≤rdE d7 [a] t 0)(h2:0≤rdE d7 l t 0)(h3:rdE d7 [a] t 0+rdE d7 l t 0≤6):rdE d7 (a::l) t 0=rdE d7 [a] t 0+rdE d7 l t 0:=by have e:a::l=[a]++l:=rfl;rw[e,zsg h8 _ _ _ _ (by omega) (by omega),au (by omega),zk7 l t _ h1 (by omega),zfE h2 h3]
theorem zJ6{d7:List Dat}{c:Int}{ks:List IT}{t:VT}{ps:List VT}(h0:0≤c)(h8:c<8)(hp:zbi d7 t c=some ps)(hl:ps.length=ks.length)(hr:0≤rdA d7 ks ps 0)(h6:1+rdA d7 ks ps 0≤6):rdE d7 [.mk c ks] t 0=1+rdA d7 ks ps 0:=by rw[zeO,au (by omega),hp];simp only;rw[az hl,au (by omega)];simp only[rdE];omega
theorem zeP{d7:List Dat}{c:Int}{ks:List IT}{t:VT}(h:0≤rdE d7 [.mk c ks] t 0):0≤c∧c<8∧∃ps,zbi d7 t c=some ps∧ps.length=ks.length∧0≤rdA d7 ks ps 0∧rdE d7 [.mk c ks] t 0=1+rdA d7 ks ps 0:=by
 rw[zeO]at h ⊢;split at h
 ·omega
 ·rename_i hc;cases hp:zbi d7 t c with
  |none=>rw[hp]at h;simp at h
  |some ps=>
   rw[hp]at h;simp only at h;by_cases hl:ps.length=ks.length
   ·rw[az hl]at h;by_cases hx:rdA d7 ks ps 0<0∨0+1+rdA d7 ks ps 0>6
    ·rw[az hx]at h;omega
    ·refine⟨by omega,by omega,ps,rfl,hl,by omega,?_⟩;rw[au hc];simp only;rw[az hl,au hx];simp only[rdE];omega
   ·rw[au hl]at h;omega
theorem p3{a b:Int}(h0:0≤a)(h:a≤b):3 ^ a.toNat≤3 ^ b.toNat:=a7 (by omega) (by omega)
theorem zk3{a b:Int}(h0:0≤a)(h:0≤b):3 ^ (a+b).toNat=3 ^ a.toNat*3 ^ b.toNat:=by rw[show (a+b).toNat=a.toNat+b.toNat by omega,dj]
def zpR(d7:List Dat)(f:Nat):Prop:=∀ (t:VT) (i j:IT),i.nodes+j.nodes≤f→0≤rdV d7 i t→0≤rdV d7 j t→rdV d7 i t+rdV d7 j t≤6 →
 (∀p∈zbd d7 f t i j,0<p.2∧0≤rdV d7 p.1 t∧rdV d7 p.1 t≤rdV d7 i t+rdV d7 j t∧rdV d7 i t≤rdV d7 p.1 t∧rdV d7 j t≤rdV d7 p.1 t∧p.1.nodes≤i.nodes+j.nodes)∧zaH (λ_=>1) (zbd d7 f t i j)≤3 ^ (rdV d7 i t+rdV d7 j t).toNat
def zjr(d7:List Dat)(f:Nat):Prop:=∀ (ts:List VT) (l m:List IT),IT.nodesL l+IT.nodesL m+1≤f→l.length=ts.length→m.length=ts.length→0≤rdA d7 l ts 0→0≤rdA d7 m ts 0→rdA d7 l ts 0+rdA d7 m ts 0≤6 →
 (∀ r∈zcj d7 f ts l m,0<r.2∧r.1.length=ts.length∧0≤rdA d7 r.1 ts 0∧rdA d7 r.1 ts 0≤rdA d7 l ts 0+rdA d7 m ts 0∧rdA d7 l ts 0≤rdA d7 r.1 ts 0∧rdA d7 m ts 0≤rdA d7 r.1 ts 0∧IT.nodesL r.1≤IT.nodesL l+IT.nodesL m) ∧
  zbo (λ_=>1) (zcj d7 f ts l m)≤3 ^ (rdA d7 l ts 0+rdA d7 m ts 0).toNat
def zjs(d7:List Dat)(f:Nat):Prop:=∀ (t:VT) (l m:List IT),IT.nodesL l+IT.nodesL m+1≤f→0≤rdE d7 l t 0→0≤rdE d7 m t 0→rdE d7 l t 0+rdE d7 m t 0≤6 →
 (∀ p∈zaS d7 f t l m,0<p.2∧zaO p.1=0∧0≤rdE d7 (zaI p.1) t 0∧rdE d7 (zaI p.1) t 0≤rdE d7 l t 0+rdE d7 m t 0∧rdE d7 l t 0≤rdE d7 (zaI p.1) t 0∧rdE d7 m t 0≤rdE d7 (zaI p.1) t 0∧IT.nodesL (zaI p.1)≤IT.nodesL l+IT.nodesL m) ∧
  zaH (λ_=>1) (zaS d7 f t l m)≤3 ^ (rdE d7 l t 0+rdE d7 m t 0).toNat
theorem zKe(out:List (List IT×Nat))(ws:List (IT×Nat)):zbo (λ_=>1) (zbM out ws)=zbo (λ_=>1) out*zaH (λ_=>1) ws:=zKf _ (λ_=>1) (λ_=>1) ws out (λr _ w _=>by simp)
theorem zIj{d7:List Dat}{f:Nat}(hP:zpR d7 f):zjr d7 (f+1):=by
 intro ts l m hf hl hm hA hB h6;rw[zh6];have key:∀ k,k≤ts.length→(∀ r∈zb5 d7 f ts l m k,0<r.2∧0≤rdA d7 r.1 (ts.take k) 0∧rdA d7 r.1 (ts.take k) 0≤rdA d7 (l.take k) (ts.take k) 0+rdA d7 (m.take k) (ts.take k) 0∧rdA d7 (l.take k) (ts.take k) 0≤rdA d7 r.1 (ts.take k) 0∧rdA d7 (m.take k) (ts.take k) 0≤rdA d7 r.1 (ts.take k) 0 ∧
   IT.nodesL r.1≤IT.nodesL (l.take k)+IT.nodesL (m.take k))∧zbo (λ_=>1) (zb5 d7 f ts l m k)≤3 ^ (rdA d7 (l.take k) (ts.take k) 0+rdA d7 (m.take k) (ts.take k) 0).toNat:=by
  intro k;induction k with
  |zero=>intro _;refine⟨λr hr=>?_,by simp[ziG,rdA]⟩;simp[ziG]at hr;subst hr;simp[rdA,IT.nodesL]
  |succ k ih=>
   intro hk;obtain⟨ih1,ih2⟩:=ih (by omega);have h1:k<ts.length:=by omega
   have h3:k<l.length:=by omega
   have h4:k<m.length:=by omega
   have eg:zbd d7 f (ts.getD k tz) (l.getD k d0) (m.getD k d0)=zbd d7 f ts[k] l[k] m[k]:=by simp[List.getD_eq_getElem?_getD,h1,h3,h4]
   have a1:=zck l ts 0 k hl (by omega) hA;have a2:=zck l ts 0 (k+1) hl (by omega) hA;have b1:=zck m ts 0 k hm (by omega) hB;have b2:=zck m ts 0 (k+1) hm (by omega) hB;have ea:ts.take (k+1)=ts.take k++[ts[k]]:=ae h1;have el:l.take (k+1)=l.take k++[l[k]]:=ae h3;have em:m.take (k+1)=m.take k++[m[k]]:=ae h4;have sl:=zej (d7:=d7) l[k] ts[k] (l.take k) (ts.take k) 0 (by simp;omega) (by omega) a1.1;have sm:=zej (d7:=d7) m[k] ts[k] (m.take k) (ts.take k) 0 (by simp;omega) (by omega) b1.1;rw[←el,←ea]at sl;rw[←em,←ea]at sm;by_cases cl:rdV d7 l[k] ts[k]<0∨rdA d7 (l.take k) (ts.take k) 0+rdV d7 l[k] ts[k]>6
   ·rw[az cl]at sl;omega
   ·rw[au cl]at sl;by_cases cm:rdV d7 m[k] ts[k]<0∨rdA d7 (m.take k) (ts.take k) 0+rdV d7 m[k] ts[k]>6
    ·rw[az cm]at sm;omega
    ·rw[au cm]at sm;have n1:=zc3 h3;have n2:=zc3 h4;obtain⟨iC,mg⟩:=hP ts[k] l[k] m[k] (by omega) (by omega) (by omega) (by omega);have nl:=IT.nodesL_take h3;have nm:=IT.nodesL_take h4;rw[zg3,eg];constructor
     ·intro r hr;obtain⟨q,hq,w,hw,rfl⟩:=zAD hr;obtain⟨q1,q2,q3,q4,q5,q6⟩:=ih1 q hq;obtain⟨w1,w2,w3,w4,w5,w6⟩:=iC w hw;have iD:=zAy k q hq;have sr:=zej (d7:=d7) w.1 ts[k] q.1 (ts.take k) 0 (by simp;omega) (by omega) q2;rw[←ea,au (by omega)]at sr;simp only;rw[sr,IT.nodesL_app];simp only[IT.nodesL];exact⟨du q1 w1,by omega,by omega,by omega,by omega,by omega⟩
     ·rw[zKe,sl,sm];rw[show rdA d7 (l.take k) (ts.take k) 0+rdV d7 l[k] ts[k]+(rdA d7 (m.take k) (ts.take k) 0+rdV d7 m[k] ts[k])=(rdA d7 (l.take k) (ts.take k) 0+rdA d7 (m.take k) (ts.take k) 0)+(rdV d7 l[k] ts[k]+rdV d7 m[k] ts[k]) by omega,zk3 (by omega) (by omega)];exact bf ih2 mg
 obtain⟨k1,k2⟩:=key ts.length (ac _);rw[ak,ai (l:=l) (by omega),ai (l:=m) (by omega)]at k1 k2;exact⟨λr hr=>by
  obtain⟨q1,q2,q3,q4,q5,q6⟩:=k1 r hr;exact⟨q1,zAy _ r hr,q2,q3,q4,q5,q6⟩,k2⟩
theorem zIk{d7:List Dat}(h8:∀D∈d7,D.cons.length≤8){f:Nat}(hQ:zjr d7 f)(hR:zjs d7 f):zjs d7 (f+1):=by
 intro t l m hf hl hm h6;cases l with
 |nil=>
  have e0:rdE d7 [] t 0=0:=by simp only[rdE]
  have hN:=p3 (a:=0) (b:=rdE d7 m t 0) (by omega) (by omega);refine⟨λp hp=>?_,by simp[zaS,e0];simpa using hN⟩;simp[zaS]at hp;subst hp;simp only[zaO,zaI,e0,IT.nodesL];exact⟨by omega,trivial,hm,by omega,by omega,by omega,by omega⟩
 |cons a l=>
  cases m with
  |nil=>
   have e0:rdE d7 [] t 0=0:=by simp only[rdE]
   have hN:=p3 (a:=0) (b:=rdE d7 (a::l) t 0) (by omega) (by omega);refine⟨λp hp=>?_,by simp[zaS,e0];simpa using hN⟩;simp[zaS]at hp;subst hp;simp only[zaO,zaI,e0,IT.nodesL];exact⟨by omega,trivial,hl,by omega,by omega,by omega,by omega⟩
  |cons b m=>
   have hna:=a.nodes_pos;have lk:=b.nodes_pos;obtain⟨la,ll,el⟩:=zfl h8 t a l hl;obtain⟨mb,mm,em⟩:=zfl h8 t b m hm;simp only[IT.nodesL]at hf;obtain⟨ca,pa⟩:=a;obtain⟨cb,pb⟩:=b;obtain⟨ca0,ca8,psa,iz,lu,m9,ea⟩:=zeP la;obtain⟨cb0,cb8,psb,lI,gf,nc,eb⟩:=zeP mb;obtain⟨A1,A2⟩:=hR t l (.mk cb pb::m) (by simp only[IT.nodesL];omega) ll hm (by omega);obtain⟨B1,B2⟩:=hR t (.mk ca pa::l) m (by simp only[IT.nodesL];omega) hl mm (by omega);obtain⟨C1,C2⟩:=hR t l m (by omega) ll mm (by omega);obtain⟨s,hs⟩:∃s,s=rdE d7 (.mk ca pa::l) t 0+rdE d7 (.mk cb pb::m) t 0:=⟨_,rfl⟩;have n1:zaH (λ_=>1) (zaA [] ((zaS d7 f t l (.mk cb pb::m)).map λw=>(bef (.mk ca pa) w.1,w.2)))≤3 ^ (s-1).toNat:=by rw[zcl,zcw,aC,ziN _ (λ_=>1) (bef (.mk ca pa)) 1 (λx=>by simp),cw];exact ap A2 (p3 (by omega) (by omega))
   have n2:zaH (λ_=>1) ((zaS d7 f t (.mk ca pa::l) m).map λw=>(bef (.mk cb pb) w.1,w.2))≤3 ^ (s-1).toNat:=by rw[ziN _ (λ_=>1) (bef (.mk cb pb)) 1 (λx=>by simp),cw];exact ap B2 (p3 (by omega) (by omega))
   have h3s:3 ^ s.toNat=3*3 ^ (s-1).toNat:=by rw[show s.toNat=(s-1).toNat+1 by omega,Nat.pow_succ,bi]
   -- the terms of the three ec
   have t1:∀w∈zaS d7 f t l (.mk cb pb::m),0<w.2→zaO (bef (.mk ca pa) w.1)=0∧0≤rdE d7 (zaI (bef (.mk ca pa) w.1)) t 0∧rdE d7 (zaI (bef (.mk ca pa) w.1)) t 0≤s∧rdE d7 (.mk ca pa::l) t 0≤rdE d7 (zaI (bef (.mk ca pa) w.1)) t 0∧rdE d7 (.mk cb pb::m) t 0≤rdE d7 (zaI (bef (.mk ca pa) w.1)) t 0∧IT.nodesL (zaI (bef (.mk ca pa) w.1))≤IT.nodesL (.mk ca pa::l)+IT.nodesL (.mk cb pb::m):=by intro w hw _;obtain⟨_,_,w2,w3,w4,w5,w6⟩:=A1 w hw;have ej:=zsh h8 t (.mk ca pa) (zaI w.1) la w2 (by omega);have eb:zaI (bef (.mk ca pa) w.1)=.mk ca pa::zaI w.1:=rfl;rw[eb];simp only[IT.nodesL]at w6 ⊢;exact⟨rfl,by omega,by omega,by omega,by omega,by omega⟩
   have t2:∀w∈zaS d7 f t (.mk ca pa::l) m,0<w.2→zaO (bef (.mk cb pb) w.1)=0∧0≤rdE d7 (zaI (bef (.mk cb pb) w.1)) t 0∧rdE d7 (zaI (bef (.mk cb pb) w.1)) t 0≤s∧rdE d7 (.mk ca pa::l) t 0≤rdE d7 (zaI (bef (.mk cb pb) w.1)) t 0∧rdE d7 (.mk cb pb::m) t 0≤rdE d7 (zaI (bef (.mk cb pb) w.1)) t 0∧IT.nodesL (zaI (bef (.mk cb pb) w.1))≤IT.nodesL (.mk ca pa::l)+IT.nodesL (.mk cb pb::m):=by intro w hw _;obtain⟨_,_,w2,w3,w4,w5,w6⟩:=B1 w hw;have ej:=zsh h8 t (.mk cb pb) (zaI w.1) mb w2 (by omega);have eb:zaI (bef (.mk cb pb) w.1)=.mk cb pb::zaI w.1:=rfl;rw[eb];simp only[IT.nodesL]at w6 ⊢;exact⟨rfl,by omega,by omega,by omega,by omega,by omega⟩
   rw[←hs];have emp:∀q∈([]:List (IT×Nat)),0<q.2:=λq hq=>by simp at hq
   have g1:=ze5 ((zaS d7 f t l (.mk cb pb::m)).map λw=>(bef (.mk ca pa) w.1,w.2)) [] emp;have g2:=ze5 ((zaS d7 f t (.mk ca pa::l) m).map λw=>(bef (.mk cb pb) w.1,w.2)) (zaA [] ((zaS d7 f t l (.mk cb pb::m)).map λw=>(bef (.mk ca pa) w.1,w.2))) (λq hq=>(g1 q hq).1);have two:∀p∈zaA (zaA [] ((zaS d7 f t l (.mk cb pb::m)).map λw=>(bef (.mk ca pa) w.1,w.2))) ((zaS d7 f t (.mk ca pa::l) m).map λw=>(bef (.mk cb pb) w.1,w.2)),0<p.2∧zaO p.1=0∧0≤rdE d7 (zaI p.1) t 0∧rdE d7 (zaI p.1) t 0≤s∧rdE d7 (.mk ca pa::l) t 0≤rdE d7 (zaI p.1) t 0∧rdE d7 (.mk cb pb::m) t 0≤rdE d7 (zaI p.1) t 0∧IT.nodesL (zaI p.1)≤IT.nodesL (.mk ca pa::l)+IT.nodesL (.mk cb pb::m):=by
    intro p hp;obtain⟨h0,h|h⟩:=g2 p hp
    ·obtain⟨q,hq,he⟩:=h;obtain⟨_,h | h⟩:=g1 q hq
     ·obtain⟨x,hx,_⟩:=h;simp at hx
     ·obtain⟨x,hx,jh,jn⟩:=h;obtain⟨w,hw,rfl⟩:=aA.1 hx;simp only at jn jh;rw[←he,←jn];exact⟨h0,t1 w hw jh⟩
    ·obtain⟨x,hx,jh,jn⟩:=h;obtain⟨w,hw,rfl⟩:=aA.1 hx;simp only at jn jh;rw[←jn];exact⟨h0,t2 w hw jh⟩
   rw[zaS];by_cases eY:zaO (.mk ca pa)=zaO (.mk cb pb)
   ·rw[au (by simpa using eY)];simp only[zaO]at eY;subst eY;rw[iz]at lI;cases lI;obtain⟨Q1,Q2⟩:=hQ psa pa pb (by simp only[IT.nodes]at hf;omega) lu.symm gf.symm m9 nc (by omega);have t3:∀ r∈zcj d7 f psa pa pb,∀ w∈zaS d7 f t l m,zaO (bef (.mk ca r.1) w.1)=0∧0≤rdE d7 (zaI (bef (.mk ca r.1) w.1)) t 0∧rdE d7 (zaI (bef (.mk ca r.1) w.1)) t 0≤s∧rdE d7 (.mk ca pa::l) t 0≤rdE d7 (zaI (bef (.mk ca r.1) w.1)) t 0∧rdE d7 (.mk ca pb::m) t 0≤rdE d7 (zaI (bef (.mk ca r.1) w.1)) t 0∧IT.nodesL (zaI (bef (.mk ca r.1) w.1))≤IT.nodesL (.mk ca pa::l)+IT.nodesL (.mk ca pb::m):=by intro r hr w hw;obtain⟨_,r1,r2,r3,r4,r5,r6⟩:=Q1 r hr;obtain⟨_,_,w2,w3,w4,w5,w6⟩:=C1 w hw;have eo:=zJ6 ca0 ca8 iz r1.symm r2 (by omega);have ej:=zsh h8 t (.mk ca r.1) (zaI w.1) (by omega) w2 (by omega);have eb:zaI (bef (.mk ca r.1) w.1)=.mk ca r.1::zaI w.1:=rfl;rw[eb];simp only[IT.nodesL,IT.nodes]at w6 ⊢;exact⟨rfl,by omega,by omega,by omega,by omega,by omega⟩
    simp only[zaO,zaI,iz,Option.getD_some];have g3:=ze5 ((zcj d7 f psa pa pb).flatMap λr=>(zaS d7 f t l m).map λw=>(bef (.mk ca r.1) w.1,r.2*w.2)) _ (λq hq=>(g2 q hq).1);constructor
    ·intro p hp;obtain⟨h0,h | h⟩:=g3 p hp
     ·obtain⟨q,hq,he⟩:=h;have:=(two q hq).2;rw[he]at this;exact⟨h0,this⟩
     ·obtain⟨x,hx,_,jn⟩:=h;obtain⟨r,hr,hx⟩:=bY.1 hx;obtain⟨w,hw,rfl⟩:=aA.1 hx;simp only at jn;rw[←jn];exact⟨h0,t3 r hr w hw⟩
    ·rw[zcl,zcl];have n3:zaH (λ_=>1) ((zcj d7 f psa pa pb).flatMap λr=>(zaS d7 f t l m).map λw=>(bef (.mk ca r.1) w.1,r.2*w.2))=zbo (λ_=>1) (zcj d7 f psa pa pb)*zaH (λ_=>1) (zaS d7 f t l m):=by
      generalize zcj d7 f psa pa pb=R;induction R with
      |nil=>simp
      |cons r R ih=>rw[aZ,zf2,ih,zlh,ziN _ (λ_=>1) (bef (.mk ca r.1)) 1 (λx=>by simp),zf7,a8];simp
     have n4:zbo (λ_=>1) (zcj d7 f psa pa pb)*zaH (λ_=>1) (zaS d7 f t l m)≤3 ^ (s-1).toNat:=by refine ap (bf Q2 C2) ?_;rw[←zk3 (by omega) (by omega)];exact p3 (by omega) (by omega)
     rw[n3,h3s];omega
   ·rw[az (by simpa using eY)];refine⟨two,?_⟩;rw[zcl,h3s];omega
theorem zqe:∀a,a<7→∀b,b<7→a+b≤6→zlm (a+b+1) (λk=>pcf a b k)≤3 ^ (a+b):=by decide +kernel
theorem zJQ:∀a,a<7→∀b,b<7→∀k,k<13→0<pcf a b k→a≤k∧b≤k:=by
 intro a _ b _ k _ h;unfold pcf at h;split at h
 ·omega
 ·omega
theorem zIi{d7:List Dat}(h8:∀D∈d7,D.cons.length≤8){f:Nat}(hQ:zjr d7 f)(hR:zjs d7 f):zpR d7 (f+1):=by
 intro t i j hf hi hj h6;obtain⟨k,tn,tks⟩:=t;obtain⟨n,l⟩:=i;obtain⟨n',m⟩:=j;simp only[IT.nodes]at hf;have emp:∀q∈([]:List (IT×Nat)),0<q.2:=λq hq=>by simp at hq
 rw[zbd];by_cases k6:k=6
 ·subst k6;have ev:∀(n:Int) (l:List IT),0≤rdV d7 (.mk n l) (.mk 6 tn tks)→n=0∧l.length=tks.length∧rdV d7 (.mk n l) (.mk 6 tn tks)=rdA d7 l tks 0:=λn l h=>by
   rw[rdV]at h ⊢;simp only[VT.kind,VT.kids,a6]at h ⊢;by_cases hn:n=0
   ·by_cases hl:tks.length=l.length
    ·simp[hn,hl]
    ·simp[hn,hl]at h
   ·simp[hn]at h
  have ev2:∀l:List IT,l.length=tks.length→rdV d7 (.mk 0 l) (.mk 6 tn tks)=rdA d7 l tks 0:=λl h=>by rw[rdV];simp[VT.kind,VT.kids,h]
  obtain⟨i1,i2,i3⟩:=ev n l hi;obtain⟨j1,j2,j3⟩:=ev n' m hj;rw[i3]at hi h6 ⊢;rw[j3]at hj h6 ⊢;obtain⟨Q1,Q2⟩:=hQ tks l m (by omega) i2 j2 hi hj h6;simp only[VT.kind,VT.kids,a6,zaI,IT.nodes];constructor
  ·intro p hp;obtain⟨h0,h | h⟩:=ze5 _ _ emp p hp
   ·obtain⟨x,hx,_⟩:=h;simp at hx
   ·obtain⟨x,hx,_,jn⟩:=h;obtain⟨r,hr,rfl⟩:=aA.1 hx;simp only at jn;obtain⟨_,r1,r2,r3,r4,r5,r6⟩:=Q1 r hr;rw[←jn,ev2 r.1 r1];simp only[IT.nodes];exact⟨h0,r2,r3,r4,r5,by omega⟩
  ·rw[zcl,zcw,aC,zg8];exact Q2
 ·by_cases k7:k=7
  ·subst k7;have ev:∀(n:Int) (l:List IT),0≤rdV d7 (.mk n l) (.mk 7 tn tks)→0≤n∧n≤6∧rdV d7 (.mk n l) (.mk 7 tn tks)=n:=λn l h=>by
    rw[rdV]at h ⊢;simp only[VT.kind,k6,aN,a6]at h ⊢;by_cases hc:0≤n∧n≤6∧l.length=0
    ·rw[az hc];exact⟨hc.1,hc.2.1,rfl⟩
    ·rw[au hc]at h;omega
   obtain⟨i1,i2,i3⟩:=ev n l hi;obtain⟨j1,j2,j3⟩:=ev n' m hj;rw[i3]at hi h6 ⊢;rw[j3]at hj h6 ⊢;obtain⟨a,rfl⟩:∃a:Nat,n=a:=⟨n.toNat,by omega⟩;obtain⟨b,rfl⟩:∃b:Nat,n'=b:=⟨n'.toNat,by omega⟩;simp only[VT.kind,k6,aN,a6,zaO,IT.nodes,Int.toNat_natCast];constructor
   ·intro p hp;obtain⟨h0,h | h⟩:=ze5 _ _ emp p hp
    ·obtain⟨x,hx,_⟩:=h;simp at hx
    ·obtain⟨x,hx,jh,jn⟩:=h;obtain⟨q,hq,rfl⟩:=aA.1 hx;rw[bz]at hq;simp only at jh jn;obtain⟨q1,q2⟩:=zJQ a (by omega) b (by omega) q (by omega) jh;have e:rdV d7 (.mk (q:Int) []) (.mk 7 tn tks)=q:=by rw[rdV];simp only[VT.kind,k6,aN,a6];rw[az ⟨by omega,by omega,rfl⟩]
     rw[←jn,e];simp only[IT.nodes,IT.nodesL];exact⟨h0,by omega,by omega,by omega,by omega,by omega⟩
   ·rw[zcl,zcw,aC,zaU,zg8];have:=zqe a (by omega) b (by omega) (by omega);unfold zlm at this;rw[show ((a:Int)+(b:Int)).toNat=a+b by omega];simpa using this
  ·by_cases k5:k=5
   ·subst k5;have ev:∀(n:Int) (l:List IT),0≤rdV d7 (.mk n l) (.mk 5 tn tks)→n=0∧l.length≤6∧rdV d7 (.mk n l) (.mk 5 tn tks)=rdE d7 l (.mk 5 tn tks) 0:=λn l h=>by
     rw[ziF]at h ⊢;by_cases hc:n=0∧l.length≤6
     ·rw[az hc];exact⟨hc.1,hc.2,rfl⟩
     ·rw[au hc]at h;omega
    obtain⟨i1,i2,i3⟩:=ev n l hi;obtain⟨j1,j2,j3⟩:=ev n' m hj;rw[i3]at hi h6 ⊢;rw[j3]at hj h6 ⊢;obtain⟨R1,R2⟩:=hR (.mk 5 tn tks) l m (by omega) hi hj h6;simp only[VT.kind,k6,k7,aN,a6,zaI,IT.nodes];constructor
    ·intro p hp;obtain⟨h0,h | h⟩:=ze5 _ _ emp p hp
     ·obtain⟨x,hx,_⟩:=h;simp at hx
     ·obtain⟨x,hx,jh,jn⟩:=h;obtain⟨_,r1,r2,r3,r4,r5,r6⟩:=R1 x hx;rw[←jn];obtain⟨⟨xn,xk⟩,xc⟩:=x;simp only[zaO,zaI]at r1 r2 r3 r4 r5 r6 ⊢;subst r1;have gK:=zk8 (d7:=d7) xk (.mk 5 tn tks) 0 (by omega);have e:rdV d7 (.mk 0 xk) (.mk 5 tn tks)=rdE d7 xk (.mk 5 tn tks) 0:=by rw[ziF,az ⟨rfl,by omega⟩]
      rw[e];simp only[IT.nodes];exact⟨h0,r2,r3,r4,r5,by omega⟩
    ·rw[zcl,zcw,aC];exact R2
   ·have ev:∀(n:Int) (l:List IT),0≤rdV d7 (.mk n l) (.mk k tn tks)→rdV d7 (.mk n l) (.mk k tn tks)=0:=λn l h=>by
     rw[rdV]at h ⊢;simp only[VT.kind,k6,k7,k5,aN]at h ⊢;by_cases hc:n=0∧l.length=0
     ·rw[az hc]
     ·rw[au hc]at h;omega
    rw[ev n l hi,ev n' m hj];simp only[VT.kind,k6,k7,k5,aN];refine⟨λp hp=>?_,by simp⟩;simp at hp;subst hp;have e:rdV d7 (.mk 0 []) (.mk k tn tks)=0:=by rw[rdV];simp[VT.kind,k6,k7,k5]
    rw[e];simp only[IT.nodes,IT.nodesL];exact⟨by omega,by omega,by omega,by omega,by omega,by omega⟩
theorem zcC{d7:List Dat}(h8:∀ D∈d7,D.cons.length≤8):∀ f,zpR d7 f∧zjr d7 f∧zjs d7 f
 |0=>⟨λt i j h=>by have:=i.nodes_pos;omega,λts l m h=>by omega,λt l m h=>by omega⟩
 |f+1=>by obtain⟨h1,h2,h3⟩:=zcC h8 f;exact⟨zIi h8 h2 h3,zIj h1,zIk h8 h2 h3⟩
end Go.Proofs.YtdmamdnkcefmmaaGreatDoor
