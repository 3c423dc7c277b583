import Derived.Test.YtaifokkaaahdoaaGreatDoorAbsQ1
import Derived.Test.YtaifokkaaahdoaaGreatDoorKGF1
set_option linter.unusedSimpArgs false
set_option linter.unusedVariables false
set_option maxRecDepth 8000
namespace Go.Abs
def zan:List Nat→Nat
 |[]=>0
 |x::l=>x+1000000000*zan l
def lim(n:Nat):List Nat:=if _h:n=0 then [] else n % 1000000000::lim (n / 1000000000)
termination_by n
decreasing_by exact Nat.div_lt_self (by omega) (by decide)
@[simp] theorem zuG:lim 0=[]:=by rw[lim];rfl
theorem zcf{n:Nat}(h:n≠0):lim n=n % 1000000000::lim (n / 1000000000):=by rw[lim,dif_neg h]
theorem zbo(n:Nat):zan (lim n)=n:=by
 induction n using Nat.strongRecOn with
 |_ n ih=>
  by_cases h:n=0
  ·subst h;simp[zan]
  ·rw[zcf h,zan,ih _ (Nat.div_lt_self (by omega) (by decide))];exact Nat.mod_add_div n 1000000000
theorem zbI(n:Nat):∀x∈lim n,x<1000000000:=by
 induction n using Nat.strongRecOn with
 |_ n ih=>
  by_cases h:n=0
  ·subst h;simp
  ·rw[zcf h];intro x hx;rcases List.mem_cons.1 hx with rfl | hx
   ·exact Nat.mod_lt _ (by decide)
   ·exact ih _ (Nat.div_lt_self (by omega) (by decide)) x hx
theorem lim_nil{n:Nat}:lim n=[]↔n=0:=by
 by_cases h:n=0
 ·simp[h]
 ·rw[zcf h];simp[h]
def zbr:List Nat→List Nat
 |[]=>[]
 |x::l=>if x=0∧zbr l=[] then [] else x::zbr l
theorem zhn:∀ (a b:List Nat),zan (a++b)=zan a+1000000000 ^ a.length*zan b
 |[],b=>by simp[zan]
 |x::a,b=>by simp only[List.cons_append,zan,zhn a b,List.length_cons,Nat.pow_succ];grind
theorem zfF:∀ (l:List Nat),(∀ x∈l,x<1000000000)→zbr l=lim (zan l)
 |[],_=>by simp[zbr,zan]
 |x::l,h=>by
  have hx:=h x (by simp);have ih:=zfF l (λy hy=>h y (by simp[hy]));rw[zbr,zan,ih];have e1:(x+1000000000*zan l) % 1000000000=x:=by rw[Nat.add_mul_mod_self_left,Nat.mod_eq_of_lt hx]
  have e2:(x+1000000000*zan l) / 1000000000=zan l:=by rw[Nat.add_mul_div_left _ _ (by decide),Nat.div_eq_of_lt hx];omega
  by_cases h0:x=0∧lim (zan l)=[]
  ·rw[if_pos h0];have:=lim_nil.1 h0.2;rw[this,h0.1];simp
  ·rw[if_neg h0];have:x+1000000000*zan l≠0:=by
    intro h1;refine h0 ⟨by omega,lim_nil.2 ?_⟩;have:1000000000*zan l=0:=by omega
    rcases Nat.mul_eq_zero.1 this with h2|h2
    ·cases h2
    ·exact h2
   rw[zcf this,e1,e2]
theorem zdQ:∀ (l:List Nat),(∀ x∈l,x<1000000000)→zan l<1000000000 ^ l.length
 |[],_=>by simp[zan]
 |x::l,h=>by have hx:=h x (by simp);have ih:=zdQ l (λy hy=>h y (by simp[hy]));simp only[zan,List.length_cons,Nat.pow_succ];have:1000000000*(zan l+1)≤1000000000*1000000000 ^ l.length:=Nat.mul_le_mul_left _ ih;rw[Nat.mul_comm (1000000000 ^ l.length)];rw[Nat.mul_succ]at this;omega
theorem zbY{n k:Nat}(h:n<1000000000 ^ k):(lim n).length≤k:=by
 induction k generalizing n with
 | zero => have : n = 0 := by simp at h; omega
           subst this;simp
 |succ k ih=>
  by_cases h0:n=0
  ·subst h0;simp
  ·rw[zcf h0,List.length_cons];have:=ih (n:=n / 1000000000) (Nat.div_lt_of_lt_mul (by rw[Nat.pow_succ,Nat.mul_comm]at h;exact h));omega
theorem zi9{n:Nat}(h:n≠0):1000000000 ^ ((lim n).length-1)≤n:=by
 induction n using Nat.strongRecOn with
 |_ n ih=>
  rw[zcf h,List.length_cons,Nat.add_sub_cancel];by_cases h1:n / 1000000000=0
  ·rw[h1];simp;omega
  ·have:=ih (n / 1000000000) (Nat.div_lt_self (by omega) (by decide)) h1;have hl:0<(lim (n / 1000000000)).length:=by rw[zcf h1];simp
   have e:(lim (n / 1000000000)).length=(lim (n / 1000000000)).length-1+1:=by omega
   rw[e,Nat.pow_succ];calc _≤(n / 1000000000)*1000000000:=Nat.mul_le_mul_right _ this
    _≤n:=Nat.div_mul_le_self _ _
theorem zgh{n:Nat}(h0:n≠0)(h:n<1000000000):lim n=[n]:=by rw[zcf h0,Nat.mod_eq_of_lt h,Nat.div_eq_of_lt h];simp
theorem zjb:∀ (l:List Nat) (j:Nat) (x:Nat) (h:j<l.length),zan (l.set j x)+l[j]*1000000000 ^ j=zan l+x*1000000000 ^ j
 |[],j,x,h=>by simp at h
 |y::l,0,x,h=>by simp[zan];omega
 |y::l,j+1,x,h=>by have:=zjb l j x (by simpa using h);simp only[List.set_cons_succ,zan,List.getElem_cons_succ,Nat.pow_succ];grind
theorem zcP(l:List Nat)(i:Nat)(h:i<l.length):zan (l.take (i+1))=zan (l.take i)+l[i]*1000000000 ^ i:=by rw[List.take_succ_eq_append_getElem h,zhn];simp[zan,Nat.min_eq_left (Nat.le_of_lt h)];exact Nat.mul_comm _ _
theorem zuS(n:Nat):zan (List.replicate n 0)=0:=by
 induction n with
 |zero=>rfl
 |succ n ih=>rw[List.replicate_succ,zan,ih]
theorem zuR(l:List Nat)(i:Nat)(h:i<l.length):zan (l.drop i)=l[i]+1000000000*zan (l.drop (i+1)):=by rw[List.drop_eq_getElem_cons h,zan]
theorem zho{a b:Nat}(h:(lim a).length<(lim b).length):a<b:=by
 by_cases hb:b=0
 ·subst hb;simp at h
 ·have h1:=zi9 hb;have h2:=zdQ (lim a) (zbI a);rw[zbo]at h2;exact Nat.lt_of_lt_of_le h2 (Nat.le_trans (Nat.pow_le_pow_right (by decide) (by omega)) h1)
end Go.Abs
namespace Go.Abs
open Go Go.RowKit
def zaj(l:List Nat):List (List AV):=l.map λ(n:Nat)=>[AV.int .u32 (n:Int)]
@[simp] theorem zUi(l:List Nat):(zaj l).length=l.length:=by simp[zaj]
theorem zwK(l:List Nat)(n:Nat):(zaj l).take n=zaj (l.take n):=by simp[zaj,List.map_take]
theorem zUh{l:List Nat}{i:Nat}(h:i<l.length):(zaj l)[i]?.getD []=[.int .u32 ((l[i]:Nat):Int)]:=by simp[zaj,h]
@[simp] theorem zUg{l:List Nat}{i:Nat}(h:i<(zaj l).length):(zaj l)[i]=[.int .u32 (((l[i]'(by simpa using h)):Nat):Int)]:=by simp[zaj]
theorem zer(l:List Nat):∀c∈zaj l,c.length=1:=by intro c hc;simp only[zaj,List.mem_map]at hc;obtain⟨n,_,rfl⟩:=hc;rfl
theorem zwj{L:List Nat}{n:Nat}(hn:0<n)(h:n≤L.length)(h0:L[n-1]=0):zbr (L.take n)=zbr (L.take (n-1)):=by
 obtain⟨m,rfl⟩:∃m,n=m+1:=⟨n-1,by omega⟩;simp only[Nat.add_sub_cancel]at h0 ⊢;rw[List.take_succ_eq_append_getElem (by omega),h0];generalize L.take m=A;induction A with
 |nil=>simp[zbr]
 |cons a A ih=>rw[List.cons_append,zbr,zbr,ih]
theorem zwh{L:List Nat}{n:Nat}(hn:0<n)(h:n≤L.length)(h0:L[n-1]≠0):zbr (L.take n)=L.take n:=by
 obtain⟨m,rfl⟩:∃m,n=m+1:=⟨n-1,by omega⟩;simp only[Nat.add_sub_cancel]at h0;rw[List.take_succ_eq_append_getElem (by omega)];generalize hx:L[m]=x at h0;generalize L.take m=A;induction A with
 |nil=>simp[zbr,h0]
 |cons a A ih=>rw[List.cons_append,zbr,ih,if_neg];rintro⟨_,h⟩;simp at h
theorem zch{n:Nat}(h:n<4294967296):IntKind.u32.wrap (n:Int)=n:=IntWalk.u32_in _ ⟨by omega,by omega⟩
theorem zbu{n:Nat}(h:n<18446744073709551616):IntKind.u64.wrap (n:Int)=n:=IntWalk.u64_in _ ⟨by omega,by omega⟩
theorem zsZ{k:AV→Prop}(b:Bool)(j:IntKind)(m n:Nat)(hn:n≠0):zac .rem b (.int j m) (.int j n) k=k (.int j ((m % n:Nat):Int)):=by simp only[zb3,ne_eq,Int.natCast_eq_zero,hn,not_false_eq_true,true_and];rfl
theorem zsY{k:AV→Prop}(b:Bool)(j:IntKind)(m n:Nat)(hn:n≠0):zac .quo b (.int j m) (.int j n) k=k (.int j (j.wrap ((m / n:Nat):Int))):=by simp only[zb3,ne_eq,Int.natCast_eq_zero,hn,not_false_eq_true,true_and];rfl
theorem znd{k:AV→Prop}(b:Bool)(j:IntKind)(m:Nat):zac .rem b (.int j m) (.int j 1000000000) k=k (.int j ((m % 1000000000:Nat):Int)):=zsZ b j m 1000000000 (by decide)
theorem zsW{k:AV→Prop}(b:Bool)(j:IntKind)(m:Nat):zac .quo b (.int j m) (.int j 1000000000) k=k (.int j (j.wrap ((m / 1000000000:Nat):Int))):=zsY b j m 1000000000 (by decide)
theorem zsX{k:AV→Prop}(b:Bool){m:Nat}(h:m<18446744073709551616):zac .quo b (.int .u64 m) (.int .u64 1000000000) k=k (.int .u64 ((m / 1000000000:Nat):Int)):=by rw[zsW,zbu (by have:=Nat.div_le_self m 1000000000;omega)]
theorem zBj{k:AV→Prop}(b:Bool){m:Nat}(h:m<4294967296):zac .quo b (.int .u32 m) (.int .u32 1000000000) k=k (.int .u32 ((m / 1000000000:Nat):Int)):=by rw[zsW,zch (by have:=Nat.div_le_self m 1000000000;omega)]
theorem zBb{k:AV→Prop}(j:IntKind){m:Nat}(h:m<4294967296):za9 .u32 (.int j m) k=k (.int .u32 m):=by rw[zBc,zch h]
theorem zn7(m:Nat):m % 1000000000<1000000000:=Nat.mod_lt _ (by decide)
theorem zCt{m:Nat}(h:m≠0):m / 1000000000<m:=Nat.div_lt_self (by omega) (by decide)
theorem sN(l:List Nat)(x:Nat):zaj l++[[AV.int .u32 (x:Int)]]=zaj (l++[x]):=by simp[zaj]
theorem zg8(s:Nat)(h:s<18446744073709551616):∃ x c:Nat,x<1000000000∧s=x+1000000000*c∧IntKind.u32.wrap (x:Int)=x ∧
  (∀(b:Bool) (k:AV→Prop),zac .rem b (.int .u64 s) (.int .u64 1000000000) k=k (.int .u64 x))∧∀(b:Bool) (k:AV→Prop),zac .quo b (.int .u64 s) (.int .u64 1000000000) k=k (.int .u64 c):=
 ⟨s % 1000000000,s / 1000000000,zn7 s,by omega,zch (by omega),λb k=>znd b .u64 s,λb k=>zsX b h⟩
theorem ztI(s:Nat)(h:s<4294967296):∃ x c:Nat,x<1000000000∧s=x+1000000000*c ∧
  (∀(b:Bool) (k:AV→Prop),zac .rem b (.int .u32 s) (.int .u32 1000000000) k=k (.int .u32 x))∧∀(b:Bool) (k:AV→Prop),zac .quo b (.int .u32 s) (.int .u32 1000000000) k=k (.int .u32 c):=
 ⟨s % 1000000000,s / 1000000000,zn7 s,by omega,λb k=>znd b .u32 s,λb k=>zBj b h⟩
theorem zCv(s d:Nat)(hd:0<d)(h:s<18446744073709551616):∃ x c:Nat,x<d∧s=x+d*c ∧
  (∀(b:Bool) (k:AV→Prop),zac .rem b (.int .u64 s) (.int .u64 d) k=k (.int .u64 x))∧∀(b:Bool) (k:AV→Prop),zac .quo b (.int .u64 s) (.int .u64 d) k=k (.int .u64 c):=
 ⟨s % d,s / d,Nat.mod_lt _ hd,(Nat.mod_add_div s d).symm,λb k=>zsZ b .u64 s d (by omega),λb k=>by rw[zsY b .u64 s d (by omega),zbu (by have:=Nat.div_le_self s d;omega)]⟩
theorem wi(i:Nat)(h:i<1000000000):IntKind.i64.wrap ((i:Int)+1)=((i+1:Nat):Int):=by rw[zaB (by omega) (by omega)];omega
theorem zwi:∀ l:List Nat,(zbr l).length≤l.length∧((zbr l).length=l.length→zbr l=l)
 |[]=>by simp[zbr]
 |x::l=>by
  obtain⟨h1,h2⟩:=zwi l;rw[zbr];split
  ·simp
  ·simp only[List.length_cons];exact⟨by omega,λh=>by rw[h2 (by omega)]⟩
theorem zi8{n k:Nat}(h:1000000000 ^ k≤n):k<(lim n).length:=by have h1:=zdQ (lim n) (zbI n);rw[zbo]at h1;refine Nat.lt_of_not_le λh2=>?_;have:=Nat.pow_le_pow_right (show 0<1000000000 by omega) h2;omega
theorem znw{R:List Nat}(hR:∀x∈R,x<1000000000)(h:R.length≤(lim (zan R)).length):R=lim (zan R):=by have h1:=zfF R hR;obtain⟨h2,h3⟩:=zwi R;rw[←h1,h3 (by rw[h1]at h2 ⊢;omega)]
end Go.Abs
namespace Go.Proofs.YtaifokkaaahdoaaGreatDoor
open Go Go.Abs
theorem zsF(L:List Nat)(hL:L.length≤1000000)(H:zaa)(K:Kt)(hK:K (.sl (zaj (zbr L)) .none) H):
  ACalls tP zeX [.sl (zaj L) .none] H K:=by
 refine ACalls.out (zQd λhs=>?_);simp[zAO];refine zQb (Inv:=λq t3 H'=>∃n:Nat,n≤L.length∧n=q∧t3=.int .i64 n∧H'=H∧zbr L=zbr (L.take n)) L.length ?_ ?_
 ·intro _;exact⟨L.length,by omega,rfl,by simp,rfl,by simp⟩
 ·rintro q t3 H' ⟨n,hn,rfl,rfl,rfl,hst⟩ hsc' hlen hsF Kb hKb;have hone:∀ (l:List Nat) (J:zaa),l=zbr L→Out (List.length H') K (AV.sl (zaj l) (Tok.own (List.length H'))) (H'++J):=λl J hl=>Out.one hs (.atom (.sl _ _)) rfl rfl (by rw[hl];exact hK);by_cases h0:n=0
  ·subst h0;simp[zmZ,zay,zbb,za0];exact⟨zer L,hone [] _ (by simpa[zbr]using hst.symm)⟩
  ·have hw:IntKind.i64.wrap ((n:Int)-1)=((n-1:Nat):Int):=by rw[zaB (by omega) (by omega)];omega
   have hlt:n-1<L.length:=by omega
   by_cases hz:L[n-1]=0
   ·simp[zmZ,show 0<n by omega,hw,hlt,hz];exact hKb _ _ ⟨n-1,by omega,Back.here (by simp) hs (by simp[zm0,AV.sc,AV.scA,AV.scB,AV.scV]) ⟨_,rfl,n-1,by omega,rfl,rfl,rfl,by rw[hst,zwj (by omega) hn hz]⟩⟩
   ·have hzb:(((L[n-1]:Nat):Int) == 0)=false:=by simp;omega
    simp[zmZ,show 0<n by omega,hw,hlt,hzb,zay,zbb,za0];refine⟨⟨hn,zer L⟩,λc hc=>zer L c (List.mem_of_mem_take hc),⟨by omega,by omega⟩,?_⟩;rw[zwK];exact hone _ _ (by rw[hst,zwh (by omega) hn hz])
end Go.Proofs.YtaifokkaaahdoaaGreatDoor
namespace Go.Abs
open Go Go.RowKit
variable {P:Program} {B:Nat} {w:World} {G:Gh} {H:zaa}
theorem HRel.frz(h:HRel B w G H){id:Nat}{cs:List AV}(hH:H[id]?=some (.cells cs)):
  ∃G',Ext B w G w G'∧HRel B w G' (H.set id .dead)∧∃b,G.μ[id]?=some (.blk b)∧G'.L b=cs.length∧∃(vs:Array Value) (e:TypeId),w.heap[b]?=some (.cells vs e (0,0))∧All2 (ARel w G) vs.toList cs:=by
 have hlt:id<G.μ.length:=by rw[h.len];exact(List.getElem?_eq_some_iff.1 hH).1
 obtain⟨gi,hgi⟩:∃gi,G.μ[id]?=some gi:=⟨_,List.getElem?_eq_getElem hlt⟩;have hok:=h.ok id _ _ hH hgi;cases gi with
 |gap=>exact hok.elim
 |own v s n=>exact hok.elim
 |blk b=>
  obtain⟨hB,hL,vs,e,hw,hcs⟩:=hok;have hl:vs.size=cs.length:=by simpa using hcs.length
  have he:Ext B w G w ⟨λx=>if x=b then cs.length else G.L x,G.μ⟩:=
   ⟨DR.same (Nat.le_refl _) rfl,Below.refl _ _,λx=>by by_cases hx:x=b <;> simp[hx,hL],λ_ _ _=>rfl,λ_ gi h=>⟨gi,h,gi.le_refl⟩⟩
  refine⟨_,he,⟨by simp[h.len],?_,h.dist,λx hx=>?_,h.lt,h.base⟩,b,hgi,by simp,vs,e,hw,hcs⟩
  ·intro id' ab gi h1 h2;by_cases hid:id'=id
   ·subst hid;rw[List.getElem?_set_self (List.getElem?_eq_some_iff.1 hH).1]at h1;cases h1;have h2:G.μ[id']?=some gi:=h2;rw[hgi]at h2;cases h2;exact⟨vs,e,(0,0),hw,by simp[hl]⟩
   ·rw[List.getElem?_set_ne (λh=>hid h.symm)]at h1;refine(h.ok id' ab gi h1 h2).keep he (λx hx=>⟨rfl,?_⟩);have:¬x=b:=λhxb=>hid (h.dist id' id gi _ b h2 hgi (by rw[hx,hxb]) rfl);simp[this]
  ·have:=h.lt id _ b hgi rfl;have h3:¬ x=b:=by omega
   simp[h3,h.fresh x hx]
inductive FzA (id off len cap:Nat) (es:List (List AV)):AV→AV→Prop
 |refl (a:AV):FzA id off len cap es a a
 |ms:FzA id off len cap es (.ms id off len cap) (.sl es .none)
inductive FzT (id off len cap:Nat) (es:List (List AV)):AV→AV→Prop
 |one {a b:AV} (h:FzA id off len cap es a b):FzT id off len cap es a b
 |agg {asx bs:List AV} (h:All2 (FzA id off len cap es) asx bs):FzT id off len cap es (.agg asx) (.agg bs)
theorem FzA.rel{id off len cap size:Nat}{cs:List AV}{es:List (List AV)}(hfit:off+len*size≤cs.length)(hp:plain ((cs.drop off).take (len*size))=some es.flatten)(hlen:es.length=len)(hsz:∀c∈es,c.length=size)(hcap:len≤cap){G':Gh}(hE:Ext B w G w G'){b:Nat}(hμ:G.μ[id]?=some (.blk b))(hLb:G'.L b=cs.length){vs0:Array Value}{e:TypeId}(hw:w.heap[b]?=some (.cells vs0 e (0,0)))(hcs:All2 (ARel w G) vs0.toList cs){v:Value}{a b':AV}(hab:FzA id off len cap es a b')(hr:ARel w G v a):ARel w G' v b':=by
 cases hab with
 |refl a=>exact hE.arel hr
 |ms=>
  obtain⟨b2,hb2,rfl⟩:=hr;rw[hμ]at hb2;cases hb2;show DRel w G'.L _ _;subst hlen;by_cases hne:es=[]
  ·subst hne;exact .slE _ _
  ·have hl:=hcs.length;have hd:=zek ((hcs.drop off).take (es.length*size)) hp;refine DRel.of_flat_at (zs:=(vs0.toList.drop off).take (es.length*size)) hsz hne hcap (by rw[hLb];exact hfit) (hd.mono λ_ _=>hE.drel) ?_;intro j u hj;rw[List.getElem?_take]at hj;split at hj
   ·simp only[World.cell?,hw];simpa using hj
   ·cases hj
theorem znf{R R':Value→AV→Prop}{S:AV→AV→Prop}(h:∀v a b,S a b→R v a→R' v b){vs:List Value}{asx bs:List AV}(hr:All2 R vs asx)(hs:All2 S asx bs):All2 R' vs bs:=
 All2.of_get (hr.length.trans hs.length) λi x y hx hy=>by obtain⟨a,ha,hxa⟩:=All2.get' hr hx;obtain⟨y',hy',hay⟩:=All2.get' hs ha;rw[hy]at hy';cases hy';exact h _ _ _ hay hxa
theorem ACalls.frz{f:FuncId}{args args':List AV}{K:Kt}(id off len cap size:Nat)(cs:List AV)(es:List (List AV))(hH:H[id]?=some (.cells cs))(hfit:off+len*size≤cs.length)(hp:plain ((cs.drop off).take (len*size))=some es.flatten)(hlen:es.length=len)(hsz:∀c∈es,c.length=size)(hcap:len≤cap)(ha:All2 (FzT id off len cap es) args args')(h:ACalls P f args' (H.set id .dead) K):ACalls P f args H K:=by
 intro B w G vs hR hv;obtain⟨G',hE,hR',b,hμ,hLb,vs0,e,hw,hcs⟩:=hR.frz hH;have h1:∀v a b,FzA id off len cap es a b→ARel w G v a→ARel w G' v b:=λv a b' hab hr=>FzA.rel hfit hp hlen hsz hcap hE hμ hLb hw hcs hab hr;have h2:∀v a b,FzT id off len cap es a b→TRel w G v a→TRel w G' v b:=by
  intro v a b' hab hr;cases hab with
  |one hab=>
   cases hab with
   |refl a=>exact hE.trel hr
   |ms=>exact TRel.of_v (VRel.of_a (h1 _ _ _ .ms hr))
  |agg hab=>obtain⟨us,hu,hr⟩:=hr;exact⟨us,hu,znf h1 hr hab⟩
 refine(h B w G' vs hR' (znf h2 hv ha)).mono λe w' ⟨v,r,H',G'',k1,k2,k3,k4,k5⟩=>⟨v,r,H',G'',k1,hE.trans k2,k3,k4,k5⟩
theorem AWp.frz{c:Code}{Q:AExit→List AV→zaa→Prop}{F:List AV}(id off len cap size:Nat)(cs:List AV)(es:List (List AV))(id2:Nat)(cs2 cs2':List AV)(hH:H[id]?=some (.cells cs))(hfit:off+len*size≤cs.length)(hp:plain ((cs.drop off).take (len*size))=some es.flatten)(hlen:es.length=len)(hsz:∀c∈es,c.length=size)(hcap:len≤cap)(hne:id≠id2)(hH2:H[id2]?=some (.cells cs2))(ha:All2 (FzA id off len cap es) cs2 cs2')(h:AWp P c Q F ((H.set id .dead).set id2 (.cells cs2'))):AWp P c Q F H:=by
 intro B w G a hR hF hd;obtain⟨G',hE,hR',b,hμ,hLb,vs0,e,hw,hcs⟩:=hR.frz hH;have h1:∀v a b,FzA id off len cap es a b→ARel w G v a→ARel w G' v b:=λv a b' hab hr=>FzA.rel hfit hp hlen hsz hcap hE hμ hLb hw hcs hab hr;have hlt2:id2<G.μ.length:=by rw[hR.len];exact(List.getElem?_eq_some_iff.1 hH2).1
 have hH2':(H.set id .dead)[id2]?=some (.cells cs2):=by rw[List.getElem?_set_ne hne];exact hH2
 have hR2:HRel B w G' ((H.set id .dead).set id2 (.cells cs2')):=by
  refine⟨by simp[hR'.len],?_,hR'.dist,hR'.fresh,hR'.lt,hR'.base⟩;intro i ab gi k1 k2;by_cases hi:i=id2
  ·subst hi;rw[List.getElem?_set_self (List.getElem?_eq_some_iff.1 hH2').1]at k1;cases k1;have hok:=hR'.ok i _ _ hH2' k2;have hgi:G.μ[i]?=some gi:=by
    obtain⟨gi0,hgi0⟩:∃gi0,G.μ[i]?=some gi0:=⟨_,List.getElem?_eq_getElem hlt2⟩;have hok0:=hR.ok i _ _ hH2 hgi0;obtain⟨gi1,hg1,hle⟩:=hE.ids i gi0 hgi0;rw[k2]at hg1;cases hg1;cases gi0 with
    | blk x=>cases gi with
     |blk y=>obtain rfl:x=y:=hle;exact hgi0
     |own v s n=>exact hle.elim
     |gap=>exact hle.elim
    |own v s n=>exact hok0.elim
    |gap=>exact hok0.elim
   have hok0:=hR.ok i _ _ hH2 hgi;cases gi with
   |blk x=>obtain⟨k3,k4,vs,e',k5,k6⟩:=hok;obtain⟨_,_,vs1,e1,k7,k8⟩:=hok0;rw[k5]at k7;cases k7;exact⟨k3,k4,vs,e',k5,znf h1 k8 ha⟩
   |own v s n=>exact hok.elim
   |gap=>exact hok.elim
  ·rw[List.getElem?_set_ne (λh=>hi h.symm)]at k1;exact hR'.ok i ab gi k1 k2
 refine wp_mono (h B w G' a hR2 (hF.ext hE) hd) λe a' w' hp=>?_;obtain⟨F',H',G'',e',rfl,k1,k2,k3,k4,k5⟩:=hp;exact⟨F',H',G'',e',rfl,hE.trans k1,k2,k3,k4,k5⟩
end Go.Abs
namespace Go.Abs
open Go Go.RowKit
variable {P:Program} {B:Nat} {w:World} {G:Gh} {H:zaa}
inductive OutW (H:zaa) (n:Nat):AV→AV→Prop
 |one {a b:AV} (h:OutV H n a b):OutW H n a b
 | rows (id e m:Nat) (cs:List AV) (rs:List (List (List AV))) (hid:n≤id) (hH:H[id]?=some (.vec e 1 m cs)) (hm:rs.length=m)
   (hall:All2 (OutV H n) cs (rs.map λr=>.sl r .none)):OutW H n (.ov id m) (.sl (rs.map λr=>[.sl r .none]) .none)
theorem OutW.vrel(hH:HRel B w G H){n:Nat}{v:Value}{a b:AV}(h:OutW H n a b)(hr:TRel w G v a):VRel w (G.cut w n) v b:=by
 cases h with
 |one h=>exact h.vrel hH hr
 |rows id e m cs rs hid hHid hm hall=>
  obtain⟨⟨a,cap0,rfl,_⟩,v',s0,n',hμ,_,heq⟩:=hr;obtain⟨rfl,rfl,⟨xs,hown,hcs⟩,_⟩:=hH.ok id _ _ hHid hμ;obtain rfl:=heq rfl;subst hm;show DRel w (G.cut w n).L _ _;by_cases hne:rs=[]
  ·subst hne;exact .slE _ _
  ·have hown2:=hown;obtain⟨hl,hrow⟩:=hown2;have hd:All2 (DRel w (G.cut w n).L) xs (rs.map λr=>AV.sl r .none):=All2.of_get (hcs.length.trans hall.length) λi x y hx hy=>by
    obtain⟨a,ha,hxa⟩:=All2.get' hcs hx;obtain⟨y',hy',hay⟩:=All2.get' hall ha;rw[hy]at hy';cases hy';obtain⟨r,hr,rfl⟩:∃r,rs[i]?=some r∧AV.sl r .none=y:=by simpa using hy
    exact hay.vrel hH (TRel.of_v (VRel.of_a hxa))
   rcases hrow with ⟨h1,h2⟩|⟨g,cap,cur,h1,h2,h3,h4,h5,h6,h7⟩
   ·cases rs <;> simp_all
   ·simp at h1;obtain⟨rfl,rfl⟩:=h1;obtain⟨_,_,_,hcell⟩:=zds hown;have hfl:∀l:List (List (List AV)),(l.map λr=>[AV.sl r .none]).flatten=l.map λr=>AV.sl r .none:=by
     intro l;induction l with
     |nil=>rfl
     |cons r l ih=>simp[ih]
    have:=DRel.of_flat_at (w:=w) (L:=(G.cut w n).L) (g:=g) (off:=0) (size:=1) (cap:=cap0) (es:=rs.map λr=>[AV.sl r .none]) (zs:=xs) (by simp) (by simpa using hne) (by simpa using h4) ?_ (by rw[hfl rs];exact hd) ?_
    ·simpa using this
    ·have:(G.cut w n).L g=cur.size:=by simp only[Gh.cut];rw[if_pos (cut_dropped.2 ⟨id,_,hid,hμ,rfl⟩),h3]
     rw[this,h6];simpa using h4
    ·intro j u hj;rw[Nat.zero_add,hcell j (by rw[←hl];exact(List.getElem?_eq_some_iff.1 hj).1)];exact hj
inductive OutT2 (H:zaa) (n:Nat):AV→AV→Prop
 |one {a b:AV} (h:OutW H n a b):OutT2 H n a b
 |tup {asx bs:List AV} (h:All2 (OutW H n) asx bs):OutT2 H n (.tup asx) (.tup bs)
def zA6(n:Nat)(K:AV→zaa→Prop)(r:AV)(H':zaa):Prop:=∃r2 H2 J,H'=H2++J∧n≤H2.length∧HSc H2∧OutT2 H' H2.length r r2∧K r2 H2
theorem Out.two{n:Nat}{K:AV→zaa→Prop}{r:AV}(h:Out n K r H):zA6 n K r H:=by
 obtain⟨r2,H2,J,hJ,hn,hsc,ho,hk⟩:=h;refine⟨r2,H2,J,hJ,hn,hsc,?_,hk⟩;cases ho with
 |one h=>exact .one (.one h)
 |tup h=>exact .tup (All2.of_get h.length λi x y hx hy=>by
   obtain⟨y',hy',hay⟩:=All2.get' h hx;rw[hy]at hy';cases hy';exact .one hay)
end Go.Abs
namespace Go.Abs
open Go Go.RowKit
variable {P:Program} {B:Nat} {w:World} {G:Gh} {H:zaa}
theorem zDT(h:HRel B w G H)(e size:Nat):TRel w ⟨G.L,G.μ++[.own (.slice none 0 0) size 0]⟩ (.slice none 0 0) (.ov H.length 0):=by refine⟨⟨none,0,rfl,λh=>absurd h (by omega),Nat.le_refl _⟩,.slice none 0 0,size,0,?_,Nat.le_refl _,λ_=>rfl⟩;rw[←h.len];simp
theorem ALoop.vec{c:Code}{Q:AExit→List AV→zaa→Prop}{F:List AV}(i e size:Nat)(hi:F[i]?=some .snil)(h:ALoop P c Q (F.set i (.ov H.length 0)) (H++[.vec e size 0 []])):ALoop P c Q F H:=by
 intro B w G a hH hF hd;obtain⟨hE,hH'⟩:=hH.newVec e size;have hF':FRel w ⟨G.L,G.μ++[.own (.slice none 0 0) size 0]⟩ a.tmps (F.set i (.ov H.length 0)):=by
  unfold FRel;obtain⟨v,h1,h2⟩:=All2.get hF hi;have h2:v=.slice none 0 0:=h2;subst h2;have hset:a.tmps.toList=a.tmps.toList.set i (.slice none 0 0):=by
   apply List.ext_getElem?;intro k;by_cases hk:k=i
   ·subst hk;rw[List.getElem?_set_self (List.getElem?_eq_some_iff.1 h1).1];exact h1
   ·rw[List.getElem?_set_ne (λh=>hk h.symm)]
  rw[hset];exact All2.set i (hF.ext hE) (zDT hH e size)
 refine wp_mono (h B w _ a hH' hF' hd) λe a' w' hp=>?_;obtain⟨F'',H'',G'',e'',rfl,k1,k2,k3,k4,k5⟩:=hp;exact⟨F'',H'',G'',e'',rfl,hE.trans k1,k2,k3,k4,k5⟩
theorem zwX{vs:List Value}:∀ {cs cs':List AV},All2 WkA cs cs'→∀ {vs:List Value},All2 (ARel w G) vs cs→All2 (ARel w G) vs cs'
 |[],[],_,_,hv=>hv
 |x::cs,x'::cs',hw,[],hv=>hv.elim
 |x::cs,x'::cs',hw,v::vs,hv=>⟨hw.1.arel hv.1,zwX (vs:=[]) hw.2 hv.2⟩
 |[],_::_,hw,_,_=>hw.elim
 |_::_,[],hw,_,_=>hw.elim
theorem ALoop.reCell{c:Code}{Q:AExit→List AV→zaa→Prop}{F:List AV}{id:Nat}{cs:List AV}(cs':List AV)(hid:H[id]?=some (.cells cs))(hw:All2 WkA cs cs')(h:ALoop P c Q F (H.set id (.cells cs'))):ALoop P c Q F H:=by intro B w G a hH hF hd;exact h B w G a (hH.reCell hid λvs hv=>zwX (vs:=[]) hw hv) hF hd
theorem HRel.frzV(h:HRel B w G H){id e size n:Nat}{cs:List AV}(hH:H[id]?=some (.vec e size n cs)){es:List (List AV)}(hp:plain cs=some es.flatten)(hlen:es.length=n)(hsz:∀ c∈es,c.length=size):
  ∃G',Ext B w G w G'∧HRel B w G' (H.set id .dead)∧∀v,ARel w G v (.ov id n)→DRel w G'.L v (.sl es .none):=by
 have hlt:id<G.μ.length:=by rw[h.len];exact(List.getElem?_eq_some_iff.1 hH).1
 obtain⟨gi,hgi⟩:∃gi,G.μ[id]?=some gi:=⟨_,List.getElem?_eq_getElem hlt⟩;have hok:=h.ok id _ _ hH hgi;cases gi with
 |gap=>exact hok.elim
 |blk b=>exact hok.elim
 |own v0 s0 n0=>
  obtain⟨rfl,rfl,⟨xs,hown,hcs⟩,hL0⟩:=hok;have hown2:=hown;obtain⟨hl,hrow⟩:=hown2;rcases hrow with ⟨h1,h2⟩|⟨g,cap,cur,h1,hB,hw,hcap,hcm,hcz,htk⟩
  ·subst h1;refine⟨G,Ext.refl _ _ _,⟨by simp[h.len],?_,h.dist,h.fresh,h.lt,h.base⟩,?_⟩
   ·intro id' ab gi k1 k2;by_cases hid:id'=id
    ·subst hid;rw[List.getElem?_set_self (List.getElem?_eq_some_iff.1 hH).1]at k1;cases k1;rw[hgi]at k2;cases k2;exactλb hb=>by simp[Value.ownBlock]at hb
    ·rw[List.getElem?_set_ne (λh=>hid h.symm)]at k1;exact h.ok id' ab gi k1 k2
   ·intro v hv;obtain⟨⟨a,cap0,rfl,_⟩,v',s',n',hμ,_,heq⟩:=hv;have hes:es=[]:=List.eq_nil_of_length_eq_zero (by omega);subst hes;subst hlen;exact .slE _ _
  ·subst h1;have hLg:G.L g=0:=hL0 g rfl;have he:Ext B w G w ⟨λx=>if x=g then cur.size else G.L x,G.μ⟩:=
    ⟨DR.same (Nat.le_refl _) rfl,Below.refl _ _,λx=>by by_cases hx:x=g <;> simp[hx,hLg],λ_ _ _=>rfl,λ_ gi h=>⟨gi,h,gi.le_refl⟩⟩
   refine⟨_,he,⟨by simp[h.len],?_,h.dist,λx hx=>?_,h.lt,h.base⟩,?_⟩
   ·intro id' ab gi k1 k2;by_cases hid:id'=id
    ·subst hid;rw[List.getElem?_set_self (List.getElem?_eq_some_iff.1 hH).1]at k1;cases k1;have k2:G.μ[id']?=some gi:=k2;rw[hgi]at k2;cases k2;intro b hb;simp[Value.ownBlock]at hb;subst hb;exact⟨cur,e,_,hw,by simp⟩
    ·rw[List.getElem?_set_ne (λh=>hid h.symm)]at k1;refine(h.ok id' ab gi k1 k2).keep he (λx hx=>⟨rfl,?_⟩);have:¬x=g:=λhxb=>hid (h.dist id' id gi _ g k2 hgi (by rw[hx,hxb]) rfl);simp[this]
   ·have:=h.lt id _ g hgi rfl;have h3:¬ x=g:=by omega
    simp[h3,h.fresh x hx]
   ·intro v hv;obtain⟨⟨a,cap0,rfl,_⟩,v',s',n',hμ,_,heq⟩:=hv;rw[hgi]at hμ;simp only[Option.some.injEq,GI.own.injEq]at hμ;obtain⟨rfl,rfl,rfl⟩:=hμ;have hvv:=heq rfl;simp only[Value.slice.injEq,true_and]at hvv;obtain⟨rfl,rfl⟩:=hvv;subst hlen;by_cases hes:es=[]
    ·subst hes;exact .slE _ _
    ·obtain⟨_,_,_,hcell⟩:=zds hown;refine DRel.of_flat_at (zs:=xs) hsz hes hcap ?_ ((zek hcs hp).mono λ_ _=>he.drel) ?_
     ·simp only[if_true];rw[hcz,Nat.zero_add];exact Nat.mul_le_mul_right _ hcap
     ·intro j u hj;rw[Nat.zero_add,hcell j (by rw[←hl];exact(List.getElem?_eq_some_iff.1 hj).1)];exact hj
theorem ACalls.frzV{f:FuncId}{x:AV}{K:Kt}(id e size n:Nat)(cs:List AV)(es:List (List AV))(hH:H[id]?=some (.vec e size n cs))(hp:plain cs=some es.flatten)(hlen:es.length=n)(hsz:∀c∈es,c.length=size)(h:ACalls P f [.agg [x,.sl es .none]] (H.set id .dead) K):ACalls P f [.agg [x,.ov id n]] H K:=by
 intro B w G vs hR hv;obtain⟨G',hE,hR',hd⟩:=hR.frzV hH hp hlen hsz;refine(h B w G' vs hR' ?_).mono λe w' ⟨v,r,H',G'',k1,k2,k3,k4,k5⟩=>⟨v,r,H',G'',k1,hE.trans k2,k3,k4,k5⟩;generalize vs.toList=l at *
 match l,hv with
 |[v],⟨⟨us,hu,h1⟩,_⟩=>
  refine⟨⟨us,hu,?_⟩,trivial⟩;generalize us.toList=m at *
  match m,h1 with
  |[a,b],⟨h2,h3,_⟩=>exact⟨hE.arel h2,hd b h3,trivial⟩
end Go.Abs
namespace Go.Proofs.YtaifokkaaahdoaaGreatDoor
open Go Go.Abs
theorem zzC(n:Nat)(hn:n<18446744073709551616)(H:zaa)(K:Kt)(hK:K (.sl (zaj (lim n)) .none) H):
  ACalls tP zhB [.int .u64 n] H K:=by
 refine ACalls.out (zM3 λhs=>?_);unfold zzB zl5;refine ALoop.own 3 za8 1 rfl ?_;show zl5 (.int .u64 n) (.sl [] (.own H.length)) (H++[.perm za8 1 0]) (Out H.length K);refine zM1 (Inv:=λq t0 t3 H'=>∃ (m:Nat) (A:List Nat),m=q∧t0=.int .u64 m∧t3=.sl (zaj A) (.own H.length)∧lim n=A++lim m∧m<18446744073709551616 ∧
  H'=H++[.perm za8 1 A.length]) n ?_ ?_
 ·intro _;exact⟨n,[],rfl,rfl,rfl,by simp,hn,rfl⟩
 ·rintro q t0 t3 H' ⟨m,A,rfl,rfl,rfl,hA,hm,rfl⟩ hsc' hlen hsF Kb hKb;by_cases h0:m=0
  ·subst h0;simp[zrD];exact Out.one hs (.atom (.sl _ _)) rfl rfl (by simpa[hA]using hK)
  ·have hq:=zn7 m;have hd:=zCt h0;have hlA:A.length+1≤1000:=by have h1:=congrArg List.length hA;have h2:=zbY (n:=n) (k:=3) (by omega);rw[zcf h0]at h1;simp at h1;omega
   simp only[zrD,znd,zsX false hm,zBb .u64 (show m % 1000000000<4294967296 by omega)];simp[show 0<m by omega,zar,za3,plain,AV.pd,zay,zbb,za0];refine⟨⟨by omega,by omega⟩,?_⟩;have e1:((m:Int) / 1000000000)=((m / 1000000000:Nat):Int):=rfl;have e2:((m:Int) % 1000000000)=((m % 1000000000:Nat):Int):=rfl;rw[e1,e2,sN];refine hKb _ _ ⟨m / 1000000000,hd,Back.here (by simp) (hs.append (by simp[AB.sc])) (by simp[zl4,ux,AV.sc,AV.scA,AV.scB,AV.scV]) ⟨_,_,rfl,m / 1000000000,A++[m % 1000000000],rfl,rfl,rfl,?_,by omega,by simp⟩⟩;rw[hA,zcf h0];simp
theorem zei(A:List Nat)(x:Nat):zan (A++[x])=zan A+1000000000 ^ A.length*x:=by rw[zhn];simp[zan]
theorem zAJ(L:List Nat)(h32:∀ x∈L,x<4294967296)(hL:L.length≤100000)(H:zaa)(K:Kt)(hK:K (.sl (zaj (lim (zan L))) .none) H):
  ACalls tP zjP [.sl (zaj L) .none] H K:=by
 refine ACalls.out (zPU λhs=>?_);unfold zAI zmV;refine ALoop.own 3 za8 1 rfl ?_;show zmV (.sl (zaj L) .none) (.sl [] (.own H.length)) (.int .u64 0) (.int .i64 0) (H++[.perm za8 1 0]) (Out H.length K);have hend:∀A:List Nat,(∀x∈A,x<1000000000)→zan A=zan L→A.length≤200000→zmU (.sl (zaj A) (.own H.length)) (H++[.perm za8 1 A.length]) (Out H.length K):=by intro A hA he hl;unfold zmU;refine ACalls.wk (args':=[.sl (zaj A) .none]) (zsF A (by omega) _ _ ?_) ⟨.atom (.sl _ _),trivial⟩;rw[zfF A hA,he];exact Out.one hs (.atom (.sl _ _)) rfl rfl hK
 refine zPS (Inv:=λq t3 t4 t5 H'=>∃ (i c:Nat) (A:List Nat),i≤L.length∧L.length-i=q∧t5=.int .i64 i∧t4=.int .u64 c∧t3=.sl (zaj A) (.own H.length)∧A.length=i∧(∀ x∈A,x<1000000000)∧c≤5 ∧
  zan A+1000000000 ^ i*c=zan (L.take i)∧H'=H++[.perm za8 1 A.length]) L.length ?_ ?_
 ·intro _;exact⟨0,0,[],by omega,rfl,rfl,rfl,rfl,rfl,by simp,by omega,by simp[zan],rfl⟩
 ·rintro q t3 t4 t5 H' ⟨i,c,A,hi,rfl,rfl,rfl,rfl,hAl,hA,hc,hv,rfl⟩ hsc' hlen hsF Kb hKb;by_cases hlt:i<L.length
  ·have hx:=h32 L[i] (List.getElem_mem hlt);have w1:IntKind.u64.wrap ((L[i]:Nat):Int)=L[i]:=zbu (by omega);obtain⟨s,hs1⟩:∃ s,s=c+L[i]:=⟨_,rfl⟩;have w2:IntKind.u64.wrap ((c:Int)+(L[i]:Nat))=(s:Int):=by rw[hs1,←Int.natCast_add];exact zbu (by omega)
   obtain⟨x,c',hx1,hx2,hx3,e1,e2⟩:=zg8 s (by omega);simp only[zmS];simp[hlt,w1,w2,e1,e2,hx3,zar,za3,plain,AV.pd,zay,zbb,za0,wi i (by omega)];refine⟨⟨by omega,by omega⟩,?_⟩;rw[sN];refine hKb _ _ ⟨L.length-(i+1),by omega,Back.here (by simp) (hs.append (by simp[AB.sc])) (by simp[zmT,ux,AV.sc,AV.scA,AV.scB,AV.scV]) ⟨_,_,_,rfl,i+1,c',A++[x],by omega,rfl,rfl,rfl,rfl,by simp[hAl],?_,by omega,?_,by simp⟩⟩
   ·intro y hy;rcases List.mem_append.1 hy with hy | hy
    ·exact hA y hy
    ·simp at hy;omega
   ·rw[zei,zcP L i hlt,←hv,hAl,Nat.pow_succ];grind
  ·obtain rfl:i=L.length:=by omega
   rw[List.take_length]at hv;by_cases h0:c=0
   ·subst h0;simp[zmS];exact hend A hA (by simpa using hv) (by omega)
   ·simp only[zmS];simp[show 0<c by omega,zch (show c<4294967296 by omega),zar,za3,plain,AV.pd,zay,zbb,za0];refine⟨⟨by omega,by omega⟩,?_⟩;rw[sN];have:=hend (A++[c]) (λy hy=>by
     rcases List.mem_append.1 hy with hy|hy
     ·exact hA y hy
     ·simp at hy;omega) (by rw[zei,hAl];exact hv) (by simp;omega)
    simpa using this
theorem zja{A B:List Nat}(hl:A.length=B.length)(hA:∀x∈A,x<1000000000)(i:Nat)(hi:i<A.length)(hd:A.drop (i+1)=B.drop (i+1))(hlt:A[i]<B[i]'(by omega)):zan A<zan B:=by
 have e1:∀(l:List Nat) (h:i<l.length),zan l=zan (l.take i)+1000000000 ^ i*(l[i]+1000000000*zan (l.drop (i+1))):=by
  intro l h
  conv=>lhs;rw[←List.take_append_drop i l,zhn,List.drop_eq_getElem_cons h,zan]
  rw[List.length_take,Nat.min_eq_left (by omega)]
 rw[e1 A hi,e1 B (by omega),hd];have h1:=zdQ (A.take i) (λx hx=>hA x (List.mem_of_mem_take hx));rw[List.length_take,Nat.min_eq_left (by omega)]at h1;generalize hZ:zan (B.drop (i+1))=Z;generalize A[i]=a at hlt ⊢;generalize B[i]=b at hlt ⊢;have h2:1000000000 ^ i*(a+1000000000*Z+1)≤1000000000 ^ i*(b+1000000000*Z):=Nat.mul_le_mul_left _ (by omega);rw[Nat.mul_succ]at h2;omega
def zbh(a b:Nat):Int:=if a<b then -1 else if b<a then 1 else 0
theorem zzL(a b:Nat)(ha:(lim a).length≤1000)(hb:(lim b).length≤1000)(H:zaa)(K:Kt)(hK:K (.int .i64 (zbh a b)) H):
  ACalls tP zjE [.sl (zaj (lim a)) .none,.sl (zaj (lim b)) .none] H K:=by
 refine ACalls.out (zNr λhs=>?_);have hO:∀r,r=zbh a b→Out H.length K (.int .i64 r) H:=λr hr=>Out.int (J:=[]) (by simp) (Nat.le_refl _) hs (by rw[hr];exact hK);have lA:=zbI a;have lB:=zbI b;have vA:=zbo a;have vB:=zbo b;by_cases hne:(lim a).length=(lim b).length
 ·simp[zme,hne];generalize hLA:lim a=A at *;generalize hLB:lim b=B at *;have hstart:IntKind.i64.wrap ((B.length:Int)-1)=(B.length:Int)-1:=zaB (by omega) (by omega);rw[hstart];refine zNp (Inv:=λq t5 H'=>∃i:Nat,i≤B.length∧i=q∧t5=.int .i64 ((i:Int)-1)∧H'=H∧A.drop i=B.drop i) B.length ?_ ?_
  ·intro _;exact⟨B.length,by omega,rfl,rfl,rfl,by rw[List.drop_of_length_le (by omega),List.drop_of_length_le (by omega)]⟩
  ·rintro q t5 H' ⟨i,hi,rfl,rfl,rfl,hd⟩ hsc' hlen hsF Kb hKb;by_cases h0:i=0
   ·subst h0;simp[zio];refine hO _ ?_;simp at hd;rw[←vA,←vB,hd];simp[zbh]
   ·obtain⟨j,rfl⟩:∃ j,i=j+1:=⟨i-1,by omega⟩;have hja:j<A.length:=by omega
    have hjb:j<B.length:=by omega
    have ej:((j+1:Nat):Int)-1=(j:Int):=by omega
    have hstep:IntKind.i64.wrap ((j:Int)-1)=(j:Int)-1:=zaB (by omega) (by omega);rw[ej];rcases Nat.lt_trichotomy A[j] B[j] with h|h|h
    ·have:=zja hne lA j hja hd h;simp[zio,hja,hjb,h];exact hO _ (by rw[←vA,←vB];simp[zbh,this])
    ·simp[zio,hja,hjb,h,hstep];refine hKb _ _ ⟨j,by omega,Back.here (by simp) hs (by simp[zmg,ux,AV.sc,AV.scA,AV.scB,AV.scV]) ⟨_,rfl,j,by omega,rfl,rfl,rfl,?_⟩⟩;rw[List.drop_eq_getElem_cons hja,List.drop_eq_getElem_cons hjb,hd,h]
    ·have:=zja hne.symm lB j hjb hd.symm h;simp[zio,hja,hjb,h,Nat.le_of_lt h,Nat.not_lt.2 (Nat.le_of_lt h)];exact hO _ (by rw[←vA,←vB];simp[zbh,this,Nat.not_lt.2 (Nat.le_of_lt this)])
 ·have hnb:(((lim a).length:Int) != ((lim b).length:Int))=true:=by simp;omega
  by_cases hlt:(lim a).length<(lim b).length
  ·have:=zho hlt;simp[zme,hnb,hlt];exact hO (-1) (by simp[zbh,this])
  ·have:=zho (show (lim b).length<(lim a).length by omega);simp[zme,hnb,hlt];exact hO 1 (by simp[zbh,this,Nat.not_lt.2 (Nat.le_of_lt this)])
theorem zNm(A B:List Nat)(lA:∀ x∈A,x<1000000000)(lB:∀ x∈B,x<1000000000)(ha:A.length≤1000)(hb:B.length≤1000)(H:zaa)(K:Kt)(cA:lim (zan A)=A)(cB:lim (zan B)=B)(hK:K (.sl (zaj (lim (zan A+zan B))) .none) H):
  ACalls tP zoL [.sl (zaj A) .none,.sl (zaj B) .none] H K:=by
 refine ACalls.out (zNk λhs=>?_);unfold zzJ zmd;refine ALoop.own 5 za8 1 rfl ?_;show zmd (.sl (zaj A) .none) (.sl (zaj B) .none) (.sl [] (.own H.length)) (.int .u32 0) (.int .i64 0) (H++[.perm za8 1 0]) (Out H.length K);refine zNi (Inv:=λq t5 t6 t7 H'=>∃ (i c:Nat) (R:List Nat),2002-i=q∧i≤1001∧t7=.int .i64 i∧t6=.int .u32 c∧t5=.sl (zaj R) (.own H.length)∧R.length=i∧(∀ x∈R,x<1000000000)∧c≤1 ∧
  (max A.length B.length<i→c=0∧1000000000 ^ (i-1)≤zan R)∧zan R+1000000000 ^ i*c=zan (A.take i)+zan (B.take i)∧H'=H++[.perm za8 1 R.length]) 2002 ?_ ?_
 ·intro _;exact⟨0,0,[],rfl,by omega,rfl,rfl,rfl,rfl,by simp,by omega,by omega,by simp[zan],rfl⟩
 ·rintro q t5 t6 t7 H' ⟨i,c,R,rfl,hi,rfl,rfl,rfl,hRl,hR,hc,hmx,hv,rfl⟩ hsc' hlen hsF Kb hKb;have hbit:∀ (s:Nat),s≤2*999999999+1→i≤1000→s+1000000000 ^ 0*0=c+(if h:i<A.length then A[i] else 0)+(if h:i<B.length then B[i] else 0)→(max A.length B.length<i+1→s=1) →
    zmc (.sl (zaj A) .none) (.sl (zaj B) .none) (.sl (zaj R) (.own H.length)) (.int .i64 i) (.int .u32 s) (H++[.perm za8 1 R.length]) (Out H.length K) Kb:=by
   intro s hs1 hi2 hs2 hs3;obtain⟨x,c',hx1,hx2,e1,e2⟩:=ztI s (by omega);simp only[zmc];simp[e1,e2,zar,za3,plain,AV.pd,zay,zbb,za0,wi i (by omega)];refine⟨⟨by omega,by omega⟩,?_⟩;rw[sN];have tk:∀L:List Nat,zan (L.take (i+1))=zan (L.take i)+(if h:i<L.length then L[i] else 0)*1000000000 ^ i:=by
    intro L;by_cases h:i<L.length
    ·rw[dif_pos h,zcP L i h]
    ·rw[dif_neg h,List.take_of_length_le (by omega),List.take_of_length_le (by omega)];simp
   refine hKb _ _ ⟨2002-(i+1),by omega,Back.here (by simp) (hs.append (by simp[AB.sc])) (by simp[zmb,ux,AV.sc,AV.scA,AV.scB,AV.scV]) ⟨_,_,_,rfl,i+1,c',R++[x],rfl,by omega,rfl,rfl,rfl,by simp[hRl],?_,by omega,?_,?_,by simp⟩⟩
   ·intro y hy;rcases List.mem_append.1 hy with hy | hy
    ·exact hR y hy
    ·simp at hy;omega
   ·intro h;have:=hs3 h;refine⟨by omega,?_⟩;obtain rfl:x=1:=by omega
    rw[zei,hRl,Nat.add_sub_cancel];omega
   ·rw[zei,tk A,tk B,hRl,Nat.pow_succ];simp only[Nat.pow_zero,Nat.mul_zero,Nat.add_zero]at hs2;generalize (if h:i<A.length then A[i] else 0)=u at *;generalize (if h:i<B.length then B[i] else 0)=v at *;grind
  by_cases hA:i<A.length
  ·have hxa:=lA A[i] (List.getElem_mem hA);by_cases hB:i<B.length
   ·have hxb:=lB B[i] (List.getElem_mem hB);obtain⟨s1,hs1⟩:∃ s,s=c+A[i]:=⟨_,rfl⟩;have w1:IntKind.u32.wrap ((c:Int)+(A[i]:Nat))=(s1:Int):=by rw[hs1,←Int.natCast_add];exact zch (by omega)
    obtain⟨s2,hs2⟩:∃s,s=s1+B[i]:=⟨_,rfl⟩;have w2:IntKind.u32.wrap ((s1:Int)+(B[i]:Nat))=(s2:Int):=by rw[hs2,←Int.natCast_add];exact zch (by omega)
    simp[zgL,zgM,hA,hB,w1,w2];exact hbit s2 (by omega) (by omega) (by simp[hA,hB];omega) (by omega)
   ·obtain⟨s1,hs1⟩:∃ s,s=c+A[i]:=⟨_,rfl⟩;have w1:IntKind.u32.wrap ((c:Int)+(A[i]:Nat))=(s1:Int):=by rw[hs1,←Int.natCast_add];exact zch (by omega)
    simp[zgL,zgM,hA,hB,w1];exact hbit s1 (by omega) (by omega) (by simp[hA,hB];omega) (by omega)
  ·by_cases hB:i<B.length
   ·have hxb:=lB B[i] (List.getElem_mem hB);obtain⟨s2,hs2⟩:∃ s,s=c+B[i]:=⟨_,rfl⟩;have w2:IntKind.u32.wrap ((c:Int)+(B[i]:Nat))=(s2:Int):=by rw[hs2,←Int.natCast_add];exact zch (by omega)
    simp[zgL,zgM,hA,hB,w2];exact hbit s2 (by omega) (by omega) (by simp[hA,hB];omega) (by omega)
   ·by_cases h0:c=0
    ·subst h0;simp[zgL,hA,hB];rw[List.take_of_length_le (by omega),List.take_of_length_le (by omega)]at hv;have hv':zan R=zan A+zan B:=by simpa using hv
     rw[←hv']at hK;have hcan:R=lim (zan R):=by
      refine znw hR ?_;by_cases hm:max A.length B.length<i
      ·have:=zi8 (hmx hm).2;omega
      ·by_cases hi0:i=0
       ·omega
       ·have hmm:i=max A.length B.length:=by omega
        have hge:1000000000 ^ (i-1)≤zan R:=by
         by_cases hAB:B.length≤A.length
         ·have:i=A.length:=by omega
          have h3:=zi9 (n:=zan A) (by intro h;have hl0:=congrArg List.length cA;rw[h]at hl0;simp at hl0;omega);rw[cA,←this]at h3;omega
         ·have:i=B.length:=by omega
          have h3:=zi9 (n:=zan B) (by intro h;have hl0:=congrArg List.length cB;rw[h]at hl0;simp at hl0;omega);rw[cB,←this]at h3;omega
        have:=zi8 hge;omega
     rw[←hcan]at hK;exact Out.one hs (.atom (.sl _ _)) rfl rfl hK
    ·have:i≤1000:=by refine Nat.le_of_not_lt λh=>?_;exact h0 (hmx (by omega)).1
     simp[zgL,zgM,hA,hB,show 0<c by omega];exact hbit c (by omega) this (by simp[hA,hB]) (by omega)
def us(l:List Nat):List AV:=l.map λ(n:Nat)=>AV.int .u32 (n:Int)
@[simp] theorem zUj(l:List Nat):(us l).length=l.length:=by simp[us]
theorem zkj(l:List Nat):(zaj l).flatten=us l:=by induction l with
 |nil=>rfl
 |cons x l ih=>simp only[zaj,us,List.map_cons,List.flatten_cons]at ih ⊢;rw[ih];rfl
theorem zhZ:∀ (l:List Nat),plain (us l)=some (us l)
 |[]=>rfl
 |x::l=>by simp only[us,List.map_cons,plain,AV.pd];rw[show plain (List.map (λn:Nat=>AV.int .u32 (n:Int)) l)=some (us l) from zhZ l];rfl
theorem zFN(l:List Nat)(i:Nat)(h:i<l.length):(us l)[i]?=some (.int .u32 ((l[i]:Nat):Int)):=by simp[us,h]
theorem zpB(l:List Nat)(i x:Nat)(h:i<l.length):(us l).take i++[AV.int .u32 (x:Int)]++(us l).drop (i+1)=us (l.set i x):=by simp only[us,←List.map_take,←List.map_drop];rw[List.set_eq_take_append_cons_drop,if_pos h];simp
theorem zkk(n:Nat):List.replicate n (AV.int .u32 0)=us (List.replicate n 0):=by simp[us]
theorem znc{k:AV→Prop}(l:List Nat)(i:Nat)(h:i<l.length):zbl false 1 i (us l) k=k (.int .u32 ((l[i]:Nat):Int)):=by simp[zbl,zFN l i h]
theorem znC(L:List Nat)(hL:∀ x∈L,x<1000000000)(hl:L.length≤100000){id:Nat}{H:zaa}{K:Kt}(hid:H[id]?=some (.cells (us L)))(hK:K (.sl (zaj (lim (zan L))) .none) (H.set id .dead)):
  ACalls tP zeX [.ms id 0 L.length L.length] H K:=by
 refine ACalls.frz id 0 L.length L.length 1 (us L) (zaj L) hid (by simp) ?_ (by simp) (zer L) (Nat.le_refl _) (args':=[.sl (zaj L) .none]) ⟨.one .ms,trivial⟩ ?_
 ·rw[List.drop_zero,List.take_of_length_le (by simp),zkj,zhZ]
 ·refine zsF L (by omega) _ _ ?_;rw[zfF L hL];exact hK
theorem zNf(A B:List Nat)(lA:∀ x∈A,x<1000000000)(lB:∀ x∈B,x<1000000000)(ha:A.length≤1000)(hb:B.length≤1000)(H:zaa)(K:Kt)(hK:K (.sl (zaj (lim (zan A*zan B))) .none) H):
  ACalls tP zdS [.sl (zaj A) .none,.sl (zaj B) .none] H K:=by
 refine ACalls.out (zNd λhs=>?_);have hw:IntKind.i64.wrap (IntKind.i64.wrap ((A.length:Int)+B.length)+1)=((A.length+B.length+1:Nat):Int):=by rw[zaB (n:=(A.length:Int)+B.length) (by omega) (by omega),zaB (by omega) (by omega)];omega
 simp[zzE,hw,zba];have hN:((A.length:Int)+B.length+1).toNat=A.length+B.length+1:=by omega
 rw[hN,zkk];refine⟨⟨by omega,by omega,by omega⟩,?_⟩;have hsc:∀O:List Nat,HSc (H++[.cells (us O)]):=λO=>hs.append (by simp[AB.sc,us,AV.scA,AV.scB]);have hBlt:=zdQ B lB;refine zNa (Inv:=λq t6 H'=>∃(i:Nat) (O:List Nat),i≤A.length∧A.length-i=q∧t6=.int .i64 i∧O.length=A.length+B.length+1∧(∀x∈O,x<1000000000)∧zan O=zan (A.take i)*zan B∧H'=H++[.cells (us O)]) A.length ?_ ?_
 ·intro _;exact⟨0,_,by omega,rfl,rfl,by simp,by simp,by rw[zuS];simp[zan],rfl⟩
 ·rintro q t6 H' ⟨i,O,hi,rfl,rfl,hOl,hO,hv,rfl⟩ hsc' hlen hsF Kb hKb;by_cases hlt:i<A.length
  ·have hxa:=lA A[i] (List.getElem_mem hlt);simp[zrF,hlt];refine zNb (Inv:=λq t7 t8 H'=>∃ (k c:Nat) (R:List Nat),k≤B.length+1∧B.length+1-k=q∧t8=.int .i64 k∧t7=.int .u64 c∧R.length=A.length+B.length+1∧(∀ x∈R,x<1000000000)∧c<1000000000∧(B.length<k→c=0) ∧
    zan R+c*1000000000 ^ (i+k)=zan O+A[i]*zan (B.take k)*1000000000 ^ i∧H'=H++[.cells (us R)]) (B.length+1) ?_ ?_
   ·intro _;exact⟨0,0,O,by omega,rfl,rfl,rfl,hOl,hO,by omega,by omega,by simp[zan],rfl⟩
   ·rintro q t7 t8 H' ⟨k,c,R,hk,rfl,rfl,rfl,hRl,hR,hc,hmx,hr,rfl⟩ hsc'' hlen' hsF' Kb2 hKb2;have hik:IntKind.i64.wrap ((i:Int)+k)=((i+k:Nat):Int):=by rw[zaB (by omega) (by omega)];omega
    have hstep:∀ s:Nat,s<1000000000*1000000000→(hR2:i+k<R.length)→k≤B.length→s=c+R[i+k]+A[i]*(if h:k<B.length then B[k] else 0) →
      zl9 (.sl (zaj A) .none) (.sl (zaj B) .none) (.ms H.length 0 (A.length+B.length+1) (A.length+B.length+1)) (.int .i64 i) (.int .u64 s) (.int .i64 k) (H++[.cells (us R)]) (Out H.length K) Kb Kb2:=by
     intro s hs1 hR2 hkB hs2;obtain⟨x,c',hx1,hx2,hx3,e1,e2⟩:=zg8 s (by omega);have hlt2:i+k<A.length+B.length+1:=by omega
     have hset:=zpB R (i+k) x hR2;simp only[zl9];simp[hik,e1,e2,hx3,wi k (by omega),hlt2];have eT:((i:Int)+k).toNat=i+k:=by omega
     rw[eT];refine⟨⟨by omega,by omega⟩,by omega,?_⟩;have hset':List.take (i+k) (us R)++AV.int .u32 (x:Int)::List.drop (i+k+1) (us R)=us (R.set (i+k) x):=by rw[←hset];simp
     rw[hset'];have hb1:zan (B.take (k+1))=zan (B.take k)+(if h:k<B.length then B[k] else 0)*1000000000 ^ k:=by
      by_cases h:k<B.length
      ·rw[dif_pos h,zcP B k h]
      ·rw[dif_neg h,List.take_of_length_le (by omega),List.take_of_length_le (by omega)];simp
     have hls:=zjb R (i+k) x hR2;have hmain:zan (R.set (i+k) x)+c'*1000000000 ^ (i+(k+1))=zan O+A[i]*zan (B.take (k+1))*1000000000 ^ i:=by rw[hb1,show i+(k+1)=i+k+1 by omega,Nat.pow_succ];rw[Nat.pow_add]at hr hls ⊢;rw[hs2]at hx2;clear hset hset' e1 e2 hx3 hs2 hb1 hKb hKb2 hsc' hsc'' hsF hsF' hBlt hK hs;generalize (if h:k<B.length then B[k] else 0)=b at *;generalize zan (R.set (i+k) x)=vS at *;generalize R[i+k]=r at *;generalize A[i]=a at *;generalize zan (List.take k B)=T at *;generalize 1000000000 ^ i=P at *;generalize 1000000000 ^ k=Q at *;generalize zan R=vR at *;generalize zan O=vO at *;grind
     have hc1:c'<1000000000:=by refine Nat.lt_of_not_le λh=>?_;have:=Nat.mul_le_mul_left 1000000000 h;omega
     refine hKb2 _ _ ⟨B.length+1-(k+1),by omega,Back.here (by simp) (hsc _) (by simp[zl8,ux,AV.sc,AV.scA,AV.scB,AV.scV]) ⟨_,_,rfl,k+1,c',R.set (i+k) x,by omega,rfl,by simp,rfl,by simp[hRl],?_,hc1,?_,hmain,rfl⟩⟩
     ·intro y hy;rcases List.mem_or_eq_of_mem_set hy with hy | rfl
      ·exact hR y hy
      ·exact hx1
     ·intro hkl;obtain rfl:k=B.length:=by omega
      have htot:zan O+A[i]*zan (B.take (B.length+1))*1000000000 ^ i=zan (A.take (i+1))*zan B:=by rw[List.take_of_length_le (by omega),zcP A i hlt,hv];grind
      rw[htot]at hmain;have hAl:=zdQ (A.take (i+1)) (λy hy=>lA y (List.mem_of_mem_take hy));rw[List.length_take,Nat.min_eq_left (by omega)]at hAl;have hp:=Nat.mul_lt_mul'' hAl hBlt;rw[←Nat.pow_add]at hp;refine Nat.eq_zero_of_not_pos λhpos=>?_;have h3:1*1000000000 ^ (i+(B.length+1))≤c'*1000000000 ^ (i+(B.length+1)):=Nat.mul_le_mul_right _ hpos;rw[show i+1+B.length=i+(B.length+1) by omega]at hp;omega
    by_cases hkb:k<B.length
    ·have hR2:i+k<R.length:=by omega
     have hxb:=lB B[k] (List.getElem_mem hkb);have hxr:=hR R[i+k] (List.getElem_mem hR2);have eT:((i:Int)+k).toNat=i+k:=by omega
     have w1:IntKind.u64.wrap ((R[i+k]:Nat):Int)=R[i+k]:=zbu (by omega);have w2:IntKind.u64.wrap ((A[i]:Nat):Int)=A[i]:=zbu (by omega);have w3:IntKind.u64.wrap ((B[k]:Nat):Int)=B[k]:=zbu (by omega);have hmul:A[i]*B[k]≤999999999*999999999:=Nat.mul_le_mul (by omega) (by omega);obtain⟨m,hm⟩:∃m,m=A[i]*B[k]:=⟨_,rfl⟩;have w4:IntKind.u64.wrap (((A[i]:Nat):Int)*(B[k]:Nat))=(m:Int):=by rw[hm,←Int.natCast_mul];exact zbu (by omega)
     obtain⟨s1,hs1⟩:∃s,s=c+R[i+k]:=⟨_,rfl⟩;have w5:IntKind.u64.wrap ((c:Int)+(R[i+k]:Nat))=(s1:Int):=by rw[hs1,←Int.natCast_add];exact zbu (by omega)
     obtain⟨s2,hs2⟩:∃s,s=s1+m:=⟨_,rfl⟩;have w6:IntKind.u64.wrap ((s1:Int)+(m:Int))=(s2:Int):=by rw[hs2,←Int.natCast_add];exact zbu (by omega)
     have:=hstep s2 (by omega) hR2 (by omega) (by rw[hs2,hs1,hm,dif_pos hkb]);simp[zl6,hkb,hik,eT,w2,w3,w4];refine⟨⟨by omega,by omega⟩,?_⟩;rw[znc R _ hR2];simp[w1,w2,w3,w4,w5,w6,hlt,hkb];exact this
    ·by_cases h0:c=0
     ·subst h0;simp[zl6,hkb,wi i (by omega)];refine hKb _ _ ⟨A.length-(i+1),by omega,Back.here (by simp) (hsc _) (by simp[zl7,ux,AV.sc,AV.scA,AV.scB,AV.scV]) ⟨_,rfl,i+1,R,by omega,rfl,rfl,hRl,hR,?_,rfl⟩⟩;rw[List.take_of_length_le (by omega)]at hr;rw[zcP A i hlt];rw[hv]at hr;grind
     ·have hk2:k=B.length:=by refine Nat.le_antisymm (Nat.le_of_not_lt λh=>h0 (hmx h)) (by omega)
      have hR2:i+k<R.length:=by omega
      have hxr:=hR R[i+k] (List.getElem_mem hR2);have eT:((i:Int)+k).toNat=i+k:=by omega
      have w1:IntKind.u64.wrap ((R[i+k]:Nat):Int)=R[i+k]:=zbu (by omega);obtain⟨s1,hs1⟩:∃s,s=c+R[i+k]:=⟨_,rfl⟩;have w5:IntKind.u64.wrap ((c:Int)+(R[i+k]:Nat))=(s1:Int):=by rw[hs1,←Int.natCast_add];exact zbu (by omega)
      have:=hstep s1 (by omega) hR2 (by omega) (by rw[hs1,dif_neg hkb];omega);simp[zl6,hkb,hik,eT,show 0<c by omega];refine⟨⟨by omega,by omega⟩,?_⟩;rw[znc R _ hR2];simp[w1,w5];exact this
  ·obtain rfl:i=A.length:=by omega
   rw[List.take_length]at hv;simp[zrF];rw[←hOl];refine znC O hO (by omega) (by simp) ?_;rw[hv];simp;exact Out.one hs (.atom (.sl _ _)) rfl rfl hK
theorem zu6(L:List Nat)(hL:L.length≤1000000)(H:zaa)(K:Kt)(hK:K (.sl (zaj (zbr L)) .none) H):
  ACalls tP zgj [.sl (zaj L) .none] H K:=by
 refine ACalls.out (zGZ λhs=>?_);simp[zxe];refine zGX (Inv:=λq t3 H'=>∃n:Nat,n≤L.length∧n=q∧t3=.int .i64 n∧H'=H∧zbr L=zbr (L.take n)) L.length ?_ ?_
 ·intro _;exact⟨L.length,by omega,rfl,by simp,rfl,by simp⟩
 ·rintro q t3 H' ⟨n,hn,rfl,rfl,rfl,hst⟩ hsc' hlen hsF Kb hKb;have hone:∀ (l:List Nat),l=zbr L→Out (List.length H') K (AV.sl (zaj l) .none) H':=λl hl=>Out.one0 hs (.atom (.sl _ _)) rfl rfl (by rw[hl];exact hK);by_cases h0:n=0
  ·subst h0;simp[zkC];exact⟨zer L,hone [] (by simpa[zbr]using hst.symm)⟩
  ·have hw:IntKind.i64.wrap ((n:Int)-1)=((n-1:Nat):Int):=by rw[zaB (by omega) (by omega)];omega
   have hlt:n-1<L.length:=by omega
   by_cases hz:L[n-1]=0
   ·simp[zkC,show 0<n by omega,hw,hlt,hz];exact hKb _ _ ⟨n-1,by omega,Back.here (by simp) hs (by simp[zkD,AV.sc,AV.scA,AV.scB,AV.scV]) ⟨_,rfl,n-1,by omega,rfl,rfl,rfl,by rw[hst,zwj (by omega) hn hz]⟩⟩
   ·have hzb:(((L[n-1]:Nat):Int) == 0)=false:=by simp;omega
    simp[zkC,show 0<n by omega,hw,hlt,hzb];refine⟨⟨hn,zer L⟩,?_⟩;rw[zwK];exact hone _ (by rw[hst,zwh (by omega) hn hz])
theorem zCE(n:Nat)(hn:n<18446744073709551616)(H:zaa)(K:Kt)(hK:K (.sl (zaj (lim n)) .none) H):
  ACalls tP zjg [.int .u64 n] H K:=by
 refine ACalls.out (zG5 λhs=>?_);unfold zxg zkG;refine ALoop.own 3 za8 1 rfl ?_;show zkG (.int .u64 n) (.sl [] (.own H.length)) (H++[.perm za8 1 0]) (Out H.length K);refine zG3 (Inv:=λq t0 t3 H'=>∃ (m:Nat) (A:List Nat),m=q∧t0=.int .u64 m∧t3=.sl (zaj A) (.own H.length)∧lim n=A++lim m∧m<18446744073709551616 ∧
  H'=H++[.perm za8 1 A.length]) n ?_ ?_
 ·intro _;exact⟨n,[],rfl,rfl,rfl,by simp,hn,rfl⟩
 ·rintro q t0 t3 H' ⟨m,A,rfl,rfl,rfl,hA,hm,rfl⟩ hsc' hlen hsF Kb hKb;by_cases h0:m=0
  ·subst h0;simp[zpY];exact Out.one hs (.atom (.sl _ _)) rfl rfl (by simpa[hA]using hK)
  ·have hlA:A.length+1≤1000:=by have h1:=congrArg List.length hA;have h2:=zbY (n:=n) (k:=3) (by omega);rw[zcf h0]at h1;simp at h1;omega
   obtain⟨x,c,hx1,hx2,hx3,e1,e2⟩:=zg8 m hm;simp only[zpY];simp[show 0<m by omega,e1,e2,hx3,zar,za3,plain,AV.pd,zay,zbb,za0];refine⟨⟨by omega,by omega⟩,?_⟩;rw[sN];refine hKb _ _ ⟨c,by omega,Back.here (by simp) (hs.append (by simp[AB.sc])) (by simp[zkF,ux,AV.sc,AV.scA,AV.scB,AV.scV]) ⟨_,_,rfl,c,A++[x],rfl,rfl,rfl,?_,by omega,by simp⟩⟩;rw[hA,zcf h0,show m % 1000000000=x by omega,show m / 1000000000=c by omega];simp
theorem _root_.Go.Abs.ACalls.frzV1{P:Program}{H:zaa}{f:FuncId}{K:Kt}(id e size n:Nat)(cs:List AV)(es:List (List AV))(hH:H[id]?=some (.vec e size n cs))(hp:plain cs=some es.flatten)(hlen:es.length=n)(hsz:∀c∈es,c.length=size)(h:ACalls P f [.sl es .none] (H.set id .dead) K):ACalls P f [.ov id n] H K:=by
 intro B w G vs hR hv;obtain⟨G',hE,hR',hd⟩:=hR.frzV hH hp hlen hsz;refine(h B w G' vs hR' ?_).mono λe w' ⟨v,r,H',G'',k1,k2,k3,k4,k5⟩=>⟨v,r,H',G'',k1,hE.trans k2,k3,k4,k5⟩;generalize vs.toList=l at *
 match l,hv with
 |[v],⟨h1,_⟩=>exact⟨hd v h1,trivial⟩
theorem zFD(L:List Nat)(hL:∀ x∈L,x<1000000000)(hl:L.length≤100000){id:Nat}{H:zaa}{K:Kt}(hid:H[id]?=some (.vec za8 1 L.length (us L)))(hK:K (.sl (zaj (lim (zan L))) .none) (H.set id .dead)):
  ACalls tP zgj [.ov id L.length] H K:=by
 refine ACalls.frzV1 id za8 1 L.length (us L) (zaj L) hid (by rw[zkj,zhZ]) (by simp) (zer L) ?_;refine zu6 L (by omega) _ _ ?_;rw[zfF L hL];exact hK
theorem zFC(L:List Nat)(hL:∀ x∈L,x<1000000000)(hl:L.length≤100000){id:Nat}{H:zaa}{K:Kt}(hid:H[id]?=some (.cells (us L)))(hK:K (.sl (zaj (lim (zan L))) .none) (H.set id .dead)):
  ACalls tP zgj [.ms id 0 L.length L.length] H K:=by
 refine ACalls.frz id 0 L.length L.length 1 (us L) (zaj L) hid (by simp) ?_ (by simp) (zer L) (Nat.le_refl _) (args':=[.sl (zaj L) .none]) ⟨.one .ms,trivial⟩ ?_
 ·rw[List.drop_zero,List.take_of_length_le (by simp),zkj,zhZ]
 ·refine zu6 L (by omega) _ _ ?_;rw[zfF L hL];exact hK
theorem zoU(L:List Nat)(h32:∀ x∈L,x<4294967296)(hL:L.length≤50000)(H:zaa)(K:Kt)(hK:K (.sl (zaj (lim (zan L))) .none) H):
  ACalls tP zhq [.sl (zaj L) .none] H K:=by
 refine ACalls.out (zGt λhs=>?_);have hsc:∀A:List Nat,HSc (H++[.vec za8 1 A.length (us A)]):=λA=>hs.append (by simp[AB.sc,us,AV.scA,AV.scB]);simp[zw7,wi L.length (by omega)];refine⟨⟨by omega,by omega,by omega⟩,?_⟩;have hend:∀A:List Nat,(∀x∈A,x<1000000000)→zan A=zan L→A.length≤100000→zkt (.ov H.length A.length) (H++[.vec za8 1 A.length (us A)]) (Out H.length K):=by intro A hA he hl;unfold zkt;refine zFD A hA hl (by simp) ?_;rw[he];simp;exact Out.one hs (.atom (.sl _ _)) rfl rfl hK
 refine zGr (Inv:=λq t3 t4 t13 H'=>∃ (i c:Nat) (A:List Nat),i≤L.length∧L.length-i=q∧t13=.int .i64 i∧t4=.int .u64 c∧t3=.ov H.length A.length∧A.length=i∧(∀ x∈A,x<1000000000)∧c≤5 ∧
  zan A+1000000000 ^ i*c=zan (L.take i)∧H'=H++[.vec za8 1 A.length (us A)]) L.length ?_ ?_
 ·intro _;exact⟨0,0,[],by omega,rfl,rfl,rfl,rfl,rfl,by simp,by omega,by simp[zan],rfl⟩
 ·rintro q t3 t4 t13 H' ⟨i,c,A,hi,rfl,rfl,rfl,rfl,hAl,hA,hc,hv,rfl⟩ hsc' hlen hsF Kb hKb;by_cases hlt:i<L.length
  ·have hx:=h32 L[i] (List.getElem_mem hlt);have w1:IntKind.u64.wrap ((L[i]:Nat):Int)=L[i]:=zbu (by omega);obtain⟨s,hs1⟩:∃ s,s=L[i]+c:=⟨_,rfl⟩;have w2:IntKind.u64.wrap (((L[i]:Nat):Int)+(c:Int))=(s:Int):=by rw[hs1,←Int.natCast_add];exact zbu (by omega)
   obtain⟨x,c',hx1,hx2,hx3,e1,e2⟩:=zg8 s (by omega);simp only[zkr];simp[hlt,w1,w2,e1,e2,hx3,zar,za3,plain,AV.pd,zay,zbb,za0,wi i (by omega)];refine⟨⟨by omega,by omega⟩,?_⟩;have e3:us A++[AV.int .u32 (x:Int)]=us (A++[x]):=by simp[us]
   rw[e3];refine hKb _ _ ⟨L.length-(i+1),by omega,Back.here (by simp) (by simpa using hsc (A++[x])) (by simp[zks,ux,AV.sc,AV.scA,AV.scB,AV.scV]) ⟨_,_,_,rfl,i+1,c',A++[x],by omega,rfl,rfl,rfl,by simp,by simp[hAl],?_,by omega,?_,by simp⟩⟩
   ·intro y hy;rcases List.mem_append.1 hy with hy | hy
    ·exact hA y hy
    ·simp at hy;omega
   ·rw[zei,zcP L i hlt,←hv,hAl,Nat.pow_succ];grind
  ·obtain rfl:i=L.length:=by omega
   rw[List.take_length]at hv;by_cases h0:c=0
   ·subst h0;simp[zkr];exact hend A hA (by simpa using hv) (by omega)
   ·simp only[zkr];simp[show 0<c by omega,zch (show c<4294967296 by omega),zar,za3,plain,AV.pd,zay,zbb,za0];refine⟨⟨by omega,by omega⟩,?_⟩;have e3:us A++[AV.int .u32 (c:Int)]=us (A++[c]):=by simp[us]
    rw[e3];have:=hend (A++[c]) (λy hy=>by
     rcases List.mem_append.1 hy with hy|hy
     ·exact hA y hy
     ·simp at hy;omega) (by rw[zei,hAl];exact hv) (by simp;omega)
    simpa using this
theorem zwR(O:List Nat)(i x:Nat)(h:i<O.length):List.take i (us O)++AV.int .u32 (x:Int)::List.drop (i+1) (us O)=us (O.set i x):=by rw[←zpB O i x h];simp
theorem zvZ{O:List Nat}(hO:∀x∈O,x<1000000000){i x:Nat}(hx:x<1000000000):∀y∈O.set i x,y<1000000000:=by
 intro y hy;rcases List.mem_or_eq_of_mem_set hy with hy|rfl
 ·exact hO y hy
 ·exact hx
theorem zDn{O:List Nat}{j:Nat}(h:zan O<1000000000 ^ j):O.getD j 0=0:=by
 by_cases hj:j<O.length
 ·have e:zan O=zan (O.take j)+1000000000 ^ j*(O[j]+1000000000*zan (O.drop (j+1))):=by
   conv=>lhs;rw[←List.take_append_drop j O,zhn,List.drop_eq_getElem_cons hj,zan]
   rw[List.length_take,Nat.min_eq_left (by omega)]
  rw[List.getD_eq_getElem?_getD,List.getElem?_eq_getElem hj,Option.getD_some];refine Nat.eq_zero_of_not_pos λhp=>?_;have h2:1000000000 ^ j*1≤1000000000 ^ j*(O[j]+1000000000*zan (O.drop (j+1))):=Nat.mul_le_mul_left _ (by omega);omega
 ·simp[List.getD_eq_getElem?_getD,show O.length≤j by omega]
theorem zDr(A B:List Nat)(lA:∀ x∈A,x<1000000000)(lB:∀ x∈B,x<1000000000)(ha:A.length≤1000)(hb:B.length≤1000)(H:zaa)(K:Kt)(hK:K (.sl (zaj (lim (zan A*zan B))) .none) H):
  ACalls tP zcC [.sl (zaj A) .none,.sl (zaj B) .none] H K:=by
 refine ACalls.out (zPl λhs=>?_);by_cases hA0:A=[]
 ·subst hA0;simp[zmJ,zan]at hK ⊢;exact Out.one0 hs (.atom .snil) rfl rfl (by simpa[zaj]using hK)
 by_cases hB0:B=[]
 ·subst hB0;have hAb:((A.length:Int) == 0)=false:=by have:A.length≠0:=λh=>hA0 (List.eq_nil_of_length_eq_zero h);generalize A.length=q at this;simp;omega
  simp[zmJ,zan,hAb,hA0]at hK ⊢;exact Out.one0 hs (.atom .snil) rfl rfl (by simpa[zaj]using hK)
 have hAl0:A.length≠0:=λh=>hA0 (List.eq_nil_of_length_eq_zero h);have hBl0:B.length≠0:=λh=>hB0 (List.eq_nil_of_length_eq_zero h);have hAb:((A.length:Int) == 0)=false:=by generalize A.length=q at hAl0;simp;omega
 have hBb:((B.length:Int) == 0)=false:=by generalize B.length=q at hBl0;simp;omega
 have hw:IntKind.i64.wrap ((A.length:Int)+B.length)=((A.length+B.length:Nat):Int):=by rw[zaB (by omega) (by omega)];omega
 simp[zmJ,hAb,hBb,hA0,hB0,hw,zba];have hN:((A.length:Int)+B.length).toNat=A.length+B.length:=by omega
 rw[hN,zkk];refine⟨⟨by omega,by omega,by omega⟩,?_⟩;have hsc:∀O:List Nat,HSc (H++[.cells (us O)]):=λO=>hs.append (by simp[AB.sc,us,AV.scA,AV.scB]);have hBlt:=zdQ B lB;refine zPi (Inv:=λq t26 H'=>∃(i:Nat) (O:List Nat),i≤A.length∧A.length-i=q∧t26=.int .i64 i∧O.length=A.length+B.length∧(∀x∈O,x<1000000000)∧zan O=zan (A.take i)*zan B∧H'=H++[.cells (us O)]) A.length ?_ ?_
 ·intro _;exact⟨0,_,by omega,rfl,rfl,by simp,by simp,by rw[zuS];simp[zan],rfl⟩
 ·rintro q t26 H' ⟨i,O,hi,rfl,rfl,hOl,hO,hv,rfl⟩ hsc' hlen hsF Kb hKb;by_cases hlt:i<A.length
  ·have hxa:=lA A[i] (List.getElem_mem hlt);have hAl:=zdQ (A.take i) (λy hy=>lA y (List.mem_of_mem_take hy));rw[List.length_take,Nat.min_eq_left (by omega)]at hAl;have hO0:O.getD (i+B.length) 0=0:=by refine zDn ?_;rw[hv,Nat.pow_add];exact Nat.mul_lt_mul'' hAl hBlt
   simp[zsh,hlt];refine zPj (Inv:=λq t7 t31 H'=>∃ (k c:Nat) (R:List Nat),k≤B.length∧B.length-k=q∧t31=.int .i64 k∧t7=.int .u64 c∧R.length=A.length+B.length∧(∀ x∈R,x<1000000000)∧c<1000000000∧R.getD (i+B.length) 0=0 ∧
    zan R+c*1000000000 ^ (i+k)=zan O+A[i]*zan (B.take k)*1000000000 ^ i∧H'=H++[.cells (us R)]) B.length ?_ ?_
   ·intro _;exact⟨0,0,O,by omega,rfl,rfl,rfl,hOl,hO,by omega,hO0,by simp[zan],rfl⟩
   ·rintro q t7 t31 H' ⟨k,c,R,hk,rfl,rfl,rfl,hRl,hR,hc,hR0,hr,rfl⟩ hsc'' hlen' hsF' Kb2 hKb2;by_cases hkb:k<B.length
    ·have hik:IntKind.i64.wrap ((i:Int)+k)=((i+k:Nat):Int):=by rw[zaB (by omega) (by omega)];omega
     have hR2:i+k<R.length:=by omega
     have hxb:=lB B[k] (List.getElem_mem hkb);have hxr:=hR R[i+k] (List.getElem_mem hR2);have eT:((i:Int)+k).toNat=i+k:=by omega
     have w1:IntKind.u64.wrap ((R[i+k]:Nat):Int)=R[i+k]:=zbu (by omega);have w2:IntKind.u64.wrap ((A[i]:Nat):Int)=A[i]:=zbu (by omega);have w3:IntKind.u64.wrap ((B[k]:Nat):Int)=B[k]:=zbu (by omega);have hmul:A[i]*B[k]≤999999999*999999999:=Nat.mul_le_mul (by omega) (by omega);obtain⟨m,hm⟩:∃m,m=A[i]*B[k]:=⟨_,rfl⟩;have w4:IntKind.u64.wrap (((A[i]:Nat):Int)*(B[k]:Nat))=(m:Int):=by rw[hm,←Int.natCast_mul];exact zbu (by omega)
     obtain⟨s1,hs1⟩:∃s,s=m+R[i+k]:=⟨_,rfl⟩;have w5:IntKind.u64.wrap ((m:Int)+(R[i+k]:Nat))=(s1:Int):=by rw[hs1,←Int.natCast_add];exact zbu (by omega)
     obtain⟨s,hs2⟩:∃s,s=s1+c:=⟨_,rfl⟩;have w6:IntKind.u64.wrap ((s1:Int)+(c:Int))=(s:Int):=by rw[hs2,←Int.natCast_add];exact zbu (by omega)
     obtain⟨x,c',hx1,hx2,hx3,e1,e2⟩:=zg8 s (by omega);have hnext:Kb2 (ziw (.sl (zaj A) .none) (.sl (zaj B) .none) (.ms H.length 0 (A.length+B.length) (A.length+B.length)) (.int .i64 i) (.int .u64 c') (.int .i64 A.length) (.int .i64 i) (.int .i64 B.length) (.int .i64 ((k:Int)+1))) (H++[.cells (us (R.set (i+k) x))]):=by
      have hls:=zjb R (i+k) x hR2;have hb1:=zcP B k hkb;refine hKb2 _ _ ⟨B.length-(k+1),by omega,Back.here (by simp) (hsc _) (by simp[ziw,ux,AV.sc,AV.scA,AV.scB,AV.scV]) ⟨_,_,rfl,k+1,c',R.set (i+k) x,by omega,rfl,by simp,rfl,by simp[hRl],zvZ hR hx1,?_,?_,?_,rfl⟩⟩
      ·refine Nat.lt_of_not_le λh=>?_;have:=Nat.mul_le_mul_left 1000000000 h;omega
      ·rw[List.getD_eq_getElem?_getD,List.getElem?_set_ne (by omega),←List.getD_eq_getElem?_getD];exact hR0
      ·rw[hb1,show i+(k+1)=i+k+1 by omega,Nat.pow_succ];rw[Nat.pow_add]at hr hls ⊢;rw[hs2,hs1,hm]at hx2;clear e1 e2 hx3 hKb hKb2 hsc' hsc'' hsF hsF' hBlt hK hs hR0 hO0 w1 w2 w3 w4 w5 w6;generalize zan (R.set (i+k) x)=vS at *;generalize R[i+k]=r at *;generalize A[i]=a at *;generalize B[k]=b at *;generalize zan (List.take k B)=T at *;generalize 1000000000 ^ i=P at *;generalize 1000000000 ^ k=Q at *;generalize zan R=vR at *;generalize zan O=vO at *;grind
     simp only[zsi];simp[hkb,hlt,hik,eT,w1,w2,w3,w4];refine⟨⟨by omega,by omega⟩,?_⟩;rw[znc R _ hR2];simp[w1,w5,w6,e1,e2,hx3,hik,eT,wi k (by omega),zwR R (i+k) x hR2];exact⟨⟨by omega,by omega⟩,by omega,hnext⟩
    ·obtain rfl:k=B.length:=by omega
     have hib:IntKind.i64.wrap ((i:Int)+B.length)=((i+B.length:Nat):Int):=by rw[zaB (by omega) (by omega)];omega
     have eT:((i:Int)+B.length).toNat=i+B.length:=by omega
     have hR2:i+B.length<R.length:=by omega
     have hls:=zjb R (i+B.length) c hR2;rw[List.getD_eq_getElem?_getD,List.getElem?_eq_getElem hR2,Option.getD_some]at hR0;rw[hR0]at hls;simp only[zsi];simp[hib,eT,zch (show c<4294967296 by omega),wi i (by omega),zwR R (i+B.length) c hR2];refine⟨⟨by omega,hlt⟩,by omega,?_⟩;refine hKb _ _ ⟨A.length-(i+1),by omega,Back.here (by simp) (hsc _) (by simp[zmK,ux,AV.sc,AV.scA,AV.scB,AV.scV]) ⟨_,rfl,i+1,R.set (i+B.length) c,by omega,rfl,rfl,by simp[hRl],zvZ hR hc,?_,rfl⟩⟩;rw[List.take_of_length_le (Nat.le_refl _)]at hr;rw[zcP A i hlt];rw[hv]at hr;clear hKb hKb2 hsc' hsc'' hsF hsF' hBlt hK hs hO0 hsc;grind
  ·obtain rfl:i=A.length:=by omega
   rw[List.take_length]at hv;simp[zsh];rw[←hOl];refine zFC O hO (by omega) (by simp) ?_;rw[hv];simp;exact Out.one hs (.atom (.sl _ _)) rfl rfl hK
end Go.Proofs.YtaifokkaaahdoaaGreatDoor
