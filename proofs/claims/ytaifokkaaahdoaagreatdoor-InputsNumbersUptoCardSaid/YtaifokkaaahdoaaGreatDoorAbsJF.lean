import Derived.Test.YtaifokkaaahdoaaGreatDoorAbsT
import Derived.Test.YtaifokkaaahdoaaGreatDoorKTz
import Derived.Test.YtaifokkaaahdoaaGreatDoorRows
import Derived.Test.YtaifokkaaahdoaaGreatDoorAbsQ1
import Derived.KernelRfl
import Derived.JoinedOf
set_option linter.unusedSimpArgs false
set_option linter.unusedVariables false
set_option linter.unusedSectionVars false
set_option maxRecDepth 100000
namespace Go.Proofs.YtaifokkaaahdoaaGreatDoor
section
open Go.RowKit
structure Bulk {Hh:Type} (bk:DataW Hh→Nat):Prop where
 one:∀d,1≤bk d
 str:∀s,s.length+1≤bk (.lit (.string s))
 slice:∀es sp,(es.map bk).sum+1≤bk (.slice es sp)
 agg:∀ps,(ps.map bk).sum+1≤bk (.agg ps)
def TyB(P:Program):Nat→TypeId→List AV→Nat→Prop
 |0,_,_,_=>False
 | n+1,t,l,b=>match P.underlying t with
  |some .bool=>∃b,l=[.bool b]
  |some (.int k)=>∃m,l=[.int k m]∧(Lit.int k m).wf=true
  |some .string=>∃s,l=[.str s]∧s.length≤maxLen∧s.length+1≤b
  |some (.slice e)=>∃(es:List (List AV)) (bs:List Nat),l=[.sl es .none]∧es.length≤maxLen∧bs.sum+1≤b∧All2 (λc d=>TyB P n e c d) es bs
  |some (.struct fs)=>l.length=P.cellsOf t∧∃bs:List Nat,bs.sum+1≤b∧All2 (λ(f:Field) d=>TyB P n f.type ((l.drop f.offset).take (P.cellsOf f.type)) d∧1≤d) fs.toList bs
  |_=>False
theorem zo9{α β:Type}{R:α→β→Prop}:∀ {l:List α} {m:List β},l.length=m.length→(∀ (i:Nat) (a:α) (b:β),l[i]?=some a→m[i]?=some b→R a b)→All2 R l m
 |[],[],_,_=>trivial
 |a::l,b::m,h,hr=>⟨hr 0 a b rfl rfl,zo9 (by simpa using h) λi x y hx hy=>hr (i+1) x y (by simpa using hx) (by simpa using hy)⟩
 |[],_::_,h,_=>by simp at h
 |_::_,[],h,_=>by simp at h
section
variable {Hh:Type} {enc:TypeId×Value→Hh} {P:Program} {w:World} {base:Nat} {spare:Nat→Bool} {held:Bool} {bk:DataW Hh→Nat}
theorem zzM{S:List TypeId}(hS:zhm P S=true)(hbk:Bulk bk):∀ (n:Nat) (t:TypeId) (cs:List Value) (x:DataW Hh × List MemPlace),t∈S→DataW.trod enc P w base spare held n t cs=some x →
  ∃l,All2 (DRel w (zbO w)) cs l∧TyB P n t l (bk x.1):=by
 intro n;induction n with
 |zero=>intro t cs x _ h;simp[DataW.trod]at h
 |succ n ih=>
  intro t cs x ht h;have hp:=List.all_eq_true.1 hS t ht;unfold TyB;cases hu:P.underlying t with
  |none=>simp[hu]at hp
  |some d=>
   rw[hu]at hp;cases d <;> simp only[]at hp <;> try (cases hp;done)
   case bool=>obtain⟨b,rfl,_⟩:=DataW.trod_bool hu h;exact⟨[.bool b],⟨.bool b,trivial⟩,b,rfl⟩
   case int k=>obtain⟨m,rfl,_,hw⟩:=DataW.trod_int hu h;exact⟨[.int k m],⟨.int k m,trivial⟩,m,rfl,hw⟩
   case string=>
    obtain⟨s,rfl,rfl,hw⟩:=DataW.trod_string hu h;have hs:(⟨s.data.toList.toArray⟩:ByteArray)=s:=by simp
    refine⟨[.str s.data.toList],⟨?_,trivial⟩,s.data.toList,rfl,by rw[Array.length_toList];exact hw,hbk.str _⟩;have:=DRel.str (w:=w) (L:=zbO w) s.data.toList;rwa [hs]at this
   case slice e=>
    simp only[Bool.and_eq_true,decide_eq_true_eq]at hp;obtain⟨⟨he,hpos⟩,_⟩:=hp;have he:e∈S:=by simpa using he
    rcases DataW.trod_slice hu h with ⟨rfl,rfl⟩|⟨a,len,cap,elems,rest,n',hn,rfl,rfl,hb,hl,hm,hlen,hel,_⟩
    ·exact⟨[.sl [] .none],⟨.slE _ _,trivial⟩,[],[],rfl,by simp,by have:=hbk.one .nil;simpa using this,trivial⟩
    ·obtain rfl:n=n':=by omega
     have hsum:=hbk.slice (elems.map (·.1)) (rest.map (·.1));have hat:∀i,i<len→∃cs l y,w.cells? base (a.add (i*P.cellsOf e)) (P.cellsOf e)=some cs∧All2 (DRel w (zbO w)) cs l∧elems[i]?=some y∧TyB P n e l (bk y.1):=by
      intro i hi;have h1:=hel i hi;rw[List.getElem?_eq_getElem (by omega)]at h1;cases hc:w.cells? base (a.add (i*P.cellsOf e)) (P.cellsOf e) with
      |none=>rw[hc]at h1;cases h1
      |some cs=>rw[hc]at h1;obtain⟨l,h2,h3⟩:=ih e cs _ he h1;exact⟨cs,l,_,rfl,h2,List.getElem?_eq_getElem (by omega),h3⟩
     by_cases h0:len=0
     ·subst h0;exact⟨[.sl [] .none],⟨.slE _ _,trivial⟩,[],[],rfl,by simp,by simp only[List.sum_nil];omega,trivial⟩
     ·have hspot:a.spot=none:=by obtain⟨cs,l,_,h1,h2,_⟩:=hat 0 (by omega);obtain⟨h3,h4⟩:=zfb h1;have h5:=h4 0 cs[0] (by simp);have:=World.cell?_spot h5;simpa[Addr.add]using this
      obtain⟨b,off,sp⟩:=a;simp only at hspot;subst hspot;obtain⟨f,hf⟩:∃f:Nat→List Value×List AV,∀i,i<len→w.cells? base ((⟨b,off,none⟩:Addr).add (i*P.cellsOf e)) (P.cellsOf e)=some (f i).1∧All2 (DRel w (zbO w)) (f i).1 (f i).2∧∀y,elems[i]?=some y→TyB P n e (f i).2 (bk y.1):=
       Deep.choose_lt (p:=λi (y:List Value × List AV)=>w.cells? base ((⟨b,off,none⟩:Addr).add (i*P.cellsOf e)) (P.cellsOf e)=some y.1∧All2 (DRel w (zbO w)) y.1 y.2∧∀ z,elems[i]?=some z→TyB P n e y.2 (bk z.1))
        (λi hi=>by
         obtain⟨cs,l,y,h1,h2,h3,h4⟩:=hat i hi;exact⟨(cs,l),h1,h2,λz hz=>by rw[h3]at hz;cases hz;exact h4⟩)
      have hcell:∀i,i<len→∀j v,(f i).1[j]?=some v→w.cell? ⟨b,off+i*P.cellsOf e+j,none⟩=some v:=by intro i hi j v hj;have:=(zfb (hf i hi).1).2 j v hj;rw[add_lit,add_lit]at this;exact this
      have hlen2:∀i,i<len→(f i).2.length=P.cellsOf e:=λi hi=>by rw[←(hf i hi).2.1.length];exact(zfb (hf i hi).1).1
      refine⟨[.sl ((List.range len).map λi=>(f i).2) .none],⟨?_,trivial⟩,_,elems.map λy=>bk y.1,rfl,by simp;omega,?_,?_⟩
      ·have:=DRel.sl (w:=w) (L:=zbO w) b off cap (P.cellsOf e) ((List.range len).map λi=>(f i).2) (λi j=>(f i).1.getD j undef) (by simp;exact h0) (by simpa using hl) ?_ ?_ ?_ ?_
       ·simpa using this
       ·have hi:len-1<len:=by omega
        have hj:P.cellsOf e-1<(f (len-1)).1.length:=by rw[(zfb (hf _ hi).1).1];omega
        have:=zxG (hcell (len-1) hi (P.cellsOf e-1) _ (List.getElem?_eq_getElem hj));have hmul:(len-1)*P.cellsOf e+P.cellsOf e=len*P.cellsOf e:=by rw[←Nat.succ_mul];congr 1;omega
        simp;omega
       ·intro i hi;simp at hi;simpa using hlen2 i hi
       ·intro i j hi hj;simp at hi hj;have hjl:j<(f i).1.length:=by rw[(hf i hi).2.1.length];exact hj
        simp only[List.getD_eq_getElem?_getD,List.getElem?_eq_getElem hjl,Option.getD_some];exact hcell i hi j _ (List.getElem?_eq_getElem hjl)
       ·intro i j hi hj;simp at hi hj;have hjl:j<(f i).1.length:=by rw[(hf i hi).2.1.length];exact hj
        obtain⟨c,h1,h2⟩:=(hf i hi).2.1.get' (List.getElem?_eq_getElem hjl);simp only[List.getD_eq_getElem?_getD,List.getElem?_eq_getElem hjl,Option.getD_some,List.getElem_map,List.getElem_range];have:(f i).2[j]=c:=by rw[List.getElem?_eq_getElem hj]at h1;exact Option.some.inj h1
        rw[this];exact h2
      ·rw[List.map_map]at hsum;exact hsum
      ·refine zo9 (by simp;omega) λi c d hc hd=>?_;rw[List.getElem?_map]at hd;cases hy:elems[i]? with
       |none=>rw[hy]at hd;cases hd
       |some y=>
        rw[hy]at hd;have hi:i<len:=by rw[←hlen];exact(List.getElem?_eq_some_iff.1 hy).1
        simp[List.getElem?_map,List.getElem?_range hi]at hc hd;subst hc hd;exact(hf i hi).2.2 y hy
   case struct fs=>
    simp only[Bool.and_eq_true]at hp;obtain⟨hfs,htile⟩:=hp;obtain⟨xs,n',hn,rfl,hcl,hxl,hat⟩:=DataW.trod_struct hu h;obtain rfl:n=n':=by omega
    have hsum:=hbk.agg (xs.map (·.1));obtain⟨l,h1,h2⟩:=zrI (P:=P) (R:=DRel w (zbO w)) (cs:=cs) fs.toList 0 (P.cellsOf t) (λf l=>∀(i:Nat) (y:DataW Hh×List MemPlace),fs[i]?=some f→xs[i]?=some y→TyB P n f.type l (bk y.1)) htile hcl (λf hf=>by
     obtain⟨i,hi⟩:=List.mem_iff_getElem?.1 hf;have hi':fs[i]?=some f:=by simpa using hi
     have h3:=hat i f hi';have hlt:i<xs.length:=by rw[hxl];exact(Array.getElem?_eq_some_iff.1 hi').1
     rw[List.getElem?_eq_getElem hlt]at h3;obtain⟨l,h4,h5⟩:=ih f.type _ _ (by simpa using List.all_eq_true.1 hfs f hf) h3;refine⟨l,h4,λj y hj hy=>?_⟩;have h6:=hat j f hj;rw[hy,h3]at h6;have:xs[i]=y:=Option.some.inj h6;rw[←this];exact h5) (Nat.zero_le _)
    rw[List.drop_zero]at h1;refine⟨l,h1,by rw[←h1.length];exact hcl,xs.map λy=>bk y.1,?_,zo9 (by simp[hxl]) λi f d hf hd=>?_⟩
    ·rw[List.map_map]at hsum;exact hsum
    ·rw[List.getElem?_map]at hd;cases hy:xs[i]? with
     |none=>rw[hy]at hd;cases hd
     |some y=>
      rw[hy]at hd;simp at hd;subst hd;have hf':fs[i]?=some f:=by simpa using hf
      have:=(h2 f (List.mem_of_getElem? hf)).1 i y hf' hy;simp only[Nat.sub_zero]at this;exact⟨this,hbk.one _⟩
end
theorem zIv{Hh:Type}{enc:TypeId×Value→Hh}{P:Program}{w:World}{base:Nat}{spare:Nat→Bool}{held:Bool}{bk:DataW Hh→Nat}{S:List TypeId}(hS:zhm P S=true)(hbk:Bulk bk){t:TypeId}(ht:t∈S){cs:Array Value}{d:DataW Hh}{p:List MemPlace}(h:DataW.Trod enc P w base spare held t (.agg cs) d p):∃n l,TyB P n t l (bk d)∧TRel w (G0 w) (.agg cs) (.agg l):=by
 obtain⟨n,hn⟩:=h;obtain⟨l,h1,h2⟩:=zzM hS hbk n t _ _ ht hn;exact⟨n,l,h2,cs,rfl,h1.mono λ_ _ hd=>ARel.of_b (DRel.toB (G:=G0 w) hd)⟩
theorem zIu{Hh:Type}{enc:TypeId×Value→Hh}{P:Program}{w:World}{base:Nat}{spare:Nat→Bool}{held:Bool}{bk:DataW Hh→Nat}{S:List TypeId}(hS:zhm P S=true)(hbk:Bulk bk){t:TypeId}(ht:t∈S){v:Value}{d:DataW Hh}{p:List MemPlace}(hv:v.cells=#[v])(h:DataW.Trod enc P w base spare held t v d p):∃n a,TyB P n t [a] (bk d)∧TRel w (G0 w) v a:=by
 obtain⟨n,hn⟩:=h;obtain⟨l,h1,h2⟩:=zzM hS hbk n t _ _ ht hn;rw[hv]at h1
 match l,h1,h2 with
 |[a],h1,h2=>exact⟨n,a,h2,TRel.of_v (VRel.of_a (ARel.of_b (DRel.toB (G:=G0 w) h1.1)))⟩
section
variable {P:Program} {n:Nat} {t:TypeId} {l:List AV} {b:Nat}
theorem zrP{k:IntKind}(hu:P.underlying t=some (.int k))(h:TyB P n t l b):∃m,l=[.int k m]∧(Lit.int k m).wf=true:=by
 cases n with
 |zero=>exact h.elim
 |succ n=>unfold TyB at h;rw[hu]at h;exact h
theorem zzQ(hu:P.underlying t=some .string)(h:TyB P n t l b):∃s,l=[.str s]∧s.length≤maxLen∧s.length+1≤b:=by
 cases n with
 |zero=>exact h.elim
 |succ n=>unfold TyB at h;rw[hu]at h;exact h
theorem zlo{e:TypeId}(hu:P.underlying t=some (.slice e))(h:TyB P n t l b):∃(es:List (List AV)) (bs:List Nat) (n':Nat),n'<n∧l=[.sl es .none]∧es.length≤maxLen∧bs.sum+1≤b∧All2 (λc d=>TyB P n' e c d) es bs:=by
 cases n with
 |zero=>exact h.elim
 |succ n=>unfold TyB at h;rw[hu]at h;obtain⟨es,bs,h1,h2,h3,h4⟩:=h;exact⟨es,bs,n,by omega,h1,h2,h3,h4⟩
theorem zrQ{fs:Array Field}(hu:P.underlying t=some (.struct fs))(h:TyB P n t l b):∃(n':Nat) (bs:List Nat),n'<n∧l.length=P.cellsOf t∧bs.sum+1≤b∧All2 (λ(f:Field) d=>TyB P n' f.type ((l.drop f.offset).take (P.cellsOf f.type)) d∧1≤d) fs.toList bs:=by
 cases n with
 |zero=>exact h.elim
 |succ n=>unfold TyB at h;rw[hu]at h;obtain⟨h1,bs,h2,h3⟩:=h;exact⟨n,bs,by omega,h1,h2,h3⟩
end
end
theorem zpl{Hh:Type}:∀ l:List (DataW Hh),Rows.uptoBulkAll l=(l.map Rows.uptoBulk).sum
 |[]=>by simp[Rows.uptoBulkAll]
 |d::l=>by simp[Rows.uptoBulkAll,zpl l]
theorem zwt{Hh:Type}:Bulk (Hh:=Hh) Rows.uptoBulk where
 one d:=by
  cases d with
  |lit l=>cases l <;> simp[Rows.uptoBulk]
  |nil=>simp[Rows.uptoBulk]
  |ptr d=>simp[Rows.uptoBulk]
  |slice elems spare=>simp[Rows.uptoBulk]
  |agg parts=>simp[Rows.uptoBulk]
  |iface t d=>simp[Rows.uptoBulk]
  |map entries=>simp[Rows.uptoBulk]
  |held h=>simp[Rows.uptoBulk]
 str s:=by simp[Rows.uptoBulk]
 slice es sp:=by rw[←zpl];simp only[Rows.uptoBulk];omega
 agg ps:=by rw[←zpl];simp only[Rows.uptoBulk];omega
theorem zpE{P:List AV→Nat→Prop}(hP:∀ c d,P c d→∃ v:VT,c=v.cs∧zbw v∧2*v.nodes≤d):∀ {es:List (List AV)} {bs:List Nat},All2 P es bs→∃ ks:List VT,es=VT.css ks∧zdS ks∧2*VT.nodesL ks≤bs.sum
 |[],[],_=>⟨[],rfl,by rw[zdS];trivial,by simp[VT.nodesL]⟩
 |c::es,d::bs,h=>by obtain⟨v,h1,h2,h3⟩:=hP c d h.1;obtain⟨ks,k1,k2,k3⟩:=zpE hP h.2;exact⟨v::ks,by rw[VT.css,h1,k1],by rw[zdS];exact⟨h2,k2⟩,by rw[VT.nodesL,List.sum_cons];omega⟩
 |[],_::_,h=>h.elim
 |_::_,[],h=>h.elim
theorem zzZ:∀(n:Nat) (l:List AV) (b:Nat),TyB tP n 25 l b→∃v:VT,l=v.cs∧zbw v∧2*v.nodes≤b:=by
 intro n;induction n using Nat.strongRecOn with
 |_ n ih=>
  intro l b h;obtain⟨n',bs,hn,hl,hb,hf⟩:=zrQ Tryz.underlying25 h;rw[zGm]at hl
  match l,hl,bs,hf with
  |[x,y,z],_,[b1,b2,b3],hf=>simp[ce3,zwy,All2]at hf;obtain⟨⟨h1,g1⟩,⟨h2,g2⟩,⟨h3,g3⟩⟩:=hf;obtain⟨k,hk,_⟩:=zrP Tryz.underlying3 h1;obtain⟨m,hm,_⟩:=zrP Tryz.underlying3 h2;obtain⟨es,bs',n2,hn2,hes,hml,hbs,hel⟩:=zlo Tryz.underlying23 h3;obtain⟨ks,hks,hfit,hnd⟩:=zpE (λc d hc=>ih n2 (by omega) c d hc) hel;simp at hk hm hes hb;rw[hks,VT.css_len]at hml;exact⟨.mk k m ks,by simp[VT.cs,hk,hm,hes,hks],by rw[zbw];exact⟨by simpa[maxLen]using hml,hfit⟩,by rw[VT.nodes];omega⟩
theorem zHX{ks:List VT}{x:VT}(h:x∈ks):x.nodes≤VT.nodesL ks:=zq1 h
def zo2(b:Nat)(c:Con):Prop:=zFm c∧∀x∈c.args,2*x.nodes≤b
theorem zGB(n:Nat)(l:List AV)(b:Nat)(h:TyB tP n 59 l b):∃c:Con,l=c.cs∧zo2 b c:=by
 obtain⟨n',bs,hn,hl,hb,hf⟩:=zrQ Tryz.underlying59 h;rw[zGp]at hl
 match l,hl,bs,hf with
 |[x,y],_,[b1,b2],hf=>simp[ce9,zwy,All2]at hf;obtain⟨⟨h1,g1⟩,⟨h2,g2⟩⟩:=hf;obtain⟨s,hs,_⟩:=zzQ Tryz.underlying9 h1;obtain⟨es,bs',n2,hn2,hes,_,hbs,hel⟩:=zlo Tryz.underlying23 h2;obtain⟨ks,hks,hfit,hnd⟩:=zpE (λc d hc=>zzZ n2 c d hc) hel;simp at hs hes hb;exact⟨⟨s,ks⟩,by simp[Con.cs,hs,hes,hks],λx hx=>zjT hfit x hx,λx hx=>by have:=zHX (ks:=ks) hx;omega⟩
def zvM(b:Nat)(d:Dat):Prop:=∀c∈d.cons,zo2 b c
theorem zpZ{α:Type}{cs:α→List AV}{Q:Nat→α→Prop}{P:List AV→Nat→Prop}(hP:∀ c d,P c d→∃ x,c=cs x∧Q d x)(hm:∀ d d' x,d≤d'→Q d x→Q d' x):∀ {es:List (List AV)} {bs:List Nat},All2 P es bs→∃ xs:List α,es=xs.map cs∧∀ x∈xs,Q bs.sum x
 |[],[],_=>⟨[],rfl,by simp⟩
 |c::es,d::bs,h=>by
  obtain⟨x,h1,h2⟩:=hP c d h.1;obtain⟨xs,k1,k2⟩:=zpZ hP hm h.2;refine⟨x::xs,by rw[List.map_cons,h1,k1],λy hy=>?_⟩;rw[List.sum_cons];rcases List.mem_cons.1 hy with e|hy
  ·rw[e];exact hm d _ _ (by omega) h2
  ·exact hm bs.sum _ _ (by omega) (k2 y hy)
 |[],_::_,h=>h.elim
 |_::_,[],h=>h.elim
theorem zGR(n:Nat)(l:List AV)(b:Nat)(h:TyB tP n 57 l b):∃d:Dat,l=d.cs∧zvM b d:=by
 obtain⟨n',bs,hn,hl,hb,hf⟩:=zrQ Tryz.underlying57 h;rw[zGo]at hl
 match l,hl,bs,hf with
 |[x,y,z],_,[b1,b2,b3],hf=>simp[ce9,ce3,zGn,All2]at hf;obtain⟨⟨h1,g1⟩,⟨h2,g2⟩,⟨h3,g3⟩⟩:=hf;obtain⟨s,hs,_⟩:=zzQ Tryz.underlying9 h1;obtain⟨m,hm,_⟩:=zrP Tryz.underlying3 h2;obtain⟨es,bs',n2,hn2,hes,_,hbs,hel⟩:=zlo Tryz.underlying55 h3;obtain⟨ks,hks,hq⟩:=zpZ (cs:=Con.cs) (Q:=zo2) (λc d hc=>zGB n2 c d hc) (λd d' x hd hq=>⟨hq.1,λy hy=>by have:=hq.2 y hy;omega⟩) hel;simp at hs hm hes hb;exact⟨⟨s,m,ks⟩,by simp[Dat.cs,hs,hm,hes,hks],λc hc=>⟨(hq c hc).1,λy hy=>by have:=(hq c hc).2 y hy;omega⟩⟩
def zvK(l:List Dat):Prop:=zFf l∧zoV l
theorem zGT(n:Nat)(a:AV)(b:Nat)(hb:b≤1048576)(h:TyB tP n 22 [a] b):∃x:{l:List Dat // zvK l},a=.sl (x.1.map Dat.cs) .none:=by
 obtain⟨es,bs,n1,_,hes,hm,hbs,hel⟩:=zlo Tryz.underlying22 h;obtain⟨k,hk,hq⟩:=zpZ (cs:=Dat.cs) (Q:=zvM) (λc d hc=>zGR n1 c d hc) (λd d' x hd hq c hc=>⟨(hq c hc).1,λy hy=>by have:=(hq c hc).2 y hy;omega⟩) hel;simp at hes;refine⟨⟨k,⟨?_,λD hD c hc=>(hq D hD c hc).1⟩,λD hD c hc x hx=>?_⟩,by rw[hes,hk]⟩
 ·rw[hk]at hm;simpa[maxLen]using hm
 ·have:=(hq D hD c hc).2 x hx;omega
def zvN(v:VT):Prop:=zbw v∧v.nodes≤1000000
theorem zKu(n:Nat)(l:List AV)(b:Nat)(hb:b≤1048576)(h:TyB tP n 25 l b):∃x:{v:VT // zvN v},l=x.1.cs:=by obtain⟨v,h1,h2,h3⟩:=zzZ n l b h;exact⟨⟨v,h2,by omega⟩,h1⟩
section
open Go.RowKit
variable {P:Program} {w:World} {G:Gh} {v:Value}
theorem zwq(h:G.μ=[])(μ:List GI):∀ {a:AV},BRel w G v a→BRel w ⟨G.L,μ⟩ v a
 |.unk,_=>trivial
 |.nilp,hr=>hr
 |.ptr _ _,⟨b,h1,h2⟩=>by rw[h]at h1;simp at h1
 |.view _,⟨b,off,h1,h2⟩=>⟨b,off,h1,h2⟩
 |.snil,hr=>hr
 |.sl _ .none,hr=>hr
 |.sl _ .full,hr=>hr
 |.sl es (.own id),⟨hr,v',size,n,hμ,hle,heq⟩=>by rw[h]at hμ;simp at hμ
 |.ms _ _ _ _,⟨b,h1,h2⟩=>by rw[h]at h1;simp at h1
 |.ov id n,⟨hr,v',size,n',hμ,hle,heq⟩=>by rw[h]at hμ;simp at hμ
 |.vp id n off,⟨hr,v',size,n',hμ,hle,heq⟩=>by rw[h]at hμ;simp at hμ
 |.os id n lo esz,⟨hr,v',size,n',hμ,hle,heq⟩=>by rw[h]at hμ;simp at hμ
 |.map _,⟨b,h1,h2⟩=>by rw[h]at h1;simp at h1
 |.nilfn,hr=>hr
 |.nili,hr=>hr
 |.ifc,hr=>hr
 |.bool _,hr=>hr
 |.int _ _,hr=>hr
 |.str _,hr=>hr
 |.fn _ _,hr=>hr.elim
 |.agg _,hr=>hr.elim
 |.tup _,hr=>hr.elim
theorem zwi(h:G.μ=[])(μ:List GI){a:AV}(hr:ARel w G v a):ARel w ⟨G.L,μ⟩ v a:=by
 cases a with
 |fn f caps=>obtain⟨vs,h1,h2⟩:=hr;exact⟨vs,h1,h2.mono λ_ _=>zwq h μ⟩
 |_=>exact ARel.of_b (zwq h μ hr)
theorem zAa(h:G.μ=[])(μ:List GI){a:AV}(hr:VRel w G v a):VRel w ⟨G.L,μ⟩ v a:=by
 cases a with
 |agg cs=>obtain⟨vs,h1,h2⟩:=hr;exact⟨vs,h1,h2.mono λ_ _=>zwi h μ⟩
 |_=>exact VRel.of_a (zwi h μ hr)
theorem zKi(h:G.μ=[])(μ:List GI){a:AV}(hr:TRel w G v a):TRel w ⟨G.L,μ⟩ v a:=by
 cases a with
 |tup cs=>obtain⟨vs,h1,h2⟩:=hr;exact⟨vs,h1,h2.mono λ_ _=>zAa h μ⟩
 |_=>exact TRel.of_v (zAa h μ hr)
theorem zHj(w:World):HRel w.heap.size w ⟨(G0 w).L,[.own .nilFunc 0 0]⟩ [.nodr]:=by
 have h0:=zHi w;refine⟨rfl,λid ab gi h1 h2=>?_,λid id' gi gi' b h1 h2 h3=>?_,h0.fresh,λid gi b h1 h2=>?_,Nat.le_refl _⟩
 ·match id,h1,h2 with
  |0,h1,h2=>simp at h1 h2;subst h1 h2;rfl
 ·match id,h1 with
  |0,h1=>simp at h1;subst h1;cases h3
 ·match id,h1 with
  |0,h1=>simp at h1;subst h1;cases h2
theorem zKg{f:FuncId}{args:List AV}(h:ACalls P f args [.nodr] λr _=>r=.bool true)(w:World)(vs:Array Value)(hv:All2 (TRel w (G0 w)) vs.toList args):
  Calls P f vs w λe w'=>e=.returned (.bool true)∧Below w.heap.size w w':=by
 refine(h _ w _ vs (zHj w) (hv.mono λ_ _=>zKi rfl _)).mono λe w' ⟨v,r,H',G',h1,h2,h3,h4,h5⟩=>?_;subst h5;have h4:v=.bool true:=h4;subst h4;exact⟨h1,h2.below⟩
end
def jt0(P:Program)(f:FuncId)(fn:Func)(s:ChangeSpec)(c:OpenClaim):Bool:=c.wf (OpenSpec.ofChange s) && laidOutB P && mapsRowed P
def jt1(P:Program)(f:FuncId)(fn:Func)(s:ChangeSpec)(c:OpenClaim):Bool:=fn.params.all (P.readableRec ·) && namedTie P c.named s.vars
def jt2(P:Program)(f:FuncId)(fn:Func)(s:ChangeSpec)(c:OpenClaim):Bool:=(c.stops == []) && (P.stops == []) && (c.knobs == []) && (P.stopKnobs == [])
def jt3(P:Program)(f:FuncId)(fn:Func)(s:ChangeSpec)(c:OpenClaim):Bool:=(c.inPlace == P.inPlace f)
def jt4(P:Program)(f:FuncId)(fn:Func)(s:ChangeSpec)(c:OpenClaim):Bool:=(c.unfollowed == P.unfollowed f)
def jt5(P:Program)(f:FuncId)(fn:Func)(s:ChangeSpec)(c:OpenClaim):Bool:=(c.recurses == P.recurses f)
def jt6(P:Program)(f:FuncId)(fn:Func)(s:ChangeSpec)(c:OpenClaim):Bool:=(c.named == P.varsNamed f)
def jt7(P:Program)(f:FuncId)(fn:Func)(s:ChangeSpec)(c:OpenClaim):Bool:=(c.maps == (fn.params.toList++s.plain.varTypes P).any (P.mapsRec ·)) && (c.ifaces == (fn.params.toList++s.plain.varTypes P).any (P.ifacesRec ·)) && (c.mapsOut == P.mapsAmong fn.resultTypes.toList)
def jt8(P:Program)(f:FuncId)(fn:Func)(s:ChangeSpec)(c:OpenClaim):Bool:=(c.loops == (fn.params.toList++s.plain.varTypes P).any (P.loopsFrom ·)) && (c.wideKeys == (fn.params.toList++s.plain.varTypes P++fn.resultTypes.toList).any (P.wideKeysFrom ·))
def jt9(P:Program)(f:FuncId)(fn:Func)(s:ChangeSpec)(c:OpenClaim):Bool:=s.vars.all (P.varReadable ·) && fn.resultTypes.all (λt=>P.readableRec t && decide (t<P.types.size)) && (c.ifacesOut == fn.resultTypes.toList.any (P.ifacesRec ·)) && (c.loopsOut == fn.resultTypes.toList.any (P.loopsFrom ·)) && (c.plainKeys == P.plainKeys) && c.shortTexts.isNone
def zpT(P:Program)(f:FuncId)(fn:Func)(s:ChangeSpec)(c:OpenClaim):Bool:=P.stopsHeard && P.mayEnter && (c.lifted == P.liftsFinal) && (P.make == some c.make) && (c.kinds == (if c.domain.isEmpty then [] else fn.params.toList.map λt=>match P.underlying t with|some (.int k)=>some k|_=>none)) && (c.pinned == c.pinnedBy)
def zpU(P:Program)(f:FuncId)(fn:Func)(s:ChangeSpec)(c:OpenClaim):Bool:=(c.veiled == (fn.params.toList++s.plain.varTypes P++fn.resultTypes.toList).any (P.veiledRec ·)) && c.veiledFits P fn.params.toList (fn.params.toList++s.plain.varTypes P++fn.resultTypes.toList)
theorem zHt(P:Program)(f:FuncId)(fn:Func)(s:ChangeSpec)(c:OpenClaim)(h0:jt0 P f fn s c=true)(h1:jt1 P f fn s c=true)(h2:jt2 P f fn s c=true)(h3:jt3 P f fn s c=true)(h4:jt4 P f fn s c=true)(h5:jt5 P f fn s c=true)(h6:jt6 P f fn s c=true)(h7:jt7 P f fn s c=true)(h8:jt8 P f fn s c=true)(h9:jt9 P f fn s c=true)(h10:zpT P f fn s c=true)(h11:zpU P f fn s c=true):joinedFacts P f fn s c=true:=by
 simp only[jt0,jt1,jt2,jt3,jt4,jt5,jt6,jt7,jt8,jt9,zpT,zpU,Bool.and_eq_true]at h0 h1 h2 h3 h4 h5 h6 h7 h8 h9 h10 h11;obtain⟨⟨h0_0,h0_1⟩,h0_2⟩:=h0;obtain⟨h1_0,h1_1⟩:=h1;obtain⟨⟨⟨h2_0,h2_1⟩,h2_2⟩,h2_3⟩:=h2;obtain⟨⟨h7_0,h7_1⟩,h7_2⟩:=h7;obtain⟨h8_0,h8_1⟩:=h8;obtain⟨⟨⟨⟨⟨h9_0,h9_1⟩,h9_2⟩,h9_3⟩,h9_4⟩,h9_5⟩:=h9;obtain⟨⟨⟨⟨⟨h10_0,h10_1⟩,h10_2⟩,h10_3⟩,h10_4⟩,h10_5⟩:=h10;obtain⟨h11_0,h11_1⟩:=h11;simp only[joinedFacts,Bool.and_eq_true]
 and_intros
 all_goals first|assumption|exact h10_4
end Go.Proofs.YtaifokkaaahdoaaGreatDoor
