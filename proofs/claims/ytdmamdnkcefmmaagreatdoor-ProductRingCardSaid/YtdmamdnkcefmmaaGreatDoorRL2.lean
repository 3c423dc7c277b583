import Derived.Test.YtdmamdnkcefmmaaGreatDoorKV5
import Derived.Test.YtdmamdnkcefmmaaGreatDoorAbsS
import Derived.Test.YtdmamdnkcefmmaaGreatDoorKI2
import Derived.Test.YtdmamdnkcefmmaaGreatDoorIT
import Derived.Test.YtdmamdnkcefmmaaGreatDoorKY10
import Derived.Test.YtdmamdnkcefmmaaGreatDoorAbsQ1
import Derived.Test.YtdmamdnkcefmmaaGreatDoorKNum
import Derived.Shelf.SlSortCmp.NoneTotal
import Derived.Test.YtdmamdnkcefmmaaGreatDoorProg
import Derived.KernelRfl
set_option linter.unusedSimpArgs false
set_option linter.unusedVariables false
set_option maxRecDepth 100000
namespace Go.Proofs.YtdmamdnkcefmmaaGreatDoor
theorem zwg{dU:List Dat}:∀ {l:List Dat} {d:Nat},zcW dU l d=true→∀ D∈l,D.cons.length≤8
 |[],_,_,D,h=>by cases h
 |E::l,d,h,D,hD=>by
  simp only[zcW,ai]at h;rcases aS.1 hD with rfl|hD
  ·have:=h.1;simp only[zcK,ai,aR]at this;exact this.1.2
  ·exact zwg h.2 D hD
theorem zcD{dU:List Dat}{t:VT}(h:za8 dU t=true):∀D∈dU,D.cons.length≤8:=by simp only[za8,zbB,ai]at h;exact zwg h.1.1.1.2
def zbq(dU:List Dat)(t:VT)(v:IT):Int:=if za8 dU t then rdV dU v t else -1
theorem zDm(dU:List Dat)(hk:zbw dU)(t:VT)(ht:t.nodes≤1000000)(H:zaa)(K:Kt)(hK:K (.bool (za8 dU t)) H):ACalls tP zjV [.sl (dU.map Dat.cs) .none,.agg t.cs] H K:=by
 refine ACalls.out (zUK λhs=>?_);obtain⟨x,y,z,ei,hx,hy,hz⟩:=zbh t;simp[zDl,zar,zaL,ei,ae];refine zK9 dU (zGc hk) (by have:=hk.1;omega) ?_;unfold za8 at hK;cases hd:zbB dU with
 |false=>rw[hd]at hK;simp;exact Out.bool rfl (aa _) hs hK
 |true=>rw[hd,bi]at hK;simp;rw[←ei];refine zz7 dU 0 t (by omega) _ _ ?_;exact Out.bool rfl (aa _) hs hK
theorem zTL(dU:List Dat)(hk:zbw dU)(t:VT)(ht:t.nodes≤1000000)(H:zaa)(K:Kt)(hK:K (.bool (za8 dU t)) H):ACalls tP zp8 [.sl (dU.map Dat.cs) .none,.agg t.cs] H K:=by
 refine ACalls.out (zTK λhs=>?_);obtain⟨x,y,z,ei,hx,hy,hz⟩:=zbh t;simp[zC2,ei,ae];refine zTy dU hk _ _ λb hb=>?_;have pv:b=zbB dU:=by rw[cr,hb,zFw]
 subst pv;unfold za8 at hK;cases hd:zbB dU with
 |false=>rw[hd]at hK;simp;exact Out.bool rfl (aa _) hs hK
 |true=>rw[hd,bi]at hK;simp;rw[←ei];refine zC1 dU (by have:=hk.1;omega) 0 t (by omega) _ _ ?_;exact Out.bool rfl (aa _) hs hK
theorem zgU(dU:List Dat)(hk:zbw dU)(t:VT)(ht:t.nodes≤1000)(v:IT)(hv:v.nodes≤900)(H:zaa)(K:Kt)(hK:K (.int .i64 (zbq dU t v)) H):ACalls tP ze1 [.sl (dU.map Dat.cs) .none,.agg t.cs,.agg v.cs] H K:=by
 refine ACalls.out (zSU λhs=>?_);have hO:∀r J,zbq dU t v=r→Out H.length K (.int .i64 r) (H++J):=λr J h=>by subst h;exact Out.int rfl (aa _) hs hK
 obtain⟨x,y,z,ei,hx,hy,hz⟩:=zbh t;obtain⟨x2,y2,eK,e8,kM⟩:=it2 v;simp[zCL,ei,eK,ae];rw[←ei];refine zDm dU hk t (by omega) _ _ ?_;cases hf:za8 dU t with
 |false=>simp;exact hO _ _ (by simp[zbq,hf])
 |true=>
  have h8:=zcD hf;obtain⟨g1,g2⟩:=zg8 h8 v t;simp[ae];rw[←eK];refine zUR hk h8 _ v (aa _) hv t ht _ _ ?_;cases hb:(zcj dU v t).2 with
  |false=>simp;exact hO _ _ (by simp[zbq,hf,g2 hb])
  |true=>simp;exact hO _ _ (by simp[zbq,hf,(g1 hb).1])
theorem ztq(dU:List Dat)(hk:zbw dU)(t:VT)(ht:t.nodes≤1000)(v:IT)(hv:v.nodes≤900)(H:zaa)(K:Kt)(hK:K (.int .i64 (zbq dU t v)) H):ACalls tP zhN [.sl (dU.map Dat.cs) .none,.agg t.cs,.agg v.cs] H K:=by
 refine ACalls.out (zQ0 λhs=>?_);have hO:∀r J,zbq dU t v=r→Out H.length K (.int .i64 r) (H++J):=λr J h=>by subst h;exact Out.int rfl (aa _) hs hK
 obtain⟨x,y,z,ei,hx,hy,hz⟩:=zbh t;obtain⟨x2,y2,eK,e8,kM⟩:=it2 v;simp[zB2,ei,eK,ae];rw[←ei];refine zTL dU hk t (by omega) _ _ ?_;cases hf:za8 dU t with
 |false=>simp;exact hO _ _ (by simp[zbq,hf])
 |true=>have h8:=zcD hf;simp[ae];rw[←eK];refine zT2 hk h8 _ v (aa _) hv t ht _ _ ?_;exact hO _ _ (by simp[zbq,hf])
theorem zKX(dU:List Dat)(hk:zbw dU)(t:VT)(ht:t.nodes≤1000)(v:IT)(hv:v.nodes≤900)(H:zaa)(K:Kt)(hK:K (.bool (decide (0≤zbq dU t v))) H):ACalls tP zpt [.sl (dU.map Dat.cs) .none,.agg t.cs,.agg v.cs] H K:=by refine ACalls.out (zKW λhs=>?_);obtain⟨x,y,z,ei,hx,hy,hz⟩:=zbh t;obtain⟨x2,y2,eK,e8,kM⟩:=it2 v;simp[zzY,ei,eK,ae];rw[←ei,←eK];refine zgU dU hk t ht v hv _ _ ?_;simp;exact Out.bool rfl (aa _) hs (by simpa using hK)
theorem zT6(dU:List Dat)(hk:zbw dU)(t:VT)(ht:t.nodes≤1000)(H:zaa)(K:Kt)(hK:za8 dU t=true→K (.tup [.agg (zaX t).cs,.bool true]) H)(hf:za8 dU t=true):
  ACalls tP zp9 [.sl (dU.map Dat.cs) .none,.agg t.cs] H K:=by
 refine ACalls.out (zT5 λhs=>?_);obtain⟨x,y,z,ei,hx,hy,hz⟩:=zbh t;simp[zC8,ei,hx,hy,hz];rw[←ei];refine zDm dU hk t (by omega) _ _ ?_;simp[hf,ei,hx,hy,hz];rw[←ei];refine zKI _ t (aa _) (by omega) _ _ ?_;obtain⟨p,q,hzz,hp,hq⟩:=zde (zaX t);have hK:=hK hf;rw[hzz]at hK ⊢;simp[hp,hq];refine⟨⟨rfl,rfl⟩,?_⟩;exact Out.tup (bs:=[.agg [p,q],.bool true]) hs hK ⟨zaY rfl (by have:=(zaX t).cs_scA H.length;rw[hzz]at this;simpa[AV.scV]using this),zaY rfl rfl,trivial⟩
theorem zia{H:zaa}{K:AV→zaa→Prop}{r:AV}(hsc:HSc H)(hv:r.isV=true)(hr:r.scV H.length=true)(h:K r H):Out H.length K r H:=by have:=Out.same (J:=[]) rfl hsc hv hr h;simpa using this
theorem zxk(a:Int)(H:zaa)(K:AV→zaa→Prop)(hK:K (.bool false) H):ACalls tP zjA [.int .i64 a] H K:=by refine ACalls.out (zPm λhs=>?_);simp[zBB];exact zia hs rfl rfl hK
theorem zv5(a b:Int)(H:zaa)(K:AV→zaa→Prop)(hK:K (.int .i64 (icmp a b)) H):ACalls tP zjs [.int .i64 a,.int .i64 b] H K:=by
 refine ACalls.out (zMl λhs=>?_);unfold zAt;refine zxk _ _ _ (zxk _ _ _ ?_);have hO:=zia (K:=K) (H:=H) (r:=.int .i64 (icmp a b)) hs rfl rfl hK;by_cases h1:a<b
 ·simp[h1];simpa[icmp,h1]using hO
 ·by_cases h2:b<a
  ·simp[h1,h2];simpa[icmp,h1,h2]using hO
  ·simp[h1,h2];simpa[icmp,h1,h2]using hO
def orL:List Int→Int
 |[]=>0
 |a::l=>cor a (orL l)
theorem zGZ(l:List Int)(tok:Tok)(hl:l.length≤1000000)(H:zaa)(K:AV→zaa→Prop)(hK:K (.int .i64 (orL l)) H):ACalls tP zpD [.sl (l.map λx=>[.int .i64 x]) tok] H K:=by
 refine ACalls.out (zMh λhs=>?_);simp[zAr];refine zMf (Inv:=λq t8 H'=>∃i:Nat,i≤l.length∧q=l.length-i∧t8=.int .i64 i∧orL (l.drop i)=orL l∧H'=H) l.length ?_ ?_
 ·intro _;exact⟨0,by omega,by omega,rfl,by simp,rfl⟩
 ·rintro q t8 H' ⟨i,hi,rfl,rfl,ho,rfl⟩ hsc d8 eC Kb ee;by_cases d7:i<l.length
  ·rw[ag d7,orL]at ho;by_cases hz:l[i]=0
   ·rw[zwb hz]at ho;simp[zlw,d7,hz];rw[zav (by omega) (by omega)];refine ee _ _ ⟨l.length-(i+1),by omega,Back.here (aa _) hs ?_ ⟨_,rfl,i+1,by omega,rfl,by simp,ho,rfl⟩⟩;simpa[zlx,AV.sc,AV.scV,AV.scA,AV.scB]using eC
   ·rw[zwa hz]at ho;have hz:(l[i] != 0)=true:=by simpa using hz
    simp[zlw,d7,hz];rw[←ho]at hK;exact zia hs rfl rfl hK
  ·simp[zlw,d7];obtain rfl:i=l.length:=by omega
   rw[aI]at ho;rw[←ho]at hK;exact zia hs rfl rfl hK
theorem zFh(ks ks':List IT)(he:ks.length=ks'.length)(hb:ks.length≤1000000)(hc:∀(i:Nat) (h:i<ks.length) (h':i<ks'.length) (H:zaa) (K:AV→zaa→Prop),K (.int .i64 (IT.cmp ks[i] ks'[i])) H→ACalls tP zgt [.agg ks[i].cs,.agg ks'[i].cs] H K)(H:zaa)(K:AV→zaa→Prop)(hK:K (.int .i64 (IT.cmpL ks ks')) H):ACalls tP zpE [.sl (IT.css ks) .none,.sl (IT.css ks') .none,.fn zgt []] H K:=by
 refine ACalls.out (zMq λhs=>?_);simp[zAu];refine zMo (Inv:=λq t13 H'=>∃i:Nat,i≤ks.length∧q=ks.length-i∧t13=.int .i64 i∧IT.cmpL (ks.drop i) (ks'.drop i)=IT.cmpL ks ks'∧H'=H) ks.length ?_ ?_
 ·intro _;exact⟨0,by omega,by omega,rfl,by simp,rfl⟩
 ·rintro q t8 H' ⟨i,hi,rfl,rfl,ho,rfl⟩ hsc d8 eC Kb ee;by_cases d7:i<ks.length
  ·have eE:i<ks'.length:=by omega
   have eH:¬ks'.length≤i:=by omega
   rw[IT.cmpL_drop d7 eE]at ho;simp[zr2,d7,eE,eH];refine hc i d7 eE _ _ ?_;by_cases hz:IT.cmp ks[i] ks'[i]=0
   ·rw[zwb hz]at ho;simp[hz];rw[zav (by omega) (by omega)];refine ee _ _ ⟨ks.length-(i+1),by omega,Back.same (aa _) hs ?_ ⟨_,rfl,i+1,by omega,rfl,by simp,ho,rfl⟩⟩;simp[zlz,AV.sc,AV.scV,AV.scA,AV.scB]
   ·rw[zwa hz]at ho;have hz:(IT.cmp ks[i] ks'[i] != 0)=true:=by simpa using hz
    simp[hz];rw[←ho]at hK;exact Out.same rfl hs rfl rfl hK
  ·have fT:¬ ks.length<ks'.length:=by omega
   simp[zr2,d7,fT];obtain rfl:i=ks.length:=by omega
   rw[aI,he,aI]at ho;rw[←ho]at hK;exact zia hs rfl rfl hK
theorem zF4:∀(m:Nat) (v w:IT),v.nodes≤m→v.nodes≤1000000→∀(H:zaa) (K:AV→zaa→Prop),K (.int .i64 (IT.cmp v w)) H→ACalls tP zgt [.agg v.cs,.agg w.cs] H K:=by
 intro m;induction m with
 |zero=>intro v w h;have:=v.nodes_pos;omega
 |succ m ih=>
  intro v w hv hb H K hK;obtain⟨n,ks⟩:=v;obtain⟨n',ks'⟩:=w;have fT:IT.nodesL ks+1≤1000000:=by simpa[IT.nodes]using hb
  have fc:=IT.len_le ks;refine ACalls.out (zVH λhs=>?_);simp[IT.cs,zDF];refine zaH _ (λJ=>zv5 _ _ _ _ ⟨rfl,rfl⟩) ?_;refine zaH _ (λJ=>zv5 _ _ _ _ ⟨rfl,rfl⟩) ?_;simp[zau,zaU,plain,List.replicate];refine zaH _ (λJ=>zGZ [icmp n n',icmp ks.length ks'.length] _ (by simp) _ _ ⟨rfl,rfl⟩) ?_;by_cases hz:orL [icmp n n',icmp ks.length ks'.length]=0
  ·have lG:=hz;simp only[orL,zhh]at hz;have d8:ks.length=ks'.length:=by have:=(zo5 _ _).mp hz.2.1;omega
   simp[lG];refine zFh ks ks' d8 (by omega) (λi h h' H K hK=>?_) _ _ ?_
   ·have:=IT.kid_lt (n:=n) h;exact ih _ _ (by omega) (by omega) H K hK
   ·refine Out.same rfl hs rfl rfl ?_;simpa[IT.cmp,hz,cor]using hK
  ·have nW:(orL [icmp n n',icmp ks.length ks'.length] != 0)=true:=by simpa using hz
   simp[nW];refine Out.same rfl hs rfl rfl ?_;have e:IT.cmp (.mk n ks) (.mk n' ks')=orL [icmp n n',icmp ks.length ks'.length]:=by simp only[IT.cmp,orL,cor]at hz ⊢;split <;> (try split) <;> (try split) <;> simp_all
   rwa [e]at hK
section
open Go.Proofs (sortWorld ltOf CmpLays1)
open Go.RowKit
open Go.Sort (grow putRow putCells mapBlock onCells ahead SWO PermIn SortedIn Holds)
variable {P:Program} {B:Nat} {w:World} {G:Gh} {H:zaa}
theorem zFW{W w':World}(hd:W.drawn≤w'.drawn)(hb:Below W.heap.size W w'):∃q os,w'=grow (W.drewN q) os:=by
 refine⟨w'.drawn-W.drawn,w'.heap.extract W.heap.size w'.heap.size,?_⟩;obtain⟨h1,h2,h3,h4,h5⟩:=hb;obtain⟨heap,tape,drawn,os,output⟩:=W;obtain⟨ju,tape',drawn',os',output'⟩:=w';simp only at *;subst h1 h2 h3;have e1:ju=heap++ju.extract heap.size ju.size:=by
  refine Array.ext_getElem? λi=>?_;by_cases hi:i<heap.size
  ·rw[Array.getElem?_append_left hi,h5 i hi]
  ·rw[Array.getElem?_append_right (by omega),Array.getElem?_extract];by_cases h:i<ju.size
   ·rw[aA (by omega),show heap.size+(i-heap.size)=i by omega]
   ·rw[ap (by omega),Array.getElem?_eq_none (by omega)]
 have e2:drawn'=drawn+(drawn'-drawn):=by omega
 simp only[grow,World.drewN];rw[←e1,←e2]
theorem HRel.alone(h:HRel B w G H)(o:Obj):Ext B w G (w.alloc o) G∧HRel B (w.alloc o) G H:=by have he:=Ext.alloc h o G.L (λ_ _=>rfl) [];simp only[aK]at he;refine⟨he,h.keep he rfl (λid gi b h1 h2=>⟨zcI (h.lt id gi b h1 h2),rfl⟩) (λb hb=>?_)⟩;rw[zb7]at hb;exact h.fresh b (by omega)
theorem HRel.grown:∀ (os:List Obj) {w:World},HRel B w G H→Ext B w G (grow w os.toArray) G∧HRel B (grow w os.toArray) G H
 |[],w,h=>by
  have:grow w #[]=w:=by simp[grow]
  rw[show ([]:List Obj).toArray=#[] from rfl,this];exact⟨Ext.refl _ _ _,h⟩
 |o::l,w,h=>by
  obtain⟨h1,h2⟩:=h.alone o;obtain⟨h3,h4⟩:=HRel.grown l h2;have:grow w (o::l).toArray=grow (w.alloc o) l.toArray:=by rw[Go.Sort.alloc_eq_grow,Go.Sort.grow_grow];simp
  rw[this];exact⟨h1.trans h3,h4⟩
theorem zHo{α:Type}[Inhabited α](vals:α→Value)(d:Array α)(cur:Array Value)(h:d.size≤cur.size):(putCells vals 0 d cur).toList.take d.size=d.toList.map vals:=by refine bA (by simp[putCells];omega) λi h1 h2=>?_;simp at h2;simp[putCells,h2]
def Lx(w:World)(G:Gh)(blk b:Nat):Nat:=if b=blk then 0 else max (G.L b) (zcr w b)
def Rd(H:zaa)(id0:Nat)(a:AV)(row:List (List AV)):Prop:=
 a=.sl row .none ∨
 (∃id off len cap size cs,a=.ms id off len cap∧H[id]?=some (.cells cs)∧off+len*size≤cs.length∧plain ((cs.drop off).take (len*size))=some row.flatten∧row.length=len∧(∀c∈row,c.length=size)∧len≤cap) ∨
 (∃id e size m cs,a=.ov id m∧id≠id0∧H[id]?=some (.vec e size m cs)∧plain cs=some row.flatten∧row.length=m∧∀c∈row,c.length=size)
theorem Rd.rel(h:HRel B w G H){id e n g cap:Nat}{cs:List AV}(hH:H[id]?=some (.vec e 1 n cs))(hμ:G.μ[id]?=some (.own (.slice (some ⟨g,0,none⟩) n cap) 1 n)){a:AV}{row:List (List AV)}(hr:Rd H id a row){v:Value}(hv:ARel w G v a):
  DRel w (Lx w G g) v (.sl row .none):=by
 obtain⟨_,_,_,jg⟩:=h.ok id _ _ hH hμ;have jA:G.L g=0:=jg g rfl;have hlev:∀b,G.L b≤Lx w G g b:=λb=>by
  unfold Lx;split
  ·rename_i hb;rw[hb,jA];exact aa _
  ·exact Nat.le_max_left _ _
 have fL:∀{v:Value} {a:AV},DRel w G.L v a→DRel w (Lx w G g) v a:=λh=>h.mono hlev λ_ _ _=>rfl;rcases hr with rfl|⟨i2,off,len,cap2,size,cs2,rfl,gg,eU,hp,d8,ep,ey⟩|⟨i2,e2,size,m,cs2,rfl,en,gg,hp,d8,ep⟩
 ·exact fL hv
 ·obtain⟨b,hb,rfl⟩:=hv;obtain⟨_,_,vs,_,hw,ew⟩:=h.ok i2 _ _ gg hb;have gA:b≠g:=λgA=>by have:=h.dist i2 id _ _ b hb hμ rfl (by rw[gA];rfl);subst this;rw[hH]at gg;cases gg
  subst d8;by_cases eO:row=[]
  ·subst eO;exact .slE _ _
  ·have hl:=ew.length;refine DRel.of_flat_at (zs:=(vs.toList.drop off).take (row.length*size)) ep eO ey ?_ ((zdx ((ew.drop off).take _) hp).mono λ_ _=>fL) ?_
   ·unfold Lx;rw[ap gA];refine ar ?_ (cW _ _);simp[zcr,hw];simp at hl;omega
   ·intro j u hj;rw[List.getElem?_take]at hj;split at hj
    ·simp only[World.cell?,hw];simpa using hj
    ·cases hj
 ·obtain⟨⟨a,cap0,rfl,_⟩,v',s0,n',hμ2,_,heq⟩:=hv;obtain⟨rfl,rfl,⟨xs,ed,ew⟩,_⟩:=h.ok i2 _ _ gg hμ2;obtain rfl:=heq rfl;subst d8;by_cases eO:row=[]
  ·subst eO;exact .slE _ _
  ·have fJ:=ed;obtain⟨hl,eW⟩:=fJ;rcases eW with ⟨h1,h2⟩ | ⟨g2,cap2,cur,h1,h2,h3,h4,h5,h6,h7⟩
   ·cases row <;> simp_all
   ·simp at h1;obtain⟨rfl,rfl⟩:=h1;obtain⟨_,_,_,er⟩:=zdw ed;have gA:g2≠g:=λgA=>en (h.dist i2 id _ _ g2 hμ2 hμ rfl (by rw[gA];rfl));refine DRel.of_flat_at (zs:=xs) ep eO h4 ?_ ((zdx ew hp).mono λ_ _=>fL) ?_
    ·unfold Lx;rw[ap gA];refine ar ?_ (cW _ _);simp only[zcr,h3,h6,aG];exact au _ h4
    ·intro j u hj;rw[aG,er j (by rw[←hl];exact(List.getElem?_eq_some_iff.1 hj).1)];exact hj
theorem zwq{α:Type}(d:Array α){k:Nat}(h:d.size=k):d.extract 0 k=d:=by subst h;exact Array.extract_size
theorem zGN(n:Nat):((Array.ofFn λi:Fin n=>i).toList.map Fin.val)=List.range n:=
 bA (by simp) λi h1 h2=>by simp only[bU,Array.getElem_toList,Array.getElem_ofFn,bV]
theorem zIl{α:Type}[Inhabited α](vals:α→Value)(w:World)(g m:Nat)(d:Array α)(os:Array Obj):w.heap.size≤(sortWorld vals w g 0 m d os).heap.size:=by unfold sortWorld;simp[grow]
theorem zIk{α:Type}[Inhabited α](vals:α→Value)(w:World)(g m:Nat)(d:Array α)(os:Array Obj)(a:Addr)(h1:a.block≠g)(h2:a.block<w.heap.size):(sortWorld vals w g 0 m d os).cell? a=w.cell? a:=by unfold sortWorld;rw[Go.Sort.cell?_grow _ _ _ (by rw[Go.Sort.size_putRow];exact h2),Go.Sort.cell?_putRow_other vals _ g 0 d a (Or.inl h1)];rfl
end
section
open Go.RowKit
variable {P:Program} {B:Nat} {w:World} {G:Gh} {H:zaa}
def Lmx(w:World)(G:Gh)(b:Nat):Nat:=Nat.max (G.L b) (zcr w b)
inductive RdA (H:zaa):AV→AV→Prop
 |sl (es:List (List AV)):RdA H (.sl es .none) (.sl es .none)
 |int (k:IntKind) (n:Int):RdA H (.int k n) (.int k n)
 |bool (b:Bool):RdA H (.bool b) (.bool b)
 |str (s:List UInt8):RdA H (.str s) (.str s)
 | ms (id off len cap size:Nat) (cs:List AV) (row:List (List AV)) (hH:H[id]?=some (.cells cs)) (eU:off+len*size≤cs.length) (hp:plain ((cs.drop off).take (len*size))=some row.flatten) (d8:row.length=len)
   (ep:∀c∈row,c.length=size) (ey:len≤cap):RdA H (.ms id off len cap) (.sl row .none)
 |ov (id e size m:Nat) (cs:List AV) (row:List (List AV)) (hH:H[id]?=some (.vec e size m cs)) (hp:plain cs=some row.flatten) (d8:row.length=m) (ep:∀c∈row,c.length=size):RdA H (.ov id m) (.sl row .none)
theorem RdA.rel(h:HRel B w G H){a b:AV}(hr:RdA H a b){v:Value}(hv:ARel w G v a):DRel w (Lmx w G) v b:=by
 have fL:∀{v:Value} {a:AV},DRel w G.L v a→DRel w (Lmx w G) v a:=λh=>h.mono (λb=>Nat.le_max_left _ _) λ_ _ _=>rfl;cases hr with
 |sl es=>exact fL hv
 |int k n=>have hv:v=.int k n:=hv;subst hv;exact .int k n
 |bool b=>have hv:v=.bool b:=hv;subst hv;exact .bool b
 |str s=>have hv:v=.string ⟨s.toArray⟩:=hv;subst hv;exact .str s
 |ms i2 off len cap2 size cs2 row gg eU hp d8 ep ey=>
  obtain⟨b,hb,rfl⟩:=hv;obtain⟨_,_,vs,_,hw,ew⟩:=h.ok i2 _ _ gg hb;subst d8;by_cases eO:row=[]
  ·subst eO;exact .slE _ _
  ·have hl:=ew.length;refine DRel.of_flat_at (zs:=(vs.toList.drop off).take (row.length*size)) ep eO ey ?_ ((zdx ((ew.drop off).take _) hp).mono λ_ _=>fL) ?_
   ·refine ar ?_ (cW _ _);simp[zcr,hw];simp at hl;omega
   ·intro j u hj;rw[List.getElem?_take]at hj;split at hj
    ·simp only[World.cell?,hw];simpa using hj
    ·cases hj
 |ov i2 e2 size m cs2 row gg hp d8 ep=>
  obtain⟨⟨a,cap0,rfl,_⟩,v',s0,n',hμ2,_,heq⟩:=hv;obtain⟨rfl,rfl,⟨xs,ed,ew⟩,_⟩:=h.ok i2 _ _ gg hμ2;obtain rfl:=heq rfl;subst d8;by_cases eO:row=[]
  ·subst eO;exact .slE _ _
  ·have fJ:=ed;obtain⟨hl,eW⟩:=fJ;rcases eW with ⟨h1,h2⟩ | ⟨g2,cap2,cur,h1,h2,h3,h4,h5,h6,h7⟩
   ·cases row <;> simp_all
   ·simp at h1;obtain⟨rfl,rfl⟩:=h1;obtain⟨_,_,_,er⟩:=zdw ed;refine DRel.of_flat_at (zs:=xs) ep eO h4 ?_ ((zdx ew hp).mono λ_ _=>fL) ?_
    ·refine ar ?_ (cW _ _);simp only[zcr,h3,h6,aG];exact au _ h4
    ·intro j u hj;rw[aG,er j (by rw[←hl];exact(List.getElem?_eq_some_iff.1 hj).1)];exact hj
theorem RdA.trel(h:HRel B w G H){a b:AV}(hr:RdA H a b){v:Value}(hv:ARel w G v a):ARel w ⟨Lmx w G,[]⟩ v b:=by
 have hd:=hr.rel h hv;cases hr with
 |sl es=>exact hd
 |int k n=>exact hv
 |bool b=>exact hv
 |str s=>exact hv
 |ms i2 off len cap2 size cs2 row gg eU hp d8 ep ey=>exact hd
 |ov i2 e2 size m cs2 row gg hp d8 ep=>exact hd
inductive RdT (H:zaa):AV→AV→Prop
 |one {a b:AV} (h:RdA H a b):RdT H a b
 |agg {asx bs:List AV} (h:All2 (RdA H) asx bs):RdT H (.agg asx) (.agg bs)
theorem RdT.rel(h:HRel B w G H){a b:AV}(hr:RdT H a b){v:Value}(hv:TRel w G v a):TRel w ⟨Lmx w G,[]⟩ v b:=by
 cases hr with
 |one hr=>
  have fG:ARel w G v a:=by cases hr <;> exact hv
  exact TRel.of_v (VRel.of_a (hr.trel h fG))
 |agg hr=>
  obtain⟨us,hu,hv⟩:=hv;refine⟨us,hu,?_⟩;exact All2.of_get (hv.length.trans hr.length) λi x y hx hy=>by obtain⟨a,ha,kL⟩:=All2.get' hv hx;obtain⟨y',ic,lK⟩:=All2.get' hr ha;rw[hy]at ic;cases ic;exact lK.trel h kL
end
def zaF:IT→List IT
 |.mk _ ks=>ks
mutual
theorem zzC:∀ t:VT,(zaX t).nodes≤t.nodes
 |.mk k n ks=>by
  have:=zzB ks;simp only[zaX,VT.nodes,IT.nodes];split
  ·omega
  ·simp[IT.nodesL]
theorem zzB:∀ ts:List VT,IT.nodesL (zbd ts)≤VT.nodesL ts
 |[]=>by simp[zbd,IT.nodesL,VT.nodesL]
 |t::ts=>by have:=zzC t;have:=zzB ts;simp only[zbd,IT.nodesL,VT.nodesL];omega
end
def d0:IT:=.mk 0 []
def tz:VT:=.mk 0 0 []
theorem zey{dU:List Dat}(m n:Int)(kk:List IT)(ks:List VT):rdV dU (.mk m kk) (.mk 5 n ks)=if m=0∧kk.length≤6 then rdE dU kk (.mk 5 n ks) 0 else -1:=by simp[rdV,VT.kind]
mutual
theorem zzD{dU:List Dat}:∀ x:VT,rdV dU (zaX x) x=0
 |.mk k n ks=>by
  have hA:=zzE (dU:=dU) ks 0 (by omega) (by omega);by_cases h6:k=6
  ·subst h6;have:rdV dU (zaX (.mk 6 n ks)) (.mk 6 n ks)=rdA dU (zbd ks) ks 0:=by simp[zaX,rdV,VT.kind,VT.kids,zdT]
   rw[this,hA]
  ·by_cases h7:k=7
   ·subst h7;simp[zaX,rdV,VT.kind]
   ·by_cases h5:k=5
    ·subst h5;simp[zaX,rdV,VT.kind,rdE]
    ·simp[zaX,rdV,VT.kind,h6,h7,h5]
theorem zzE{dU:List Dat}:∀ (ts:List VT) (a:Int),0≤a→a≤6→rdA dU (zbd ts) ts a=a
 |[],a,_,_=>by simp only[zbd,rdA]
 |t::ts,a,h,h6=>by have h1:=zzD (dU:=dU) t;rw[zbd,zqw,h1,ap (by omega),Int.add_zero,zzE ts a h h6]
end
theorem zkn{dU:List Dat}(h8:∀ D∈dU,D.cons.length≤8)(t:VT):∀ (rs:List (List IT)) (a:Int),0≤a→a≤6→0≤rdE dU rs.flatten t a→(∀ r∈rs,0≤rdE dU r t 0)∧rdE dU rs.flatten t a=a+(rs.map λr=>rdE dU r t 0).sum
 |[],a,h,h6,_=>by simp only[List.flatten_nil,rdE];simp
 |r::rs,a,h,h6,hd=>by
  rw[List.flatten_cons,zqx h8 _ _ _ _ h h6,zkl r t a h h6]at hd ⊢;by_cases hr:rdE dU r t 0<0∨a+rdE dU r t 0>6
  ·rw[zc8 hr]at hd;simp at hd
  ·rw[zfi (by omega) (by omega)]at hd ⊢;rw[ap (by omega)]at hd ⊢;obtain⟨g1,g2⟩:=zkn h8 t rs _ (by omega) (by omega) hd;refine⟨λx hx=>?_,by rw[g2];simp;omega⟩;rcases aS.1 hx with rfl | hx
   ·omega
   ·exact g1 x hx
theorem zdO{dU:List Dat}:∀ (vs:List IT) (ts:List VT) (a:Int),0≤a→vs.length=ts.length→0≤rdA dU vs ts a→(∀ k (h1:k<vs.length) (h2:k<ts.length),0≤rdV dU vs[k] ts[k])∧rdA dU vs ts a=a+(List.zipWith (rdV dU) vs ts).sum
 |[],[],a,h,_,_=>by simp only[rdA];simp
 |[],_::_,_,_,hl,_=>by simp at hl
 |_::_,[],_,_,hl,_=>by simp at hl
 |v::vs,t::ts,a,h,hl,hd=>by
  rw[zqw]at hd ⊢;by_cases hr:rdV dU v t<0∨a+rdV dU v t>6
  ·rw[aA hr]at hd;omega
  ·rw[ap hr]at hd ⊢;obtain⟨g1,g2⟩:=zdO vs ts _ (by omega) (by simpa using hl) hd;refine⟨λk h1 h2=>?_,by rw[g2];simp;omega⟩;cases k with
   |zero=>simp;omega
   |succ k=>simpa using g1 k (by simpa using h1) (by simpa using h2)
def zcx{α:Type}:List (α→Nat)→List α→Nat
 |[],_=>1
 |_::_,[]=>0
 |w::ws,n::ns=>w n*zcx ws ns+zcx (w::ws) ns
def zfK(l:List Nat):Nat:=l.foldr (·+·) 0
@[simp] theorem yat:zfK []=0:=rfl
@[simp] theorem zyV(a:Nat)(l:List Nat):zfK (a::l)=a+zfK l:=rfl
theorem zH0{α:Type}(ws:List (α→Nat))(a:α)(l:List α):zcx ws l≤zcx ws (a::l):=by cases ws <;> simp[zcx]
theorem zyq{α:Type}(w:α→Nat)(ws:List (α→Nat)):∀ l:List α,zcx (w::ws) l≤zfK (l.map w)*zcx ws l
 |[]=>by simp[zcx]
 |a::l=>by have ih:=zyq w ws l;have h1:=zH0 ws a l;simp only[zcx,aD,zyV,aZ];have h2:w a*zcx ws l≤w a*zcx ws (a::l):=bp _ h1;have h3:zfK (l.map w)*zcx ws l≤zfK (l.map w)*zcx ws (a::l):=bp _ h1;omega
theorem zyW{α:Type}{w:α→Nat}{b:Nat}:∀ l:List α,(∀ a∈l,w a≤b)→zfK (l.map w)≤l.length*b
 |[],_=>by simp
 |a::l,h=>by have h1:=h a (by simp);have h2:=zyW l (λx hx=>h x (by simp[hx]));simp only[aD,zyV,List.length_cons,cp];omega
def chs:Nat→Nat→Nat
 |_,0=>1
 |0,_+1=>0
 |n+1,k+1=>chs n k+chs n (k+1)
@[simp] theorem zFg(n:Nat):chs n 0=1:=by cases n <;> rfl
theorem zhg:∀ {n k:Nat},n<k→chs n k=0
 |0,k+1,_=>rfl
 |n+1,k+1,h=>by rw[chs,zhg (by omega),zhg (by omega)]
theorem zi8:∀ (n k:Nat),(k+1)*chs n (k+1)=chs n k*(n-k)
 |0,k=>by simp[chs]
 |n+1,0=>by have:=zi8 n 0;simp only[chs,zFg]at this ⊢;omega
 |n+1,k+1=>by
  have h1:=zi8 n k;have h2:=zi8 n (k+1);simp only[chs];rw[show n+1-(k+1)=n-k by omega];by_cases hk:k+1≤n
  ·obtain⟨m,rfl⟩:∃m,n=k+1+m:=⟨n-(k+1),by omega⟩;rw[show k+1+m-k=m+1 by omega]at h1 ⊢;rw[show k+1+m-(k+1)=m by omega]at h2;grind
  ·rw[zhg (show n<k+1 by omega),zhg (show n<k+1+1 by omega),show n-k=0 by omega];simp
theorem zi7:∀ (n k:Nat),chs n k≤n ^ k
 |n,0=>by simp
 |0,k+1=>by simp[chs]
 |n+1,k+1=>by have h1:=zi7 n k;have h2:=zi7 n (k+1);have h3:n ^ k≤(n+1) ^ k:=di (by omega) k;simp only[chs,Nat.pow_succ]at h2 ⊢;have h4:n ^ k*n≤(n+1) ^ k*n:=au _ h3;rw[ch];omega
mutual
def atV(dU:List Dat):IT→VT→VT→Nat
 |.mk n ks,t,v=>
  if t.kind=6 then atL dU ks t.kids v.kids
  else if t.kind=7 then chs v.kids.length n.toNat
  else if t.kind=5 then zcx (wtL dU ks t) (zfB (zdQ dU t.num.toNat) v)
  else 1
def atL(dU:List Dat):List IT→List VT→List VT→Nat
 |[],_,_=>1
 | i::l,ts,vs=>match ts,vs with
  |t::ts,v::vs=>atV dU i t v*atL dU l ts vs
  |_,_=>1
def wtL(dU:List Dat):List IT→VT→List (VT→Nat)
 |[],_=>[]
 |e::es,t=>wtE dU e t::wtL dU es t
def wtE(dU:List Dat):IT→VT→VT→Nat
 |.mk c ks,t,n=>if n.num=c then atL dU ks ((zbb dU t c).getD []) (pick n.kids ((zdQ dU t.num.toNat).getD c.toNat [])) else 0
end
mutual
theorem zEU(dU:List Dat):∀ (t v:VT),atV dU (zaX t) t v=1
 |.mk k n ks,v=>by
  have:=zvM dU ks v.kids;unfold zaX;rw[atV];by_cases h6:k=6
  ·simp[h6,VT.kind,VT.kids];simpa[VT.kids]using this
  ·by_cases h7:k=7
   ·simp[h6,h7,VT.kind,VT.kids]
   ·simp only[h6,VT.kind,aH,h7];split <;> simp[wtL,zcx]
theorem zvM(dU:List Dat):∀ (ts vs:List VT),atL dU (zbd ts) ts vs=1
 |[],vs=>by simp[zbd,atL]
 |t::ts,[]=>by simp[zbd,atL]
 |t::ts,v::vs=>by simp[zbd,atL,zEU dU t v,zvM dU ts vs]
end
@[simp] theorem zY3(k:AV→Prop):zaG [] k=k (.tup []):=by simp[zaG]
theorem zJr{n:Nat}{H2 J H':zaa}{K:Kt}(he:H'=H2++J)(hn:n≤H2.length)(hs:HSc H2)(h:K (.tup []) H2):Out n K (.tup []) H':=by subst he;exact⟨.tup [],H2,J,rfl,hn,hs,.tup trivial,h⟩
def pw(H:zaa)(io iv:Nat)(l:List VT):zaa:=(H.set iv (.vec zFH 3 l.length (VT.css l).flatten)).set io (.cells [.ov iv l.length])
section
variable {H J:zaa} {io iv ir is:Nat} {rs:List (List Bool)} {l l':List VT}
@[simp] theorem zZ6:(pw H io iv l).length=H.length:=by simp[pw]
end
theorem zkg:∀ {a b c d:List AV},plain a=some c→plain b=some d→plain (a++b)=some (c++d)
 |[],b,c,d,h,h'=>by simp[plain]at h;subst h;simpa using h'
 |x::a,b,c,d,h,h'=>by
  simp only[plain]at h;split at h
  ·rename_i p q hp hq;cases h;simp only[List.cons_append,plain];rw[hp,zkg hq h']
  ·cases h
section
variable (t0 t1 t12 t13:AV) (H:zaa) (K:Kt) (Kb4:Lt)
def zQq(_:Nat):List Bool:=[]
noncomputable def zQr:=Tryz.f21.body.getD .skip
def zBG:=zaw t0 H λt2 H=>zaw t1 H λt3 H=>zaf 0 t2 λt5=>zae false 1 t5 H λt6=>zaf 0 t3 λt7=>zae false 1 t7 H λt8=>zad .eql true t6 t8 λt9=>zac t9 true H (λK'=>zaf 1 t2 (K' · H)) λt11 H=>zac t9 true H (λK'=>zae false 1 t11 H (K' · H)) λt12 H=>zac t9 true H (λK'=>zaf 1 t3 (K' · H)) λt13 H=>zac t9 true H (λK'=>zae false 1 t13 H (K' · H)) λt14 H=>zac t9 true H (λK'=>ACalls tP zjT [t12,t14] H K') λt15 H=>zak t9 t15 (.bool false) λt16=>zac t16 true H (λK'=>zaf 2 t2 (K' · H)) λt18 H=>zac t16 true H (λK'=>zae false 1 t18 H (K' · H)) λt19 H=>zac t16 true H (λK'=>zaf 2 t3 (K' · H)) λt20 H=>zac t16 true H (λK'=>zae false 1 t20 H (K' · H)) λt21 H=>zac t16 true H (λK'=>ACalls tP zjT [t19,t21] H K') λt22 H=>zak t16 t22 (.bool false) λt23=>K t23 H
def znA:Nat→List Bool|4=>rl false [0,2,10,2,12]|_=>[]
noncomputable def zuj:=Tryz.f55.body.getD .skip
noncomputable def zTR:=Tryz.f55.results.toList
def znB:=t0::t1::ux 10 (t12::t13::ux 12 [])
def zTP:=znA 4
noncomputable def zTN:=zas [1,1,0,1,0,0] zuj
def zTM:=zat tP znA [1,1,0,1,0] zuj (zaB tP zTR K)
def zC4:=ALoop tP zTN (zTM K) (znB t0 t1 t12 t13) H
def zui:=zad .lss false t13 t12 λt14=>zag t14 (apm H t0 λt16=>apm H t13 λt17=>apu H (zaj 1 t16 t17) λt18=>apu H (zal false 1 t18 H) λt19=>apm H t1 λt20=>apm H t13 λt21=>apu H (zaj 1 t20 t21) λt22=>apu H (zal false 1 t22 H) λt23=>apu H (zad .neq false t19 t23) λt24=>zag t24 (K (.bool false) H) (zad .add false t13 (.int .i64 1) λt25=>Kb4 (znB t0 t1 t12 t25) H)) (K (.bool true) H)
def zC3:=zai 1 t0 λt7=>zai 1 t1 λt9=>zad .neq false t7 t9 λt10=>zag t10 (K (.bool false) H) (zai 1 t0 λt12=>zC4 t0 t1 t12 (.int .i64 0) H K)
variable {t0 t1 t12 t13} {H} {K} {Kb4}
theorem zQs(h:HSc H→zBG t0 t1 H K):ACalls tP zhL [t0,t1] H K:=
 acb zQq Tryz.func21 zQr h
theorem zTO:Lo1 (λt13=>znB t0 t1 t12 t13) (λt13 H Kb4=>zui t0 t1 t12 t13 H K Kb4) t13 H (zC4 t0 t1 t12 t13 H K):=lq1 znA zTP
theorem zTQ(h:HSc H→zC3 t0 t1 H K):ACalls tP zjT [t0,t1] H K:=
 acb znA Tryz.func55 zuj h
end
section
open Go.RowKit
theorem zHn(rs:List (List Bool))(b:Nat):∀v:VT,v.nodes≤b→∀x∈zfB rs v,x.nodes≤b:=by
 intro v;induction hm:v.nodes using Nat.strongRecOn generalizing v with
 |_ m ih=>
  intro hb x hx;obtain⟨k,n,ks⟩:=v;have key:∀(l:List VT) (bs:List Bool),(∀y∈l,y.nodes<m)→∀x∈zd5 rs l bs,x.nodes≤b:=by
   intro l;induction l with
   |nil=>intro bs _ x hx;simp[zd5]at hx
   |cons y l ihl=>
    intro bs hy x hx
    match bs with
    |[]=>simp[zd5]at hx
    |c::bs=>
     simp only[zd5,aX]at hx;rcases hx with hx|hx
     ·split at hx
      ·have h1:=hy y (by simp);exact ih _ h1 y rfl (by omega) x hx
      ·simp at hx
     ·exact ihl bs (λz hz=>hy z (by simp[hz])) x hx
  simp only[zfB,aS]at hx;rcases hx with rfl|hx
  ·omega
  ·exact key ks _ (λy hy=>by have:=zje (k:=k) (n:=n) y hy;omega) x hx
end
theorem zkk{dU:List Dat}:∀ (l:List IT) (ts:List VT) (a:Int),0≤a→0≤rdA dU l ts a→a≤rdA dU l ts a
 |[],ts,a,_,_=>by rw[rdA];exact Int.le_refl _
 |i::l,[],a,_,h=>by simp[rdA]at h
 |i::l,t::ts,a,ha,h=>by
  simp only[rdA]at h ⊢;by_cases hc:rdV dU i t<0∨a+rdV dU i t>6
  ·rw[aA hc]at h;omega
  ·rw[ap hc]at h ⊢;have:=zkk l ts _ (by omega) h;omega
mutual
theorem zvN{dU:List Dat}{N:Nat}(hN:1≤N):∀(i:IT) (t v:VT),v.nodes≤N→0≤rdV dU i t→atV dU i t v≤N ^ (rdV dU i t).toNat
 |.mk n ks,t,v,hv,hd=>by
  have lE:∀x∈v.kids,x.nodes≤N:=by obtain⟨a,b,c⟩:=v;intro x hx;simp only[VT.kids]at hx;have:=zje (k:=a) (n:=b) x hx;omega
  rw[rdV]at hd ⊢;rw[atV];by_cases h6:t.kind=6
  ·simp only[h6,aV]at hd ⊢;by_cases hn:n=0
   ·by_cases hl:t.kids.length=ks.length
    ·simp only[hn,hl,aV]at hd ⊢;have:=zoD hN ks t.kids v.kids 0 (by omega) lE hd;simpa using this
    ·simp[hn,hl]at hd
   ·simp[hn]at hd
  ·by_cases h7:t.kind=7
   ·simp only[h6,h7,aH,aV]at hd ⊢;by_cases hc:0≤n∧n≤6∧ks.length=0
    ·simp only[hc,and_self,aV]at hd ⊢;simp;refine ar (zi7 _ _) (di ?_ _);obtain⟨a,b,c⟩:=v;have:=VT.len_le c;simp only[VT.kids,VT.nodes]at hv ⊢;omega
    ·rw[ap hc]at hd;omega
   ·by_cases h5:t.kind=5
    ·simp only[h6,h7,h5,aH,aV]at hd ⊢;by_cases hc:n=0∧ks.length≤6
     ·simp only[hc,and_self,aV]at hd ⊢;have gd:=zxU (zdQ dU t.num.toNat) v;have:=zyr hN ks t (zfB (zdQ dU t.num.toNat) v) 0 (by omega) (by omega) (zHn _ N v hv) hd;simpa using this
     ·rw[ap hc]at hd;omega
    ·simp only[h6,h7,h5,aH]at hd ⊢;exact dz hN
theorem zoD{dU:List Dat}{N:Nat}(hN:1≤N):∀(l:List IT) (ts vs:List VT) (a:Int),0≤a→(∀x∈vs,x.nodes≤N)→0≤rdA dU l ts a→atL dU l ts vs≤N ^ (rdA dU l ts a-a).toNat
 |[],ts,vs,a,_,_,_=>by rw[atL];exact dz hN
 |i::l,[],vs,a,_,_,_=>by simp only[atL];exact dz hN
 |i::l,t::ts,[],a,_,_,_=>by simp only[atL];exact dz hN
 |i::l,t::ts,v::vs,a,ha,hv,hd=>by
  simp only[rdA]at hd ⊢;by_cases hc:rdV dU i t<0∨a+rdV dU i t>6
  ·rw[aA hc]at hd;omega
  ·rw[ap hc]at hd ⊢;have h1:=zvN (dU:=dU) hN i t v (hv v (by simp)) (by omega);have h2:=zoD hN l ts vs (a+rdV dU i t) (by omega) (λx hx=>hv x (by simp[hx])) hd;have iT:=(zkk l ts (a+rdV dU i t) (by omega) hd);simp only[atL];refine ar (bx h1 h2) ?_;rw[←dB];exact a8 hN (by omega)
theorem zyr{dU:List Dat}{N:Nat}(hN:1≤N):∀(es:List IT) (t:VT) (nodes:List VT) (a:Int),0≤a→nodes.length≤N→(∀x∈nodes,x.nodes≤N)→0≤rdE dU es t a→zcx (wtL dU es t) nodes≤N ^ (rdE dU es t a-a).toNat
 |[],t,nodes,a,_,_,_,_=>by simp only[wtL,zcx];exact dz hN
 |.mk c ks::es,t,nodes,a,ha,hl,hv,hd=>by
  rw[zex]at hd ⊢;by_cases hc:c<0∨8≤c
  ·rw[aA hc]at hd;omega
  ·rw[ap hc]at hd ⊢;cases hp:zbb dU t c with
   |none=>rw[hp]at hd;simp at hd
   |some ps=>
    rw[hp]at hd;simp only at hd ⊢;by_cases d8:ps.length=ks.length
    ·rw[aA d8]at hd ⊢;by_cases hx:rdA dU ks ps 0<0∨a+1+rdA dU ks ps 0>6
     ·rw[aA hx]at hd;omega
     ·rw[ap hx]at hd ⊢;have h2:=zyr hN es t nodes (a+(1+rdA dU ks ps 0)) (by omega) hl hv hd;have hw:∀x∈nodes,wtE dU (.mk c ks) t x≤N ^ (rdA dU ks ps 0).toNat:=by
       intro x hxm;rw[wtE];split
       ·rw[hp];have hpk:∀ y∈pick x.kids ((zdQ dU t.num.toNat).getD c.toNat []),y.nodes≤N:=by intro y hy;have h3:=hv x hxm;obtain⟨p,q,r⟩:=x;have ic:y∈r:=zib hy;have:=zje (k:=p) (n:=q) y ic;omega
        have:=zoD (dU:=dU) hN ks ps (pick x.kids ((zdQ dU t.num.toNat).getD c.toNat [])) 0 (by omega) hpk (by omega);simpa using this
       ·exact bu _
      have h3:=zyq (wtE dU (.mk c ks) t) (wtL dU es t) nodes;have h4:=zyW nodes hw;have iT:rdE dU es t (a+(1+rdA dU ks ps 0))=-1∨(a+(1+rdA dU ks ps 0))+es.length≤rdE dU es t (a+(1+rdA dU ks ps 0)):=zkm es t _ (by omega);rw[wtL];refine ar h3 (ar (bx (ar h4 (au _ hl)) h2) ?_);rw[show N*N ^ (rdA dU ks ps 0).toNat=N ^ ((rdA dU ks ps 0).toNat+1) by rw[Nat.pow_succ,ba],←dB];exact a8 hN (by omega)
    ·rw[ap d8]at hd;omega
end
def zaI:IT→Int
 |.mk n _=>n
def bef(e i:IT):IT:=.mk 0 (e::zaF i)
def fct:Nat→Nat
 |0=>1
 |n+1=>(n+1)*fct n
def pcf(a b k:Nat):Nat:=if max a b≤k then fct k / (fct (k-a)*fct (k-b)*fct (a+b-k)) else 0
def za4(a b:Nat):List (IT×Nat):=(List.range (a+b+1)).map λ(k:Nat)=>(.mk (k:Int) [],pcf a b k)
def zdA(out:List (List IT×Nat))(ws:List (IT×Nat)):List (List IT×Nat):=ws.flatMap λw=>out.map λr=>(r.1++[w.1],r.2*w.2)
mutual
def zbE(dU:List Dat):Nat→VT→IT→IT→List (IT × Nat)
 |0,_,_,_=>[]
 | f+1,t,i,j=>if t.kind=6 then zbU [] ((zct dU f t.kids (zaF i) (zaF j)).map λr=>(.mk 0 r.1,r.2))
  else if t.kind=7 then zbU [] (za4 (zaI i).toNat (zaI j).toNat)
  else if t.kind=5 then zbU [] (zbg dU f t (zaF i) (zaF j)) else [(.mk 0 [],1)]
def zct(dU:List Dat):Nat→List VT→List IT→List IT→List (List IT × Nat)
 |0,_,_,_=>[]
 |f+1,ts,l,m=>(List.range ts.length).foldl (λout k=>zdA out (zbE dU f (ts.getD k tz) (l.getD k d0) (m.getD k d0))) [([],1)]
def zbg(dU:List Dat):Nat→VT→List IT→List IT→List (IT × Nat)
 |0,_,_,_=>[]
 |f+1,t,[],m=>[(.mk 0 m,1)]
 |f+1,t,a::l,[]=>[(.mk 0 (a::l),1)]
 |f+1,t,a::l,b::m=>
  if zaI a≠zaI b then zbU (zbU [] ((zbg dU f t l (b::m)).map λw=>(bef a w.1,w.2))) ((zbg dU f t (a::l) m).map λw=>(bef b w.1,w.2))
  else zbU (zbU (zbU [] ((zbg dU f t l (b::m)).map λw=>(bef a w.1,w.2))) ((zbg dU f t (a::l) m).map λw=>(bef b w.1,w.2)))
   ((zct dU f ((zbb dU t (zaI a)).getD []) (zaF a) (zaF b)).flatMap λr=>(zbg dU f t l m).map λw=>(bef (.mk (zaI a) r.1) w.1,r.2*w.2))
end
def zbz(g:List IT→Nat)(s:List (List IT×Nat)):Nat:=(s.map λr=>r.2*g r.1).foldr (·+·) 0
@[simp] theorem yau(g:List IT→Nat):zbz g []=0:=rfl
@[simp] theorem zin(g:List IT→Nat)(r:List IT×Nat)(s:List (List IT×Nat)):zbz g (r::s)=r.2*g r.1+zbz g s:=rfl
theorem zim(g:List IT→Nat):∀ a b,zbz g (a++b)=zbz g a+zbz g b
 |[],b=>by simp
 |p::a,b=>by simp[zim g a b];omega
theorem zku{β:Type}(f:IT→Nat)(h:β→IT × Nat):∀ l:List β,zaM f (l.map h)=(l.map λx=>(h x).2*f (h x).1).foldr (·+·) 0
 |[]=>rfl
 |x::l=>by simp[zku f h l]
theorem zkv(f g:IT→Nat)(h:IT→IT)(c:Nat)(he:∀ x,f (h x)=c*g x):∀ l:List (IT × Nat),zaM f (l.map λw=>(h w.1,w.2))=c*zaM g l
 |[]=>by simp
 |w::l=>by rw[aD,zc3,zc3,zkv f g h c he l,he,ch];simp only[ba,Nat.mul_left_comm,cd]
theorem zHH(g:List IT→Nat)(g':List IT→Nat)(u:IT→Nat)(ws:List (IT×Nat))(out:List (List IT×Nat))(h:∀r∈out,∀w∈ws,g (r.1++[w.1])=g' r.1*u w.1):zbz g (zdA out ws)=zbz g' out*zaM u ws:=by
 unfold zdA;induction ws with
 |nil=>simp
 |cons w ws ih=>
  rw[bf,zim,ih (λr hr x hx=>h r hr x (by simp[hx])),zc3,ch];congr 1;have:∀out:List (List IT×Nat),(∀r∈out,g (r.1++[w.1])=g' r.1*u w.1)→zbz g (out.map λr=>(r.1++[w.1],r.2*w.2))=zbz g' out*(w.2*u w.1):=by
   intro out ho;induction out with
   |nil=>simp
   |cons r out ih=>rw[List.map_cons,zin,zin,ih (λx hx=>ho x (by simp[hx])),ho r (by simp),Nat.add_mul];grind
  exact this out (λr hr=>h r hr w (by simp))
theorem zyd{out:List (List IT×Nat)}{ws:List (IT×Nat)}{x:List IT×Nat}(h:x∈zdA out ws):∃r∈out,∃w∈ws,x=(r.1++[w.1],r.2*w.2):=by unfold zdA at h;obtain⟨w,hw,h⟩:=bI.1 h;obtain⟨r,hr,rfl⟩:=aC.1 h;exact⟨r,hr,w,hw,rfl⟩
def zcn(dU:List Dat)(f:Nat)(ts:List VT)(l m:List IT)(k:Nat):List (List IT×Nat):=(List.range k).foldl (λout k=>zdA out (zbE dU f (ts.getD k tz) (l.getD k d0) (m.getD k d0))) [([],1)]
theorem zqA(dU:List Dat)(f:Nat)(ts:List VT)(l m:List IT):zcn dU f ts l m 0=[([],1)]:=rfl
theorem zie(dU:List Dat)(f:Nat)(ts:List VT)(l m:List IT)(k:Nat):zcn dU f ts l m (k+1)=zdA (zcn dU f ts l m k) (zbE dU f (ts.getD k tz) (l.getD k d0) (m.getD k d0)):=by rw[zcn,bO,List.foldl_append];rfl
theorem zjj(dU:List Dat)(f:Nat)(ts:List VT)(l m:List IT):zct dU (f+1) ts l m=zcn dU f ts l m ts.length:=by rw[zct];rfl
theorem zx8{dU:List Dat}{f:Nat}{ts:List VT}{l m:List IT}:∀k,∀r∈zcn dU f ts l m k,r.1.length=k:=by
 intro k;induction k with
 |zero=>intro r hr;simp[zqA]at hr;subst hr;rfl
 |succ k ih=>intro r hr;rw[zie]at hr;obtain⟨q,hq,w,_,rfl⟩:=zyd hr;simp[ih q hq]
def zqT(K:Nat)(f:Nat→Nat):Nat:=((List.range K).map f).foldr (·+·) 0
section
variable (t0 t1 t2 t3 t4 t5 t6 t7 t8 t9 t10:AV) (H:zaa) (K:Kt) (Kb1 Kb2 Kb4 Kb6:Lt)
def zSv(_:Nat):List Bool:=[]
noncomputable def zSw:=Tryz.f36.body.getD .skip
def zCz:=zaz [(.bool false),.snil,.snil] H λt2 H=>zad .lss false t0 (.int .i64 0) λt4=>zag t4 (zad .add false t0 (.int .i64 1) λt6=>aUn .neg t6 λt7=>za9 .u64 t7 λt8=>zad .add false t8 (.int .u64 1) λt9=>ACalls tP zhZ [t9] H λt10 H=>zau 1 [(.int .u32 0)] 1 [(0,(.int .u32 1))] λt11=>ACalls tP zgr [(.bool true),t10,t11] H λt12 H=>zao 3 t2 t12 H λH=>zae true 3 t2 H λr0=>K r0 H) (za9 .u64 t0 λt14=>ACalls tP zhZ [t14] H λt15 H=>zau 1 [(.int .u32 0)] 1 [(0,(.int .u32 1))] λt16=>ACalls tP zgr [(.bool false),t15,t16] H λt17 H=>zao 3 t2 t17 H λH=>zae true 3 t2 H λr0=>K r0 H)
def znK:Nat→List Bool|2=>rl false [0,1,2,1,11]|_=>[]
noncomputable def zut:=Tryz.f71.body.getD .skip
noncomputable def zUB:=Tryz.f71.results.toList
def znL:=t0::ux 2 (t3::ux 11 [])
def zUz:=znK 2
noncomputable def zUx:=zas [1,1,0,0,0] zut
def zUw:=zat tP znK [1,1,0,0] zut (zaB tP zUB K)
def znM:=ALoop tP zUx (zUw K) (znL t0 t3) H
def zus:=zad .gtr false t0 (.int .u64 0) λt5=>zag t5 (zad .rem false t0 (.int .u64 1000000000) λt8=>za9 .u32 t8 λt9=>zau 1 [(.int .u32 0)] 1 [(0,t9)] λt10=>zax zbo 1 4 t3 t10 H λt11 H=>zad .quo false t0 (.int .u64 1000000000) λt13=>Kb2 (znL t13 t11) H) (K t3 H)
def zDg:=znM t0 .snil H K
def zkR:Nat→List Bool|6=>rl false [0,2,3,1,35]|_=>[]
noncomputable def zrq:=Tryz.f105.body.getD .skip
noncomputable def zJ2:=Tryz.f105.results.toList
def zkS:=t0::t1::ux 3 (t5::ux 35 [])
def zJ0:=zkR 6
noncomputable def zJY:=zas [1,1,0,1,0,0] zrq
def zJX:=zat tP zkR [1,1,0,1,0] zrq (zaB tP zJ2 K)
def zzH:=ALoop tP zJY (zJX K) (zkS t0 t1 t5) H
def zis:=zad .geq false t5 (.int .i64 0) λt20=>zag t20 (apm H t0 λt23=>apm H t5 λt24=>apu H (zaj 1 t23 t24) λt25=>apu H (zal false 1 t25 H) λt26=>apm H t1 λt27=>apm H t5 λt28=>apu H (zaj 1 t27 t28) λt29=>apu H (zal false 1 t29 H) λt30=>apu H (zad .lss false t26 t30) λt31=>zag t31 (K (.int .i64 (-1)) H) (apm H t0 λt32=>apm H t5 λt33=>apu H (zaj 1 t32 t33) λt34=>apu H (zal false 1 t34 H) λt35=>apm H t1 λt36=>apm H t5 λt37=>apu H (zaj 1 t36 t37) λt38=>apu H (zal false 1 t38 H) λt39=>apu H (zad .gtr false t35 t39) λt40=>zag t40 (K (.int .i64 1) H) (zad .sub false t5 (.int .i64 1) λt22=>Kb6 (zkS t0 t1 t22) H))) (K (.int .i64 0) H)
def zkQ:=zai 1 t0 λt7=>zai 1 t1 λt9=>zad .neq false t7 t9 λt10=>zag t10 (zai 1 t0 λt12=>zai 1 t1 λt14=>zad .lss false t12 t14 λt15=>zag t15 (K (.int .i64 (-1)) H) (K (.int .i64 1) H)) (zai 1 t0 λt17=>zad .sub false t17 (.int .i64 1) λt18=>zzH t0 t1 t18 H K)
def zkT:Nat→List Bool|4=>rl false [0,1,2,3,30]|_=>[]
noncomputable def zrr:=Tryz.f107.body.getD .skip
noncomputable def zJ9:=Tryz.f107.results.toList
def zkV:=t0::ux 2 (t3::t4::t5::ux 30 [])
def zJ7:=zkT 4
noncomputable def zJ5:=zas [1,1,1,0,1,0,0] zrr
def zJ4:=zat tP zkT [1,1,1,0,1,0] zrr (zaB tP zJ9 K)
def zkX:=ALoop tP zJ5 (zJ4 K) (zkV t0 t3 t4 t5) H
def zkW:=ACalls tP zgk [t3] H λt35 H=>K t35 H
def zkU:=zai 1 t0 λt8=>zad .lss false t5 t8 λt9=>zag t9 (zaj 1 t0 t5 λt15=>zae false 1 t15 H λt16=>za9 .u64 t16 λt17=>zad .add false t4 t17 λt18=>zad .rem false t18 (.int .u64 1000000000) λt21=>za9 .u32 t21 λt22=>zau 1 [(.int .u32 0)] 1 [(0,t22)] λt23=>zax zbo 1 4 t3 t23 H λt24 H=>zad .quo false t18 (.int .u64 1000000000) λt26=>zad .add false t5 (.int .i64 1) λt11=>Kb4 (zkV t0 t24 t26 t11) H) (zad .gtr false t4 (.int .u64 0) λt28=>zag t28 (za9 .u32 t4 λt31=>zau 1 [(.int .u32 0)] 1 [(0,t31)] λt32=>zax zbo 1 4 t3 t32 H λt33 H=>zkW t33 H K) (zkW t3 H K))
def zzI:=zkX t0 .snil (.int .u64 0) (.int .i64 0) H K
def zkY:Nat→List Bool|1=>rl false [0,2,17]|_=>[]
noncomputable def zrt:=Tryz.f108.body.getD .skip
noncomputable def zKf:=Tryz.f108.results.toList
def zkZ:=t0::t1::ux 17 []
def zKd:=zkY 1
noncomputable def zKb:=zas [1,0,0,0] zrt
def zKa:=zat tP zkY [1,0,0] zrt (zaB tP zKf K)
def zzL:=ALoop tP zKb (zKa K) (zkZ t0 t1) H
def zrs:=zai 1 t1 λt8=>zad .gtr false t8 (.int .i64 0) λt9=>zag t9 (ACalls tP zhF [t0,t1] H λt13 H=>zay t13 0 λt14=>zay t13 1 λt15=>Kb1 (zkZ t1 t15) H) (K t0 H)
def zzK:=zzL t0 t1 H K
def zk0:Nat→List Bool|2=>rl false [0,1,2,1,18]|_=>[]
noncomputable def zrw:=Tryz.f110.body.getD .skip
noncomputable def zKs:=Tryz.f110.results.toList
def zk2:=t0::ux 2 (t3::ux 18 [])
def zKq:=zk0 2
noncomputable def zKo:=zas [1,1,0,0,0] zrw
def zKn:=zat tP zk0 [1,1,0,0] zrw (zaB tP zKs K)
def zzP:=ALoop tP zKo (zKn K) (zk2 t0 t3) H
def zk1:=zad .gtr false t3 (.int .i64 0) λt7=>zac t7 true H (λK'=>K' t0 H) λt9 H=>zac t7 true H (λK'=>K' t3 H) λt10 H=>zac t7 true H (λK'=>zad .sub false t10 (.int .i64 1) (K' · H)) λt11 H=>zac t7 true H (λK'=>zaj 1 t9 t11 (K' · H)) λt12 H=>zac t7 true H (λK'=>zae false 1 t12 H (K' · H)) λt13 H=>zac t7 true H (λK'=>zad .eql false t13 (.int .u32 0) (K' · H)) λt14 H=>zak t7 t14 (.bool false) λt15=>zag t15 (zad .sub false t3 (.int .i64 1) λt17=>Kb2 (zk2 t0 t17) H) (zaS 1 1 t0 none (some t3) λt20=>zax zbo 1 4 .snil t20 H λt21 H=>K t21 H)
def zzO:=zai 1 t0 λt5=>zzP t0 t5 H K
def zlO:Nat→List Bool|4=>rl false [0,2,4,3,31]|_=>[]
noncomputable def zsh:=Tryz.f150.body.getD .skip
noncomputable def zM3:=Tryz.f150.results.toList
def zlP:=t0::t1::ux 4 (t6::t7::t8::ux 31 [])
def zM1:=zlO 4
noncomputable def zMZ:=zas [1,1,1,0,1,0,0] zsh
def zMY:=zat tP zlO [1,1,1,0,1,0] zsh (zaB tP zM3 K)
def zAA:=ALoop tP zMZ (zMY K) (zlP t0 t1 t6 t7 t8) H
def zsg:=zad .geq false t8 (.int .i64 0) λt16=>zag t16 (zad .mul false t7 (.int .u64 1000000000) λt20=>zaj 1 t0 t8 λt23=>zae false 1 t23 H λt24=>za9 .u64 t24 λt25=>zad .add false t20 t25 λt26=>zad .quo false t26 t1 λt31=>za9 .u32 t31 λt32=>zaj 1 t6 t8 λt33=>zao 1 t33 t32 H λH=>zad .rem false t26 t1 λt36=>zad .sub false t8 (.int .i64 1) λt18=>Kb4 (zlP t0 t1 t6 t36 t18) H) (ACalls tP zgk [t6] H λt38 H=>zaG [t38,t7] (K · H))
def zAz:=zai 1 t0 λt10=>zbu 4 [(.int .u32 0)] t10 t10 H λt11 H=>zai 1 t0 λt13=>zad .sub false t13 (.int .i64 1) λt14=>zAA t0 t1 t11 (.int .u64 0) t14 H K
def zTS(_:Nat):List Bool:=[]
noncomputable def zTT:=Tryz.f57.body.getD .skip
def znC:=zar [(.bool false),.snil,.snil] [(0,1),(1,1),(2,1)] [(0,t0),(1,t1),(2,t2)] λt49=>zao 3 t6 t49 H λH=>zae true 3 t6 H λr0=>K r0 H
def zC6:=zaz [(.bool false),.snil,.snil] H λt6 H=>ACalls tP zjk [t1] H λt9 H=>ACalls tP zjk [t2] H λt11 H=>zai 1 t9 λt13=>zad .eql false t13 (.int .i64 0) λt14=>zac t14 false H (λK'=>K' t11 H) λt16 H=>zac t14 false H (λK'=>zai 1 t16 (K' · H)) λt17 H=>zac t14 false H (λK'=>zad .eql false t17 (.int .i64 0) (K' · H)) λt18 H=>zak t14 (.bool true) t18 λt19=>zag t19 (zau 1 [(.int .u32 0)] 1 [(0,(.int .u32 1))] λt20=>zar [(.bool false),.snil,.snil] [(0,1),(1,1),(2,1)] [(2,t20)] λt21=>zao 3 t6 t21 H λH=>zae true 3 t6 H λr0=>K r0 H) (ACalls tP zpr [t9,t11] H λt24 H=>zai 1 t24 λt26=>zad .neq false t26 (.int .i64 1) λt27=>zac t27 false H (λK'=>K' t24 H) λt29 H=>zac t27 false H (λK'=>zaj 1 t29 (.int .i64 0) (K' · H)) λt30 H=>zac t27 false H (λK'=>zae false 1 t30 H (K' · H)) λt31 H=>zac t27 false H (λK'=>zad .neq false t31 (.int .u32 1) (K' · H)) λt32 H=>zak t27 (.bool true) t32 λt33=>zag t33 (ACalls tP zhF [t9,t24] H λt37 H=>zay t37 0 λt38=>zay t37 1 λt39=>ACalls tP zhF [t11,t24] H λt43 H=>zay t43 0 λt44=>zay t43 1 λt45=>znC t0 t38 t44 t6 H K) (znC t0 t9 t11 t6 H K))
def zzN:Nat→List Bool|9=>rl false [0,2,6,3,79]|13=>rl false [0,2,6,4,78]|16=>rl false [0,2,6,4,78]|_=>[]
noncomputable def zru:=Tryz.f109.body.getD .skip
noncomputable def zKm:=Tryz.f109.results.toList
def zKj:=t0::t1::ux 6 (t8::t9::t10::ux 79 [])
noncomputable def zKi:=zas [1,1,1,1,1,0,1,0,0] zru
def zKh:=zat tP zzN [1,1,1,1,1,0,1,0] zru (zaB tP zKm K)
def zKk:=ALoop tP zKi (zKh K) (zKj t0 t1 t8 t9 t10) H
def zzM:=ACalls tP zpq [t0,t1] H λt14 H=>zad .lss false t14 (.int .i64 0) λt15=>zag t15 (ACalls tP zgk [t0] H λt17 H=>zaG [.snil,t17] (K · H)) (zai 1 t1 λt19=>zad .eql false t19 (.int .i64 1) λt20=>zag t20 (zaj 1 t1 (.int .i64 0) λt24=>zae false 1 t24 H λt25=>za9 .u64 t25 λt26=>ACalls tP zpH [t0,t26] H λt27 H=>zay t27 0 λt28=>zay t27 1 λt29=>ACalls tP zhZ [t29] H λt32 H=>zaG [t28,t32] (K · H)) (zai 1 t0 λt34=>zbu 4 [(.int .u32 0)] t34 t34 H λt35 H=>zai 1 t0 λt37=>zad .sub false t37 (.int .i64 1) λt38=>zKk t0 t1 t35 .snil t38 H K))
variable {t0 t1 t2 t3 t4 t5 t6 t7 t8 t9 t10} {H} {K} {Kb1 Kb2 Kb4 Kb6}
theorem zSx(h:HSc H→zCz t0 H K):ACalls tP zjP [t0] H K:=
 acb zSv Tryz.func36 zSw h
theorem zUy:Lo2 (λt0 t3=>znL t0 t3) (λt0 t3 H Kb2=>zus t0 t3 H K Kb2) t0 t3 H (znM t0 t3 H K):=lq2 znK zUz
theorem zUA(h:HSc H→zDg t0 H K):ACalls tP zhZ [t0] H K:=
 acb znK Tryz.func71 zut h
theorem zJZ:Lo1 (λt5=>zkS t0 t1 t5) (λt5 H Kb6=>zis t0 t1 t5 H K Kb6) t5 H (zzH t0 t1 t5 H K):=lq1 zkR zJ0
theorem zJ1(h:HSc H→zkQ t0 t1 H K):ACalls tP zpq [t0,t1] H K:=
 acb zkR Tryz.func105 zrq h
theorem zJ6:Lo3 (λt3 t4 t5=>zkV t0 t3 t4 t5) (λt3 t4 t5 H Kb4=>zkU t0 t3 t4 t5 H K Kb4) t3 t4 t5 H (zkX t0 t3 t4 t5 H K):=lq3 zkT zJ7
theorem zJ8(h:HSc H→zzI t0 H K):ACalls tP zjk [t0] H K:=
 acb zkT Tryz.func107 zrr h
theorem zKc:Lo2 (λt0 t1=>zkZ t0 t1) (λt0 t1 H Kb1=>zrs t0 t1 H K Kb1) t0 t1 H (zzL t0 t1 H K):=lq2 zkY zKd
theorem zKe(h:HSc H→zzK t0 t1 H K):ACalls tP zpr [t0,t1] H K:=
 acb zkY Tryz.func108 zrt h
theorem zKp:Lo1 (λt3=>zk2 t0 t3) (λt3 H Kb2=>zk1 t0 t3 H K Kb2) t3 H (zzP t0 t3 H K):=lq1 zk0 zKq
theorem zKr(h:HSc H→zzO t0 H K):ACalls tP zgk [t0] H K:=
 acb zk0 Tryz.func110 zrw h
theorem zM0:Lo2 (λt7 t8=>zlP t0 t1 t6 t7 t8) (λt7 t8 H Kb4=>zsg t0 t1 t6 t7 t8 H K Kb4) t7 t8 H (zAA t0 t1 t6 t7 t8 H K):=lq2 zlO zM1
theorem zM2(h:HSc H→zAz t0 t1 H K):ACalls tP zpH [t0,t1] H K:=
 acb zlO Tryz.func150 zsh h
theorem zTU(h:HSc H→zC6 t0 t1 t2 H K):ACalls tP zgr [t0,t1,t2] H K:=
 acb zTS Tryz.func57 zTT h
theorem zKl(h:HSc H→zzM t0 t1 H K):ACalls tP zhF [t0,t1] H K:=
 acb zzN Tryz.func109 zru h
end
section
open Go.RowKit
def zan(l:List Nat):List (List AV):=l.map λ(n:Nat)=>[AV.int .u32 (n:Int)]
@[simp] theorem yaz(l:List Nat):(zan l).length=l.length:=by simp[zan]
theorem zzh(l:List Nat)(n:Nat):(zan l).take n=zan (l.take n):=by simp[zan,bM]
theorem yay{l:List Nat}{i:Nat}(h:i<l.length):(zan l)[i]?.getD []=[.int .u32 ((l[i]:Nat):Int)]:=by simp[zan,h]
@[simp] theorem yax{l:List Nat}{i:Nat}(h:i<(zan l).length):(zan l)[i]=[.int .u32 (((l[i]'(by simpa using h)):Nat):Int)]:=by simp[zan]
theorem zeb(l:List Nat):∀c∈zan l,c.length=1:=by intro c hc;simp only[zan,aC]at hc;obtain⟨n,_,rfl⟩:=hc;rfl
theorem zyH{L:List Nat}{n:Nat}(hn:0<n)(h:n≤L.length)(h0:L[n-1]=0):zbF (L.take n)=zbF (L.take (n-1)):=by
 obtain⟨m,rfl⟩:∃m,n=m+1:=⟨n-1,by omega⟩;simp only[cK]at h0 ⊢;rw[af (by omega),h0];generalize L.take m=A;induction A with
 |nil=>simp[zbF]
 |cons a A ih=>rw[List.cons_append,zbF,zbF,ih]
theorem zyF{L:List Nat}{n:Nat}(hn:0<n)(h:n≤L.length)(h0:L[n-1]≠0):zbF (L.take n)=L.take n:=by
 obtain⟨m,rfl⟩:∃m,n=m+1:=⟨n-1,by omega⟩;simp only[cK]at h0;rw[af (by omega)];generalize hx:L[m]=x at h0;generalize L.take m=A;induction A with
 |nil=>simp[zbF,h0]
 |cons a A ih=>rw[List.cons_append,zbF,ih,ap];rintro⟨_,h⟩;simp at h
theorem zec{n:Nat}(h:n<4294967296):IntKind.u32.wrap (n:Int)=n:=IntWalk.u32_in _ ⟨by omega,by omega⟩
theorem zbL{n:Nat}(h:n<18446744073709551616):IntKind.u64.wrap (n:Int)=n:=IntWalk.u64_in _ ⟨by omega,by omega⟩
theorem zvq{k:AV→Prop}(b:Bool)(j:IntKind)(m n:Nat)(hn:n≠0):zad .rem b (.int j m) (.int j n) k=k (.int j ((m % n:Nat):Int)):=by simp only[zcg,ne_eq,Int.natCast_eq_zero,hn,not_false_eq_true,dT];rfl
theorem zvp{k:AV→Prop}(b:Bool)(j:IntKind)(m n:Nat)(hn:n≠0):zad .quo b (.int j m) (.int j n) k=k (.int j (j.wrap ((m / n:Nat):Int))):=by simp only[zcg,ne_eq,Int.natCast_eq_zero,hn,not_false_eq_true,dT];rfl
theorem zou{k:AV→Prop}(b:Bool)(j:IntKind)(m:Nat):zad .rem b (.int j m) (.int j 1000000000) k=k (.int j ((m % 1000000000:Nat):Int)):=zvq b j m 1000000000 (by decide)
theorem zvn{k:AV→Prop}(b:Bool)(j:IntKind)(m:Nat):zad .quo b (.int j m) (.int j 1000000000) k=k (.int j (j.wrap ((m / 1000000000:Nat):Int))):=zvp b j m 1000000000 (by decide)
theorem zvo{k:AV→Prop}(b:Bool){m:Nat}(h:m<18446744073709551616):zad .quo b (.int .u64 m) (.int .u64 1000000000) k=k (.int .u64 ((m / 1000000000:Nat):Int)):=by rw[zvn,zbL (by have:=cO m 1000000000;omega)]
theorem zEt{k:AV→Prop}(b:Bool){m:Nat}(h:m<4294967296):zad .quo b (.int .u32 m) (.int .u32 1000000000) k=k (.int .u32 ((m / 1000000000:Nat):Int)):=by rw[zvn,zec (by have:=cO m 1000000000;omega)]
theorem zEp{k:AV→Prop}(j:IntKind){m:Nat}(h:m<4294967296):za9 .u32 (.int j m) k=k (.int .u32 m):=by rw[zEq,zec h]
theorem zpl(m:Nat):m % 1000000000<1000000000:=ck _ (by decide)
theorem zFD{m:Nat}(h:m≠0):m / 1000000000<m:=cL (by omega) (by decide)
theorem sN(l:List Nat)(x:Nat):zan l++[[AV.int .u32 (x:Int)]]=zan (l++[x]):=by simp[zan]
theorem zhm(s:Nat)(h:s<18446744073709551616):∃ x c:Nat,x<1000000000∧s=x+1000000000*c∧IntKind.u32.wrap (x:Int)=x ∧
  (∀(b:Bool) (k:AV→Prop),zad .rem b (.int .u64 s) (.int .u64 1000000000) k=k (.int .u64 x))∧∀(b:Bool) (k:AV→Prop),zad .quo b (.int .u64 s) (.int .u64 1000000000) k=k (.int .u64 c):=
 ⟨s % 1000000000,s / 1000000000,zpl s,by omega,zec (by omega),λb k=>zou b .u64 s,λb k=>zvo b h⟩
theorem zFF(s:Nat)(h:s<4294967296):∃ x c:Nat,x<1000000000∧s=x+1000000000*c ∧
  (∀(b:Bool) (k:AV→Prop),zad .rem b (.int .u32 s) (.int .u32 1000000000) k=k (.int .u32 x))∧∀(b:Bool) (k:AV→Prop),zad .quo b (.int .u32 s) (.int .u32 1000000000) k=k (.int .u32 c):=
 ⟨s % 1000000000,s / 1000000000,zpl s,by omega,λb k=>zou b .u32 s,λb k=>zEt b h⟩
theorem zoS(s d:Nat)(hd:0<d)(h:s<18446744073709551616):∃ x c:Nat,x<d∧s=x+d*c ∧
  (∀(b:Bool) (k:AV→Prop),zad .rem b (.int .u64 s) (.int .u64 d) k=k (.int .u64 x))∧∀(b:Bool) (k:AV→Prop),zad .quo b (.int .u64 s) (.int .u64 d) k=k (.int .u64 c):=
 ⟨s % d,s / d,ck _ hd,(Nat.mod_add_div s d).symm,λb k=>zvq b .u64 s d (by omega),λb k=>by rw[zvp b .u64 s d (by omega),zbL (by have:=cO s d;omega)]⟩
theorem wi(i:Nat)(h:i<1000000000):IntKind.i64.wrap ((i:Int)+1)=((i+1:Nat):Int):=by rw[zav (by omega) (by omega)];omega
theorem zyG:∀ l:List Nat,(zbF l).length≤l.length∧((zbF l).length=l.length→zbF l=l)
 |[]=>by simp[zbF]
 |x::l=>by
  obtain⟨h1,h2⟩:=zyG l;rw[zbF];split
  ·simp
  ·simp only[List.length_cons];exact⟨by omega,λh=>by rw[h2 (by omega)]⟩
theorem zwS{n k:Nat}(h:1000000000 ^ k≤n):k<(lim n).length:=by have h1:=zeW (lim n) (zci n);rw[zbO]at h1;refine cj λh2=>?_;have:=a8 (show 0<1000000000 by omega) h2;omega
theorem zvZ{R:List Nat}(hR:∀x∈R,x<1000000000)(h:R.length≤(lim (zaq R)).length):R=lim (zaq R):=by have h1:=zfH R hR;obtain⟨h2,h3⟩:=zyG R;rw[←h1,h3 (by rw[h1]at h2 ⊢;omega)]
end
end Go.Proofs.YtdmamdnkcefmmaaGreatDoor
