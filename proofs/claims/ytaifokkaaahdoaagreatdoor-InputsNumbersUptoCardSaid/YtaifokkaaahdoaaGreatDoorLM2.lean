import Derived.Test.YtaifokkaaahdoaaGreatDoorKGL2
import Derived.Test.YtaifokkaaahdoaaGreatDoorLM7
import Derived.Test.YtaifokkaaahdoaaGreatDoorLI9
import Derived.Test.YtaifokkaaahdoaaGreatDoorLA1
set_option linter.unusedSectionVars false
set_option linter.unusedSimpArgs false
set_option linter.unusedVariables false
set_option maxRecDepth 8000
namespace Go.Proofs.YtaifokkaaahdoaaGreatDoor
def VecAt(e lb:Nat)(H:zaa)(x:AV)(n:Nat)(ds:List AV):Prop:=
 ds.length=n∧((n=0∧(x=.snil∨x=.sl [] .full))∨(0<n∧∃r,lb≤r∧x=.ov r n∧H[r]?=some (AB.vec e 1 n ds)))
theorem VecAt.len{e lb:Nat}{H:zaa}{x:AV}{n:Nat}{ds:List AV}(h:VecAt e lb H x n ds){K:AV→Prop}(hk:K (.int .i64 n)):zah 1 x K:=by
 obtain⟨_,⟨rfl,rfl|rfl⟩|⟨_,r,_,rfl,_⟩⟩:=h
 ·simpa using hk
 ·simpa using hk
 ·simpa using hk
theorem VecAt.at{e lb:Nat}{H:zaa}{x:AV}{n:Nat}{ds:List AV}(h:VecAt e lb H x n ds){i:Nat}(hi:i<n){v:AV}(hv:ds[i]?=some v){K:AV→Prop}(hk:K v):zai 1 x (.int .i64 i) λp=>zae false 1 p H K:=by
 obtain⟨hl,⟨rfl,_⟩|⟨_,r,_,rfl,hr⟩⟩:=h
 ·omega
 ·simp[hr];refine⟨hi,?_⟩;simp[zbr,hv];exact hk
theorem VecAt.sc{e lb:Nat}{H:zaa}{x:AV}{n:Nat}{ds:List AV}(h:VecAt e lb H x n ds){m:Nat}(hm:H.length≤m):x.sc m=true:=by
 obtain⟨_,⟨rfl,rfl|rfl⟩|⟨_,r,_,rfl,hr⟩⟩:=h
 ·rfl
 ·rfl
 ·have:=(List.getElem?_eq_some_iff.1 hr).1;simp[AV.sc,AV.scV,AV.scA,AV.scB];omega
theorem VecAt.scA{e lb:Nat}{H:zaa}{x:AV}{n:Nat}{ds:List AV}(h:VecAt e lb H x n ds){m:Nat}(hm:H.length≤m):x.scA m=true:=by
 obtain⟨_,⟨rfl,rfl|rfl⟩|⟨_,r,_,rfl,hr⟩⟩:=h
 ·rfl
 ·rfl
 ·have:=(List.getElem?_eq_some_iff.1 hr).1;simp[AV.scA,AV.scB];omega
theorem VecAt.one{e lb:Nat}{H:zaa}{x:AV}{n:Nat}{ds:List AV}(h:VecAt e lb H x n ds):x.oneK=true∧x.known=true:=by obtain⟨_,⟨rfl,rfl|rfl⟩|⟨_,r,_,rfl,hr⟩⟩:=h <;> exact⟨rfl,rfl⟩
theorem VecAt.app{e lb:Nat}{H J:zaa}{x:AV}{n:Nat}{ds:List AV}(h:VecAt e lb H x n ds):VecAt e lb (H++J) x n ds:=by
 obtain⟨hl,h|⟨h0,r,hlb,rfl,hr⟩⟩:=h
 ·exact⟨hl,.inl h⟩
 ·exact⟨hl,.inr ⟨h0,r,hlb,rfl,by rw[List.getElem?_append_left (List.getElem?_eq_some_iff.1 hr).1];exact hr⟩⟩
theorem VecAt.to{e lb lb':Nat}{H H':zaa}{x:AV}{n:Nat}{ds:List AV}(h:VecAt e lb H x n ds)(hb:lb'≤lb)(hh:∀r:Nat,H[r]?=some (AB.vec e 1 n ds)→H'[r]?=some (AB.vec e 1 n ds)):VecAt e lb' H' x n ds:=by
 obtain⟨hl,h|⟨h0,r,hlb,rfl,hr⟩⟩:=h
 ·exact⟨hl,.inl h⟩
 ·exact⟨hl,.inr ⟨h0,r,by omega,rfl,hh r hr⟩⟩
theorem HSc.vec1{H:zaa}(hs:HSc H)(e:Nat){y:AV}(hy:y.scA H.length=true):HSc (H++[.vec e 1 1 [y]]):=hs.snoc (by simp[AB.sc];exact zgf (by omega) hy)
theorem VecAt.push{e:Nat}{B J:zaa}{x y:AV}{n:Nat}{ds:List AV}(hs:HSc (B++J))(h:VecAt e B.length (B++J) x n ds)(hn:n≤1000)(hy1:y.oneK=true)(hy2:y.known=true)(hys:y.scA (B++J).length=true){K:Kt}(hk:∀ x' J',HSc (B++J')→(B++J).length≤(B++J').length→VecAt e B.length (B++J') x' (n+1) (ds++[y])→(∀ (r' e' m:Nat) (cs:List AV),e'≠e→(B++J)[r']?=some (AB.vec e' 1 m cs)→(B++J')[r']?=some (AB.vec e' 1 m cs))→K x' (B++J')):
  zfN e 1 1 [(0,y)] (B++J) λt H=>zax e 1 24 x t H K:=by
 refine⟨hy1,?_⟩;have hlt:(B++J)[(B++J).length]?=none:=by simp
 have hg:((B++J)++[AB.vec e 1 1 [y]])[(B++J).length]?=some (AB.vec e 1 1 [y]):=by simp
 unfold zax;simp only[hg];refine⟨by simp,?_⟩;have hs1:=HSc.vec1 hs e hys;obtain⟨hl,⟨rfl,hxx⟩|⟨h0,r,hlb,rfl,hr⟩⟩:=h
 ·obtain rfl:ds=[]:=List.length_eq_zero_iff.1 hl;have key:K (.ov (B++J++[AB.vec e 1 1 [y]]).length (0+1)) (B++J++[AB.vec e 1 1 [y]]++[.vec e 1 (0+1) [y]]):=by
   have e1:B++J++[AB.vec e 1 1 [y]]++[AB.vec e 1 (0+1) [y]]=B++(J++[AB.vec e 1 1 [y],AB.vec e 1 1 [y]]):=by simp
   rw[e1];refine hk _ _ ?_ (by simp) ⟨rfl,.inr ⟨by omega,(B++J++[AB.vec e 1 1 [y]]).length,by simp[ag],rfl,?_⟩⟩ ?_
   ·rw[←e1];exact HSc.vec1 hs1 e (zgf (by simp) hys)
   ·rw[←e1,List.getElem?_concat_length];rfl
   ·intro r' e' m cs _ hr';rw[←e1,ah (B++J),List.getElem?_append_left (List.getElem?_eq_some_iff.1 hr').1];exact hr'
  rcases hxx with rfl|rfl
  ·exact⟨⟨by simpa using hy2,by simp,by simp,by simp⟩,key⟩
  ·exact⟨⟨by simpa using hy2,by simp,by simp,by simp⟩,key⟩
 ·have hrl:=(List.getElem?_eq_some_iff.1 hr).1;have hr1:(B++J++[AB.vec e 1 1 [y]])[r]?=some (AB.vec e 1 n ds):=by rw[List.getElem?_append_left hrl];exact hr
  unfold zdY;simp only[hr1];refine⟨⟨by simp,by simpa using hy2,by simp,by omega,by omega⟩,?_⟩;have e1:(B++J++[AB.vec e 1 1 [y]]).set r (.vec e 1 (n+1) (ds++[y]))=B++(J++[AB.vec e 1 1 [y]]).set (r-B.length) (.vec e 1 (n+1) (ds++[y])):=by rw[ah,ai _ _ hlb]
  rw[e1];have hz:ds.all (AV.scA (B++J).length)=true:=by have:=hs _ (aQ hr);simpa[AB.sc]using this
  refine hk _ _ ?_ (by simp) ⟨by simp[hl],.inr ⟨by omega,r,hlb,rfl,?_⟩⟩ ?_
  ·rw[←e1];refine HSc.set hs1 ?_;simp only[AB.sc,bZ,ac];exact⟨am.2 λd hd=>zgf (by simp) (am.1 hz d hd),by simpa using zgf (by simp) hys⟩
  ·rw[←e1,List.getElem?_set_self (by simp at hrl ⊢;omega)]
  ·intro r' e' m cs hne hr';have hrr:r≠r':=λhe=>by rw[←he,hr]at hr';cases hr';exact hne rfl
   rw[←e1,List.getElem?_set_ne hrr,List.getElem?_append_left (List.getElem?_eq_some_iff.1 hr').1];exact hr'
theorem zPU{data:List Dat}(hD:zaB data=true)(t:VT)(ht:t.nodes≤1000)(c:Int)(H:zaa)(K:Kt)(hK:K (zcV (za7 data t c)) H):ACalls tP zqz [.sl (data.map Dat.cs) .none,.agg t.cs,.int .i64 c] H K:=by
 refine ACalls.out (zPT λhs=>?_);obtain⟨h1,h2,h3⟩:=zj4 hD;obtain⟨x1,x2,x3,hvx,hx1,hx2,hx3⟩:=zaO t;simp only[zCj];simp[hvx];rw[←hvx];refine zD7 data h1 h2 h3 t ht c _ _ ?_;cases hf:za7 data t c with
 |none=>rw[hf]at hK;simp[zcV]at hK ⊢;exact⟨⟨rfl,rfl⟩,Out.tup hs hK ⟨zbN rfl rfl,zbN rfl rfl,trivial⟩⟩
 |some l=>rw[hf]at hK;simp[zcV]at hK ⊢;exact⟨⟨rfl,rfl⟩,Out.tup hs hK ⟨zbN rfl rfl,zbN rfl rfl,trivial⟩⟩
def CS(data:List Dat)(kk:Nat)(u:VT):Prop:=∀n:Nat,n≤14→∀(H:zaa) (K:Kt),K (.sl (rtA (tab (cV data kk u) n)) .none) H→ACalls tP zf9 [.sl (data.map Dat.cs) .none,.agg u.cs,.int .i64 n,.int .i64 kk] H K
section
variable (data:List Dat) (kk n:Nat) (t:VT) (o:AV)
def zoX(d:AV)(u:VT):Prop:=(u=t∧d=o)∨(u≠t∧d=.sl (rtA (tab (cV data kk u) n)) .none)
def RowOf(H:zaa)(c:AV)(us:List VT):Prop:=∃ds,VecAt zdG 0 H c us.length ds∧All2 (zoX data kk n t o) ds us
def zo1(lb:Nat)(H:zaa)(x:AV)(ws:List (List VT)):Prop:=∃cs,VecAt zgX lb H x ws.length cs∧All2 (RowOf data kk n t o H) cs ws
end
theorem RowOf.to{data:List Dat}{kk n:Nat}{t:VT}{o:AV}{H H':zaa}{c:AV}{us:List VT}(h:RowOf data kk n t o H c us)(hh:∀(r m:Nat) (cs:List AV),H[r]?=some (AB.vec zdG 1 m cs)→H'[r]?=some (AB.vec zdG 1 m cs)):RowOf data kk n t o H' c us:=by obtain⟨ds,h1,h2⟩:=h;exact⟨ds,h1.to (aa _) λr=>hh r _ _,h2⟩
def wsT(data:List Dat)(t:VT)(c:Nat):List (List VT):=(List.range c).filterMap λc:Nat=>za7 data t (c:Int)
theorem zKR(data:List Dat)(t:VT)(c:Nat):wsT data t (c+1)=wsT data t c++(za7 data t (c:Int)).toList:=by unfold wsT;rw[cb,dq];cases h:za7 data t (c:Int) <;> simp[h]
theorem zAi(data:List Dat)(t:VT)(c:Nat):(wsT data t c).length≤c:=by unfold wsT;have:=cz (λc:Nat=>za7 data t (c:Int)) (List.range c);simpa using this
theorem zKQ{data:List Dat}{t:VT}{c:Nat}{l:List VT}(h:l∈wsT data t c):∃c:Int,za7 data t c=some l:=by obtain⟨x,_,hx⟩:=br.1 h;exact⟨_,hx⟩
theorem zGd(data:List Dat)(kk:Nat)(m5:Int)(ks:List VT)(s:Nat):cV data kk (.mk 5 m5 ks) (s+1)=((wsT data (.mk 5 m5 ks) (zba data m5).length).map λl=>cL (cV data kk) l s).sum:=by rw[zc7];simp[VT.kind,zaW,wsT,List.map_filterMap,Function.comp_def]
theorem zJ7(l:List Nat)(i:Nat):(l.take i).sum≤l.sum:=by
 conv=>rhs;rw[←aN i l,cS]
 omega
theorem zGP{g g' f f':Nat→Nat}{m:Nat}(hg:∀k,k≤m→g k=g' k)(hf:∀k,k≤m→f k=f' k):cvR g f m=cvR g' f' m:=zb8 λh hh=>by rw[hf h (by omega),hg (m-h) (by omega)]
theorem zrr(es:List (List AV))(n:Nat):(AV.sl es .none).sc n=true:=rfl
theorem zw9{l:List Nat}{H B:zaa}{L n:Nat}{K:Kt}(hs:HSc H)(hL:L=(H++B).length)(hn:n=l.length)(J:zaa)(hK:K (.sl (rtA l) .none) H):Out H.length K (.ms L 0 n n) (H++B++.cells (zav (l.map some))::J):=by subst hL hn;refine⟨.sl (rtA l) .none,H,B++.cells (zav (l.map some))::J,by simp,aa _,hs,.one (.frz (H++B).length 0 l.length l.length 3 (zav (l.map some)) (rtA l) (by simp) (by simp) (by rw[zei];simp;omega) ?_ (by simp) zrn (aa _)),hK⟩;rw[aU,ak (by rw[zei];simp;omega),zre,zro]
def cnS(data:List Dat)(kk:Nat)(t:VT)(ws:List (List VT))(s i x:Nat):Nat:=if x<s then cV data kk t x else if x=s then ((ws.take i).map λl=>cL (cV data kk) l (s-1)).sum else 0
theorem zGs(data:List Dat)(kk:Nat)(t:VT)(ws:List (List VT))(s x:Nat):cnS data kk t ws s 0 x=if x<s then cV data kk t x else 0:=by unfold cnS;simp
theorem zwC(data:List Dat)(kk:Nat)(t:VT)(ws:List (List VT))(s i x:Nat)(h:i<ws.length):cnS data kk t ws s (i+1) x=if x=s then cnS data kk t ws s i s+cL (cV data kk) ws[i] (s-1) else cnS data kk t ws s i x:=by
 unfold cnS;by_cases e:x=s
 ·subst e;rw[ap (by omega),aB rfl,aB rfl,ap (by omega),aB rfl,aj h,bj,cS];simp
 ·simp only[ap e]
theorem zGC{data:List Dat}(hk:Kpt data){kk:Nat}(hkk:kk≤8)(n:Nat)(hn1:1≤n)(hn:n≤14)(t:VT)(ws:List (List VT))(hsum:∀s,cV data kk t (s+1)=(ws.map λl=>cL (cV data kk) l s).sum)(hwl:ws.length≤1000)(hfl:∀l∈ws,l.length≤1000){H B J:zaa}{K:Kt}(o x:AV)(ho:o=.ms (H++B).length 0 (n+1) (n+1))(hs:HSc H)(hsA:HSc (H++B++.cells (zav ((tab (λ_=>0) n).map some))::J))(hx:zo1 data kk n t o 0 (H++B++.cells (zav ((tab (λ_=>0) n).map some))::J) x ws)(hK:K (.sl (rtA (tab (cV data kk t) n)) .none) H):zl5 (.int .i64 n) o x (.int .i64 1) (H++B++.cells (zav ((tab (λ_=>0) n).map some))::J) (Out H.length K):=by
 obtain⟨HB,hHB⟩:∃HB:(Nat→Nat)→zaa,HB=λF=>H++B++.cells (zav ((tab F n).map some))::J:=⟨_,rfl⟩;have eHB:∀F,H++B++.cells (zav ((tab F n).map some))::J=HB F:=λF=>by rw[hHB]
 have hset:∀F F',(HB F).set (H++B).length (.cells (zav ((tab F' n).map some)))=HB F':=λF F'=>by rw[hHB];simp only;rw[ai _ _ (aa _),bU,List.set_cons_zero]
 have hlenHB:∀F,(HB F).length=(H++B).length+(J.length+1):=λF=>by rw[hHB];simp;omega
 have hH:∀F,HSc (HB F):=λF=>by rw[←hset (λ_=>0) F,←eHB];exact HSc.set hsA (zgc _ _)
 have hrow:∀F,RowAt (HB F) o (tab F n):=λF=>by have:=RowAt.here (H++B) (tab F n) J;rw[zgi]at this;rw[hHB,ho];exact this
 have hvec:∀F (r e m:Nat) (cs:List AV),(HB λ_=>0)[r]?=some (AB.vec e 1 m cs)→(HB F)[r]?=some (AB.vec e 1 m cs):=λF r e m cs h=>by
  rw[←hset (λ_=>0) F];by_cases he:(H++B).length=r
  ·exfalso;subst he;rw[hHB]at h;simp at h
  ·rw[List.getElem?_set_ne he];exact h
 rw[eHB]at hx ⊢;obtain⟨cs,hv0,hall0⟩:=hx;have hv:∀F,VecAt zgX 0 (HB F) x ws.length cs:=λF=>hv0.to (aa _) λr=>hvec F r _ _ _;have hall:∀(F:Nat→Nat) (i:Nat) (hi:i<ws.length),∃c,cs[i]?=some c∧RowOf data kk n t o (HB F) c ws[i]:=λF i hi=>by obtain⟨c,h1,h2⟩:=hall0.get (List.getElem?_eq_getElem hi);exact⟨c,h1,h2.to λr=>hvec F r _⟩
 have hoc:∀F m,(HB F).length≤m→o.sc m=true:=λF m hm=>(hrow F).sc hm;have hxc:∀F m,(HB F).length≤m→x.sc m=true:=λF m hm=>(hv F).sc hm;have hsum':∀s,1≤s→cV data kk t s=(ws.map λl=>cL (cV data kk) l (s-1)).sum:=λs h1=>by obtain⟨m,rfl⟩:∃m,s=m+1:=⟨s-1,by omega⟩;exact hsum m
 have hH0:∀F,H.length≤(HB F).length:=λF=>by rw[hlenHB];simp;omega
 rw[show (HB λ_=>0)=HB λx=>if x<1 then cV data kk t x else 0 from by
  rw[←eHB,←eHB,zc3 λk _=>show (if k<1 then cV data kk t k else 0)=0 from by
   split
   ·rw[show k=0 from by omega];rfl
   ·rfl]]
 refine zMn (Inv:=λq t17 H'=>∃s:Nat,1≤s∧s≤n+1∧q=n+1-s∧t17=.int .i64 s∧H'=HB λx=>if x<s then cV data kk t x else 0) n ?_ ?_
 ·intro _;exact⟨1,by omega,by omega,by omega,rfl,rfl⟩
 ·rintro q t17 H' ⟨s,hs1,hs2,rfl,rfl,rfl⟩ hsc hlen hsF Kb hKb;unfold zAM;by_cases hlt:s≤n
  ·have hws:IntKind.i64.wrap ((s:Int)+1)=((s+1:Nat):Int):=wr (by omega);have hwp:IntKind.i64.wrap ((s:Int)-1)=((s-1:Nat):Int):=by rw[zaz (by omega) (by omega)];omega
   simp[hlt];refine(hv0).len ?_;refine zMo (Inv:=λq t79 H'=>∃i:Nat,i≤ws.length∧q=ws.length-i∧t79=.int .i64 i∧H'=HB (cnS data kk t ws s i)) ws.length ?_ ?_
   ·intro _;exact⟨0,by omega,rfl,rfl,by rw[show cnS data kk t ws s 0=_ from funext λx=>zGs data kk t ws s x]⟩
   ·rintro q t79 H' ⟨i,hi,rfl,rfl,rfl⟩ hsc2 hlen2 hsF2 Kb2 hKb2;unfold zAN;by_cases hlti:i<ws.length
    ·have hwi:IntKind.i64.wrap ((i:Int)+1)=((i+1:Nat):Int):=wr (by omega);obtain⟨l,hl⟩:∃ l,l=ws[i]:=⟨_,rfl⟩;have hal:=hall (cnS data kk t ws s i) i hlti;rw[←hl]at hal;obtain⟨c,hc1,ds,hc2,hc3⟩:=hal;simp[hlti];refine (hv _).at hlti hc1 ?_;simp only[zv3,hwp];refine zB7 (s-1) (by omega) _ _ ?_;rw[zrF];refine hc2.len ?_;have hll:=hfl l (by rw[hl];exact ae hlti);obtain⟨G,hG⟩:∃ G,G=HB (cnS data kk t ws s i):=⟨_,rfl⟩;have hGs:HSc G:=by rw[hG];exact hH _
     have hGc:∀m,G.length≤m→c.sc m=true∧o.sc m=true∧x.sc m=true:=λm hm=>by rw[hG]at hm;exact⟨hc2.sc hm,hoc _ m hm,hxc _ m hm⟩
     rw[←hG]at hc2 ⊢;have b1:∀j,∀k,k≤s-1→zbv (cV data kk) l j k<1000000000 ^ 30:=λj k hk2=>by rw[zgd];exact zhZ hk hkk _ (by omega)
     refine zMp (Inv:=λq t20 t88 H'=>∃j:Nat,j≤l.length∧q=l.length-j∧t20=.sl (rtA (tab (zbv (cV data kk) l j) (s-1))) .none∧t88=.int .i64 j∧H'=G) l.length ?_ ?_
     ·intro _;exact⟨0,by omega,rfl,rfl,rfl,rfl⟩
     ·rintro q t20 t88 H' ⟨j,hj,rfl,rfl,rfl,rfl⟩ hsc3 hlen3 hsF3 Kb3 hKb3;unfold zAO;by_cases hltj:j<l.length
      ·have hwj:IntKind.i64.wrap ((j:Int)+1)=((j+1:Nat):Int):=wr (by omega);obtain⟨d,hd1,hd2⟩:=hc3.get (List.getElem?_eq_getElem hltj);simp[hltj];refine hc2.at hltj hd1 ?_;simp only[zv3,hwp];have hb:∃(g:Nat→Nat) (N:Nat),s-1≤N∧N≤1000∧(∀k,k≤s-1→g k=cV data kk l[j] k)∧RowAt H' d (tab g N):=by
        rcases hd2 with ⟨e1,e2⟩|⟨_,e2⟩
        ·refine⟨cnS data kk t ws s i,n,by omega,by omega,λk hk2=>?_,?_⟩
         ·unfold cnS;rw[aB (by omega),e1]
         ·rw[e2,hG];exact hrow _
        ·exact⟨cV data kk l[j],n,by omega,by omega,λ_ _=>rfl,.inl e2⟩
       obtain⟨g,N,hN1,hN2,hgk,hgr⟩:=hb;have hcv:∀k,k≤s-1→cvR g (zbv (cV data kk) l j) k=zbv (cV data kk) l (j+1) k:=λk hk2=>by rw[zhp _ hltj];exact zGP (λk' h'=>hgk k' (by omega)) λ_ _=>rfl
       refine zCg (zbv (cV data kk) l j) g (s-1) N (by omega) hN1 hN2 (b1 j) (λk hk2=>by rw[hgk k hk2];exact zdD hk hkk _ (by omega)) (λk hk2=>by rw[hcv k hk2];exact b1 (j+1) k hk2) _ _ _ (.inl rfl) hgr _ ?_;rw[zc3 hcv];simp only[zgG,hwj];refine hKb3 _ _ ⟨l.length-(j+1),by omega,Back.here (aa _) hGs ?_ ⟨_,_,rfl,j+1,by omega,rfl,rfl,rfl,rfl⟩⟩;simp[zl2,ux,zdP,zdQ,zrr,hGc]
      ·obtain rfl:j=l.length:=by omega
       have b2:cnS data kk t ws s i s+zbv (cV data kk) l l.length (s-1)≤cV data kk t s:=by have e1:=zwC data kk t ws s i s hlti;rw[aB rfl,←hl]at e1;rw[zgd,aw,←e1];unfold cnS;rw[ap (by omega),aB rfl,hsum' s hs1,bX];exact zJ7 _ _
       have b3:=zdD hk hkk t (m:=s) (by omega);obtain⟨tb,htb⟩:∃tb,tb=AV.sl (rtA (tab (zbv (cV data kk) l l.length) (s-1))) .none:=⟨_,rfl⟩;have htr:RowAt H' tb (tab (zbv (cV data kk) l l.length) (s-1)):=.inl htb;rw[←htb];simp[hwp];have hro:RowAt H' o (tab (cnS data kk t ws s i) n):=by rw[hG];exact hrow _
       refine hro.atC (by simp;omega) ?_;rw[zdR _ hlt];refine htr.atC (by simp) ?_;rw[zdR _ (aa _)];refine zaC _ (λJ=>zm2 (cnS data kk t ws s i s:Nat) (zbv (cV data kk) l l.length (s-1):Nat) (smP (by omega)) (smP (by omega)) _ _ ⟨rfl,rfl⟩) ?_;rw[show ((cnS data kk t ws s i s:Nat):Int)+(zbv (cV data kk) l l.length (s-1):Nat)=((cnS data kk t ws s i s+zbv (cV data kk) l l.length (s-1):Nat):Int) from by simp];rw[hG,←eHB];refine zlf (G:=cnS data kk t ws s (i+1)) ho hlt (λx hx=>by rw[zwC _ _ _ _ _ _ _ hlti,zgd,aw,hl]) ?_;rw[eHB];refine hKb2 _ _ ⟨ws.length-(i+1),by omega,Back.here (by rw[hlenHB,hlenHB];omega) (hH _) ?_ ⟨_,rfl,i+1,by omega,rfl,by simp[hwi],rfl⟩⟩;simp[zl1,ux,zdP,zdQ,hoc _ _ (aa _),hxc _ _ (aa _)]
    ·obtain rfl:i=ws.length:=by omega
     simp;refine hKb _ _ ⟨n+1-(s+1),by omega,Back.here (by rw[hlenHB,hlenHB];omega) (hH _) ?_ ⟨_,rfl,s+1,by omega,by omega,rfl,by simp[hws],?_⟩⟩
     ·simp[zl0,ux,zdP,zdQ,hoc _ _ (aa _),hxc _ _ (aa _)]
     ·rw[←eHB,←eHB,zc3 λk _=>show cnS data kk t ws s ws.length k=(if k<s+1 then cV data kk t k else 0) from ?_];unfold cnS;by_cases h1:k<s
      ·rw[aB h1,aB (by omega)]
      ·rw[ap h1];by_cases h2:k=s
       ·rw[aB h2,aB (by omega),h2,hsum' s hs1,aw]
       ·rw[ap h2,ap (by omega)]
  ·obtain rfl:s=n+1:=by omega
   simp[show ¬((n:Int)+1≤n) by omega];rw[←eHB,zc3 λk hk2=>show (if k<n+1 then cV data kk t k else 0)=cV data kk t k from if_pos (by omega),ho];exact zw9 hs rfl (by simp) J hK
theorem zy4(id off n:Nat):(AV.ptr id off).sc n=decide (id<n):=rfl
theorem zwR:zdG≠zgX:=by decide
theorem zAh{data:List Dat}(hD:zaB data=true){t:VT}{c:Nat}:∀l∈wsT data t c,l.length≤1000:=λl hl=>by obtain⟨x,hx⟩:=zKQ hl;obtain⟨k,n,ks⟩:=t;obtain⟨_,h2,_⟩:=zj4 hD;obtain⟨_,_,_,hn,hc,_,rfl,_⟩:=zgY hx;rw[aS];exact(h2 _ (ae hn) _ (ae hc)).1
section
variable {data:List Dat} (hD:zaB data=true) (hk:Kpt data) {kk:Nat} (hkk:kk≤8) (n:Nat) (hn1:1≤n) (hn:n≤14) (m5:Int) (ks:List VT) (ht:zaD data 0 (.mk 5 m5 ks)=true)
 (ih:∀c l,za7 data (.mk 5 m5 ks) c=some l→∀u∈l,u≠.mk 5 m5 ks→CS data kk u)
include hD hk hkk hn1 hn ht ih
theorem zMu(H:zaa)(K:Kt)(hK:K (.sl (rtA (tab (cV data kk (.mk 5 m5 ks)) n)) .none) H):ACalls tP zqh [.sl (data.map Dat.cs) .none,.agg (VT.mk 5 m5 ks).cs,.int .i64 n,.int .i64 kk] H K:=by
 refine ACalls.out (zMt λhs=>?_);have ht2:=ht;rw[zaD,ac,aH]at ht2;have hnd:=ht2.1;have hsh:=ht2.2;rw[zaG,ac]at hsh;have hm0:0≤m5∧m5.toNat<data.length:=by
  have h1:=hsh.1;simp[zaK]at h1;refine⟨h1.1,?_⟩;by_cases hlt:m5.toNat<data.length
  ·exact hlt
  ·rw[List.getElem?_eq_none (by omega)]at h1;simp at h1
 obtain⟨hm0,hml⟩:=hm0;have hml':m5<data.length:=by omega
 obtain⟨D,hDD⟩:∃D,D=data[m5.toNat]:=⟨_,rfl⟩;have hget:data[m5.toNat]?=some D:=by rw[List.getElem?_eq_getElem hml,hDD]
 have hcons:zba data m5=D.cons:=by unfold zba;rw[List.getD_eq_getElem?_getD,hget];rfl
 obtain⟨kD1,kD2⟩:=hk D (by rw[hDD];exact ae hml);obtain⟨nc,hnc⟩:∃nc,nc=D.cons.length:=⟨_,rfl⟩;simp[zAI,VT.cs];refine ziY n (by omega) _ _ ?_;rw[zlh];obtain⟨A0,hA0⟩:∃A0:zaa,A0=H++[AB.cells [.int .i64 5,.int .i64 m5,.sl (VT.css ks) .none]]:=⟨_,rfl⟩;have hA0l:A0.length=H.length+1:=by rw[hA0];simp
 have hA0s:HSc A0:=by rw[hA0];exact hs.append (by simp[AB.sc,AV.scA,AV.scB])
 have gb:∀J:zaa,(A0++J)[H.length]?=some (.cells [.int .i64 5,.int .i64 m5,.sl (VT.css ks) .none]):=λJ=>by rw[hA0];simp
 rw[←hA0];obtain⟨o,ho⟩:∃o,o=AV.ms A0.length 0 (n+1) (n+1):=⟨_,rfl⟩;rw[←ho];have hoc:∀m,A0.length<m→o.sc m=true∧o.scA m=true:=λm hm=>by rw[ho];simp[AV.sc,AV.scV,AV.scA,AV.scB,hm]
 have hob:o.oneK=true∧o.known=true:=by rw[ho];exact⟨rfl,rfl⟩
 simp[gb,hm0,hml',hget,Dat.cs,←hDD,←hnc];obtain⟨T,hT⟩:∃T,T=VT.mk 5 m5 ks:=⟨_,rfl⟩;have hTc:AV.agg [.int .i64 5,.int .i64 m5,.sl (VT.css ks) .none]=.agg T.cs:=by rw[hT];rfl
 obtain⟨A,hA⟩:∃A:zaa,A=A0++[AB.cells (zav ((tab (λ_=>0) n).map some))]:=⟨_,rfl⟩;have hAl:A.length=H.length+2:=by rw[hA];simp;omega
 have hAs:HSc A:=by rw[hA];exact hA0s.snoc (zgc _ _)
 have gb2:∀J:zaa,(A++J)[H.length]?=some (.cells [.int .i64 5,.int .i64 m5,.sl (VT.css ks) .none]):=λJ=>by rw[hA,ah];exact gb _
 have hfin:∀(x:AV) (J:zaa),HSc (A++J)→zo1 data kk n T o A.length (A++J) x (wsT data T nc)→zl5 (.int .i64 n) o x (.int .i64 1) (A++J) (Out H.length K):=λx J hsJ ⟨cs,h1,h2⟩=>by
  have e1:A++J=H++[AB.cells [.int .i64 5,.int .i64 m5,.sl (VT.css ks) .none]]++.cells (zav ((tab (λ_=>0) n).map some))::J:=by rw[hA,hA0];simp
  rw[e1]at hsJ h1 h2 ⊢;have hwl:=zAi data T nc;refine zGC hk hkk n hn1 hn T (wsT data T nc) (λs=>?_) (by omega) (zAh hD) o x (by rw[ho,hA0]) hs hsJ ⟨cs,h1.to (by omega) λ_ h=>h,h2⟩ (by rw[hT];exact hK);rw[hT,zGd,hcons,←hnc]
 have hfr4:∀(J:zaa) (x:AV),(∀m,(A++J).length≤m→x.sc m=true)→∀c:Int,(zi0 (.sl (data.map Dat.cs) .none) (.int .i64 n) (.int .i64 kk) (.ptr H.length 0) o x (.int .i64 nc) (.int .i64 c)).all (AV.sc (A++J).length)=true:=λJ x hx c=>by
  have h1:=hx _ (aa _);have h2:=(hoc (A++J).length (by simp;omega)).1;have h3:H.length<(A++J).length:=by simp;omega
  simp only[zi0,ux,bZ,List.all_cons,List.all_nil,List.replicate,zdP,zdQ,zrr,zy4,h1,h2,bf h3];simp[ux,zdQ,zdP,h1,h2,h3]
 have ihT:∀c l,za7 data T c=some l→∀u∈l,u≠T→CS data kk u:=by rw[hT];exact ih
 rw[←hA];refine zMq (Inv:=λq t10 t32 H'=>∃(c:Nat) (J:zaa),c≤nc∧q=nc-c∧t32=.int .i64 c∧H'=A++J∧HSc (A++J)∧zo1 data kk n T o A.length (A++J) t10 (wsT data T c)) nc ?_ ?_
 ·intro _;exact⟨0,[],by omega,rfl,rfl,by simp,by simpa using hAs,[],⟨rfl,.inl ⟨rfl,.inl rfl⟩⟩,trivial⟩
 ·rintro q x t32 H' ⟨c,J,hc,rfl,rfl,rfl,hsJ,hR⟩ hsc hlen hsF Kb hKb;have hxc:∀ m,(A++J).length≤m→x.sc m=true:=λm hm=>by obtain⟨_,h1,_⟩:=hR;exact h1.sc hm
  by_cases hlt:c<nc
  ·have hwc:IntKind.i64.wrap ((c:Int)+1)=((c+1:Nat):Int):=wr (by omega);simp[zsy,hlt,gb2];rw[hTc];refine zPU hD T (by rw[hT];omega) c _ _ ?_;have hwT:=zKR data T c;cases hf:za7 data T c with
   |none=>rw[hf]at hwT;simp at hwT;simp[zcV,zl3,zsC,hwc];refine hKb _ _ ⟨nc-(c+1),by omega,Back.here (by simp) hsJ ?_ ⟨_,_,rfl,c+1,J,by omega,rfl,by simp[hwc],rfl,hsJ,by rw[hwT];exact hR⟩⟩;exact hfr4 J x hxc _
   |some l=>
    rw[hf]at hwT;simp at hwT;simp[zcV];have bS:∀k,zau 1 [AV.snil] 0 [] k=k (.sl [] .full):=λk=>propext aG;rw[bS];have hll:=(λh=>zAh hD (t:=T) (c:=c+1) l h) (by rw[hwT];simp);obtain⟨Bq,hBq⟩:∃Bq:zaa,Bq=A++J:=⟨_,rfl⟩;have hBl:A.length≤Bq.length:=by rw[hBq];simp
    have gb3:∀J2:zaa,(Bq++J2)[H.length]?=some (.cells [.int .i64 5,.int .i64 m5,.sl (VT.css ks) .none]):=λJ2=>by rw[hBq,ah];exact gb2 _
    have hxq:∀J2:zaa,x.sc (Bq++J2).length=true:=λJ2=>hxc _ (by rw[←hBq];simp);have hoq:∀J2:zaa,o.sc (Bq++J2).length=true:=λJ2=>(hoc _ (by simp;omega)).1;rw[←hBq]at hsJ ⊢;refine zMm (Inv:=λq t14 t47 H'=>∃(i:Nat) (J2:zaa),i≤l.length∧q=l.length-i∧t47=.int .i64 i∧H'=Bq++J2∧HSc (Bq++J2)∧∃ds,VecAt zdG Bq.length (Bq++J2) t14 i ds∧All2 (zoX data kk n T o) ds (l.take i)) l.length ?_ ?_
    ·intro _;exact⟨0,[],by omega,rfl,rfl,by simp,by simpa using hsJ,[],⟨rfl,.inl ⟨rfl,.inr rfl⟩⟩,trivial⟩
    ·rintro q y t47 H' ⟨i,J2,hi,rfl,rfl,rfl,hsJ2,ds,hds1,hds2⟩ hsc2 hlen2 hsF2 Kb2 hKb2;by_cases hlti:i<l.length
     ·have hwi:IntKind.i64.wrap ((i:Int)+1)=((i+1:Nat):Int):=wr (by omega);have hnx:∀ (y' d:AV) (J':zaa),HSc (Bq++J')→VecAt zdG Bq.length (Bq++J') y' (i+1) (ds++[d])→zoX data kk n T o d l[i] →
        zl4 (.sl (data.map Dat.cs) .none) (.int .i64 n) (.int .i64 kk) (.ptr H.length 0) o x y' (.int .i64 nc) (.int .i64 c) (.sl (VT.css l) .none) (.int .i64 l.length) (.int .i64 i) (Bq++J') (Out H.length K) Kb Kb2:=λy' d J' h1 h2 h3=>by
       simp only[zl4,zAP,zgG,hwi];refine hKb2 _ _ ⟨l.length-(i+1),by omega,Back.here (by simp) h1 ?_ ⟨_,_,rfl,i+1,J',by omega,rfl,rfl,rfl,h1,ds++[d],h2,?_⟩⟩
       ·have e1:=hxq J';have e2:=hoq J';have e3:=h2.sc (aa _);have e4:H.length<(Bq++J').length:=by simp;omega
        simp[zlZ,ux,zdP,zdQ,zrr,zy4,←List.length_append,e1,e2,e3,e4]
       ·rw[aj hlti];exact hds2.append ⟨h3,trivial⟩
      obtain⟨x1,x2,x3,hvx,hx1,hx2,hx3⟩:=zaO l[i];have hmem:l[i]∈l:=ae hlti;have hnod:(l[i]).nodes≤200:=by rw[hT]at hf;obtain⟨_,_,_,_,_,_,_,h⟩:=zgY hf;exact h _ hmem
      simp[zsx,hlti,gb3,hvx,hx1,hx2,hx3];rw[hTc,←hvx];have hsJ3:HSc (Bq++(J2++[AB.cells (l[i]).cs])):=by rw[←ah];exact hsJ2.snoc (by cases l[i] with|mk a b c=>simp[AB.sc,VT.cs,AV.scA,AV.scB])
      have hds3:VecAt zdG Bq.length (Bq++(J2++[AB.cells (l[i]).cs])) y i ds:=by rw[←ah];exact hds1.app
      have gx:(Bq++(J2++[AB.cells (l[i]).cs]))[Bq.length+J2.length]?=some (.cells (l[i]).cs):=by rw[←ah,←List.length_append,List.getElem?_concat_length]
      refine zP1 _ l[i] T (aa _) (by omega) _ _ ?_;cases hsm:(l[i]).same T with
      |true=>have e1:=(zk7 _ _).1 hsm;simp;refine VecAt.push hsJ3 hds3 (by omega) hob.1 hob.2 ((hoc _ (by simp;omega)).2) λy' J' h1 h2 h3 _=>?_;exact hnx y' o J' h1 h3 (.inl ⟨e1,rfl⟩)
      |false=>
       have e1:l[i]≠T:=λe=>by rw[(zk7 _ _).2 e]at hsm;cases hsm
       simp[gx];refine ihT _ l hf _ hmem e1 n hn _ _ ?_;refine VecAt.push hsJ3 hds3 (by omega) rfl rfl rfl λy' J' h1 h2 h3 _=>?_;exact hnx y' _ J' h1 h3 (.inr ⟨e1,rfl⟩)
     ·obtain rfl:i=l.length:=by omega
      simp[zsx];have hds4:=hds1;rw[hBq,ah]at hsJ2 hds1 ⊢;obtain⟨cs,hR1,hR2⟩:=hR;have hR3:VecAt zgX A.length (A++(J++J2)) x (wsT data T c).length cs:=by rw[←ah];exact hR1.app
      have hwl:=zAi data T c;refine VecAt.push hsJ2 hR3 (by omega) hds1.one.1 hds1.one.2 (hds1.scA (aa _)) λx' J' h1 h2 h3 hpres=>?_;simp only[zl3,zsC,zgG,hwc];refine hKb _ _ ⟨nc-(c+1),by omega,Back.here (by simp) h1 (hfr4 J' x' (λm hm=>h3.sc hm) _) ⟨_,_,rfl,c+1,J',by omega,rfl,rfl,rfl,h1,cs++[y],?_,?_⟩⟩
      ·rw[hwT,ao];exact h3
      ·rw[hwT];have hm:All2 (RowOf data kk n T o (A++J')) cs (wsT data T c):=hR2.mono λc us hcu=>hcu.to λr m cs hr=>by refine hpres r _ m cs zwR ?_;rw[←ah,List.getElem?_append_left (List.getElem?_eq_some_iff.1 hr).1];exact hr
       refine hm.append ⟨⟨ds,hds1.to (by omega) λr hr=>hpres r _ _ _ zwR hr,?_⟩,trivial⟩;rw[aw]at hds2;exact hds2
  ·obtain rfl:c=nc:=by omega
   simp[zsy];exact hfin x J hsJ hR
end
theorem zGh(data:List Dat)(kk:Nat){k m5:Int}{ks:List VT}(h:k=6∨k=8)(s:Nat):cV data kk (.mk k m5 ks) (s+1)=cL (cV data kk) ks s:=by rw[zc7];rcases h with rfl|rfl <;> simp[VT.kind,zaW]
theorem zGg(data:List Dat)(kk:Nat){m5:Int}{u:VT}(s:Nat):cV data kk (.mk 7 m5 [u]) (s+1)=cA (cV data kk u) s:=by rw[zc7];simp[VT.kind,zcp]
theorem zGe(data:List Dat)(kk:Nat){k m5:Int}{ks:List VT}(v:Nat)(h:(k=1∧v=kk)∨(k=2∧v=2)∨(k=3∧v=1))(x:Nat):cV data kk (.mk k m5 ks) x=if x=1 then v else 0:=by
 cases x with
 |zero=>rfl
 |succ x=>rw[zc7];rcases h with ⟨rfl,rfl⟩|⟨rfl,rfl⟩|⟨rfl,rfl⟩ <;> simp[VT.kind]
theorem zGf(data:List Dat)(kk:Nat){k m5:Int}{ks:List VT}(h:k≠1∧k≠2∧k≠3∧k≠5∧k≠6∧k≠7∧k≠8)(x:Nat):cV data kk (.mk k m5 ks) x=0:=by
 cases x with
 |zero=>rfl
 |succ x=>rw[zc7];simp[VT.kind,zaW,h]
theorem zFC{k:AV→Prop}(esz id off len cap:Nat)(lo hi:Option AV):za1 1 esz (.ms id off len cap) lo hi k=zbA hi len λh=>zbA lo 0 λl=>(l≤h∧h≤cap)∧k (.ms id (if cap=l then off else off+l*esz) (h-l) (cap-l)):=propext aG
theorem zJ9(F:Nat→Nat){n:Nat}(h:1≤n):tab (λx=>if x=0 then 0 else F (x-1)) n=0::tab F (n-1):=by
 refine bT (by simp;omega) λx h1 h2=>?_;rw[zlg];cases x with
 |zero=>rfl
 |succ x=>simp
theorem zGM{data:List Dat}(hD:zaB data=true)(hk:Kpt data){kk:Nat}(hkk:kk≤8){t:VT}(htr:Trm data t):zaD data 0 t=true→CS data kk t:=by
 induction htr with
 |mk t hkt hft ihk ihf=>
  intro hv n hn H K hK;have hvk:∀x∈zpW t,CS data kk x:=λx hx=>ihk x hx (by cases t;exact zfA hv x hx);have hv2:zaG data 0 t=true:=by rw[zaD,ac]at hv;exact hv.2
  have hvf:∀c l,za7 data t c=some l→∀u∈l,u≠t→CS data kk u:=λc l hf u hu hne=>ihf c l hf u hu hne (zjQ hD hv2 hf u hu);refine ACalls.out (zVz λhs=>?_);obtain⟨k,m5,ks⟩:=t;simp[zEw,VT.cs];refine ziY n (by omega) _ _ ?_;rw[zlh];obtain⟨A0,hA0⟩:∃A0:zaa,A0=H++[AB.cells [.int .i64 k,.int .i64 m5,.sl (VT.css ks) .none]]:=⟨_,rfl⟩;have hA0l:A0.length=H.length+1:=by rw[hA0];simp
  have hA0s:HSc A0:=by rw[hA0];exact hs.append (by simp[AB.sc,AV.scA,AV.scB])
  have gb:∀J:zaa,(A0++J)[H.length]?=some (.cells [.int .i64 k,.int .i64 m5,.sl (VT.css ks) .none]):=λJ=>by rw[hA0];simp
  rw[←hA0];obtain⟨o,ho⟩:∃o,o=AV.ms A0.length 0 (n+1) (n+1):=⟨_,rfl⟩;rw[←ho];have hfin:∀F:Nat→Nat,(∀x,x≤n→F x=cV data kk (.mk k m5 ks) x)→Out H.length K o (A0++[.cells (zav ((tab F n).map some))]):=λF hF=>by rw[zc3 hF,hA0,ho,hA0];exact zw9 hs rfl (by simp) [] hK
  by_cases h0:n<1
  ·have h0':(n:Int)<1:=by omega
   simp[h0'];refine hfin _ λx hx=>?_;rw[show x=0 from by omega];rfl
  have h0':¬(n:Int)<1:=by omega
  simp[h0',gb];have hleaf:∀v:Nat,((k=1∧v=kk)∨(k=2∧v=2)∨(k=3∧v=1))→(zai 3 o (.int .i64 1) λt22=>zam 3 t22 (.agg (zaq (v:Nat))) (A0++[.cells (zav ((tab (λ_=>0) n).map some))]) λH'=>zdU o H' (Out H.length K)):=λv hv=>by refine zlf (s:=1) ho (by omega) (G:=cV data kk (.mk k m5 ks)) (λx hx=>zGe data kk v hv x) ?_;simp only[zdU,zjp];exact hfin _ λ_ _=>rfl
  by_cases k1:k=1
  ·simp[k1];refine zhC kk (by omega) _ _ ?_;exact hleaf kk (.inl ⟨k1,rfl⟩)
  by_cases k2:k=2
  ·simp[k2];refine zhC 2 (by omega) _ _ ?_;exact hleaf 2 (.inr (.inl ⟨k2,rfl⟩))
  by_cases k3:k=3
  ·simp[k3];refine zhC 1 (by omega) _ _ ?_;exact hleaf 1 (.inr (.inr ⟨k3,rfl⟩))
  have b1:(k == 1)=false:=by simpa using k1
  have b2:(k == 2)=false:=by simpa using k2
  have b3:(k == 3)=false:=by simpa using k3
  have hsl:∀k':AV→Prop,k' (.ms A0.length 3 n n)→za1 1 3 o (some (.int .i64 1)) none k':=λk' hk'=>by rw[ho,zFC];simp;rw[ap (by omega)];exact hk'
  have hcp:∀(F:Nat→Nat) (K':zaa→Prop),K' (A0++[.cells (zav ((tab (λx=>if x=0 then 0 else F (x-1)) n).map some))])→(zez 3 (.ms A0.length 3 n n) (.sl (rtA (tab F (n-1))) .none) (A0++[.cells (zav ((tab (λ_=>0) n).map some))]) λ_ H'=>K' H'):=λF K' hK'=>by
   have e0:(A0++[AB.cells (zav ((tab (λ_=>0) n).map some))])[A0.length]?=some (.cells (zav ((tab (λ_=>0) n).map some))):=by simp
   have e1:min (n-1+1) n=n:=by omega
   simp only[zFu,e0,zFt,zIN,zgi,e1];refine⟨⟨⟨by rw[zei];simp;omega,zrn⟩,zIM _⟩,?_⟩;have e2:(rtA (tab F (n-1))).flatten.take (n*3)=zav ((tab F (n-1)).map some):=by rw[zro,ak (by rw[zei];simp;omega)]
   have e3:zcC (zav ((tab (λ_=>0) n).map some)) 3 (zav ((tab F (n-1)).map some))=zav ((tab (λx=>if x=0 then 0 else F (x-1)) n).map some):=by unfold zcC;rw[aK (by rw[zei,zei];simp;omega),aE,zJ9 F (by omega)];rw[←zlh,List.replicate_succ,aA,aA];rfl
   rw[e2,e3,ai _ _ (aa _),bU,List.set_cons_zero];exact hK'
  have hwp:IntKind.i64.wrap ((n:Int)-1)=((n-1:Nat):Int):=by rw[zaz (by omega) (by omega)];omega
  have hks:ks.length≤1000:=by rw[zaD,ac,aH]at hv;have h1:=hv.1;have h2:=VT.len_le ks;simp[VT.nodes]at h1;omega
  have hk6:k=6∨k=8→zjq (.sl (data.map Dat.cs) .none) (.int .i64 n) (.int .i64 kk) (.ptr H.length 0) o (.int .i64 k) (.bool true) (A0++[.cells (zav ((tab (λ_=>0) n).map some))]) (Out H.length K):=λh6=>by
   unfold zjq;simp[gb];refine hsl _ ?_;rw[hwp];refine zaC _ (λJ=>zL9 hk hkk ks (n-1) (by omega) hks (λt ht H K hK=>hvk t ht (n-1) (by omega) H K hK) _ _ ⟨rfl,rfl⟩) ?_;refine hcp (cL (cV data kk) ks) _ ?_;simp only[zdU,zjp];refine hfin _ λx _=>?_;cases x with
   |zero=>rfl
   |succ x=>rw[zGh data kk h6];simp
  by_cases k6:k=6
  ·have:=hk6 (.inl k6);simp[b1,b2,b3,k6]at this ⊢;exact this
  by_cases k8:k=8
  ·have:=hk6 (.inr k8);simp[b1,b2,b3,k8]at this ⊢;exact this
  have b6:(k == 6)=false:=by simpa using k6
  have b8:(k == 8)=false:=by simpa using k8
  simp[b1,b2,b3,b6,b8,zjq];by_cases k7:k=7
  ·simp[k7,gb];have hk1:∃ u,ks=[u]:=by rw[zaG,ac]at hv2;have h1:=hv2.1;simp[zaK,k7]at h1;exact List.length_eq_one_iff.1 h1.2
   obtain⟨u,rfl⟩:=hk1;refine hsl _ ?_;obtain⟨x,y,z,hvx,hx,hy,hz⟩:=zaO u;simp[VT.css,hvx];rw[←hvx,hwp];have hu:=hvk u (by simp[zpW]);refine zaC _ (λJ=>hu (n-1) (by omega) _ _ ⟨rfl,rfl⟩) ?_;refine zaC _ (λJ=>zMh (cV data kk u) (zb3 data kk u) (n-1) (by omega) (λk h=>zdD hk hkk u (by omega)) (λk h=>zpm hk hkk u (by omega)) _ _ (.inl rfl) _ ⟨rfl,rfl⟩) ?_;refine hcp (cA (cV data kk u)) _ ?_;simp only[zdU,zjp];refine hfin _ λx _=>?_;cases x with
   |zero=>rfl
   |succ x=>rw[k7,zGg];simp
  have b7:(k == 7)=false:=by simpa using k7
  by_cases k5:k=5
  ·simp[b7,k5,gb];subst k5;have e1:AV.agg [.int .i64 5,.int .i64 m5,.sl (VT.css ks) .none]=.agg (VT.mk 5 m5 ks).cs:=rfl;rw[e1];refine zMu hD hk hkk n (by omega) hn m5 ks hv hvf _ _ ?_;rw[hA0,ah];exact Out.at rfl (aa _) hs .rfl' rfl rfl hK
  have b5:(k == 5)=false:=by simpa using k5
  simp[b7,b5,zdU,zjp];exact hfin _ λx _=>(zGf data kk ⟨k1,k2,k3,k5,k6,k7,k8⟩ x).symm
mutual
def zcQ(S:Nat→Prop):VT→Prop
 |.mk k n ks=>k≠9∧(k=5→S n.toNat)∧zbJ S ks
def zbJ(S:Nat→Prop):List VT→Prop
 |[]=>True
 |v::vs=>zcQ S v∧zbJ S vs
end
theorem zyb{S:Nat→Prop}:∀ {l:List VT},zbJ S l→∀ x∈l,zcQ S x
 |[],_,x,hx=>by simp at hx
 |v::vs,h,x,hx=>by
  rw[zbJ]at h;rcases aZ.1 hx with e|hx
  ·rw[e];exact h.1
  ·exact zyb h.2 x hx
mutual
theorem zyd{S S':Nat→Prop}(h:∀ d,S d→S' d):∀ v:VT,zcQ S v→zcQ S' v
 |.mk k n ks,hv=>by rw[zcQ]at hv ⊢;exact⟨hv.1,λe=>h _ (hv.2.1 e),ziH h ks hv.2.2⟩
theorem ziH{S S':Nat→Prop}(h:∀ d,S d→S' d):∀ l:List VT,zbJ S l→zbJ S' l
 |[],_=>by rw[zbJ];trivial
 |v::vs,hv=>by rw[zbJ]at hv ⊢;exact⟨zyd h v hv.1,ziH h vs hv.2⟩
end
def zoY(data:List Dat)(S:Nat→Prop):Prop:=∀d:Nat,S d→∀c∈zba data (d:Int),zbJ S c.args
mutual
theorem zIb{S:Nat→Prop}{ks:List VT}(hk:zbJ S ks):∀ a:VT,zcQ S a→zcQ S (subst ks a)
 |.mk k n al,h=>by
  unfold subst;split
  ·rename_i h4;cases hg:ks[n.toNat]? with
   |none=>exact absurd (List.getElem?_eq_none_iff.1 hg) (by omega)
   |some x=>exact zyb hk _ (aQ hg)
  ·rw[zcQ]at h ⊢;exact⟨h.1,h.2.1,zyc hk al h.2.2⟩
theorem zyc{S:Nat→Prop}{ks:List VT}(hk:zbJ S ks):∀ l:List VT,zbJ S l→zbJ S (zaR ks l)
 |[],_=>by rw[zaR,zbJ];trivial
 |a::l,h=>by rw[zbJ]at h;rw[zaR,zbJ];exact⟨zIb hk a h.1,zyc hk l h.2⟩
end
mutual
def zIs(xs:List Int):VT→Bool
 |.mk k n ks=>if k=3 then xs.contains n else zyu xs ks
def zyu(xs:List Int):List VT→Bool
 |[]=>true
 |v::vs=>zIs xs v && zyu xs vs
end
def inSq(s:List Bool)(d:Nat):Prop:=s.getD d false=true
structure Good (data:List Dat) (s s':List Bool):Prop where
 len:s'.length=s.length
 mono:∀d,inSq s d→inSq s' d
 new:∀d:Nat,inSq s' d→¬inSq s d→∀c∈zba data (d:Int),zbJ (inSq s') c.args
theorem Good.refl(data:List Dat)(s:List Bool):Good data s s:=⟨rfl,λ_ h=>h,λd h h'=>absurd h h'⟩
theorem Good.trans{data:List Dat}{s s1 s2:List Bool}(h:Good data s s1)(h':Good data s1 s2):Good data s s2:=
 ⟨h'.len.trans h.len,λd hd=>h'.mono d (h.mono d hd),λd hd hn c hc=>by
  by_cases h1:inSq s1 d
  ·exact ziH h'.mono _ (h.new d h1 hn c hc)
  ·exact h'.new d hd h1 c hc⟩
theorem zdIq{s:List Bool}{i:Nat}(hi:i<s.length)(d:Nat):inSq (s.set i true) d↔d=i∨inSq s d:=by
 unfold inSq;rw[List.getD_eq_getElem?_getD,List.getD_eq_getElem?_getD,List.getElem?_set];by_cases e:i=d
 ·subst e;simp[hi]
 ·simp[e,Ne.symm e]
def FoS(data:List Dat)(g:VT→List Bool→Bool×List Bool):Prop:=∀t s,TyIn data t→s.length=data.length→(g t s).1=true→Good data s (g t s).2∧zcQ (inSq (g t s).2) t
theorem zjV{data:List Dat}{g:VT→List Bool→Bool × List Bool}(hg:FoS data g):∀ (ts:List VT) (s:List Bool),(∀ x∈ts,TyIn data x)→s.length=data.length→(foL g ts s).1=true→Good data s (foL g ts s).2∧zbJ (inSq (foL g ts s).2) ts
 |[],s,_,_,_=>⟨Good.refl data s,by rw[zbJ];trivial⟩
 |t::ts,s,ht,hl,h=>by
  rw[foL]at h ⊢;split at h
  ·rename_i h1;rw[aB h1];obtain⟨k1,k2⟩:=hg t s (ht t (by simp)) hl h1;obtain⟨k3,k4⟩:=zjV hg ts (g t s).2 (λx hx=>ht x (by simp[hx])) (k1.len.trans hl) h;exact⟨k1.trans k3,by rw[zbJ];exact⟨zyd k3.mono t k2,k4⟩⟩
  ·cases h
theorem zpF{data:List Dat}{g:VT→List Bool→Bool × List Bool}(hg:FoS data g):∀ (cs:List Con) (s:List Bool),(∀ c∈cs,∀ x∈c.args,TyIn data x)→s.length=data.length→(foC g cs s).1=true→Good data s (foC g cs s).2∧∀ c∈cs,zbJ (inSq (foC g cs s).2) c.args
 |[],s,_,_,_=>⟨Good.refl data s,by simp⟩
 |c::cs,s,ht,hl,h=>by
  rw[foC]at h ⊢;split at h
  ·rename_i h1;rw[aB h1];obtain⟨k1,k2⟩:=zjV hg c.args s (ht c (by simp)) hl h1;obtain⟨k3,k4⟩:=zpF hg cs (foL g c.args s).2 (λx hx=>ht x (by simp[hx])) (k1.len.trans hl) h;refine⟨k1.trans k3,λx hx=>?_⟩;rcases aZ.1 hx with e | hx
   ·rw[e];exact ziH k3.mono _ k2
   ·exact k4 x hx
  ·cases h
theorem zw4{data:List Dat}(hD:zaB data=true):∀ f,FoS data (fo data f)
 |0,t,s,_,_,h=>by rw[fo]at h;cases h
 |f+1,.mk k n ks,s,ht,hl,h=>by
  have hg:=zw4 hD f;rw[fo]at h ⊢;split at h
  ·cases h
  ·rename_i h9;rw[ap h9];split at h
   ·rename_i h1;rw[aB h1];have hD1:Good data s (foD (fo data f) data k n s).2∧(k=5→inSq (foD (fo data f) data k n s).2 n.toNat):=by
     unfold foD at h1 ⊢;split at h1
     ·rename_i h5;rw[aB h5];obtain⟨rfl,h0⟩:=h5;obtain⟨hn0,hnl⟩:=ht.num;have hcd:zba data n=(data[n.toNat]).cons:=by unfold zba;rw[List.getD_eq_getElem?_getD,List.getElem?_eq_getElem hnl];rfl
      have hsl:n.toNat<s.length:=by omega
      obtain⟨k1,k2⟩:=zpF hg (zba data n) (s.set n.toNat true) (λc hc x hx=>by
       rw[hcd]at hc;exact(zfc hD hnl c hc).2 x hx) (by simpa using hl) h1
      refine⟨⟨by rw[k1.len];simp,λd hd=>k1.mono d ((zdIq hsl d).2 (.inr hd)),λd hd hn c hc=>?_⟩,λ_=>k1.mono _ ((zdIq hsl _).2 (.inl rfl))⟩;by_cases e:d=n.toNat
      ·subst e;have:((n.toNat:Nat):Int)=n:=by omega
       rw[this]at hc;exact k2 c hc
      ·exact k1.new d hd (λh=>((zdIq hsl d).1 h).elim e hn) c hc
     ·rename_i h5;rw[ap h5];refine⟨Good.refl data s,λe=>?_⟩;subst e;unfold inSq;cases hb:s.getD n.toNat false with
      |true=>rfl
      |false=>exact absurd ⟨rfl,hb⟩ h5
    obtain⟨k3,k4⟩:=zjV hg ks _ (λx hx=>(ht.kid x hx).1) (hD1.1.len.trans hl) h;refine⟨hD1.1.trans k3,?_⟩;rw[zcQ];exact⟨h9,λe=>k3.mono _ (hD1.2 e),k4⟩
   ·cases h
def po(data:List Dat):Nat→VT→List Bool→Bool × List Bool
 |0,_,s=>(false,s)
 | f+1,.mk k n ks,s=>if k=9 then (false,s) else
  if (foL (po data f) ks s).1=true then foD (po data f) data k n (foL (po data f) ks s).2 else (false,(foL (po data f) ks s).2)
theorem zrf(data:List Dat):∀ f,ze3 (po data f)
 |0,_,s=>⟨rfl,aa _⟩
 |f+1,.mk k n ks,s=>by
  have hg:=zrf data f;obtain⟨h3,h4⟩:=zg1 hg ks s;obtain⟨h1,h2⟩:=zpG hg data k n (foL (po data f) ks s).2;rw[po];split
  ·exact⟨rfl,aa _⟩
  ·split
   ·exact⟨by omega,by omega⟩
   ·exact⟨h3,h4⟩
theorem zG5{data:List Dat}(hD:zaB data=true){g:VT→List Bool→Bool × List Bool}(hg:FoS data g){k n:Int}{ks:List VT}(ht:TyIn data (.mk k n ks)){s:List Bool}(hl:s.length=data.length)(h1:(foD g data k n s).1=true):
  Good data s (foD g data k n s).2∧(k=5→inSq (foD g data k n s).2 n.toNat):=by
 unfold foD at h1 ⊢;split at h1
 ·rename_i h5;rw[aB h5];obtain⟨rfl,h0⟩:=h5;obtain⟨hn0,hnl⟩:=ht.num;have hcd:zba data n=(data[n.toNat]).cons:=by unfold zba;rw[List.getD_eq_getElem?_getD,List.getElem?_eq_getElem hnl];rfl
  have hsl:n.toNat<s.length:=by omega
  obtain⟨k1,k2⟩:=zpF hg (zba data n) (s.set n.toNat true) (λc hc x hx=>by
   rw[hcd]at hc;exact(zfc hD hnl c hc).2 x hx) (by simpa using hl) h1
  refine⟨⟨by rw[k1.len];simp,λd hd=>k1.mono d ((zdIq hsl d).2 (.inr hd)),λd hd hn c hc=>?_⟩,λ_=>k1.mono _ ((zdIq hsl _).2 (.inl rfl))⟩;by_cases e:d=n.toNat
  ·subst e;have:((n.toNat:Nat):Int)=n:=by omega
   rw[this]at hc;exact k2 c hc
  ·exact k1.new d hd (λh=>((zdIq hsl d).1 h).elim e hn) c hc
 ·rename_i h5;rw[ap h5];refine⟨Good.refl data s,λe=>?_⟩;subst e;unfold inSq;cases hb:s.getD n.toNat false with
  |true=>rfl
  |false=>exact absurd ⟨rfl,hb⟩ h5
theorem zyC{data:List Dat}(hD:zaB data=true):∀ f,FoS data (po data f)
 |0,t,s,_,_,h=>by rw[po]at h;cases h
 |f+1,.mk k n ks,s,ht,hl,h=>by
  have hg:=zyC hD f;rw[po]at h ⊢;split at h
  ·cases h
  ·rename_i h9;rw[ap h9];split at h
   ·rename_i h1;rw[aB h1];obtain⟨k3,k4⟩:=zjV hg ks s (λx hx=>(ht.kid x hx).1) hl h1;obtain⟨k1,k2⟩:=zG5 hD hg ht (k3.len.trans hl) h;refine⟨k3.trans k1,?_⟩;rw[zcQ];exact⟨h9,λe=>k2 e,ziH k1.mono ks k4⟩
   ·cases h
def FoC(data:List Dat)(S:Nat→Prop)(N:Nat)(g:VT→List Bool→Bool×List Bool):Prop:=
 ∀t s,201*uns s+t.nodes≤N→TyIn data t→s.length=data.length→(∀d,inSq s d→S d)→zcQ S t→(g t s).1=true∧∀d,inSq (g t s).2 d→S d
theorem zjU{data:List Dat}{S:Nat→Prop}{N:Nat}{g:VT→List Bool→Bool × List Bool}(hk:ze3 g)(hg:FoC data S N g):∀ (ts:List VT) (s:List Bool),(∀ x∈ts,TyIn data x∧201*uns s+x.nodes≤N)→s.length=data.length→(∀ d,inSq s d→S d)→zbJ S ts→(foL g ts s).1=true∧∀ d,inSq (foL g ts s).2 d→S d
 |[],s,_,_,hs,_=>⟨rfl,hs⟩
 |t::ts,s,ht,hl,hs,hn=>by rw[zbJ]at hn;obtain⟨h1,h2⟩:=ht t (by simp);obtain⟨k1,k2⟩:=hg t s h2 h1 hl hs hn.1;obtain⟨k3,k4⟩:=hk t s;rw[foL,aB k1];refine zjU hk hg ts _ (λx hx=>?_) (by omega) k2 hn.2;obtain⟨h3,h4⟩:=ht x (by simp[hx]);exact⟨h3,by omega⟩
theorem zw0{data:List Dat}{S:Nat→Prop}{N:Nat}{g:VT→List Bool→Bool × List Bool}(hk:ze3 g)(hg:FoC data S N g):∀ (cs:List Con) (s:List Bool),(∀ c∈cs,∀ x∈c.args,TyIn data x∧201*uns s+x.nodes≤N)→s.length=data.length→(∀ d,inSq s d→S d)→(∀ c∈cs,zbJ S c.args)→(foC g cs s).1=true∧∀ d,inSq (foC g cs s).2 d→S d
 |[],s,_,_,hs,_=>⟨rfl,hs⟩
 |c::cs,s,ht,hl,hs,hn=>by obtain⟨k1,k2⟩:=zjU hk hg c.args s (ht c (by simp)) hl hs (hn c (by simp));obtain⟨k3,k4⟩:=zg1 hk c.args s;rw[foC,aB k1];refine zw0 hk hg cs _ (λx hx y hy=>?_) (by omega) k2 λx hx=>hn x (by simp[hx]);obtain⟨h3,h4⟩:=ht x (by simp[hx]) y hy;exact⟨h3,by omega⟩
theorem zw2{data:List Dat}(hD:zaB data=true){S:Nat→Prop}(hC:zoY data S){N:Nat}{g:VT→List Bool→Bool × List Bool}(hk:ze3 g)(hg:FoC data S N g){k n:Int}{ks:List VT}(ht:TyIn data (.mk k n ks)){s:List Bool}(hm:201*uns s≤N)(hl:s.length=data.length)(hs:∀ d,inSq s d→S d)(hS:k=5→S n.toNat):
  (foD g data k n s).1=true∧∀d,inSq (foD g data k n s).2 d→S d:=by
 unfold foD;split
 ·rename_i h5;obtain⟨rfl,h0⟩:=h5;obtain⟨hn0,hnl⟩:=ht.num;have hcd:zba data n=(data[n.toNat]).cons:=by unfold zba;rw[List.getD_eq_getElem?_getD,List.getElem?_eq_getElem hnl];rfl
  have hsl:n.toNat<s.length:=by omega
  have hu:=zlr s n.toNat hsl h0;have hnat:((n.toNat:Nat):Int)=n:=by omega
  have hcl:=hC n.toNat (hS rfl);rw[hnat]at hcl;refine zw0 hk hg (zba data n) (s.set n.toNat true) (λc hc x hx=>?_) (by simpa using hl) (λd hd=>((zdIq hsl d).1 hd).elim (λe=>by rw[e];exact hS rfl) (hs d)) hcl;rw[hcd]at hc;have:=(zfc hD hnl c hc).2 x hx;have h2:=this.1;exact⟨this,by omega⟩
 ·exact⟨rfl,hs⟩
theorem zw3{data:List Dat}(hD:zaB data=true){S:Nat→Prop}(hC:zoY data S):∀ f,FoC data S f (fo data f)
 |0,t,s,h,_,_,_,_=>by have:=t.nodes_pos;omega
 |f+1,.mk k n ks,s,hm,ht,hl,hs,hn=>by
  have hg:=zw3 hD hC f;have hk:=zpH data f;have hnn:(VT.mk k n ks).nodes=VT.nodesL ks+1:=by simp[VT.nodes]
  rw[zcQ]at hn;rw[fo,ap hn.1];obtain⟨k1,k2⟩:=zw2 hD hC hk hg ht (by omega) hl hs hn.2.1;obtain⟨k3,k4⟩:=zpG hk data k n s;rw[aB k1];refine zjU hk hg ks _ (λx hx=>⟨(ht.kid x hx).1,?_⟩) (by omega) k2 hn.2.2;have:=(ht.kid x hx).2;omega
theorem zyB{data:List Dat}(hD:zaB data=true){S:Nat→Prop}(hC:zoY data S):∀ f,FoC data S f (po data f)
 |0,t,s,h,_,_,_,_=>by have:=t.nodes_pos;omega
 |f+1,.mk k n ks,s,hm,ht,hl,hs,hn=>by
  have hg:=zyB hD hC f;have hk:=zrf data f;have hnn:(VT.mk k n ks).nodes=VT.nodesL ks+1:=by simp[VT.nodes]
  rw[zcQ]at hn;rw[po,ap hn.1];obtain⟨k1,k2⟩:=zjU hk hg ks s (λx hx=>⟨(ht.kid x hx).1,by have:=(ht.kid x hx).2;omega⟩) hl hs hn.2.2;obtain⟨k3,k4⟩:=zg1 hk ks s;rw[aB k1];exact zw2 hD hC hk hg ht (by omega) (by omega) k2 hn.2.1
def zgZ(data:List Dat)(t:VT):Bool:=zcW data t && (po data 3000 t (List.replicate data.length false)).1
theorem zz6(n:Nat):uns (List.replicate n false)=n:=by
 unfold uns;induction n with
 |zero=>rfl
 |succ n ih=>rw[List.replicate_succ,dg,ih];rfl
theorem zkV(n d:Nat):¬inSq (List.replicate n false) d:=by unfold inSq;simp[List.getD_eq_getElem?_getD,List.getElem?_replicate];split <;> simp
theorem zG3(data:List Dat)(t:VT):zgZ data t=zb4 data t:=by
 unfold zgZ zb4;cases hf:zcW data t with
 |false=>rfl
 |true=>
  obtain⟨hD,hv⟩:=zjR hf;have hin:=zpD hf;have hn:=zfB hv;have hl:=zfW hD;have hm:201*uns (List.replicate data.length false)+t.nodes≤3000:=by rw[zz6];omega
  rw[aR,aR,bN];constructor
  ·intro h;obtain⟨k1,k2⟩:=zyC hD 3000 t (List.replicate data.length false) hin (by simp) h;exact(zw3 hD (S:=inSq (po data 3000 t (List.replicate data.length false)).2) (λd hd c hc=>k1.new d hd (zkV _ d) c hc) 3000 t _ hm hin (by simp) (λd hd=>absurd hd (zkV _ d)) k2).1
  ·intro h;obtain⟨k1,k2⟩:=zw4 hD 3000 t (List.replicate data.length false) hin (by simp) h;exact(zyB hD (S:=inSq (fo data 3000 t (List.replicate data.length false)).2) (λd hd c hc=>k1.new d hd (zkV _ d) c hc) 3000 t _ hm hin (by simp) (λd hd=>absurd hd (zkV _ d)) k2).1
def zFj(c:Con):Prop:=True∧c.args.length≤8∧∀t∈c.args,t.nodes≤1000000
def zFk(d:Dat):Prop:=True∧d.cons.length≤10∧∀c∈d.cons,zFj c
def zjy(ds:List Dat):Prop:=ds.length≤14∧∀d∈ds,zFk d
theorem zRu(data:List Dat)(hkd:zjy data)(H:zaa)(K:AV→zaa→Prop)(hK:∀b,(b=true↔RData data)→K (.bool b) H):ACalls tP zqI [.sl (data.map Dat.cs) .none] H K:=by
 refine ACalls.out (zRA λhs=>?_);obtain⟨kl,kd⟩:=hkd;have hF:¬RData data→∀J,Out H.length K (.bool false) (H++J):=λh J=>Out.bool rfl (aa _) hs (hK _ (by simp[h]));have hT:∀b:Bool,(b=true↔RData data)→∀J,Out H.length K (.bool b) (H++J):=λb h J=>Out.bool rfl (aa _) hs (hK _ h);by_cases h12:data.length>12
 ·have h12':(12:Int)<data.length:=by omega
  simp[ztX,h12'];have:=hF (λh=>by have:=h.len;omega) [];simpa using this
 have h12':¬(12:Int)<data.length:=by omega
 simp[ztX,h12'];unfold znl;refine ALoop.own 3 zbx 1 rfl ?_;refine ALoop.own 4 zbx 1 rfl ?_;rw[ah];have hcn:∀d,(za2 (data.take d)).length≤140:=λd=>by have:=zwD (data.take d) (λD hD=>(kd D (aW hD)).2.1);rw[aM]at this;have:min d data.length*10≤14*10:=aq _ (by omega);omega
 have hl1:(H++[AB.perm zbx 1 0]).length=H.length+1:=by simp
 rw[hl1];show znl (.sl (data.map Dat.cs) .none) (.sl [] (.own H.length)) (.sl [] (.own (H.length+1))) (.int .i64 0) (H++[.perm zbx 1 0,.perm zbx 1 0]) (Out H.length K);have hsP:∀m n,HSc (H++[.perm zbx 1 m,.perm zbx 1 n]):=λm n=>hs.append rfl;refine zRy (Inv:=λq t3 t4 t5 H'=>∃d:Nat,d≤data.length∧q=data.length-d∧t5=.int .i64 d∧t3=.sl (strs (zbo (data.take d))) (.own H.length)∧t4=.sl (strs (za2 (data.take d))) (.own (H.length+1))∧(∀j (h:j<data.length),j<d→RDat data j data[j])∧H'=H++[.perm zbx 1 d,.perm zbx 1 (za2 (data.take d)).length]) data.length ?_ ?_
 ·intro _;exact⟨0,by omega,by omega,rfl,by simp[zbo,strs],by simp[za2,strs],by omega,by simp[za2]⟩
 ·rintro q t3 t4 t5 H' ⟨d,hd,rfl,rfl,rfl,rfl,hok,rfl⟩ hsc hlen hsF Kb hKb;by_cases hlt:d<data.length
  ·have hbad:¬ RDat data d data[d]→∀ J,Out H.length K (.bool false) (H++J):=λh=>hF λhh=>h (hh.dats d hlt);have hcd:=hcn d;have hds:=zGX hlt;have hcs:=zGt hlt;obtain⟨kn,kc,kcc⟩:=kd _ (ae hlt);have hdl:(zbo (data.take d)).length=d:=by simp[zbo];omega
   generalize hD:data[d]=D at *;have hge:(data.map Dat.cs)[d]?.getD []=[.str D.name,.int .i64 D.vars,.sl (D.cons.map Con.cs) .none]:=by simp[hlt,hD,Dat.cs]
   by_cases hv0:D.vars<0
   ·simp[zgu,hlt,hD,Dat.cs,hv0];exact hbad (λh=>by have:=h.v0;omega) _
   by_cases hv6:6<D.vars
   ·simp[zgu,hlt,hD,Dat.cs,hv0,hv6];exact hbad (λh=>by have:=h.v6;omega) _
   by_cases hc1:D.cons.length<1
   ·have hc1':(D.cons.length:Int)<1:=by omega
    simp[zgu,hlt,hD,Dat.cs,hv0,hv6,hc1'];exact hbad (λh=>by have:=h.c1;omega) _
   have hc1':¬(D.cons.length:Int)<1:=by omega
   by_cases hc8:8<D.cons.length
   ·have hc8':(8:Int)<D.cons.length:=by omega
    simp[zgu,hlt,hD,Dat.cs,hv0,hv6,hc1',hc8'];exact hbad (λh=>by have:=h.c8;omega) _
   have hc8':¬(8:Int)<D.cons.length:=by omega
   simp[zgu,hlt,hD,Dat.cs,hv0,hv6,hc1',hc8'];refine zDT _ _ _ ?_;cases hup:zcg D.name with
   |false=>simp;exact hbad (λh=>by have:=h.up;rw[hup]at this;cases this) _
   |true=>
   simp[zws];simp[zax,za6,zaZ,hdl];refine⟨by omega,?_⟩;rw[←zzz,←hds];refine zRw (Inv:=λq t4 t7 H'=>∃k:Nat,k≤D.cons.length∧q=D.cons.length-k∧t7=.int .i64 k∧t4=.sl (strs (za2 (data.take d)++(D.cons.map Con.name).take k)) (.own (H.length+1))∧(∀c∈D.cons.take k,RCon data d D.vars c)∧H'=H++[.perm zbx 1 (d+1),.perm zbx 1 ((za2 (data.take d)).length+k),.cells [.str D.name,.int .i64 D.vars,.sl (D.cons.map Con.cs) .none]]) D.cons.length ?_ ?_
   ·intro _;exact⟨0,by omega,by omega,rfl,by simp,by simp,by simp⟩
   ·rintro q t4 t7 H' ⟨k,hk,rfl,rfl,rfl,hck,rfl⟩ hsc1 hlen1 hsF1 Kb1 hKb1;have hlk:(za2 (data.take d)++(D.cons.map Con.name).take k).length=(za2 (data.take d)).length+k:=by simp;omega
    by_cases hkl:k<D.cons.length
    ·have hkI:(k:Int)<D.cons.length:=by omega
     have hca:=zGA hkl;have hcbad:¬RCon data d D.vars D.cons[k]→∀J,Out H.length K (.bool false) (H++J):=λh=>hbad λhh=>h (hh.cons _ (ae hkl));have hns:za2 (data.take d)++(D.cons.map Con.name).take (k+1)=(za2 (data.take d)++(D.cons.map Con.name).take k)++[(D.cons[k]).name]:=by rw[zrH (by simpa using hkl)];simp
     obtain⟨_,ka,kan⟩:=kcc _ (ae hkl);generalize hC:D.cons[k]=C at *;simp[ztY,hkl,hC,Con.cs];refine zDT _ _ _ ?_;cases hupc:zcg C.name with
     |false=>simp;exact hcbad (λh=>by have:=h.up;rw[hupc]at this;cases this) _
     |true=>
     by_cases ha6:6<C.args.length
     ·have ha6':(6:Int)<C.args.length:=by omega
      simp[hkl,hC,Con.cs,ha6'];exact hcbad (λh=>by have:=h.len;omega) _
     have ha6':¬(6:Int)<C.args.length:=by omega
     simp[hkl,hC,Con.cs,ha6',zws];generalize hA:za2 (data.take d)++(D.cons.map Con.name).take k=A at *;have hAl:A.length=(za2 (data.take d)).length+k:=hlk;simp[zax,za6,zaZ,hAl,hkl,hC,Con.cs];refine⟨by omega,?_⟩;rw[←zzz,←hns];refine zRx (Inv:=λq t95 H'=>∃i:Nat,i≤C.args.length∧q=C.args.length-i∧t95=.int .i64 i∧(∀x∈C.args.take i,zeO data d D.vars x=true)∧H'=H++[.perm zbx 1 (d+1),.perm zbx 1 ((za2 (data.take d)).length+k+1),.cells [.str D.name,.int .i64 D.vars,.sl (D.cons.map Con.cs) .none]]) C.args.length ?_ ?_
     ·intro _;exact⟨0,by omega,by omega,rfl,by simp,rfl⟩
     ·rintro q t95 H' ⟨i,hi,rfl,rfl,hok3,rfl⟩ hsc2 hlen2 hsF2 Kb2 hKb2;by_cases hil:i<C.args.length
      ·have hxn:=kan _ (ae hil);have habad:zeO data d D.vars C.args[i]=false→∀ J,Out H.length K (.bool false) (H++J):=λh=>hcbad λhh=>by have:=hh.args _ (ae hil);rw[h]at this;cases this
       obtain⟨x,y,z,hvx,hx,hy,hz⟩:=vt3 C.args[i];have good:zeO data d D.vars C.args[i]=true→znk (.sl (data.map Dat.cs) .none) (.sl (strs (zbo (data.take (d+1)))) (.own H.length)) (.sl (strs (za2 (data.take d)++(D.cons.map Con.name).take (k+1))) (.own (H.length+1))) (.int .i64 d) (.ptr (H.length+2) 0) (.int .i64 k) (.sl (VT.css C.args) .none) (.int .i64 C.args.length) (.int .i64 i) (H++[.perm zbx 1 (d+1),.perm zbx 1 ((za2 (data.take d)).length+k+1),.cells [.str D.name,.int .i64 D.vars,.sl (D.cons.map Con.cs) .none],.cells [x,y,z]]) (Out H.length K) Kb Kb1 Kb2:=λhg=>by simp[znk,zCU];rw[zaz (by omega) (by omega)];refine hKb2 _ _ ⟨C.args.length-(i+1),by omega,Back.at (J:=[_]) (H2:=H++[.perm zbx 1 (d+1),.perm zbx 1 ((za2 (data.take d)).length+k+1),.cells [.str D.name,.int .i64 D.vars,.sl (D.cons.map Con.cs) .none]]) (by simp;rfl) (by simp) hsc2 ?_ ⟨_,rfl,i+1,by omega,rfl,by simp,zxT hil hok3 hg,rfl⟩⟩;simp[zni,AV.sc,AV.scV,AV.scA,AV.scB]
       simp[ztZ,hil,hvx,hx,hy,hz];rw[←hvx];refine zFi _ _ _ (by omega) _ _ ?_;cases hself:zcb d D.vars C.args[i] with
       |true=>rw[hvx];simp;exact good (by simp[zeO,hself])
       |false=>
        simp[hvx];refine⟨⟨by omega,λa _=>rfl⟩,?_⟩;rw[←bX,←hvx];refine zaC (.bool (zaD (data.take d) D.vars C.args[i])) (λJ=>zC0 (data.take d) (by simp;omega) _ _ (by omega) _ _ ⟨rfl,rfl⟩) ?_;cases hty:zaD (data.take d) D.vars C.args[i] with
        |false=>simp;exact habad (by simp[zeO,hself,hty]) _
        |true=>rw[hvx];simp;exact good (by simp[zeO,hty])
      ·obtain rfl:i=C.args.length:=by omega
       rw[aw]at *;simp[ztZ];rw[zaz (by omega) (by omega)];refine hKb1 _ _ ⟨D.cons.length-(k+1),by omega,Back.here (by simp) hsc2 ?_ ⟨_,_,rfl,k+1,by omega,rfl,by simp,rfl,?_,by simp[ag]⟩⟩
       ·simp[znh,AV.sc,AV.scV,AV.scA,AV.scB]
       ·exact zxT hkl hck (by rw[hC];exact⟨hupc,by omega,hok3⟩)
    ·obtain rfl:k=D.cons.length:=by omega
     rw[aw]at *;simp[ztY];rw[zaz (by omega) (by omega)];refine hKb _ _ ⟨data.length-(d+1),by omega,Back.at (J:=[_]) (H2:=H++[.perm zbx 1 (d+1),.perm zbx 1 (za2 (data.take (d+1))).length]) (by rw[hcs];simp;rfl) (by simp) (hsP _ _) ?_ ⟨_,_,_,rfl,d+1,by omega,rfl,by simp,rfl,by rw[hcs];exact congrArg (λl=>AV.sl (strs (za2 (data.take d)++l)) (.own (H.length+1))) (ak (Nat.le_of_eq (aS _))),λj hj hji=>?_,rfl⟩⟩
     ·simp[znj,AV.sc,AV.scV,AV.scA,AV.scB]
     ·by_cases hjd:j=d
      ·subst hjd;rw[hD];exact⟨by omega,by omega,by omega,by omega,hup,hck⟩
      ·exact hok j hj (by omega)
  ·obtain rfl:d=data.length:=by omega
   rw[aw]at *;have hdn:(zbo data).length=data.length:=by simp[zbo]
   have hcn':=hcn data.length;rw[aw]at hcn';simp[zgu];refine zyS _ (by omega) _ _ ?_;cases hr:zcf (zbo data) with
   |true=>simp;refine hT _ ?_ _;simp;intro h;have:=zrl h.names;rw[hr]at this;cases this
   |false=>simp;refine zyS _ (by omega) _ _ ?_;refine hT _ ?_ _;simp only[zcf,Bool.not_eq_false',aH,Bool.not_not]at hr ⊢;exact⟨λh=>⟨by omega,λj hj=>hok j hj hj,hr,h⟩,λh=>h.cons⟩
theorem zVw{data:List Dat}(hD:zaB data=true):∀ (f:Nat) (t:VT) (s:List Bool),TyIn data t→s.length=data.length→uns s*201+t.nodes≤f→∀ (H:zaa) (id:Nat),H[id]?=some (.cells (zaH s))→∀ K:Kt,
  K (.bool (po data f t s).1) (H.set id (.cells (zaH (po data f t s).2)))→ACalls tP zhi [.sl (data.map Dat.cs) .none,.agg t.cs,.ms id 0 data.length data.length] H K:=by
 intro f;induction f with
 |zero=>intro t s _ _ h;have:=t.nodes_pos;omega
 |succ f ih=>
  intro t s ht hsl hm H id hid K hK;obtain⟨k,n,ks⟩:=t;have hlt:=zf1 hid;have hdl:=zfW hD;have hll:=VT.len_le ks;have hnn:(VT.mk k n ks).nodes=VT.nodesL ks+1:=by simp[VT.nodes]
  have hn200:=ht.1;refine ACalls.out (zVv λhs=>?_);obtain⟨J,hJ⟩:∃J:zaa,J=[.cells [.int .i64 k,.int .i64 n,.sl (VT.css ks) .none]]:=⟨_,rfl⟩;obtain⟨G,hG⟩:∃G:List Bool→zaa,G=λs'=>H.set id (.cells (zaH s'))++J:=⟨_,rfl⟩;have hGl:∀s',(G s').length=H.length+1:=λs'=>by rw[hG,hJ];simp
  have hG0:H++J=G s:=by
   rw[hG];have:H.set id (.cells (zaH s))=H:=by
    apply aI;intro j;by_cases hj:id=j
    ·subst hj;rw[List.getElem?_set_self hlt];exact hid.symm
    ·rw[List.getElem?_set_ne hj]
   simp only[this]
  have g1:∀s',(G s')[H.length]?=some (.cells [.int .i64 k,.int .i64 n,.sl (VT.css ks) .none]):=λs'=>by rw[hG,hJ];simp[List.getElem?_append]
  have gi:∀s',(G s')[id]?=some (.cells (zaH s')):=λs'=>by rw[hG];exact zcB (zem _ hid)
  have hset:∀s' s'' J',(G s'++J').set id (.cells (zaH s''))=G s''++J':=λs' s'' J'=>by
   have hi1:id<(G s').length:=by rw[hGl];omega
   rw[a6 _ _ hi1,hG];simp only;rw[a6 _ _ (by simpa using hlt),cy]
  have hGs:∀s',HSc (G s'):=λs'=>by rw[hG,hJ];refine(hs.set (by simp[AB.sc,zgT])).append (by simp[AB.sc,AV.scA,AV.scB])
  have hout:∀J',Out H.length K (.bool (po data (f+1) (.mk k n ks) s).1) (G (po data (f+1) (.mk k n ks) s).2++J'):=λJ'=>by rw[hG,ah];exact Out.bool rfl (by simp) (hs.set (by simp[AB.sc,zgT])) hK
  have one:∀(x:VT),TyIn data x→∀s',s'.length=data.length→uns s'*201+x.nodes≤f→∀J' (K':Kt),K' (.bool (po data f x s').1) (G (po data f x s').2++J')→ACalls tP zhi [.sl (data.map Dat.cs) .none,.agg x.cs,.ms id 0 data.length data.length] (G s'++J') K':=λx hx s' hs' hm' J' K' hK'=>by refine ih x s' hx hs' hm' _ id (zcB (gi s')) K' ?_;rw[hset];exact hK'
  have wr:∀{j:Nat},j≤1000000→IntKind.i64.wrap ((j:Int)+1)=((j+1:Nat):Int):=λ{j} hj=>by rw[zaz (by omega) (by omega)];rfl
  have keep:=zrf data f;by_cases h9:k=9
  ·have hr:po data (f+1) (.mk k n ks) s=(false,s):=by rw[po,aB h9]
   rw[hr]at hout;simp[zu6,VT.cs,h9];rw[h9]at hJ;rw[←hJ,hG0];simpa using hout []
  have b9:(k == 9)=false:=by simpa using h9
  have hr9:po data (f+1) (.mk k n ks) s=if (foL (po data f) ks s).1=true then foD (po data f) data k n (foL (po data f) ks s).2 else (false,(foL (po data f) ks s).2):=by rw[po,ap h9]
  simp[zu6,VT.cs,b9];rw[←hJ,hG0];refine zVs (Inv:=λq t19 H'=>∃(i:Nat) (s':List Bool),i≤ks.length∧ks.length-i=q∧t19=.int .i64 i∧s'.length=data.length∧uns s'≤uns s∧foL (po data f) (ks.drop i) s'=foL (po data f) ks s∧H'=G s') ks.length ?_ ?_
  ·intro _;exact⟨0,s,by omega,rfl,rfl,hsl,aa _,rfl,rfl⟩
  ·rintro q t19 H' ⟨i,s',hi,rfl,rfl,hs',hu',hrem,rfl⟩ hsc4 hlen4 hsF4 Kb4 hKb4;by_cases hil:i<ks.length
   ·obtain⟨hx1,hx2⟩:=ht.kid _ (ae hil);obtain⟨x1,x2,x3,hvx,hxa,hxb,hxc⟩:=zaO ks[i];rw[af hil,foL]at hrem;simp[zom,hil,hvx,hxa,hxb,hxc];rw[←hvx];obtain⟨k1,k2⟩:=keep ks[i] s';refine one ks[i] hx1 s' hs' (by have:=aq 201 hu';omega) _ _ ?_;cases hr:(po data f ks[i] s').1 with
    |true=>rw[hr,aB rfl]at hrem;simp;rw[wr (by omega)];exact hKb4 _ _ ⟨ks.length-(i+1),by omega,Back.at (J:=[.cells (ks[i]).cs]) (H2:=G (po data f ks[i] s').2) rfl (by simp[hGl]) (hGs _) (by simp[zop,ux,AV.sc,AV.scA,AV.scB,AV.scV,hGl];omega) ⟨_,rfl,i+1,_,by omega,rfl,rfl,by omega,by omega,hrem,rfl⟩⟩
    |false=>rw[hr,ap (by simp)]at hrem;rw[←hrem,ap (by simp)]at hr9;simp;have:=hout [.cells (ks[i]).cs];rw[hr9]at this;simpa using this
   ·obtain rfl:i=ks.length:=by omega
    rw[au,foL]at hrem;rw[←hrem,aB rfl]at hr9;by_cases h5:k=5
    ·subst h5;obtain⟨n0,nl⟩:=ht.num;obtain⟨m,rfl⟩:∃ m:Nat,n=m:=⟨n.toNat,by omega⟩;rw[Int.toNat_natCast]at nl;have hcl:=zh0 hD nl;have hms:m<s'.length:=by omega
     have hbm:(zaH s')[m]?=some (.bool (s'.getD m false)):=by simp[zaH,List.getD_eq_getElem?_getD,hms]
     have hgd:s'.getD m false=s'[m]?.getD false:=List.getD_eq_getElem?_getD ..;simp[zom,g1 s',gi s',nl,zc4 _ hbm];cases hseen:s'[m]?.getD false with
     |true=>
      simp[zjo];have:foD (po data f) data 5 m s'=(true,s'):=by unfold foD;rw[ap (by rw[Int.toNat_natCast,hgd,hseen];simp)]
      rw[this]at hr9;have:=hout [];rw[hr9]at this;simpa using this
     |false=>
      have hu1:=zlr s' m hms (by rw[hgd,hseen]);have hfd:foD (po data f) data 5 m s'=foC (po data f) (zba data m) (s'.set m true):=by unfold foD;rw[aB (by rw[Int.toNat_natCast,hgd,hseen];simp),Int.toNat_natCast]
      rw[hfd]at hr9;have hca:zba data m=(data[m]).cons:=by simp[zba,List.getD_eq_getElem?_getD,nl]
      rw[hca]at hr9;simp[gi s'];rw[zjF hms];have hG1:(G s').set id (.cells (zaH (s'.set m true)))=G (s'.set m true):=by have:=hset s' (s'.set m true) [];simpa using this
      rw[hG1];obtain⟨S1,hS1⟩:∃S1,S1=s'.set m true:=⟨_,rfl⟩;have hS1l:S1.length=data.length:=by rw[hS1];simpa using hs'
      rw[←hS1]at hr9 hu1 ⊢;have e1:(data.map Dat.cs)[m]?=some (data[m]).cs:=by simp[nl]
      have htyp:=zfc hD nl;generalize hDm:data[m]=D at *;simp[g1 S1,nl,e1,hDm,Dat.cs];refine⟨by omega,?_⟩;refine zVq (Inv:=λq t51 H'=>∃(i:Nat) (s2:List Bool),i≤D.cons.length∧D.cons.length-i=q∧t51=.int .i64 i∧s2.length=data.length∧uns s2≤uns S1∧foC (po data f) (D.cons.drop i) s2=foC (po data f) D.cons S1∧H'=G s2) D.cons.length ?_ ?_
      ·intro _;exact⟨0,S1,by omega,rfl,rfl,hS1l,aa _,by simp,rfl⟩
      ·rintro q t51 H' ⟨i,s2,hi,rfl,rfl,hs2,hu2,hrem,rfl⟩ hsc6 hlen6 hsF6 Kb6 hKb6;by_cases hil:i<D.cons.length
       ·obtain⟨hal,hat⟩:=htyp _ (ae hil);rw[af hil,foC]at hrem;generalize hCi:D.cons[i]=C at *;simp[zu7,hil,hCi,Con.cs,hGl];refine zVr (Inv:=λq t58 H'=>∃(j:Nat) (s3:List Bool),j≤C.args.length∧C.args.length-j=q∧t58=.int .i64 j∧s3.length=data.length∧uns s3≤uns s2∧foL (po data f) (C.args.drop j) s3=foL (po data f) C.args s2∧H'=G s3++[.cells [.str C.name,.sl (VT.css C.args) .none]]) C.args.length ?_ ?_
        ·intro _;exact⟨0,s2,by omega,rfl,rfl,hs2,aa _,by simp,rfl⟩
        ·rintro q t58 H' ⟨j,s3,hj,rfl,rfl,hs3,hu3,hrem2,rfl⟩ hsc9 hlen9 hsF9 Kb9 hKb9;by_cases hjl:j<C.args.length
         ·have hx:=hat _ (ae hjl);obtain⟨x1,x2,x3,hvx,hxa,hxb,hxc⟩:=zaO C.args[j];rw[af hjl,foL]at hrem2;simp[zu8,hjl,hvx,hxa,hxb,hxc,hGl];rw[←hvx];obtain⟨k1,k2⟩:=keep C.args[j] s3;have hx2:=hx.1;refine one C.args[j] hx s3 hs3 (by have:=aq 201 (aC hu3 hu2);omega) _ _ ?_;cases hr:(po data f C.args[j] s3).1 with
          |true=>rw[hr,aB rfl]at hrem2;simp;rw[wr (by omega)];exact hKb9 _ _ ⟨C.args.length-(j+1),by omega,Back.at (J:=[.cells (C.args[j]).cs]) (H2:=G (po data f C.args[j] s3).2++[.cells [.str C.name,.sl (VT.css C.args) .none]]) (by simp) (by simp[hGl]) ((hGs _).append (by simp[AB.sc,AV.scA,AV.scB])) (by simp[zoo,ux,AV.sc,AV.scA,AV.scB,AV.scV,hGl];omega) ⟨_,rfl,j+1,_,by omega,rfl,rfl,by omega,by omega,hrem2,rfl⟩⟩
          |false=>rw[hr,ap (by simp)]at hrem2;rw[←hrem2,ap (by simp)]at hrem;rw[←hrem]at hr9;simp;have:=hout [.cells [.str C.name,.sl (VT.css C.args) .none],.cells (C.args[j]).cs];rw[hr9]at this;simpa using this
         ·obtain rfl:j=C.args.length:=by omega
          rw[au,foL]at hrem2;rw[←hrem2,aB rfl]at hrem;simp[zu8];rw[wr (by omega)];exact hKb6 _ _ ⟨D.cons.length-(i+1),by omega,Back.at (J:=[.cells [.str C.name,.sl (VT.css C.args) .none]]) (H2:=G s3) rfl (by simp[hGl]) (hGs _) (by simp[zon,ux,AV.sc,AV.scA,AV.scB,AV.scV,hGl];omega) ⟨_,rfl,i+1,s3,by omega,rfl,rfl,hs3,by omega,hrem,rfl⟩⟩
       ·obtain rfl:i=D.cons.length:=by omega
        rw[au,foC]at hrem;rw[←hrem]at hr9;simp[zu7,zjo];have:=hout [];rw[hr9]at this;simpa using this
    ·have b5:(k == 5)=false:=by simpa using h5
     have hfd:foD (po data f) data k n s'=(true,s'):=by unfold foD;rw[ap (λh=>h5 h.1)]
     rw[hfd]at hr9;simp[zom,g1 s',b5,zjo];have:=hout [];rw[hr9]at this;simpa using this
theorem zSr{data:List Dat}(hk:zjy data)(t:VT)(ht:t.nodes≤1000000)(H:zaa)(K:Kt)(hK:K (.bool (zb4 data t)) H):
  ACalls tP zqM [.sl (data.map Dat.cs) .none,.agg t.cs] H K:=by
 refine ACalls.out (zSq λhs=>?_);obtain⟨x,y,z,hvx,hx,hy,hz⟩:=zaO t;rw[←zG3]at hK;have hO:∀b J,zgZ data t=b→Out H.length K (.bool b) (H++J):=λb J h=>Out.bool rfl (aa _) hs (h ▸ hK);have hkl:=hk.1;simp[zDe,hvx];refine zRu data hk _ _ λb hb=>?_;have hbd:b=zaB data:=by rw[bN,hb,zGS]
 subst hbd;cases hd:zaB data with
 |false=>simp;exact hO _ _ (by simp[zgZ,zcW,hd])
 |true=>
  simp;rw[←hvx];refine zC0 data (by omega) 0 t (by omega) _ _ ?_;cases hf:zaD data 0 t with
  |false=>simp;exact hO _ _ (by simp[zgZ,zcW,hf])
  |true=>
   have hfv:zcW data t=true:=by simp[zcW,hd,hf]
   have hdl:=zfW hd;have hti:=zpD hfv;simp[za9,zpk];refine zcn (.ms (H++[AB.cells t.cs]).length 0 data.length data.length) (H++[.cells t.cs,.cells (zaH (List.replicate data.length false))]) ⟨⟨by omega,by omega⟩,by simp[zaH]⟩ ?_;have hg:(H++[AB.cells t.cs,.cells (zaH (List.replicate data.length false))])[(H++[AB.cells t.cs]).length]?=some (.cells (zaH (List.replicate data.length false))):=by simp[List.getElem?_append]
   refine zcn _ _ (zVw hd 3000 t (List.replicate data.length false) hti (by simp) (by rw[zz6];have:=hti.1;omega) _ _ hg _ ⟨rfl,rfl⟩) ?_;simp;have hr:=hO (po data 3000 t (List.replicate data.length false)).1 [.cells t.cs,.cells (zaH (po data 3000 t (List.replicate data.length false)).2)] (by simp[zgZ,hfv]);simpa[ai]using hr
end Go.Proofs.YtaifokkaaahdoaaGreatDoor
