import Derived.Test.YtjkkonpjecoieaaGreatKUA
import Derived.Test.YtjkkonpjecoieaaGreatIT
import Derived.Test.YtjkkonpjecoieaaGreatKY11
import Derived.Test.YtjkkonpjecoieaaGreatAbsQ1
import Derived.Test.YtjkkonpjecoieaaGreatAbsO3
import Derived.Shelf.SlSortCmp.NoneTotal
import Derived.Test.YtjkkonpjecoieaaGreatProg
import Derived.Test.YtjkkonpjecoieaaGreatKNum
import Derived.KernelRfl
import Derived.Test.YtjkkonpjecoieaaGreatKUE
import Derived.Test.YtjkkonpjecoieaaGreatKUQ
set_option linter.unusedSimpArgs false
set_option linter.unusedVariables false
namespace Go.Proofs.YtjkkonpjecoieaaGreat
open Go Go.Abs
set_option maxRecDepth 8000
theorem zeR {H:zaa} {K:AV→zaa→Prop} {r:AV} (hsc:HSc H) (hv:r.isV=true) (hr:r.scV H.length=true) (h:K r H):Out H.length K r H:=by
 have:=Out.same (J:=[]) rfl hsc hv hr h
 simpa using this
theorem zwu (a:Int) (H:zaa) (K:AV→zaa→Prop) (hK:K (.bool false) H):ACalls tP zjk [.int .i64 a] H K:=by
 refine ACalls.out (zJy fun hs=>?_)
 simp[zzh]
 exact zeR hs rfl rfl hK
theorem zvr (a b:Int) (H:zaa) (K:AV→zaa→Prop) (hK:K (.int .i64 (icmp a b)) H):ACalls tP zjT [.int .i64 a,.int .i64 b] H K:=by
 refine ACalls.out (zTr fun hs=>?_)
 unfold zCM
 refine zwu _ _ _ (zwu _ _ _ ?_)
 have hO:=zeR (K:=K) (H:=H) (r:=.int .i64 (icmp a b)) hs rfl rfl hK
 by_cases h1:a<b
 ·simp[h1];simpa[icmp,h1]using hO
 ·by_cases h2:b<a
  ·simp[h1,h2];simpa[icmp,h1,h2]using hO
  ·simp[h1,h2];simpa[icmp,h1,h2]using hO
def orL:List Int→Int
 | []=>0
 | a::l=>cor a (orL l)
theorem zE1 (l:List Int) (tok:Tok) (hl:l.length≤1000000) (H:zaa) (K:AV→zaa→Prop) (hK:K (.int .i64 (orL l)) H):ACalls tP zpO [.sl (l.map fun x=>[.int .i64 x]) tok] H K:=by
 refine ACalls.out (zTn fun hs=>?_)
 simp[zCK]
 refine zTk (Inv:=fun q t8 H'=>∃ i:Nat,i≤l.length∧q=l.length-i∧t8=.int .i64 i∧orL (l.drop i)=orL l∧H'=H) l.length ?_ ?_
 ·intro _;exact⟨0,by omega,by omega,rfl,by simp,rfl⟩
 ·rintro q t8 H' ⟨i,hi,rfl,rfl,ho,rfl⟩ hsc hlen hsF Kb hKb
  by_cases hlt:i<l.length
  ·rw[List.drop_eq_getElem_cons hlt,orL]at ho
   by_cases hz:l[i]=0
   ·rw[zow hz]at ho
    simp[znU,hlt,hz]
    rw[zau (by omega) (by omega)]
    refine hKb _ _ ⟨l.length-(i+1),by omega,Back.here (Nat.le_refl _) hs ?_ ⟨_,rfl,i+1,by omega,rfl,by simp,ho,rfl⟩⟩
    simpa[znV,AV.sc,AV.scV,AV.scA,AV.scB]using hsF
   ·rw[ziX hz]at ho
    have hz:(l[i] != 0)=true:=by simpa using hz
    simp[znU,hlt,hz]
    rw[←ho]at hK
    exact zeR hs rfl rfl hK
  ·simp[znU,hlt]
   obtain rfl:i=l.length:=by omega
   rw[List.drop_length]at ho
   rw[←ho]at hK
   exact zeR hs rfl rfl hK
theorem zvs (ks ks':List IT) (he:ks.length=ks'.length) (hb:ks.length≤1000000)
  (hc:∀ (i:Nat) (h:i<ks.length) (h':i<ks'.length) (H:zaa) (K:AV→zaa→Prop),K (.int .i64 (IT.cmp ks[i] ks'[i])) H→ACalls tP zgo [.agg ks[i].cs,.agg ks'[i].cs] H K)
  (H:zaa) (K:AV→zaa→Prop) (hK:K (.int .i64 (IT.cmpL ks ks')) H):ACalls tP zjD [.sl (IT.css ks) .none,.sl (IT.css ks') .none,.fn zgo []] H K:=by
 refine ACalls.out (zP4 fun hs=>?_)
 simp[zBK]
 refine zP2 (Inv:=fun q t13 H'=>∃ i:Nat,i≤ks.length∧q=ks.length-i∧t13=.int .i64 i∧IT.cmpL (ks.drop i) (ks'.drop i)=IT.cmpL ks ks'∧H'=H) ks.length ?_ ?_
 ·intro _;exact⟨0,by omega,by omega,rfl,by simp,rfl⟩
 ·rintro q t8 H' ⟨i,hi,rfl,rfl,ho,rfl⟩ hsc hlen hsF Kb hKb
  by_cases hlt:i<ks.length
  ·have hlt':i<ks'.length:=by omega
   have hle:¬ ks'.length≤i:=by omega
   rw[IT.cmpL_drop hlt hlt']at ho
   simp[ztp,hlt,hlt',hle]
   refine hc i hlt hlt' _ _ ?_
   by_cases hz:IT.cmp ks[i] ks'[i]=0
   ·rw[zow hz]at ho
    simp[hz]
    rw[zau (by omega) (by omega)]
    refine hKb _ _ ⟨ks.length-(i+1),by omega,Back.same (Nat.le_refl _) hs ?_ ⟨_,rfl,i+1,by omega,rfl,by simp,ho,rfl⟩⟩
    simp[zmK,AV.sc,AV.scV,AV.scA,AV.scB]
   ·rw[ziX hz]at ho
    have hz:(IT.cmp ks[i] ks'[i] != 0)=true:=by simpa using hz
    simp[hz]
    rw[←ho]at hK
    exact Out.same rfl hs rfl rfl hK
  ·have hnl:¬ ks.length<ks'.length:=by omega
   simp[ztp,hlt,hnl]
   obtain rfl:i=ks.length:=by omega
   rw[List.drop_length,he,List.drop_length]at ho
   rw[←ho]at hK
   exact zeR hs rfl rfl hK
theorem zEl:∀ (m:Nat) (v w:IT),v.nodes≤m→v.nodes≤1000000→∀ (H:zaa) (K:AV→zaa→Prop),K (.int .i64 (IT.cmp v w)) H→ACalls tP zgo [.agg v.cs,.agg w.cs] H K:=by
 intro m
 induction m with
 | zero=>intro v w h;have:=v.nodes_pos;omega
 | succ m ih=>
  intro v w hv hb H K hK
  obtain⟨n,ks⟩:=v
  obtain⟨n',ks'⟩:=w
  have hnl:IT.nodesL ks+1≤1000000:=by simpa[IT.nodes]using hb
  have hll:=IT.len_le ks
  refine ACalls.out (zP8 fun hs=>?_)
  simp[IT.cs,zBM]
  refine zaH _ (fun J=>zvr _ _ _ _ ⟨rfl,rfl⟩) ?_
  refine zaH _ (fun J=>zvr _ _ _ _ ⟨rfl,rfl⟩) ?_
  simp[zaB,zbf,zaF,List.replicate]
  refine zaH _ (fun J=>zE1 [icmp n n',icmp ks.length ks'.length] _ (by simp) _ _ ⟨rfl,rfl⟩) ?_
  by_cases hz:orL [icmp n n',icmp ks.length ks'.length]=0
  ·have hz':=hz
   simp only[orL,zhb]at hz
   have hlen:ks.length=ks'.length:=by have:=(zi6 _ _).mp hz.2.1;omega
   simp[hz']
   refine zvs ks ks' hlen (by omega) (fun i h h' H K hK=>?_) _ _ ?_
   ·have:=IT.kid_lt (n:=n) h
    exact ih _ _ (by omega) (by omega) H K hK
   ·refine Out.same rfl hs rfl rfl ?_
    simpa[IT.cmp,hz,cor]using hK
  ·have hzb:(orL [icmp n n',icmp ks.length ks'.length] != 0)=true:=by simpa using hz
   simp[hzb]
   refine Out.same rfl hs rfl rfl ?_
   have e:IT.cmp (.mk n ks) (.mk n' ks')=orL [icmp n n',icmp ks.length ks'.length]:=by
    simp only[IT.cmp,orL,cor]at hz ⊢
    split <;> (try split) <;> (try split) <;> simp_all
   rwa [e]at hK
theorem zwK (b:Bool) (H:zaa) (K:AV→zaa→Prop) (hK:K (.int .i64 (if b then -1 else 1)) H):ACalls tP zjr [.bool b] H K:=by
 refine ACalls.out (zMD fun hs=>?_)
 have hO:=zeR (K:=K) (H:=H) (r:=.int .i64 (if b then -1 else 1)) hs rfl rfl hK
 cases b <;> simp[zAw] <;> simpa using hO
theorem zDm (ks ks':List IT) (hb:ks.length≤1000000)
  (hc:∀ (i:Nat) (h:i<ks.length) (h':i<ks'.length) (H:zaa) (K:AV→zaa→Prop),K (.int .i64 (IT.cmp ks[i] ks'[i])) H→ACalls tP zgi [.agg ks[i].cs,.agg ks'[i].cs] H K)
  (H:zaa) (K:AV→zaa→Prop) (hK:K (.int .i64 (cor (icmp ks.length ks'.length) (IT.cmpL ks ks'))) H):ACalls tP zps [.sl (IT.css ks) .none,.sl (IT.css ks') .none] H K:=by
 refine ACalls.out (zMI fun hs=>?_)
 have fin:=zeR (K:=K) (H:=H) (r:=.int .i64 (cor (icmp ks.length ks'.length) (IT.cmpL ks ks'))) hs rfl rfl hK
 by_cases he:ks.length=ks'.length
 ·have e:cor (icmp ks.length ks'.length) (IT.cmpL ks ks')=IT.cmpL ks ks':=by simp[he,zv4,cor]
  rw[e]at fin
  simp[zst,he]
  refine zMG (Inv:=fun q t13 H'=>∃ i:Nat,i≤ks.length∧q=ks.length-i∧t13=.int .i64 i∧IT.cmpL (ks.drop i) (ks'.drop i)=IT.cmpL ks ks'∧H'=H) ks.length ?_ ?_
  ·intro _;exact⟨0,by omega,by omega,rfl,by simp,rfl⟩
  ·rintro q t8 H' ⟨i,hi,rfl,rfl,ho,rfl⟩ hsc hlen hsF Kb hKb
   by_cases hlt:i<ks.length
   ·have hlt':i<ks'.length:=by omega
    rw[IT.cmpL_drop hlt hlt']at ho
    simp[zsu,hlt,hlt']
    refine zaH _ (fun J=>hc i hlt hlt' _ _ ⟨rfl,rfl⟩) ?_
    by_cases hz:IT.cmp ks[i] ks'[i]=0
    ·rw[zow hz]at ho
     simp[hz]
     rw[zau (by omega) (by omega)]
     refine hKb _ _ ⟨ks.length-(i+1),by omega,Back.here (Nat.le_refl _) hs ?_ ⟨_,rfl,i+1,by omega,rfl,by simp,ho,rfl⟩⟩
     simp[zlZ,AV.sc,AV.scV,AV.scA,AV.scB]
    ·rw[ziX hz]at ho
     have hz:(IT.cmp ks[i] ks'[i] != 0)=true:=by simpa using hz
     simp[hz]
     rw[ho]
     exact fin
   ·have hlt':¬ i<ks'.length:=by omega
    simp[zsu,hlt,hlt']
    obtain rfl:i=ks.length:=by omega
    rw[List.drop_length,he,List.drop_length]at ho
    simp only[IT.cmpL]at ho
    rw[←ho]at fin
    exact fin
 ·have hb:((ks.length:Int) != ks'.length)=true:=by simp;omega
  simp[zst,hb]
  refine zwK _ _ _ ?_
  have e:cor (icmp ks.length ks'.length) (IT.cmpL ks ks')=if decide (ks.length<ks'.length)=true then -1 else 1:=by
   rw[zv3 (by omega),ziX (by split <;> omega)];simp
  rw[e]at fin
  exact fin
theorem zxc:∀ (m:Nat) (v w:IT),v.nodes≤m→v.nodes≤1000000→∀ (H:zaa) (K:AV→zaa→Prop),K (.int .i64 (IT.cmp v w)) H→ACalls tP zgi [.agg v.cs,.agg w.cs] H K:=by
 intro m
 induction m with
 | zero=>intro v w h;have:=v.nodes_pos;omega
 | succ m ih=>
  intro v w hv hb H K hK
  obtain⟨n,ks⟩:=v
  obtain⟨n',ks'⟩:=w
  have hnl:IT.nodesL ks+1≤1000000:=by simpa[IT.nodes]using hb
  have hll:=IT.len_le ks
  refine ACalls.out (zJV fun hs=>?_)
  have fin:∀ J,Out H.length K (.int .i64 (IT.cmp (.mk n ks) (.mk n' ks'))) (H++J):=fun J=>Out.same rfl hs rfl rfl hK
  by_cases h2:n=n'
  ·subst h2
   simp[IT.cs,zrG]
   have e:IT.cmp (.mk n ks) (.mk n ks')=cor (icmp ks.length ks'.length) (IT.cmpL ks ks'):=by simp[IT.cmp,zv4,cor]
   rw[e]at fin
   refine zDm ks ks' (by omega) (fun i h h' H K hK=>?_) _ _ (fin _)
   have:=IT.kid_lt (n:=n) h
   exact ih _ _ (by omega) (by omega) H K hK
  ·have hb:(n != n')=true:=by simpa using h2
   simp[IT.cs,zrG,hb]
   refine zwK _ _ _ ?_
   have e:IT.cmp (.mk n ks) (.mk n' ks')=if decide (n<n')=true then -1 else 1:=by
    simp only[IT.cmp,cor]
    rw[zv3 h2];split <;> simp <;> omega
   rw[e]at fin
   exact fin _
end Go.Proofs.YtjkkonpjecoieaaGreat
namespace Go.Abs
open Go Go.RowKit
open Go.Sort (grow putRow putCells mapBlock onCells ahead SWO PermIn SortedIn Holds)
open Go.Proofs (sortWorld ltOf CmpLays1)
variable {P:Program} {B:Nat} {w:World} {G:Gh} {H:zaa}
theorem zEg {W w':World} (hd:W.drawn≤w'.drawn) (hb:Below W.heap.size W w'):∃ q os,w'=grow (W.drewN q) os:=by
 refine⟨w'.drawn-W.drawn,w'.heap.extract W.heap.size w'.heap.size,?_⟩
 obtain⟨h1,h2,h3,h4,h5⟩:=hb
 obtain⟨heap,tape,drawn,os,output⟩:=W
 obtain⟨heap',tape',drawn',os',output'⟩:=w'
 simp only at *
 subst h1 h2 h3
 have e1:heap'=heap++heap'.extract heap.size heap'.size:=by
  refine Array.ext_getElem? fun i=>?_
  by_cases hi:i<heap.size
  ·rw[Array.getElem?_append_left hi,h5 i hi]
  ·rw[Array.getElem?_append_right (by omega),Array.getElem?_extract]
   by_cases h:i<heap'.size
   ·rw[if_pos (by omega),show heap.size+(i-heap.size)=i by omega]
   ·rw[if_neg (by omega),Array.getElem?_eq_none (by omega)]
 have e2:drawn'=drawn+(drawn'-drawn):=by omega
 simp only[grow,World.drewN]
 rw[←e1,←e2]
theorem HRel.alone (h:HRel B w G H) (o:Obj):Ext B w G (w.alloc o) G∧HRel B (w.alloc o) G H:=by
 have he:=Ext.alloc h o G.L (fun _ _=>rfl) []
 simp only[List.append_nil]at he
 refine⟨he,h.keep he rfl (fun id gi b h1 h2=>⟨zdE (h.lt id gi b h1 h2),rfl⟩) (fun b hb=>?_)⟩
 rw[zcI]at hb
 exact h.fresh b (by omega)
theorem HRel.grown:∀ (os:List Obj) {w:World},HRel B w G H→Ext B w G (grow w os.toArray) G∧HRel B (grow w os.toArray) G H
 | [],w,h=>by
  have:grow w #[]=w:=by simp[grow]
  rw[show ([]:List Obj).toArray=#[] from rfl,this]
  exact⟨Ext.refl _ _ _,h⟩
 | o::l,w,h=>by
  obtain⟨h1,h2⟩:=h.alone o
  obtain⟨h3,h4⟩:=HRel.grown l h2
  have:grow w (o::l).toArray=grow (w.alloc o) l.toArray:=by
   rw[Go.Sort.alloc_eq_grow,Go.Sort.grow_grow]
   simp
  rw[this]
  exact⟨h1.trans h3,h4⟩
theorem zFf {α:Type} [Inhabited α] (vals:α→Value) (d:Array α) (cur:Array Value) (h:d.size≤cur.size):(putCells vals 0 d cur).toList.take d.size=d.toList.map vals:=by
 refine List.ext_getElem (by simp[putCells];omega) fun i h1 h2=>?_
 simp at h2
 simp[putCells,h2]
theorem HRel.sorted {α:Type} [Inhabited α] (h:HRel B w G H) {id e n g cap:Nat} {cs cs':List AV} (hH:H[id]?=some (.vec e 1 n cs)) (hμ:G.μ[id]?=some (.own (.slice (some ⟨g,0,none⟩) n cap) 1 n))
  (vals:α→Value) (d:Array α) (hd:d.size=n) (hc:All2 (ARel w G) (d.toList.map vals) cs') (m:Nat) (os:Array Obj) :
  Ext B w G (sortWorld vals w g 0 m d os) G∧HRel B (sortWorld vals w g 0 m d os) G (H.set id (.vec e 1 n cs')):=by
 obtain⟨_,_,⟨xs,⟨hxl,ho⟩,hxc⟩,hL0⟩:=h.ok id _ _ hH hμ
 rcases ho with ⟨h1,_⟩ | ⟨g',cap',cur,h1,hB,hw,hcap,hcm,hsz,htk⟩
 ·cases h1
 cases h1
 have h1:=h.storeV (cur':=putCells vals 0 d cur) (xs':=d.toList.map vals) hH hμ hw hB hcap hcm (by simp[putCells,hsz]) (by rw[Nat.mul_one,←hd];exact zFf vals d cur (by omega)) (by simp[hd]) hc
 obtain⟨hE1,hR1⟩:=h1
 have hE2:=Ext.drew B (w.setRow g (putCells vals 0 d cur)) G ((w.setRow g (putCells vals 0 d cur)).drawn+m) (Nat.le_add_right _ _)
 have hR2:=hR1.drew ((w.setRow g (putCells vals 0 d cur)).drawn+m) (Nat.le_add_right _ _)
 obtain⟨hE3,hR3⟩:=HRel.grown os.toList hR2
 have heq:sortWorld vals w g 0 m d os=grow { w.setRow g (putCells vals 0 d cur) with drawn:=(w.setRow g (putCells vals 0 d cur)).drawn+m } os.toList.toArray:=by
  have hh:w.heap.modify g (onCells (putCells vals 0 d))=(w.setRow g (putCells vals 0 d cur)).heap:=by
   unfold World.setRow
   refine Array.ext_getElem? fun i=>?_
   simp only[Array.getElem?_modify]
   by_cases hi:g=i
   ·subst hi
    simp[hw,onCells]
   ·simp[hi]
  have e:sortWorld vals w g 0 m d os=grow { w with heap:=w.heap.modify g (onCells (putCells vals 0 d)),drawn:=w.drawn+m } os:=rfl
  rw[e,hh,Array.toArray_toList]
  rfl
 rw[heq]
 exact⟨(hE1.trans hE2).trans hE3,hR3⟩
def Lx (w:World) (G:Gh) (blk b:Nat):Nat:=if b=blk then 0 else max (G.L b) (zci w b)
def Rd (H:zaa) (id0:Nat) (a:AV) (row:List (List AV)):Prop:=
 a=.sl row .none ∨
 (∃ id off len cap size cs,a=.ms id off len cap∧H[id]?=some (.cells cs)∧off+len*size≤cs.length∧zaF ((cs.drop off).take (len*size))=some row.flatten∧row.length=len∧(∀ c∈row,c.length=size)∧len≤cap) ∨
 (∃ id e size m cs,a=.ov id m∧id≠id0∧H[id]?=some (.vec e size m cs)∧zaF cs=some row.flatten∧row.length=m∧∀ c∈row,c.length=size)
theorem Rd.rel (h:HRel B w G H) {id e n g cap:Nat} {cs:List AV} (hH:H[id]?=some (.vec e 1 n cs)) (hμ:G.μ[id]?=some (.own (.slice (some ⟨g,0,none⟩) n cap) 1 n)) {a:AV} {row:List (List AV)} (hr:Rd H id a row) {v:Value} (hv:ARel w G v a) :
  DRel w (Lx w G g) v (.sl row .none):=by
 obtain⟨_,_,_,hL0⟩:=h.ok id _ _ hH hμ
 have hLg:G.L g=0:=hL0 g rfl
 have hlev:∀ b,G.L b≤Lx w G g b:=fun b=>by
  unfold Lx
  split
  ·rename_i hb;rw[hb,hLg];exact Nat.le_refl _
  ·exact Nat.le_max_left _ _
 have hmono:∀ {v:Value} {a:AV},DRel w G.L v a→DRel w (Lx w G g) v a:=fun h=>h.mono hlev fun _ _ _=>rfl
 rcases hr with rfl | ⟨i2,off,len,cap2,size,cs2,rfl,hH2,hfit,hp,hlen,hsz,hcap⟩ | ⟨i2,e2,size,m,cs2,rfl,hne,hH2,hp,hlen,hsz⟩
 ·exact hmono hv
 ·obtain⟨b,hb,rfl⟩:=hv
  obtain⟨_,_,vs,_,hw,hcs⟩:=h.ok i2 _ _ hH2 hb
  have hbg:b≠g:=fun hbg=>by
   have:=h.dist i2 id _ _ b hb hμ rfl (by rw[hbg];rfl)
   subst this
   rw[hH]at hH2
   cases hH2
  subst hlen
  by_cases hes:row=[]
  ·subst hes;exact .slE _ _
  ·have hl:=hcs.length
   refine DRel.of_flat_at (zs:=(vs.toList.drop off).take (row.length*size)) hsz hes hcap ?_ ((zdK ((hcs.drop off).take _) hp).mono fun _ _=>hmono) ?_
   ·unfold Lx
    rw[if_neg hbg]
    refine Nat.le_trans ?_ (Nat.le_max_right _ _)
    simp[zci,hw]
    simp at hl
    omega
   ·intro j u hj
    rw[List.getElem?_take]at hj
    split at hj
    ·simp only[World.cell?,hw]
     simpa using hj
    ·cases hj
 ·obtain⟨⟨a,cap0,rfl,_⟩,v',s0,n',hμ2,_,heq⟩:=hv
  obtain⟨rfl,rfl,⟨xs,hown,hcs⟩,_⟩:=h.ok i2 _ _ hH2 hμ2
  obtain rfl:=heq rfl
  subst hlen
  by_cases hes:row=[]
  ·subst hes;exact .slE _ _
  ·have hown2:=hown
   obtain⟨hl,hrow⟩:=hown2
   rcases hrow with ⟨h1,h2⟩ | ⟨g2,cap2,cur,h1,h2,h3,h4,h5,h6,h7⟩
   ·cases row <;> simp_all
   ·simp at h1
    obtain⟨rfl,rfl⟩:=h1
    obtain⟨_,_,_,hcell⟩:=zdy hown
    have hbg:g2≠g:=fun hbg=>hne (h.dist i2 id _ _ g2 hμ2 hμ rfl (by rw[hbg];rfl))
    refine DRel.of_flat_at (zs:=xs) hsz hes h4 ?_ ((zdK hcs hp).mono fun _ _=>hmono) ?_
    ·unfold Lx
     rw[if_neg hbg]
     refine Nat.le_trans ?_ (Nat.le_max_right _ _)
     simp only[zci,h3,h6,Nat.zero_add]
     exact Nat.mul_le_mul_right _ h4
    ·intro j u hj
     rw[Nat.zero_add,hcell j (by rw[←hl];exact (List.getElem?_eq_some_iff.1 hj).1)]
     exact hj
theorem zvK {α:Type} (d:Array α) {k:Nat} (h:d.size=k):d.extract 0 k=d:=by subst h;exact Array.extract_size
theorem zEQ (n:Nat):((Array.ofFn fun i:Fin n=>i).toList.map Fin.val)=List.range n:=
 List.ext_getElem (by simp) fun i h1 h2=>by simp only[List.getElem_map,Array.getElem_toList,Array.getElem_ofFn,List.getElem_range]
theorem zF0 {α:Type} [Inhabited α] (vals:α→Value) (w:World) (g m:Nat) (d:Array α) (os:Array Obj):w.heap.size≤(sortWorld vals w g 0 m d os).heap.size:=by
 unfold sortWorld
 simp[grow]
theorem zFZ {α:Type} [Inhabited α] (vals:α→Value) (w:World) (g m:Nat) (d:Array α) (os:Array Obj) (a:Addr) (h1:a.block≠g) (h2:a.block<w.heap.size):(sortWorld vals w g 0 m d os).cell? a=w.cell? a:=by
 unfold sortWorld
 rw[Go.Sort.cell?_grow _ _ _ (by rw[Go.Sort.size_putRow];exact h2),Go.Sort.cell?_putRow_other vals _ g 0 d a (Or.inl h1)]
 rfl
theorem zF1 (h:HRel B w G H) {n g f:Nat} {vals:Fin n→Value} [Inhabited (Fin n)] {rows:Nat→List (List AV)} {cf:Nat→Nat→Int} (hd:∀ i:Fin n,DRel w (Lx w G g) (vals i) (.sl (rows i) .none))
  (hcmp:∀ i j,i<n→j<n→ACalls P f [.sl (rows i) .none,.sl (rows j) .none] [] fun r _=>r=.int .i64 (cf i j)):CmpLays1 P f #[] vals (fun i j=>cf i j) g 0 n w:=by
 intro m os dk hdk x y
 have hL:∀ b,(sortWorld vals w g 0 m dk os).heap.size≤b→Lx w G g b=0:=fun b hb=>by
  have:=zF0 vals w g m dk os
  unfold Lx
  split
  ·rfl
  ·rw[h.fresh b (by omega)]
   simp only[zci]
   rw[Array.getElem?_eq_none (by omega)]
   rfl
 have hmono:∀ {v:Value} {a:AV},DRel w (Lx w G g) v a→DRel (sortWorld vals w g 0 m dk os) (Lx w G g) v a:=fun hx=>hx.mono (fun _=>Nat.le_refl _) fun b off ho=>by
  refine zFZ vals w g m dk os ⟨b,off,none⟩ ?_ ?_
  ·intro hb
   have hb:b=g:=hb
   simp[Lx,hb]at ho
  ·show b<w.heap.size
   refine Nat.lt_of_not_le fun hb=>?_
   unfold Lx at ho
   split at ho
   ·omega
   ·rw[h.fresh b (by omega)]at ho
    simp only[zci]at ho
    rw[Array.getElem?_eq_none (by omega)]at ho
    simp at ho
 refine (hcmp x y x.2 y.2 (sortWorld vals w g 0 m dk os).heap.size (sortWorld vals w g 0 m dk os) ⟨Lx w G g,[]⟩ #[vals x,vals y]
  ⟨rfl,fun _ _ _ h=>by simp at h,fun _ _ _ _ _ h=>by simp at h,hL,fun _ _ _ h=>by simp at h,Nat.le_refl _⟩ ⟨hmono (hd x),hmono (hd y),trivial⟩).mono ?_
 rintro e w' ⟨v,r,H',G',rfl,h2,_,h4,rfl⟩
 have h4:v=.int .i64 (cf x y):=h4
 subst h4
 exact⟨rfl,zEg h2.dr h2.below⟩
theorem ACalls.sortFunc {ρ:Go.Shelf.Ren} (L:Go.Proofs.SlLaysF.n6 P ρ) {id e n f:Nat} {cs:List AV} (hH:H[id]?=some (.vec e 1 n cs)) (hn:n<4611686018427387904) (rows:Nat→List (List AV)) (cf:Nat→Nat→Int)
  (hrd:∀ i (h:i<cs.length),Rd H id cs[i] (rows i)) (eg:∀ args w,(callFunc f args).run P w=.ok (.enter f args) w)
  (hcmp:∀ i j,i<n→j<n→ACalls P f [.sl (rows i) .none,.sl (rows j) .none] [] fun r _=>r=.int .i64 (cf i j))
  (hO1:∀ i,i<n→¬ cf i i<0) (hO2:∀ i j k,i<n→j<n→k<n→cf i j<0→cf j k<0→cf i k<0) (hO3:∀ i j k,i<n→j<n→k<n→¬ cf i j<0→¬ cf j k<0→¬ cf i k<0)
  {K:Kt} (hK:∀ p:List Nat,p.Perm (List.range n)→(∀ a b (ha:a<p.length) (hb:b<p.length),a<b→¬ cf p[b] p[a]<0)→K (.tup []) (H.set id (.vec e 1 n (p.map fun i=>cs.getD i .unk)))) :
  ACalls P (ρ.f 6) [.ov id n,.fn f []] H K:=by
 rintro B w G ⟨vs⟩ hR hv
 match vs,hv with
 | [v1,v2],⟨h1,h2,_⟩=>
 obtain⟨⟨a0,cap0,rfl,_⟩,v',s0,n',hμ,hle,heq⟩:=h1
 obtain⟨ws,rfl,hws⟩:=h2
 have hws:ws=#[]:=by
  cases hwl:ws.toList with
  | nil=>exact Array.toList_inj.1 hwl
  | cons x l=>rw[hwl]at hws;exact hws.elim
 subst hws
 obtain⟨rfl,rfl,⟨xs,hown,hcs⟩,hL0⟩:=hR.ok id _ _ hH hμ
 obtain rfl:=heq rfl
 have hxl:=hown.1
 have hcl:=hcs.length
 rw[Nat.mul_one]at hxl
 match n,hxl,hH,hn,hcmp,hO1,hO2,hO3,hK,hμ,hown with
 | 0,hxl,hH,hn,hcmp,hO1,hO2,hO3,hK,hμ,hown=>
  refine (Go.Proofs.AnyF.slices_SortFunc_none (P:=P) (ρ:=ρ) { L with } a0 cap0 _ w).mono ?_
  rintro e' w' ⟨rfl,rfl⟩
  have hc:cs=[]:=by
   cases cs with
   | nil=>rfl
   | cons x l=>simp at hcl;omega
  subst hc
  have:=hK [] (by simp) (by simp)
  refine⟨_,.tup [],_,G,rfl,Ext.refl _ _ _,?_,⟨#[],rfl,trivial⟩,this⟩
  have hs:H.set id (.vec e 1 0 [])=H:=by
   refine List.ext_getElem? fun i=>?_
   rw[List.getElem?_set]
   split
   ·rename_i hi;subst hi;rw[if_pos (List.getElem?_eq_some_iff.1 hH).1,hH]
   ·rfl
  simpa[hs]using hR
 | n+1,hxl,hH,hn,hcmp,hO1,hO2,hO3,hK,hμ,hown=>
  obtain⟨_,ho⟩:=hown
  rcases ho with ⟨h1,h0⟩ | ⟨g,cap,cur,h1,hB,hw,hcap,hcm,hsz,htk⟩
  ·omega
  cases h1
  have hwl:g<w.heap.size:=(Array.getElem?_eq_some_iff.1 hw).1
  let vals:Fin (n+1)→Value:=fun i=>xs[i.1]'(by rw[hxl];exact i.2)
  have hval:∀ i:Fin (n+1),ARel w G (vals i) (cs[i.1]'(by rw[←hcl,hxl];exact i.2)):=fun i=>by
   obtain⟨x,hx,hr⟩:=All2.get hcs (List.getElem?_eq_getElem (by rw[←hcl,hxl];exact i.2:i.1<cs.length))
   rw[List.getElem?_eq_getElem (by rw[hxl];exact i.2)]at hx
   cases hx
   exact hr
  have hdr:∀ i:Fin (n+1),DRel w (Lx w G g) (vals i) (.sl (rows i) .none):=fun i=>(hrd i.1 (by rw[←hcl,hxl];exact i.2)).rel hR hH hμ (hval i)
  have hone:Go.Proofs.OneCell vals:=fun i=>by
   have:=hdr i
   generalize vals i=v at *
   generalize rows i.1=r at *
   cases this <;> rfl
  have hlays:=zF1 (P:=P) (f:=f) (n:=n+1) hR hdr hcmp
  let d:Array (Fin (n+1)):=Array.ofFn fun i=>i
  have hds:d.size=n+1:=by simp[d]
  have hholds:Holds vals w g 0 d:=by
   intro j hj
   rw[hds]at hj
   have hc:cur[j]?=some (vals ⟨j,hj⟩):=by
    have:xs[j]?=some (vals ⟨j,hj⟩):=List.getElem?_eq_getElem _
    rw[←htk,Nat.mul_one,List.getElem?_take,if_pos hj]at this
    simpa using this
   refine⟨?_,?_⟩
   ·rw[Nat.zero_add]
    have hdj:d[j]! = ⟨j,hj⟩:=by
     rw[getElem!_pos d j (by rw[hds];exact hj)]
     simp[d]
    rw[hdj]
    simp[World.cell?,hw,hc]
   ·simp[World.frozen?,hw]
  have hO:SWO (ltOf fun i j:Fin (n+1)=>cf i j):=⟨fun x=>by simp only[ltOf,decide_eq_false_iff_not];exact hO1 x x.2,
   fun x y z h1 h2=>by simp only[ltOf,decide_eq_true_eq]at *;exact hO2 x y z x.2 y.2 z.2 h1 h2,
   fun x y z h1 h2=>by simp only[ltOf,decide_eq_false_iff_not]at *;exact hO3 x y z x.2 y.2 z.2 h1 h2⟩
  have hmain:=Go.Proofs.Any.slices_SortFunc (P:=P) (ρ:=ρ) L vals hone (fun i j=>cf i j) hO f #[] g 0 cap0 d w eg (by rw[hds];exact hlays) hholds hwl (by rw[hds];exact hn)
  rw[hds]at hmain
  refine hmain.mono ?_
  rintro e' w' ⟨rfl,d',m,os,hp,hsrt,rfl⟩
  obtain⟨hp1,_,hp3⟩:=hp
  have hds':d'.size=n+1:=hp1.trans hds
  have hpm:(d'.toList.map Fin.val).Perm (List.range (n+1)):=by
   have h1:d'.toList.Perm d.toList:=by
    have e1:(d'.extract 0 (n+1))=d':=zvK d' hds'
    have e2:(d.extract 0 (n+1))=d:=zvK d hds
    rwa [e1,e2]at hp3
   exact (h1.map Fin.val).trans (List.Perm.of_eq (zEQ _))
  have hS:=hR.sorted hH hμ vals d' hds' (cs':=(d'.toList.map Fin.val).map fun i=>cs.getD i .unk) (All2.of_get (by simp) fun i x y hx hy=>by
   simp only[List.map_map,List.getElem?_map,Option.map_eq_some_iff]at hx hy
   obtain⟨k,hk,rfl⟩:=hx
   obtain⟨k',hk',rfl⟩:=hy
   rw[hk]at hk'
   cases hk'
   have hlt:k.1<cs.length:=by rw[←hcl,hxl];exact k.2
   have:=hval k
   simp only[Function.comp_def,List.getD_eq_getElem?_getD,List.getElem?_eq_getElem hlt,Option.getD_some]
   exact this) m os
  refine⟨_,.tup [],_,G,rfl,hS.1,hS.2,⟨#[],rfl,trivial⟩,hK _ hpm fun a b ha hb hab=>?_⟩
  simp only[List.length_map,Array.length_toList]at ha hb
  have:=hsrt a b (Nat.zero_le _) hab (by omega)
  rw[getElem!_pos d' a ha,getElem!_pos d' b hb]at this
  simp only[ltOf,decide_eq_false_iff_not]at this
  simpa using this
end Go.Abs
namespace Go.Proofs.YtjkkonpjecoieaaGreat
open Go Go.Shelf Go.Abs
def zHd:Go.Shelf.Ren:=⟨fun | 6=>48 | 15=>94 | 14=>93 | 28=>140 | 29=>141 | 20=>132 | 21=>133 | 22=>134 | 23=>135 | 24=>136 | 25=>137 | 26=>138 | 27=>139 | 46=>179 | 47=>180 | 48=>181 | 49=>182 | 50=>183 | 57=>201 | n=>n,fun | 22=>44 | 24=>35 | 25=>89 | 3=>3 | 39=>124 | 0=>0 | 53=>99 | 55=>98 | 4=>4 | 46=>173 | 45=>172 | 50=>169 | 5=>5 | 9=>9 | 66=>206 | 70=>78 | 76=>231 | 77=>232 | n=>n,fun | n=>n⟩
theorem zHc:Go.Proofs.SlLaysF.n6 tP zHd:={
 mixed:=by kernel_rfl
 f6:=⟨Tryz.f48.name,by decide,Tryz.func48.trans (congrArg some (by kernel_rfl))⟩
 f14:=⟨Tryz.f93.name,by decide,Tryz.func93.trans (congrArg some (by kernel_rfl))⟩
 f15:=Tryz.func94.trans (congrArg some (by kernel_rfl))
 f20:=⟨Tryz.f132.name,by decide,Tryz.func132.trans (congrArg some (by kernel_rfl))⟩
 f21:=⟨Tryz.f133.name,by decide,Tryz.func133.trans (congrArg some (by kernel_rfl))⟩
 f22:=⟨Tryz.f134.name,by decide,Tryz.func134.trans (congrArg some (by kernel_rfl))⟩
 f23:=⟨Tryz.f135.name,by decide,Tryz.func135.trans (congrArg some (by kernel_rfl))⟩
 f24:=⟨Tryz.f136.name,by decide,Tryz.func136.trans (congrArg some (by kernel_rfl))⟩
 f25:=⟨Tryz.f137.name,by decide,Tryz.func137.trans (congrArg some (by kernel_rfl))⟩
 f26:=⟨Tryz.f138.name,by decide,Tryz.func138.trans (congrArg some (by kernel_rfl))⟩
 f27:=⟨Tryz.f139.name,by decide,Tryz.func139.trans (congrArg some (by kernel_rfl))⟩
 f28:=Tryz.func140.trans (congrArg some (by kernel_rfl))
 f29:=Tryz.func141.trans (congrArg some (by kernel_rfl))
 f46:=⟨Tryz.f179.name,by decide,Tryz.func179.trans (congrArg some (by kernel_rfl))⟩
 f47:=Tryz.func180.trans (congrArg some (by kernel_rfl))
 f48:=Tryz.func181.trans (congrArg some (by kernel_rfl))
 f49:=⟨Tryz.f182.name,by decide,Tryz.func182.trans (congrArg some (by kernel_rfl))⟩
 f50:=⟨Tryz.f183.name,by decide,Tryz.func183.trans (congrArg some (by kernel_rfl))⟩
 f57:=⟨Tryz.f201.name,by decide,Tryz.func201.trans (congrArg some (by kernel_rfl))⟩
 t0:=Tryz.underlying0
 a0:=Tryz.isAgg0
 z0:=Tryz.sizeOf0
 v0:=Tryz.zeroValue0
 t3:=Tryz.underlying3
 a3:=Tryz.isAgg3
 z3:=Tryz.sizeOf3
 v3:=Tryz.zeroValue3
 t4:=Tryz.underlying4
 a4:=Tryz.isAgg4
 z4:=Tryz.sizeOf4
 v4:=Tryz.zeroValue4
 t5:=Tryz.underlying5
 a5:=Tryz.isAgg5
 z5:=Tryz.sizeOf5
 v5:=Tryz.zeroValue5
 t9:=Tryz.underlying9
 a9:=Tryz.isAgg9
 z9:=Tryz.sizeOf9
 v9:=Tryz.zeroValue9
 t22:=Tryz.underlying44
 a22:=Tryz.isAgg44
 z22:=Tryz.sizeOf44
 v22:=Tryz.zeroValue44
 a24:=Tryz.isAgg35
 z24:=Tryz.sizeOf35
 t25:=Tryz.underlying89
 a25:=Tryz.isAgg89
 z25:=Tryz.sizeOf89
 v25:=Tryz.zeroValue89
 t39:=Tryz.underlying124
 a39:=Tryz.isAgg124
 z39:=Tryz.sizeOf124
 v39:=Tryz.zeroValue124
 t45:=Tryz.underlying172
 a45:=Tryz.isAgg172
 z45:=Tryz.sizeOf172
 v45:=Tryz.zeroValue172
 t46:=Tryz.underlying173
 a46:=Tryz.isAgg173
 z46:=Tryz.sizeOf173
 v46:=Tryz.zeroValue173
 t50:=Tryz.underlying169
 a50:=Tryz.isAgg169
 z50:=Tryz.sizeOf169
 v50:=Tryz.zeroValue169
 t53:=Tryz.underlying99
 a53:=Tryz.isAgg99
 z53:=Tryz.sizeOf99
 v53:=Tryz.zeroValue99
 t55:=Tryz.underlying98
 a55:=Tryz.isAgg98
 z55:=Tryz.sizeOf98
 v55:=Tryz.zeroValue98
 t66:=Tryz.underlying206
 a66:=Tryz.isAgg206
 z66:=Tryz.sizeOf206
 v66:=Tryz.zeroValue206
 t70:=Tryz.underlying78
 a70:=Tryz.isAgg78
 z70:=Tryz.sizeOf78
 v70:=Tryz.zeroValue78
 t76:=Tryz.underlying231
 a76:=Tryz.isAgg231
 z76:=Tryz.sizeOf231
 v76:=Tryz.zeroValue231
 t77:=Tryz.underlying232
 a77:=Tryz.isAgg232
 z77:=Tryz.sizeOf232
 v77:=Tryz.zeroValue232 }
end Go.Proofs.YtjkkonpjecoieaaGreat
namespace Go.Abs
open Go Go.RowKit
variable {P:Program} {B:Nat} {w:World} {G:Gh} {H:zaa}
def Lmx (w:World) (G:Gh) (b:Nat):Nat:=Nat.max (G.L b) (zci w b)
inductive RdA (H:zaa):AV→AV→Prop
 | sl (es:List (List AV)):RdA H (.sl es .none) (.sl es .none)
 | int (k:IntKind) (n:Int):RdA H (.int k n) (.int k n)
 | bool (b:Bool):RdA H (.bool b) (.bool b)
 | str (s:List UInt8):RdA H (.str s) (.str s)
 | ms (id off len cap size:Nat) (cs:List AV) (row:List (List AV)) (hH:H[id]?=some (.cells cs)) (hfit:off+len*size≤cs.length) (hp:zaF ((cs.drop off).take (len*size))=some row.flatten) (hlen:row.length=len)
   (hsz:∀ c∈row,c.length=size) (hcap:len≤cap):RdA H (.ms id off len cap) (.sl row .none)
 | ov (id e size m:Nat) (cs:List AV) (row:List (List AV)) (hH:H[id]?=some (.vec e size m cs)) (hp:zaF cs=some row.flatten) (hlen:row.length=m) (hsz:∀ c∈row,c.length=size):RdA H (.ov id m) (.sl row .none)
theorem RdA.rel (h:HRel B w G H) {a b:AV} (hr:RdA H a b) {v:Value} (hv:ARel w G v a):DRel w (Lmx w G) v b:=by
 have hmono:∀ {v:Value} {a:AV},DRel w G.L v a→DRel w (Lmx w G) v a:=fun h=>h.mono (fun b=>Nat.le_max_left _ _) fun _ _ _=>rfl
 cases hr with
 | sl es=>exact hmono hv
 | int k n=>have hv:v=.int k n:=hv;subst hv;exact .int k n
 | bool b=>have hv:v=.bool b:=hv;subst hv;exact .bool b
 | str s=>have hv:v=.string ⟨s.toArray⟩:=hv;subst hv;exact .str s
 | ms i2 off len cap2 size cs2 row hH2 hfit hp hlen hsz hcap=>
  obtain⟨b,hb,rfl⟩:=hv
  obtain⟨_,_,vs,_,hw,hcs⟩:=h.ok i2 _ _ hH2 hb
  subst hlen
  by_cases hes:row=[]
  ·subst hes;exact .slE _ _
  ·have hl:=hcs.length
   refine DRel.of_flat_at (zs:=(vs.toList.drop off).take (row.length*size)) hsz hes hcap ?_ ((zdK ((hcs.drop off).take _) hp).mono fun _ _=>hmono) ?_
   ·refine Nat.le_trans ?_ (Nat.le_max_right _ _)
    simp[zci,hw]
    simp at hl
    omega
   ·intro j u hj
    rw[List.getElem?_take]at hj
    split at hj
    ·simp only[World.cell?,hw]
     simpa using hj
    ·cases hj
 | ov i2 e2 size m cs2 row hH2 hp hlen hsz=>
  obtain⟨⟨a,cap0,rfl,_⟩,v',s0,n',hμ2,_,heq⟩:=hv
  obtain⟨rfl,rfl,⟨xs,hown,hcs⟩,_⟩:=h.ok i2 _ _ hH2 hμ2
  obtain rfl:=heq rfl
  subst hlen
  by_cases hes:row=[]
  ·subst hes;exact .slE _ _
  ·have hown2:=hown
   obtain⟨hl,hrow⟩:=hown2
   rcases hrow with ⟨h1,h2⟩ | ⟨g2,cap2,cur,h1,h2,h3,h4,h5,h6,h7⟩
   ·cases row <;> simp_all
   ·simp at h1
    obtain⟨rfl,rfl⟩:=h1
    obtain⟨_,_,_,hcell⟩:=zdy hown
    refine DRel.of_flat_at (zs:=xs) hsz hes h4 ?_ ((zdK hcs hp).mono fun _ _=>hmono) ?_
    ·refine Nat.le_trans ?_ (Nat.le_max_right _ _)
     simp only[zci,h3,h6,Nat.zero_add]
     exact Nat.mul_le_mul_right _ h4
    ·intro j u hj
     rw[Nat.zero_add,hcell j (by rw[←hl];exact (List.getElem?_eq_some_iff.1 hj).1)]
     exact hj
theorem RdA.trel (h:HRel B w G H) {a b:AV} (hr:RdA H a b) {v:Value} (hv:ARel w G v a):ARel w ⟨Lmx w G,[]⟩ v b:=by
 have hd:=hr.rel h hv
 cases hr with
 | sl es=>exact hd
 | int k n=>exact hv
 | bool b=>exact hv
 | str s=>exact hv
 | ms i2 off len cap2 size cs2 row hH2 hfit hp hlen hsz hcap=>exact hd
 | ov i2 e2 size m cs2 row hH2 hp hlen hsz=>exact hd
inductive RdT (H:zaa):AV→AV→Prop
 | one {a b:AV} (h:RdA H a b):RdT H a b
 | agg {asx bs:List AV} (h:All2 (RdA H) asx bs):RdT H (.agg asx) (.agg bs)
theorem RdT.rel (h:HRel B w G H) {a b:AV} (hr:RdT H a b) {v:Value} (hv:TRel w G v a):TRel w ⟨Lmx w G,[]⟩ v b:=by
 cases hr with
 | one hr=>
  have hv':ARel w G v a:=by cases hr <;> exact hv
  exact TRel.of_v (VRel.of_a (hr.trel h hv'))
 | agg hr=>
  obtain⟨us,hu,hv⟩:=hv
  refine⟨us,hu,?_⟩
  exact All2.of_get (hv.length.trans hr.length) fun i x y hx hy=>by
   obtain⟨a,ha,hxa⟩:=All2.get' hv hx
   obtain⟨y',hy',hay⟩:=All2.get' hr ha
   rw[hy]at hy'
   cases hy'
   exact hay.trel h hxa
end Go.Abs
namespace Go.Proofs.YtjkkonpjecoieaaGreat
open Go Go.Abs
set_option maxRecDepth 8000
theorem zwW (r:List IT):zaF (za6 r)=some (za6 r):=by
 induction r with
 | nil=>rfl
 | cons x r ih=>
  obtain⟨n,ks⟩:=x
  rw[zeo]
  simp[IT.cs,zaF,AV.pd,ih]
theorem zos {c:List AV} {r:List IT} (h:c∈IT.css r):c.length=2:=by
 rw[IT.css_map]at h
 obtain⟨x,_,rfl⟩:=List.mem_map.1 h
 simp
theorem zCW (a b:List IT) (he:a.length=b.length) (ha:a.length≤1000) (hn:∀ x∈a,x.nodes≤1000000) (H:zaa) (K:Kt) (hK:K (.int .i64 (IT.cmpL a b)) H) :
  ACalls tP zpJ [.sl (IT.css a) .none,.sl (IT.css b) .none] H K:=by
 refine ACalls.out (zPZ fun hs=>?_)
 simp[zBJ]
 refine zvs a b he (by omega) (fun i h h' H K hK=>zEl _ _ _ (Nat.le_refl _) (hn _ (List.getElem_mem h)) H K hK) _ _ ?_
 exact zeR hs rfl rfl hK
theorem zxz {H:zaa} {id:Nat} {b:AB} (h:H[id]?=some b):H.set id b=H:=by
 refine List.ext_getElem? fun i=>?_
 rw[List.getElem?_set]
 split
 ·rename_i hi;subst hi;rw[if_pos (List.getElem?_eq_some_iff.1 h).1,h]
 ·rfl
def zfx (rs:List (List IT)):AV:=.sl (rs.map fun r=>[.sl (IT.css r) .none]) .none
theorem zx2 {H H1:zaa} {id w:Nat} {rows:List (List IT)} (hpre:H <+: H1) (hs:HSc H) (hR:RowsH H1 H.length id rows) (hw:∀ r∈rows,r.length=w) (hw8:w≤1000) (hnd:∀ r∈rows,∀ x∈r,x.nodes≤1000) (hlen:rows.length≤1000000000)
  (K:Kt) (hK:∀ rs,rs.Perm rows→rs.Pairwise rle→K (.tup [zfx rs,.int .i64 0]) H):zik (.ov id rows.length) H1 (zfY H.length K):=by
 obtain⟨hlo,cs,hcs,hcells⟩:=hR
 have hcl:=hcells.length
 unfold zik
 refine ACalls.sortFunc zHc hcs (by omega) (fun i=>IT.css (rows.getD i [])) (fun i j=>IT.cmpL (rows.getD i []) (rows.getD j [])) (fun i hi=>?_) (fun args w=>rfl) (fun i j hi hj=>?_) (fun i hi=>?_) (fun i j k hi hj hk h1 h2=>?_) (fun i j k hi hj hk h1 h2=>?_) (fun p hp hsort=>?_)
 ·obtain⟨r,hr,hc⟩:=All2.get' hcells (List.getElem?_eq_getElem hi)
  have hrd:rows.getD i []=r:=by simp[List.getD_eq_getElem?_getD,hr]
  simp only[hrd]
  rcases hc with ⟨rfl,h⟩ | ⟨hne,b,h,h1,h2,h3⟩
  ·exact .inl h
  ·exact .inr (.inr ⟨b,zbl,2,r.length,za6 r,h,h2,h3,zwW r,by simp,fun c hc=>zos hc⟩)
 ·have ei:rows.getD i []=rows[i]:=by simp[List.getD_eq_getElem?_getD,hi]
  have ej:rows.getD j []=rows[j]:=by simp[List.getD_eq_getElem?_getD,hj]
  rw[ei,ej]
  have m1:=List.getElem_mem hi
  have m2:=List.getElem_mem hj
  exact zCW _ _ (by rw[hw _ m1,hw _ m2]) (by rw[hw _ m1];exact hw8) (fun x hx=>by have:=hnd _ m1 x hx;omega) _ _ rfl
 ·have:=IT.cmpL_anti (rows.getD i []) (rows.getD i [])
  omega
 ·have:=IT.cmpL_tri (rows.getD i []) (rows.getD j []) (rows.getD k [])
  unfold Tri at this
  omega
 ·have:=IT.cmpL_tri (rows.getD k []) (rows.getD j []) (rows.getD i [])
  have a1:=IT.cmpL_anti (rows.getD i []) (rows.getD j [])
  have a2:=IT.cmpL_anti (rows.getD j []) (rows.getD k [])
  have a3:=IT.cmpL_anti (rows.getD i []) (rows.getD k [])
  unfold Tri at this
  omega
 ·have hplen:p.length=rows.length:=by simpa using hp.length_eq
  have hpm:∀ i∈p,i<rows.length:=fun i hi=>by simpa using hp.subset hi
  have hrs:(p.map fun i=>rows.getD i []).Perm rows:=by
   have h1:=hp.map fun i=>rows.getD i []
   have h2:(List.range rows.length).map (fun i=>rows.getD i [])=rows:=List.ext_getElem (by simp) fun i h1 h2=>by simp[List.getD_eq_getElem?_getD,h2]
   rwa [h2]at h1
  have hpw:(p.map fun i=>rows.getD i []).Pairwise rle:=by
   rw[List.pairwise_iff_getElem]
   intro a b ha hb hab
   simp only[List.getElem_map]
   exact hsort a b (by simpa using ha) (by simpa using hb) hab
  have hK:=hK _ hrs hpw
  generalize hrsd:(p.map fun i=>rows.getD i [])=rs at *
  have hrl:rs.length=rows.length:=hrs.length_eq
  generalize hcsd:(p.map fun i=>cs.getD i .unk)=cs' at *
  have hcells':All2 (CellR H1 H.length id) cs' rs:=by
   subst hrsd hcsd
   refine All2.of_get (by simp) fun i x y hx hy=>?_
   simp only[List.getElem?_map,Option.map_eq_some_iff]at hx hy
   obtain⟨k,hk,rfl⟩:=hx
   obtain⟨k',hk',rfl⟩:=hy
   rw[hk]at hk'
   cases hk'
   have hlt:=hpm k (List.mem_of_getElem? hk)
   obtain⟨r,hr,hc⟩:=All2.get' hcells (List.getElem?_eq_getElem (by omega:k<cs.length))
   simp only[List.getD_eq_getElem?_getD,hr,Option.getD_some,List.getElem?_eq_getElem (by omega:k<cs.length)]
   exact hc
  have hidl:=(List.getElem?_eq_some_iff.1 hcs).1
  have hset:(H1.set id (.vec zb0 1 rows.length cs'))[id]?=some (.vec zb0 1 rows.length cs'):=List.getElem?_set_self hidl
  have hcells2:All2 (CellR (H1.set id (.vec zb0 1 rows.length cs')) H.length id) cs' rs:=hcells'.mono fun c r hc=>hc.keep (Nat.le_refl _) fun b _ hb _=>⟨hb,List.getElem?_set_ne (fun h=>hb h.symm)⟩
  have hpre2:=zj6 (b:=.vec zb0 1 rows.length cs') hpre hlo
  have hwr:∀ r∈rs,r.length=w:=fun r hr=>hw r (hrs.subset hr)
  have hndr:∀ r∈rs,∀ x∈r,x.nodes≤1000:=fun r hr=>hnd r (hrs.subset hr)
  generalize H1.set id (.vec zb0 1 rows.length cs')=H2 at *
  clear hcells hcells' hcs hsort hp
  have hcl2:=hcells2.length
  simp
  refine zKS (Inv:=fun q t133 H'=>∃ i:Nat,i≤rows.length∧q=rows.length-i∧t133=.int .i64 i∧H'=H2) rows.length ?_ ?_
  ·intro _;exact⟨0,by omega,by omega,rfl,rfl⟩
  ·rintro q t133 H' ⟨i,hi,rfl,rfl,rfl⟩ hsc hlen' hsF Kb hKb
   by_cases hlt:i<rows.length
   ·have hir:i<cs'.length:=by omega
    obtain⟨r,hr,hc⟩:=All2.get' hcells2 (List.getElem?_eq_getElem hir)
    have hrm:=List.mem_of_getElem? hr
    have hrw:=hwr r hrm
    simp[zrX,hlt,hset]
    rw[zC3 1 (List.getElem?_eq_getElem hir)]
    have hHn:H.length≤H'.length:=hpre2.length_le
    have hidn:=(List.getElem?_eq_some_iff.1 hset).1
    have hnext:∀ t138:AV,Kb (zij (.ov id rows.length) (.ov id rows.length) (.int .i64 rows.length) (.int .i64 ((i:Int)+1))) H':=fun _=>by
     refine hKb _ _ ⟨rows.length-(i+1),by omega,Back.at (J:=[]) (H2:=H') (by simp) hlen' hsc ?_ ⟨_,rfl,i+1,by omega,rfl,by simp,rfl⟩⟩
     simp[zij,AV.sc,AV.scV,AV.scA,AV.scB,hidn]
    have hlen:∀ k:AV→Prop,k (.int .i64 r.length)→zah 1 cs'[i] k:=fun k hk=>by
     rcases hc with ⟨rfl,h⟩ | ⟨hne,b,h,h1,h2,h3⟩
     ·rw[h];simpa using hk
     ·rw[h];simpa using hk
    refine hlen _ ?_
    refine zKT (Inv:=fun q t139 H3=>∃ k:Nat,k≤r.length∧q=r.length-k∧t139=.int .i64 k∧H3=H') r.length ?_ ?_
    ·intro _;exact⟨0,by omega,by omega,rfl,rfl⟩
    ·rintro q t139 H3 ⟨k,hk,rfl,rfl,rfl⟩ hsc3 hlen3 hsF3 Kb3 hKb3
     by_cases hkl:k<r.length
     ·rcases hc with ⟨rfl,h⟩ | ⟨hne,b,h,h1,h2,h3⟩
      ·simp at hkl
      ·obtain⟨x,y,hvx,hx,hy⟩:=zb2 r[k]
       have hself:=zh2 r k r[k] hkl
       rw[List.set_getElem_self]at hself
       have htk:List.take 2 (List.drop (k*2) (za6 r))=(r[k]).cs:=by
        rw[←hself]
        have h4:(List.take (k*2) (za6 r)).length=k*2:=by rw[List.length_take,zd4];omega
        rw[List.append_assoc,List.drop_append_of_le_length (by omega),List.drop_of_length_le (by omega),List.nil_append,hvx]
        simp
       have hbl:=(List.getElem?_eq_some_iff.1 h3).1
       simp[zrY,hkl,h,h3]
       rw[htk]
       refine⟨by rw[zd4];omega,?_⟩
       refine zQf _ (r[k]) (Nat.le_refl _) (by have:=hndr r hrm _ (List.getElem_mem hkl);omega) _ _ ?_
       simp[h3,hkl]
       refine⟨by rw[zd4];omega,?_⟩
       rw[←List.append_assoc,hself,zxz h3,zau (by omega) (by omega)]
       refine hKb3 _ _ ⟨r.length-(k+1),by omega,Back.at (J:=[]) (H2:=H3) (by simp) (by omega) hsc3 ?_ ⟨.int .i64 ((k:Int)+1),by simp only[h],k+1,by omega,rfl,by simp,rfl⟩⟩
       simp[zlw,AV.sc,AV.scV,AV.scA,AV.scB,hidn,hbl]
     ·obtain rfl:k=r.length:=by omega
      simp[zrY]
      rw[zau (by omega) (by omega)]
      exact hnext (.int .i64 0)
   ·obtain rfl:i=rows.length:=by omega
    simp[zrX]
    refine⟨⟨rfl,rfl⟩,?_⟩
    obtain⟨J,hJ⟩:=hpre2
    refine⟨.tup [zfx rs,.int .i64 0],H,J,hJ.symm,Nat.le_refl _,hs,.tup ⟨?_,.one (.wk (.atom (.refl _)) rfl rfl),trivial⟩,hK⟩
    have hrw:zfx rs=.sl ((rs.map IT.css).map fun r=>[.sl r .none]) .none:=by simp[zfx]
    rw[hrw]
    refine .rows id zb0 rows.length cs' (rs.map IT.css) hlo hset (by simp[hrl]) (All2.of_get (by simpa using hcl2) fun i x y hx hy=>?_)
    obtain⟨r,hr,hc⟩:=All2.get' hcells2 hx
    simp only[List.map_map,List.getElem?_map,hr,Option.map_some,Function.comp_apply,Option.some.injEq]at hy
    subst hy
    rcases hc with ⟨rfl,rfl⟩ | ⟨hne,b,rfl,h1,h2,h3⟩
    ·exact .wk (.atom (.refl _)) rfl rfl
    ·exact .vfz b zbl 2 r.length (za6 r) (IT.css r) h1 h3 (zwW r) (by simp) (fun c hc=>zos hc)
theorem zGV {data:List Dat} {tn:Int} {tks:List VT} (ht:zaR data 0 (.mk 5 tn tks)=true):0≤tn∧tn.toNat<data.length:=by
 rw[zaR,Bool.and_eq_true]at ht
 have h:=ht.2
 simp only[za1,zbb,Bool.and_eq_true]at h
 have h1:=h.1
 simp at h1
 refine⟨h1.1,?_⟩
 have h2:=h1.2
 split at h2
 ·rename_i d hd
  exact (List.getElem?_eq_some_iff.1 hd).1
 ·simp at h2
def zaP (l:List VT) (P:List Nat):List IT:=fill (List.replicate l.length (.mk 0 [])) P (P.map fun j=>zbn (l.getD j (.mk 0 0 [])))
def zcP (base:List IT) (P R:List Nat) (c:Int):List IT→List (List IT)
 | []=>[]
 | .mk c' ps::rest=>if c'=c then zbo (fill base P ps) R rest else []
def zcw (l:List VT) (bs:List Bool) (c:Int) (kids:List IT):List (List IT):=
 zbo (zaP l (pos false bs bs.length)) (pos true bs bs.length) kids++zcP (zaP l (pos false bs bs.length)) (pos false bs bs.length) (pos true bs bs.length) c kids
def zaC:IT→List IT
 | .mk _ ks=>ks
def zc7 (data:List Dat) (t:VT) (c:Int) (v:IT):Option Int:=
 if zaS data t v<0 then some 1 else if t.kind≠5 then some 6 else if c<0∨((data.getD t.num.toNat ⟨[],0,[]⟩).cons.length:Int)≤c then some 8 else if zaU data t c=none then some 0 else none
mutual
theorem zyv:∀ t:VT,(zbn t).nodes≤t.nodes
 | .mk k n ks=>by
  have:=zyu ks
  simp only[zbn,VT.nodes,IT.nodes]
  split
  ·omega
  ·simp[IT.nodesL]
theorem zyu:∀ ts:List VT,IT.nodesL (zbN ts)≤VT.nodesL ts
 | []=>by simp[zbN,IT.nodesL,VT.nodesL]
 | t::ts=>by
  have:=zyv t
  have:=zyu ts
  simp only[zbN,IT.nodesL,VT.nodesL]
  omega
end
theorem zi1:∀ (ps:List Nat) (row xs:List IT) (x:IT),x∈fill row ps xs→x∈row∨x∈xs
 | [],row,xs,x,h=>by simp at h;exact .inl h
 | p::ps,row,[],x,h=>by simp[fill]at h;exact .inl h
 | p::ps,row,y::xs,x,h=>by
  rw[fill]at h
  rcases zi1 ps _ xs x h with h | h
  ·rcases List.mem_or_eq_of_mem_set h with h | rfl
   ·exact .inl h
   ·exact .inr (by simp)
  ·exact .inr (by simp[h])
theorem zEM (l:List IT) (n:Nat):IT.nodesL (l.drop n)≤IT.nodesL l:=by
 have:=IT.nodesL_app (l.take n) (l.drop n)
 rw[List.take_append_drop]at this
 omega
theorem zhf {N:Nat}:∀ (ps:List Nat) (row l:List IT),(∀ x∈row,x.nodes≤N)→IT.nodesL l+1≤N→∀ r∈zbo row ps l,∀ x∈r,x.nodes≤N
 | [],row,l,hr,hl,r,h=>by
  simp only[zbo]at h
  split at h <;> simp at h
  subst h;exact hr
 | p::ps,row,l,hr,hl,r,h=>by
  rw[zDW,List.mem_flatMap]at h
  obtain⟨n,_,h⟩:=h
  refine zhf ps _ _ (fun x hx=>?_) (by have:=zEM l n;omega) r h
  rcases List.mem_or_eq_of_mem_set hx with hx | rfl
  ·exact hr x hx
  ·have:=IT.nodesL_take_le l n
   simp only[IT.nodes];omega
theorem zvv (ps:List Nat) (row l:List IT):∀ r∈zbo row ps l,r.length=row.length:=by
 rw[zhe]
 intro r h
 obtain⟨s,_,rfl⟩:=List.mem_map.1 h
 simp
theorem zwy {l:List IT} {x:IT} (h:x∈l):x.nodes≤IT.nodesL l:=by
 induction l with
 | nil=>simp at h
 | cons y l ih=>
  simp only[IT.nodesL]
  rcases List.mem_cons.1 h with rfl | h
  ·omega
  ·have:=ih h;omega
theorem zvh {l:List VT} {P:List Nat} (h:∀ x∈l,x.nodes≤200):∀ x∈zaP l P,x.nodes≤200:=by
 intro x hx
 rcases zi1 _ _ _ _ hx with hx | hx
 ·rw[List.eq_of_mem_replicate hx];simp[IT.nodes,IT.nodesL]
 ·obtain⟨j,_,rfl⟩:=List.mem_map.1 hx
  refine Nat.le_trans (zyv _) ?_
  rw[List.getD_eq_getElem?_getD]
  cases hj:l[j]? with
  | none=>simp[VT.nodes,VT.nodesL]
  | some y=>exact h y (List.mem_of_getElem? hj)
theorem zxl (l:List VT) (bs:List Bool) (c:Int) (kids:List IT):∀ r∈zcw l bs c kids,r.length=l.length:=by
 intro r h
 unfold zcw at h
 rcases List.mem_append.1 h with h | h
 ·rw[zvv _ _ _ r h];simp[zaP]
 ·unfold zcP at h
  split at h
  ·simp at h
  ·split at h
   ·rw[zvv _ _ _ r h];simp[zaP]
   ·simp at h
theorem zFw {l:List VT} {bs:List Bool} {c:Int} {kids:List IT} (hl:∀ x∈l,x.nodes≤200) (hk:IT.nodesL kids+1≤1000):∀ r∈zcw l bs c kids,∀ x∈r,x.nodes≤1000:=by
 have hb:=zvh (P:=pos false bs bs.length) hl
 intro r h
 unfold zcw at h
 rcases List.mem_append.1 h with h | h
 ·exact zhf _ _ _ (fun x hx=>by have:=hb x hx;omega) hk r h
 ·unfold zcP at h
  split at h
  ·simp at h
  ·rename_i c' ps rest
   simp only[IT.nodesL,IT.nodes]at hk
   split at h
   ·refine zhf _ _ _ (fun x hx=>?_) (by omega) r h
    rcases zi1 _ _ _ _ hx with hx | hx
    ·have:=hb x hx;omega
    ·have:=zwy hx;omega
   ·simp at h
theorem zj4 {a n:Nat} (ha:a≤7) (hn:n≤8):a ^ n≤100000000:=
 Nat.le_trans (Nat.pow_le_pow_left ha n) (Nat.le_trans (Nat.pow_le_pow_right (by omega) hn) (by decide))
theorem zxk {l:List VT} {bs:List Bool} {c:Int} {kids:List IT} (hk:kids.length≤6) (hb:bs.length≤8):(zcw l bs c kids).length≤200000000:=by
 have hR:=zem true bs bs.length
 unfold zcw
 rw[List.length_append]
 have h1:=Nat.le_trans (zox (pos true bs bs.length) (zaP l (pos false bs bs.length)) kids) (zj4 (by omega) (by omega))
 have:(zcP (zaP l (pos false bs bs.length)) (pos false bs bs.length) (pos true bs bs.length) c kids).length≤100000000:=by
  unfold zcP
  split
  ·simp
  ·rename_i c' ps rest
   split
   ·exact Nat.le_trans (zox _ _ _) (zj4 (by simp at hk;omega) (by omega))
   ·simp
 omega
def d0:IT:=.mk 0 []
def tz:VT:=.mk 0 0 []
theorem zx0 (f:Nat→Int) (b:Nat→Bool):∀ l:List Nat,(l.map f).sum=((l.filter fun j=>b j == false).map f).sum+((l.filter fun j=>b j == true).map f).sum
 | []=>by simp
 | x::l=>by
  have:=zx0 f b l
  cases h:b x <;> simp[List.filter_cons,h,this] <;> omega
theorem zgt {data:List Dat} (m n:Int) (kk:List IT) (ks:List VT):rdV data (.mk m kk) (.mk 5 n ks)=if m=0∧kk.length≤6 then rdE data kk (.mk 5 n ks) 0 else -1:=by simp[rdV,VT.kind]
theorem zp4 {v:Bool} {bs:List Bool} {j:Nat} (h:j<bs.length) (hb:bs.getD j false=v):j∈pos v bs bs.length:=by
 simp[List.getD_eq_getElem?_getD,h]at hb
 simp[pos,h,hb]
mutual
theorem zyw {data:List Dat}:∀ x:VT,rdV data (zbn x) x=0
 | .mk k n ks=>by
  have hA:=zyx (data:=data) ks 0 (by omega) (by omega)
  by_cases h6:k=6
  ·subst h6
   have:rdV data (zbn (.mk 6 n ks)) (.mk 6 n ks)=rdA data (zbN ks) ks 0:=by simp[zbn,rdV,VT.kind,VT.kids,zie]
   rw[this,hA]
  ·by_cases h7:k=7
   ·subst h7
    simp[zbn,rdV,VT.kind]
   ·by_cases h5:k=5
    ·subst h5
     simp[zbn,rdV,VT.kind,rdE]
    ·simp[zbn,rdV,VT.kind,h6,h7,h5]
theorem zyx {data:List Dat}:∀ (ts:List VT) (a:Int),0≤a→a≤6→rdA data (zbN ts) ts a=a
 | [],a,_,_=>by simp only[zbN,rdA]
 | t::ts,a,h,h6=>by
  have h1:=zyw (data:=data) t
  rw[zbN,zxa,h1,if_neg (by omega),Int.add_zero,zyx ts a h h6]
end
theorem zeT {data:List Dat} (h8:∀ D∈data,D.cons.length≤8) (t:VT):∀ (rs:List (List IT)) (a:Int),0≤a→a≤6→0≤rdE data rs.flatten t a→(∀ r∈rs,0≤rdE data r t 0)∧rdE data rs.flatten t a=a+(rs.map fun r=>rdE data r t 0).sum
 | [],a,h,h6,_=>by simp only[List.flatten_nil,rdE];simp
 | r::rs,a,h,h6,hd=>by
  rw[List.flatten_cons,zp8 h8 _ _ _ _ h h6,zj7 r t a h h6]at hd ⊢
  by_cases hr:rdE data r t 0<0∨a+rdE data r t 0>6
  ·rw[zc6 hr]at hd;simp at hd
  ·rw[zfb (by omega) (by omega)]at hd ⊢
   rw[if_neg (by omega)]at hd ⊢
   obtain⟨g1,g2⟩:=zeT h8 t rs _ (by omega) (by omega) hd
   refine⟨fun x hx=>?_,by rw[g2];simp;omega⟩
   rcases List.mem_cons.1 hx with rfl | hx
   ·omega
   ·exact g1 x hx
theorem zd2 {data:List Dat}:∀ (vs:List IT) (ts:List VT) (a:Int),0≤a→vs.length=ts.length→0≤rdA data vs ts a→(∀ k (h1:k<vs.length) (h2:k<ts.length),0≤rdV data vs[k] ts[k])∧rdA data vs ts a=a+(List.zipWith (rdV data) vs ts).sum
 | [],[],a,h,_,_=>by simp only[rdA];simp
 | [],_::_,_,_,hl,_=>by simp at hl
 | _::_,[],_,_,hl,_=>by simp at hl
 | v::vs,t::ts,a,h,hl,hd=>by
  rw[zxa]at hd ⊢
  by_cases hr:rdV data v t<0∨a+rdV data v t>6
  ·rw[if_pos hr]at hd;omega
  ·rw[if_neg hr]at hd ⊢
   obtain⟨g1,g2⟩:=zd2 vs ts _ (by omega) (by simpa using hl) hd
   refine⟨fun k h1 h2=>?_,by rw[g2];simp;omega⟩
   cases k with
   | zero=>simp;omega
   | succ k=>simpa using g1 k (by simpa using h1) (by simpa using h2)
theorem zi0 {R:List Nat} {row xs:List IT} (hn:R.Nodup) (hl:xs.length=R.length) (hr:∀ p∈R,p<row.length):(R.map fun j=>(fill row R xs).getD j d0)=xs:=by
 refine List.ext_getElem (by simp[hl]) fun k h1 h2=>?_
 have:=zoG R row xs hn hl hr k (by simpa using h1) h2
 simp[List.getD_eq_getElem?_getD,this]
theorem zvM {R P:List Nat} {row xs:List IT} (hd:∀ p∈P,p ∉ R):(P.map fun j=>(fill row R xs).getD j d0)=P.map fun j=>row.getD j d0:=
 List.map_congr_left fun j hj=>by rw[List.getD_eq_getElem?_getD,zgc R row xs j (hd j hj),List.getD_eq_getElem?_getD]
theorem zx1:∀ P:List Nat,(P.map fun _=>(0:Int)).sum=0
 | []=>rfl
 | p::P=>by simp only[List.map_cons,List.sum_cons,zx1 P,Int.zero_add]
theorem zyy {data:List Dat} (f:Nat→IT) (g:Nat→VT):∀ P:List Nat,(P.map fun j=>rdV data (f j) (g j))=List.zipWith (rdV data) (P.map f) (P.map g)
 | []=>rfl
 | p::P=>by simp only[List.map_cons,List.zipWith_cons_cons,zyy f g P]
theorem zxr {data:List Dat} {n:Int} {ks:List VT} {l:List VT} {R:List Nat} {r:List IT} {s:List (List IT)} (h8:∀ D∈data,D.cons.length≤8) (hrt:∀ j∈R,l.getD j tz=.mk 5 n ks) (hm:(R.map fun j=>r.getD j d0)=s.map (IT.mk 0)) (hs:∀ x∈s,0≤rdE data x (.mk 5 n ks) 0) :
  (∀ j∈R,0≤rdV data (r.getD j d0) (l.getD j tz))∧(R.map fun j=>rdV data (r.getD j d0) (l.getD j tz)).sum=(s.map fun x=>rdE data x (.mk 5 n ks) 0).sum:=by
 have h5:∀ x∈s,rdV data (IT.mk 0 x) (.mk 5 n ks)=rdE data x (.mk 5 n ks) 0:=fun x hx=>by
  have h1:=zh1 (data:=data) x (.mk 5 n ks) 0 (by omega)
  have h2:=zxb (h8:=h8) x (.mk 5 n ks)
  have h3:=hs x hx
  rw[zgt,if_pos ⟨rfl,by omega⟩]
 have e1:(R.map fun j=>rdV data (r.getD j d0) (l.getD j tz))=(R.map fun j=>r.getD j d0).map fun x=>rdV data x (.mk 5 n ks):=by
  rw[List.map_map]
  exact List.map_congr_left fun j hj=>by simp only[Function.comp_apply];rw[hrt j hj]
 have e2:(R.map fun j=>rdV data (r.getD j d0) (l.getD j tz))=s.map fun x=>rdE data x (.mk 5 n ks) 0:=by
  rw[e1,hm,List.map_map]
  exact List.map_congr_left fun x hx=>h5 x hx
 refine⟨fun j hj=>?_,by rw[e2]⟩
 have:rdV data (r.getD j d0) (l.getD j tz)∈R.map fun j=>rdV data (r.getD j d0) (l.getD j tz):=List.mem_map.2 ⟨j,hj,rfl⟩
 rw[e2]at this
 obtain⟨x,hx,he⟩:=List.mem_map.1 this
 rw[←he]
 exact hs x hx
theorem zFo {data:List Dat} (h8:∀ D∈data,D.cons.length≤8) {n:Int} {ks:List VT} {c:Int} {l:List VT} {bs:List Bool} {kids:List IT} (hlb:l.length=bs.length) (hpay:za8 data (.mk 5 n ks) c=some (pick l bs))
  (hrt:∀ j,bs.getD j false=true→l.getD j tz=.mk 5 n ks) (hd:0≤rdE data kids (.mk 5 n ks) 0) (r:List IT) (hr:r∈zcw l bs c kids) :
  (∀ j,j<bs.length→0≤rdV data (r.getD j d0) (l.getD j tz))∧(((List.range bs.length).map fun j=>rdV data (r.getD j d0) (l.getD j tz)).sum=rdE data kids (.mk 5 n ks) 0∨((List.range bs.length).map fun j=>rdV data (r.getD j d0) (l.getD j tz)).sum=rdE data kids (.mk 5 n ks) 0-1):=by
 have hsum:=zx0 (fun j=>rdV data (r.getD j d0) (l.getD j tz)) (fun j=>bs.getD j false) (List.range bs.length)
 have hpk:=zdz hlb tz l.length (Nat.le_refl _)
 rw[List.take_length,hlb,List.take_length]at hpk
 have hPn:(pos false bs bs.length).Nodup:=List.Pairwise.filter _ List.nodup_range
 have hRn:(pos true bs bs.length).Nodup:=List.Pairwise.filter _ List.nodup_range
 have hPl:∀ j∈pos false bs bs.length,j<l.length:=fun j hj=>by have:=zd1 hj;omega
 have hRl:∀ j∈pos true bs bs.length,j<l.length:=fun j hj=>by have:=zd1 hj;omega
 have hRb:∀ j∈pos true bs bs.length,bs.getD j false=true:=fun j hj=>by
  simp[pos]at hj;rw[List.getD_eq_getElem?_getD];exact hj.2
 have hPb:∀ j∈pos false bs bs.length,bs.getD j false=false:=fun j hj=>by
  simp[pos]at hj;rw[List.getD_eq_getElem?_getD];exact hj.2
 have hPR:∀ j∈pos false bs bs.length,j ∉ pos true bs bs.length:=fun j hj h=>by
  have h1:=hPb j hj
  have h2:=hRb j h
  rw[h1]at h2
  cases h2
 have hall:∀ j,j<bs.length→j∈pos false bs bs.length∨j∈pos true bs bs.length:=fun j hj=>by
  cases hb:bs.getD j false with
  | true=>exact .inr (zp4 hj hb)
  | false=>exact .inl (zp4 hj hb)
 have hrt':∀ j∈pos true bs bs.length,l.getD j tz=.mk 5 n ks:=fun j hj=>hrt j (hRb j hj)
 rw[show ((List.range bs.length).filter fun j=>bs.getD j false == false)=pos false bs bs.length from rfl,show ((List.range bs.length).filter fun j=>bs.getD j false == true)=pos true bs bs.length from rfl]at hsum
 rw[hsum]
 have hbl:∀ P,(zaP l P).length=l.length:=fun P=>by simp[zaP]
 unfold zcw at hr
 generalize pos false bs bs.length=P at *
 generalize pos true bs bs.length=R at *
 have hr0:=List.mem_append.1 hr
 clear hr
 rcases hr0 with hr | hr
 ·rw[zhe]at hr
  obtain⟨s,hs,rfl⟩:=List.mem_map.1 hr
  have hfl:=zql _ _ s hs
  have hsl:=zqm _ _ s hs
  rw[←hfl]at hd
  obtain⟨g1,g2⟩:=zeT h8 (.mk 5 n ks) s 0 (by omega) (by omega) hd
  rw[hfl]at g2
  have hm:=zi0 (row:=zaP l P) (xs:=s.map (IT.mk 0)) hRn (by simpa using hsl) (fun p hp=>by rw[hbl];exact hRl p hp)
  obtain⟨d1,d2⟩:=zxr h8 hrt' hm g1
  have hz:∀ j∈P,rdV data ((fill (zaP l P) R (s.map (IT.mk 0))).getD j d0) (l.getD j tz)=0:=by
   have e1:=zvM (row:=zaP l P) (xs:=s.map (IT.mk 0)) hPR
   have e2:=zi0 (row:=List.replicate l.length (.mk 0 [])) (xs:=P.map fun j=>zbn (l.getD j (.mk 0 0 []))) hPn (by simp) (fun p hp=>by simpa using hPl p hp)
   rw[show fill (List.replicate l.length (.mk 0 [])) P (P.map fun j=>zbn (l.getD j (.mk 0 0 [])))=zaP l P from rfl]at e2
   rw[e2]at e1
   intro j hj
   rw[List.map_inj_left.1 e1 j hj]
   exact zyw _
  have hzs:(P.map fun j=>rdV data ((fill (zaP l P) R (s.map (IT.mk 0))).getD j d0) (l.getD j tz)).sum=0:=by
   have:(P.map fun j=>rdV data ((fill (zaP l P) R (s.map (IT.mk 0))).getD j d0) (l.getD j tz))=P.map fun _=>(0:Int):=List.map_congr_left hz
   rw[this,zx1]
  refine⟨fun j hj=>?_,.inl ?_⟩
  ·rcases hall j hj with h | h
   ·rw[hz j h];exact Int.le_refl _
   ·exact d1 j h
  ·rw[hzs,d2,g2]
 ·cases kids with
  | nil=>simp[zcP]at hr
  | cons x rest=>
   obtain⟨c',ps⟩:=x
   simp only[zcP]at hr
   split at hr
   ·rename_i hcc
    subst hcc
    rw[zhe]at hr
    obtain⟨s,hs,rfl⟩:=List.mem_map.1 hr
    have hfl:=zql _ _ s hs
    have hsl:=zqm _ _ s hs
    rw[zd3]at hd ⊢
    by_cases h1:c'<0∨8≤c'
    ·rw[if_pos h1]at hd;omega
    ·rw[if_neg h1,hpay]at hd ⊢
     simp only at hd ⊢
     by_cases h2:(pick l bs).length=ps.length
     ·rw[if_pos h2]at hd ⊢
      by_cases h3:rdA data ps (pick l bs) 0<0∨0+1+rdA data ps (pick l bs) 0>6
      ·rw[if_pos h3]at hd;omega
      ·rw[if_neg h3]at hd ⊢
       rw[←hfl]at hd
       obtain⟨g1,g2⟩:=zeT h8 (.mk 5 n ks) s _ (by omega) (by omega) hd
       rw[hfl]at g2
       rw[hpk]at h2 h3 g2 ⊢
       obtain⟨p1,p2⟩:=zd2 (data:=data) ps (P.map fun j=>l.getD j tz) 0 (by omega) h2.symm (by omega)
       have hm:=zi0 (row:=fill (zaP l P) P ps) (xs:=s.map (IT.mk 0)) hRn (by simpa using hsl) (fun p hp=>by rw[zgb,hbl];exact hRl p hp)
       obtain⟨d1,d2⟩:=zxr h8 hrt' hm g1
       have e1:=zvM (row:=fill (zaP l P) P ps) (xs:=s.map (IT.mk 0)) hPR
       have e2:=zi0 (row:=zaP l P) (xs:=ps) hPn (by simpa using h2.symm) (fun p hp=>by rw[hbl];exact hPl p hp)
       rw[e2]at e1
       have e3:(P.map fun j=>rdV data ((fill (fill (zaP l P) P ps) R (s.map (IT.mk 0))).getD j d0) (l.getD j tz))=List.zipWith (rdV data) ps (P.map fun j=>l.getD j tz):=by
        rw[zyy,e1]
       refine⟨fun j hj=>?_,.inr ?_⟩
       ·rcases hall j hj with h | h
        ·obtain⟨k,hk,rfl⟩:=List.getElem_of_mem h
         have:=p1 k (by rw[←h2];simpa using hk) (by simpa using hk)
         have e4:(fill (fill (zaP l P) P ps) R (s.map (IT.mk 0))).getD P[k] d0=ps[k]'(by rw[←h2];simpa using hk):=by
          have:=congrArg (fun x=>x[k]?) e1
          simp only[List.getElem?_map,List.getElem?_eq_getElem hk,Option.map_some,List.getElem?_eq_getElem (show k<ps.length by rw[←h2];simpa using hk),Option.some.injEq]at this
          exact this
         rw[e4]
         simpa using this
        ·exact d1 j h
       ·rw[e3,d2,g2]
        omega
     ·rw[if_neg h2]at hd;omega
   ·simp at hr
end Go.Proofs.YtjkkonpjecoieaaGreat
namespace Go.Abs
def zar {α:Type}:List (α→Nat)→List α→Nat
 | [],_=>1
 | _::_,[]=>0
 | w::ws,n::ns=>w n*zar ws ns+zar (w::ws) ns
theorem zkd {α:Type} (w:α→Nat) (n:α):∀ (ws:List (α→Nat)) (P:List α),zar (ws++[w]) (P++[n])=zar (ws++[w]) P+zar ws P*w n
 | [],[]=>by simp[zar]
 | [],p::P=>by
  have:=zkd w n [] P
  simp only[List.nil_append,List.cons_append,zar]at this ⊢
  omega
 | v::ws,[]=>by
  cases ws <;> simp[zar]
 | v::ws,p::P=>by
  have h1:=zkd w n ws P
  have h2:=zkd w n (v::ws) P
  simp only[List.cons_append,zar]at h2 ⊢
  rw[h1,h2]
  grind
theorem zxy {α:Type}:∀ ws:List (α→Nat),zar ws ([]:List α)=if ws.isEmpty then 1 else 0
 | []=>rfl
 | _::_=>rfl
def zba (l:List Nat):Nat:=l.foldr (·+·) 0
@[simp] theorem zXy:zba []=0:=rfl
@[simp] theorem zib (a:Nat) (l:List Nat):zba (a::l)=a+zba l:=rfl
theorem zia:∀ (a b:List Nat),zba (a++b)=zba a+zba b
 | [],b=>by simp
 | x::a,b=>by simp[zia a b];omega
theorem zGF {a b:List Nat} (h:a.Perm b):zba a=zba b:=by
 induction h with
 | nil=>rfl
 | cons x _ ih=>simp[ih]
 | swap x y l=>simp;omega
 | trans _ _ h1 h2=>rw[h1,h2]
theorem zqu {α:Type} (c:Nat) (f:α→Nat):∀ l:List α,zba (l.map fun a=>c*f a)=c*zba (l.map f)
 | []=>by simp
 | a::l=>by simp[zqu c f l,Nat.mul_add]
theorem zxW {α β:Type} (f:β→Nat) (g:α→List β):∀ l:List α,zba ((l.flatMap g).map f)=zba (l.map fun a=>zba ((g a).map f))
 | []=>by simp
 | a::l=>by simp[List.flatMap_cons,zia,zxW f g l]
theorem zqn {α:Type}:∀ (ws:List (α→Nat)) (A B:List α),zar ws (A++B)=zba ((List.range (ws.length+1)).map fun n=>zar (ws.take n) A*zar (ws.drop n) B)
 | [],A,B=>by simp[zar]
 | w::ws,[],B=>by
  rw[List.nil_append,List.range_succ_eq_map,List.map_cons,List.map_map,zib]
  have:zba ((List.range (w::ws).length).map ((fun n=>zar ((w::ws).take n) []*zar ((w::ws).drop n) B) ∘ Nat.succ))=0:=by
   generalize (List.range (w::ws).length)=l
   induction l with
   | nil=>simp
   | cons a l ih=>simp[zar,ih]
  rw[this];simp[zar]
 | w::ws,a::A,B=>by
  have h1:=zqn ws A B
  have h2:=zqn (w::ws) A B
  rw[List.range_succ_eq_map,List.map_cons,List.map_map,zib]at h2 ⊢
  simp only[List.cons_append,zar,h1,h2]
  simp only[List.take_zero,List.drop_zero,zar,Nat.one_mul,Function.comp_def,List.take_succ_cons,List.drop_succ_cons,List.length_cons]
  rw[←zqu]
  generalize (List.range (ws.length+1))=l
  have:∀ l:List Nat,zba (l.map fun n=>w a*(zar (ws.take n) A*zar (ws.drop n) B))+zba (l.map fun n=>zar (w::ws.take n) A*zar (ws.drop n) B)=zba (l.map fun n=>(w a*zar (ws.take n) A+zar (w::ws.take n) A)*zar (ws.drop n) B):=by
   intro l
   induction l with
   | nil=>simp
   | cons x l ih=>simp only[List.map_cons,zib];rw[←ih];grind
  have:=this l
  omega
theorem zFO {α:Type} (ws:List (α→Nat)) (a:α) (l:List α):zar ws l≤zar ws (a::l):=by
 cases ws <;> simp[zar]
theorem zxx {α:Type} (w:α→Nat) (ws:List (α→Nat)):∀ l:List α,zar (w::ws) l≤zba (l.map w)*zar ws l
 | []=>by simp[zar]
 | a::l=>by
  have ih:=zxx w ws l
  have h1:=zFO ws a l
  simp only[zar,List.map_cons,zib,Nat.add_mul]
  have h2:w a*zar ws l≤w a*zar ws (a::l):=Nat.mul_le_mul_left _ h1
  have h3:zba (l.map w)*zar ws l≤zba (l.map w)*zar ws (a::l):=Nat.mul_le_mul_left _ h1
  omega
theorem zxX {α:Type} {w:α→Nat} {b:Nat}:∀ l:List α,(∀ a∈l,w a≤b)→zba (l.map w)≤l.length*b
 | [],_=>by simp
 | a::l,h=>by
  have h1:=h a (by simp)
  have h2:=zxX l (fun x hx=>h x (by simp[hx]))
  simp only[List.map_cons,zib,List.length_cons,Nat.succ_mul]
  omega
end Go.Abs
namespace Go.Abs
open Go
def zaZ (g:Nat→IT→Nat):Nat→List IT→Nat
 | _,[]=>1
 | k,x::xs=>g k x*zaZ g (k+1) xs
theorem zw5 (g:Nat→IT→Nat):∀ (k:Nat) (row:List IT) (p:Nat) (x:IT) (h:p<row.length),zaZ g k (row.set p x)*g (k+p) row[p]=zaZ g k row*g (k+p) x
 | k,[],p,x,h=>by simp at h
 | k,y::row,0,x,h=>by simp[zaZ];grind
 | k,y::row,p+1,x,h=>by
  have:=zw5 g (k+1) row p x (by simpa using h)
  rw[show k+1+p=k+(p+1) by omega]at this
  simp only[List.set_cons_succ,zaZ,List.getElem_cons_succ]
  grind
theorem zw6 (g:Nat→IT→Nat) (row:List IT) (p:Nat) (x:IT) (h:p<row.length) (h1:g p row[p]=1):zaZ g 0 (row.set p x)=zaZ g 0 row*g p x:=by
 have:=zw5 g 0 row p x h
 simp only[Nat.zero_add]at this
 rw[h1,Nat.mul_one]at this
 exact this
theorem zw4 (g:Nat→IT→Nat):∀ (k:Nat) (row:List IT),(∀ (p:Nat) (h:p<row.length),g (k+p) row[p]=1)→zaZ g k row=1
 | k,[],_=>rfl
 | k,x::row,h=>by
  have h0:=h 0 (by simp)
  rw[zaZ,zw4 g (k+1) row (fun p hp=>by have:=h (p+1) (by simpa using hp);rw[show k+1+p=k+(p+1) by omega];simpa using this)]
  simpa using h0
theorem zw3 (g:Nat→IT→Nat):∀ (P:List Nat) (row xs:List IT),P.Nodup→xs.length=P.length→(∀ p∈P,∃ h:p<row.length,g p row[p]=1) →
  zaZ g 0 (fill row P xs)=zaZ g 0 row*((P.zip xs).foldr (fun e a=>g e.1 e.2*a) 1)
 | [],row,xs,_,hl,_=>by simp
 | p::P,row,[],_,hl,_=>by simp at hl
 | p::P,row,x::xs,hn,hl,hp=>by
  rw[List.nodup_cons]at hn
  obtain⟨h0,h1⟩:=hp p (by simp)
  rw[fill,zw3 g P _ xs hn.2 (by simpa using hl) (fun q hq=>?_),zw6 g row p x h0 h1]
  ·simp only[List.zip_cons_cons,List.foldr_cons];grind
  ·obtain⟨h2,h3⟩:=hp q (by simp[hq])
   refine⟨by simpa using h2,?_⟩
   have hne:p≠q:=by rintro rfl;exact hn.1 hq
   rw[List.getElem_set_ne hne];exact h3
theorem zoB {β:Type} (g:Nat→IT→Nat) (wt:IT→(β→Nat)) (nodes:Nat→List β):∀ (ps:List Nat) (row l:List IT),ps.Nodup →
  (∀ p∈ps,∀ s:List IT,g p (.mk 0 s)=zar (s.map wt) (nodes p))→(∀ p∈ps,∃ h:p<row.length,row[p]=.mk 0 []) →
  zba ((zbo row ps l).map (zaZ g 0))=zaZ g 0 row*zar (l.map wt) (ps.flatMap nodes)
 | [],row,l,_,_,_=>by
  simp only[zbo,List.flatMap_nil,zxy]
  cases l <;> simp
 | p::ps,row,l,hn,hg,hr=>by
  rw[List.nodup_cons]at hn
  obtain⟨h0,h1⟩:=hr p (by simp)
  have hg1:g p row[p]=1:=by rw[h1,hg p (by simp)];simp[zar]
  have key:∀ n,zba ((zbo (row.set p (.mk 0 (l.take n))) ps (l.drop n)).map (zaZ g 0))=zaZ g 0 row*(zar ((l.map wt).take n) (nodes p)*zar ((l.map wt).drop n) (ps.flatMap nodes)):=by
   intro n
   rw[zoB g wt nodes ps _ _ hn.2 (fun q hq=>hg q (by simp[hq])) (fun q hq=>?_),zw6 g row p _ h0 hg1,hg p (by simp),List.map_take,List.map_drop,Nat.mul_assoc]
   obtain⟨h2,h3⟩:=hr q (by simp[hq])
   refine⟨by simpa using h2,?_⟩
   have hne:p≠q:=by rintro rfl;exact hn.1 hq
   rw[List.getElem_set_ne hne];exact h3
  rw[zbo,zxW,List.flatMap_cons,zqn,←zqu,List.length_map]
  congr 1
  exact List.map_congr_left fun n _=>key n
end Go.Abs
namespace Go.Abs
def chs:Nat→Nat→Nat
 | _,0=>1
 | 0,_+1=>0
 | n+1,k+1=>chs n k+chs n (k+1)
@[simp] theorem zou (n:Nat):chs n 0=1:=by cases n <;> rfl
theorem zha:∀ {n k:Nat},n<k→chs n k=0
 | 0,k+1,_=>rfl
 | n+1,k+1,h=>by rw[chs,zha (by omega),zha (by omega)]
theorem ziW:∀ (n k:Nat),(k+1)*chs n (k+1)=chs n k*(n-k)
 | 0,k=>by simp[chs]
 | n+1,0=>by
  have:=ziW n 0
  simp only[chs,zou]at this ⊢
  omega
 | n+1,k+1=>by
  have h1:=ziW n k
  have h2:=ziW n (k+1)
  simp only[chs]
  rw[show n+1-(k+1)=n-k by omega]
  by_cases hk:k+1≤n
  ·obtain⟨m,rfl⟩:∃ m,n=k+1+m:=⟨n-(k+1),by omega⟩
   rw[show k+1+m-k=m+1 by omega]at h1 ⊢
   rw[show k+1+m-(k+1)=m by omega]at h2
   grind
  ·rw[zha (show n<k+1 by omega),zha (show n<k+1+1 by omega),show n-k=0 by omega]
   simp
theorem ziV:∀ (n k:Nat),chs n k≤n ^ k
 | n,0=>by simp
 | 0,k+1=>by simp[chs]
 | n+1,k+1=>by
  have h1:=ziV n k
  have h2:=ziV n (k+1)
  have h3:n ^ k≤(n+1) ^ k:=Nat.pow_le_pow_left (by omega) k
  simp only[chs,Nat.pow_succ]at h2 ⊢
  have h4:n ^ k*n≤(n+1) ^ k*n:=Nat.mul_le_mul_right _ h3
  rw[Nat.mul_add]
  omega
end Go.Abs
