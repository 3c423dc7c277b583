import Derived.Test.YtdmamdnkcefmmaaGreatDoorAbsG
import Derived.MapKept
set_option linter.unusedSimpArgs false
set_option linter.unusedVariables false
set_option maxRecDepth 8000
namespace Go.Proofs.YtdmamdnkcefmmaaGreatDoor
section
open Go.RowKit

variable {P:Program} {B:Nat} {w:World} {G:Gh} {H:zaa}

theorem zHv(v:Value):VRel w G v (zen v):=by
 unfold zen;split
 ·rename_i cs;refine⟨cs,rfl,?_⟩;refine All2.of_get (by simp) λi x y hx hy=>?_;rw[List.getElem?_map,hx]at hy;simp at hy;rw[←hy];exact ARel.of_b (zgB x)
 ·exact VRel.of_a (ARel.of_b (zgB v))
theorem zzk{t e:TypeId}(h:zeE P t=some e):∃k,P.underlying t=some (.map k e)∧P.underlying k=some .string:=by
 unfold zeE at h;cases hu:P.underlying t with
 |none=>simp[hu]at h
 |some d=>
  simp only[hu,Option.bind_some]at h;cases d <;> simp only[]at h <;> try (cases h;done)
  rename_i k e';split at h
  ·rename_i hk;cases h;exact⟨k,rfl,hk⟩
  ·cases h

theorem zoV{s:List UInt8}{x:AV}:∀ {es:List MapEntry} {kvs:List (List UInt8 × AV)} (i:Nat),All2 (ERel w G) es kvs →
  (zbP kvs s=none∧Instr.findNow .string (.string ⟨s.toArray⟩) es i=some none∧zcF kvs s x=kvs++[(s,x)]) ∨
  (∃j e v,zbP kvs s=some v∧Instr.findNow .string (.string ⟨s.toArray⟩) es i=some (some (i+j,e.val))∧es[j]?=some e∧VRel w G e.val v∧e.key=.string ⟨s.toArray⟩∧zcF kvs s x=kvs.set j (s,x))
 |[],[],i,_=>.inl ⟨rfl,rfl,rfl⟩
 |e::es,p::kvs,i,h=>by
  obtain⟨⟨hk,hv⟩,ht⟩:=h;have hbeq:((⟨s.toArray⟩:ByteArray) == ⟨p.1.toArray⟩)=(p.1 == s):=by
   have e1:((⟨s.toArray⟩:ByteArray) == ⟨p.1.toArray⟩)=(s.toArray == p.1.toArray):=rfl;rw[e1,cr,a6,a6];constructor
   ·intro h;have:=congrArg Array.toList h;simpa using this.symm
   ·intro h;rw[h]
  have eV:Instr.sameNow .string (.string ⟨s.toArray⟩) e.key=some (p.1 == s):=by rw[hk];simp only[Instr.sameNow,hbeq]
  cases hb:(p.1 == s) with
  |true=>
   right;rw[hb]at eV;have iI:p.1=s:=by simpa using hb
   exact⟨0,e,p.2,by simp only[zbP,hb],by simp only[Instr.findNow,eV,Nat.add_zero],rfl,hv,by rw[hk,iI],by simp only[zcF,hb,List.set_cons_zero]⟩
  |false=>
   rw[hb]at eV;rcases zoV (s:=s) (x:=x) (i+1) ht with ⟨h1,h2,h3⟩|⟨j,e',v,h1,h2,h3,h4,h5,h6⟩
   ·exact .inl ⟨by simp only[zbP,hb,h1],by simp only[Instr.findNow,eV,h2],by simp only[zcF,hb,h3,List.cons_append]⟩
   ·refine .inr ⟨j+1,e',v,by simp only[zbP,hb,h1],?_,by simpa using h3,h4,h5,by simp only[zcF,hb,h6,List.set_cons_succ]⟩;simp only[Instr.findNow,eV,h2];congr 3;omega
 |[],_::_,_,h=>h.elim
 |_::_,[],_,h=>h.elim

theorem zIL{t:TypeId}{K:AV→zaa→Prop}(hH:HRel B w G H)(h:zdY H K):OpOK P B w G K (((do pure (.value (←Instr.makeMap t none))):Sem Next).run P w):=by
 obtain⟨he,eJ⟩:=hH.newMap;have ef:((do pure (.value (←Instr.makeMap t none))):Sem Next).run P w=.ok (.value (.map (some w.heap.size))) (w.alloc (.map #[] 0)):=by simp[Instr.makeMap,newObj,Sem.run,World.alloc_eq]
 rw[ef];refine⟨.map H.length,_,_,he,eJ,⟨w.heap.size,?_,rfl⟩,h⟩;rw[←hH.len];simp

theorem zII{t e:TypeId}{z vm vk:Value}{m k:AV}{ok:Bool}{K:AV→Prop}(hH:HRel B w G H)(ht:zeE P t=some e)(hz:zbA P e=some z)(hm:TRel w G vm m)(hk:TRel w G vk k)(h:zdI (zen z) ok m k H K):∃u,(Instr.lookup t vm vk ok).run P w=.ok u w∧∃av,TRel w G u av∧K av:=by
 obtain⟨kt,hu,jy⟩:=zzk ht;unfold zdI at h;split at h
 ·rename_i id s;split at h
  ·rename_i kvs ki;obtain⟨b,hμ,rfl⟩:=hm;cases hk;obtain⟨_,_,es,clk,hw,eO⟩:=hH.ok id _ _ ki hμ;have ig:MapKept.IsKey .string (.string ⟨s.toArray⟩):=trivial;rcases zoV (s:=s) (x:=.unk) 0 eO with ⟨h1,h2,_⟩ | ⟨j,e',v,h1,h2,h3,h4,h5,_⟩
   ·rw[h1]at h;have hzv:VRel w G z (zen z):=zHv z;cases ok with
    |false=>refine⟨z,?_,_,zx0 z,h⟩;simp[Instr.lookup,za1 hu,MapKept.run_getObj_map hw,MapKept.run_checkKey jy ig,MapKept.run_findKey jy h2,ze5 hz]
    |true=>refine⟨.tuple #[z,.bool false],?_,.tup [zen z,.bool false],⟨_,rfl,hzv,rfl,trivial⟩,h⟩;simp[Instr.lookup,za1 hu,MapKept.run_getObj_map hw,MapKept.run_checkKey jy ig,MapKept.run_findKey jy h2,ze5 hz]
   ·rw[h1]at h;cases ok with
    |false=>refine⟨e'.val,?_,_,TRel.of_v h4,h⟩;simp[Instr.lookup,za1 hu,MapKept.run_getObj_map hw,MapKept.run_checkKey jy ig,MapKept.run_findKey jy h2]
    |true=>refine⟨.tuple #[e'.val,.bool true],?_,.tup [v,.bool true],⟨_,rfl,h4,rfl,trivial⟩,h⟩;simp[Instr.lookup,za1 hu,MapKept.run_getObj_map hw,MapKept.run_checkKey jy ig,MapKept.run_findKey jy h2]
  ·exact h.elim
 ·exact h.elim

theorem zyA{t e:TypeId}{vm vk vx:Value}{m k x:AV}{K:zaa→Prop}(hH:HRel B w G H)(ht:zeE P t=some e)(hm:TRel w G vm m)(hk:TRel w G vk k)(hx:TRel w G vx x)(h:zcT m k x H K):∃w' H',(Instr.mapUpdate t vm vk vx).run P w=.ok () w'∧Ext B w G w' G∧HRel B w' G H'∧K H':=by
 obtain⟨kt,hu,jy⟩:=zzk ht;unfold zcT at h;split at h
 ·rename_i id s;split at h
  ·rename_i kvs ki;obtain⟨b,hμ,rfl⟩:=hm;cases hk;obtain⟨_,_,es,clk,hw,eO⟩:=hH.ok id _ _ ki hμ;have ig:MapKept.IsKey .string (.string ⟨s.toArray⟩):=trivial;split at h
   ·exact h.elim
   ·rename_i hnt;have hv:VRel w G vx x:=by cases x <;> first | exact hx | exact (hnt _ rfl).elim
    rcases zoV (s:=s) (x:=x) 0 eO with ⟨h1,h2,h6⟩|⟨j,e',v,h1,h2,h3,h4,h5,h6⟩
    ·rw[h6]at h;obtain⟨he,eJ⟩:=hH.storeMap (es':=es.push ⟨.string ⟨s.toArray⟩,vx,clk⟩) (clk':=clk+1) ki hμ hw (kvs':=kvs++[(s,x)]) (by
      rw[Array.toList_push];exact eO.append ⟨⟨rfl,hv⟩,trivial⟩)
     refine⟨_,_,?_,he,eJ,h⟩;simp[Instr.mapUpdate,za1 hu,MapKept.run_getObj_map hw,MapKept.run_checkKey jy ig,MapKept.run_findKey jy h2,MapKept.run_setObj_map _ hw]
    ·rw[h6]at h;have hj:es[j]?=some e':=by simpa using h3
     have eN:j<es.size:=(Array.getElem?_eq_some_iff.1 hj).1;obtain⟨he,eJ⟩:=hH.storeMap (es':=es.modify j λe=>{ e with key:=.string ⟨s.toArray⟩,val:=vx }) (clk':=clk) ki hμ hw (kvs':=kvs.set j (s,x)) (by
      have e1:(es.modify j λe=>{ e with key:=.string ⟨s.toArray⟩,val:=vx }).toList=es.toList.set j { e' with key:=.string ⟨s.toArray⟩,val:=vx }:=by rw[Array.toList_modify,List.modify_eq_set];simp[hj]
      rw[e1];exact eO.set j ⟨rfl,hv⟩)
     refine⟨_,_,?_,he,eJ,h⟩;have fP:(Instr.keyThatStays (((es[j]?).map (·.key)).getD (.string ⟨s.toArray⟩)) (.string ⟨s.toArray⟩)).run P w=.ok (.string ⟨s.toArray⟩) w:=by rw[hj];simp only[Option.map_some,Option.getD_some,h5];exact MapKept.run_keyThatStays ig
     simp only[aG]at h2;simp[Instr.mapUpdate,za1 hu,MapKept.run_getObj_map hw,MapKept.run_checkKey jy ig,MapKept.run_findKey jy h2,fP,MapKept.run_setObj_map _ hw]
  ·exact h.elim
 ·exact h.elim
end
section
open Go.RowKit

variable {P:Program} {B:Nat} {w:World} {G:Gh} {H:zaa}

structure GrB (w w':World) (g:Option Nat):Prop where
 dr:w.drawn≤w'.drawn
 os:w'.os=w.os
 tape:w'.tape=w.tape
 output:w'.output=w.output
 size:w.heap.size≤w'.heap.size
 block:∀k,k<w.heap.size→some k≠g→w'.heap[k]?=w.heap[k]?
theorem zoT(w:World)(o:Obj):w.drawn≤(w.drew.alloc o).drawn:=bP _

theorem zig{t t' ty e:TypeId}{a c:Option Addr}{n cap cap':Nat}(he:zbc P t=some e)(oV:zbc P t'=some e)(hs:∃ s,za0 P e=some s)(hk:n≤cap):
  (Builtin.append_ #[t,t'] ty #[.slice a n cap,.slice c 0 cap']).run P w=.ok (.slice a n cap) w:=by
 obtain⟨s,hs⟩:=hs;have hl:∀x,(loadCells x 0).run P w=.ok #[] w:=λx=>by simpa using run_loadCells_list (P:=P) w x [] (by simp)
 have eD:∀x,(storeCells x [] 0).run P w=.ok () w:=λx=>rfl;cases a <;> cases c <;> simp[Builtin.append_,za1 (zb6 he),za1 (zb6 oV),zbX hs,Builtin.lenOf,hk,Builtin.firstCells,hl,eD]

theorem zkb{t ty e:TypeId}{i:TypeInfo}{z:Value}(ht:P.underlying t=some (.slice e))(hi:P.info? e=some i)(hz:i.zero=some z)(gR:z.cells.size=i.size){v:Value}{n:Nat}{xs:List Value}(ed:w.ownsRow B e i.size v n xs)(a:Addr)(m c:Nat)(news:List Value)(hl:news.length=m*i.size)(gL:∀ j u,news[j]?=some u→w.cell? (a.add j)=some u)(h1:∀ u∈news,u.oneCell'=true)(hm:0<m)(mn:n+m≤maxLen)(fQ:(n+m)*i.bytes≤140737488355328)(ik:B≤w.heap.size):
  ∃ v' w',(Builtin.append_ #[t,t] ty #[v,.slice (some a) m c]).run P w=.ok v' w'∧w'.ownsRow B e i.size v' (n+m) (xs++news) ∧
   ((∃g,v.ownBlock=some g∧v'.ownBlock=some g∧GrB w w' (some g))∨(v'.ownBlock=some w.heap.size∧GrB w w' none)):=by
 have hsmall:n+m≤9223372036854775807:=by simp only[maxLen]at mn;omega
 have d8:(xs++news).length=(n+m)*i.size:=by rw[az,ed.1,hl,aZ]
 have grown:∀ (old:Nat),old<n+m →
   (w.drew.alloc (.cells (xs.toArray++news.toArray++Builtin.zeroCells z.cells (grownCap w (n+m) old e-(n+m))) e)).ownsRow B e i.size
    (.slice (some ⟨w.heap.size,0,none⟩) (n+m) (grownCap w (n+m) old e)) (n+m) (xs++news) ∧
   GrB w (w.drew.alloc (.cells (xs.toArray++news.toArray++Builtin.zeroCells z.cells (grownCap w (n+m) old e-(n+m))) e)) none:=by
  intro old ho;have iT:=grownCap_ge w (n+m) old e;have fg:grownCap w (n+m) old e≤maxLen:=grownCap_le_maxLen w (n+m) old e mn;refine⟨⟨d8,.inr ⟨w.heap.size,_,_,rfl,ik,zdq (w:=w.drew) _,iT,fg,?_,?_⟩⟩,⟨zoT w _,rfl,rfl,rfl,by simp,λk hk _=>zcI (w:=w.drew) hk⟩⟩
  ·simp only[cv,bR,size_zeroCells,gR,ed.1,hl,←aZ];congr 1;omega
  ·simp only[de,aw];rw[←aw,←d8];exact cy
 rcases ed.2 with ⟨rfl,rfl⟩|⟨g,cap,cur,rfl,gA,hg,mj,fg,ew,fb⟩
 ·have hx:xs=[]:=aB (by simpa using ed.1);subst hx;have hr:=run_append_nil (P:=P) w t ty e i z ht hi hz a m c news hl gL hm (by omega) (by have hb:=fQ;simp only[aG]at hb;omega);have fk:=grown 0 (by omega);simp only[aG,List.nil_append,cM]at fk ⊢;exact⟨_,_,hr,fk.1,.inr ⟨rfl,fk.2⟩⟩
 ·by_cases gM:n+m≤cap
  ·have eU:n*i.size+news.length≤cur.size:=by rw[hl,ew,←aZ];exact au _ gM
   have hr:=run_append_room (P:=P) w t ty e i ht hi g n cap cur hg a m c news hl gL h1 gM eU;refine⟨_,_,hr,⟨d8,.inr ⟨g,cap,_,rfl,gA,setRow_heap w g cur _ e _ hg,gM,fg,?_,?_⟩⟩,.inl ⟨g,rfl,rfl,⟨aa _,rfl,rfl,rfl,by simp,λk _ hk=>setRow_other w g k _ (λe=>hk (by simp[e]))⟩⟩⟩
   ·simp only[bR,az,aW,cX,Array.length_toList];omega
   ·rw[fb,←d8];exact cy
  ·have holds:∀j u,xs[j]?=some u→w.cell? ((⟨g,0,none⟩:Addr).add j)=some u:=ed.cells (g:=g) rfl;have hr:=run_append_grow (P:=P) w t ty e i z ht hi hz ⟨g,0,none⟩ n cap xs ed.1 holds a m c news hl gL (by omega) (by omega) (growslice_fits (by omega) fQ);have fk:=grown cap (by omega);exact⟨_,_,hr,fk.1,.inr ⟨rfl,fk.2⟩⟩

theorem zwC{t ty e:TypeId}{i:TypeInfo}{z:Value}(ht:P.underlying t=some (.slice e))(hi:P.info? e=some i)(hz:i.zero=some z)(gR:z.cells.size=i.size){ad:Option Addr}{n:Nat}{xs:List Value}(fN:xs.length=n*i.size)(hx:∀ b,ad=some b→∀ j u,xs[j]?=some u→w.cell? (b.add j)=some u)(hn:ad=none→n=0)(a:Addr)(m c:Nat)(news:List Value)(hl:news.length=m*i.size)(gL:∀ j u,news[j]?=some u→w.cell? (a.add j)=some u)(hm:0<m)(mn:n+m≤maxLen)(fQ:(n+m)*i.bytes≤140737488355328)(ik:B≤w.heap.size):
  ∃v' w',(Builtin.append_ #[t,t] ty #[.slice ad n n,.slice (some a) m c]).run P w=.ok v' w'∧w'.ownsRow B e i.size v' (n+m) (xs++news)∧v'.ownBlock=some w.heap.size∧GrB w w' none:=by
 have hsmall:n+m≤9223372036854775807:=by simp only[maxLen]at mn;omega
 have d8:(xs++news).length=(n+m)*i.size:=by rw[az,fN,hl,aZ]
 have grown:∀ (old:Nat),old<n+m →
   (w.drew.alloc (.cells (xs.toArray++news.toArray++Builtin.zeroCells z.cells (grownCap w (n+m) old e-(n+m))) e)).ownsRow B e i.size
    (.slice (some ⟨w.heap.size,0,none⟩) (n+m) (grownCap w (n+m) old e)) (n+m) (xs++news) ∧
   GrB w (w.drew.alloc (.cells (xs.toArray++news.toArray++Builtin.zeroCells z.cells (grownCap w (n+m) old e-(n+m))) e)) none:=by
  intro old ho;have iT:=grownCap_ge w (n+m) old e;have fg:grownCap w (n+m) old e≤maxLen:=grownCap_le_maxLen w (n+m) old e mn;refine⟨⟨d8,.inr ⟨w.heap.size,_,_,rfl,ik,zdq (w:=w.drew) _,iT,fg,?_,?_⟩⟩,⟨zoT w _,rfl,rfl,rfl,by simp,λk hk _=>zcI (w:=w.drew) hk⟩⟩
  ·simp only[cv,bR,size_zeroCells,gR,fN,hl,←aZ];congr 1;omega
  ·simp only[de,aw];rw[←aw,←d8];exact cy
 cases ad with
 |none=>obtain rfl:=hn rfl;have iJ:xs=[]:=aB (by simpa using fN);subst iJ;have hr:=run_append_nil (P:=P) w t ty e i z ht hi hz a m c news hl gL hm (by omega) (by have hb:=fQ;simp only[aG]at hb;omega);have fk:=grown 0 (by omega);simp only[aG,List.nil_append,cM]at fk ⊢;exact⟨_,_,hr,fk.1,rfl,fk.2⟩
 |some b=>have hr:=run_append_grow (P:=P) w t ty e i z ht hi hz b n n xs fN (hx b rfl) a m c news hl gL (by omega) (by omega) (growslice_fits (by omega) fQ);have fk:=grown n (by omega);exact⟨_,_,hr,fk.1,rfl,fk.2⟩
theorem zkc{e:TypeId}{size n m id:Nat}{v v':Value}{w':World}{xs news:List Value}{es ys:List (List AV)}(hH:HRel B w G H)(gh:H[id]?=some (.perm e size n))(hμ:G.μ[id]?=some (.own v size n))(ed:w.ownsRow B e size v n xs)(eF:w'.ownsRow B e size v' (n+m) (xs++news))(eq:(∃ g,v.ownBlock=some g∧v'.ownBlock=some g∧GrB w w' (some g))∨(v'.ownBlock=some w.heap.size∧GrB w w' none))(hm:ys.length=m)(gB:0<m)(eO:es.length=n)(hse:∀ c∈es,c.length=size)(lY:∀ c∈ys,c.length=size)(hx:All2 (DRel w G.L) xs es.flatten)(hn:All2 (DRel w G.L) news ys.flatten):
  ∃G',Ext B w G w' G'∧HRel B w' G' (H.set id (.perm e size (n+m)))∧TRel w' G' v' (.sl (es++ys) (.own id)):=by
 obtain⟨_,_,⟨_,_⟩,jk⟩:=hH.ok id _ _ gh hμ;obtain⟨gf,eW⟩:=eF;rcases eW with ⟨hv,hz⟩|⟨g,cap,cur,hv,jx,jz,fE,gO,iF,jh⟩
 ·omega
 subst hv;have eF:w'.ownsRow B e size (.slice (some ⟨g,0,none⟩) (n+m) cap) (n+m) (xs++news):=⟨gf,.inr ⟨g,cap,cur,rfl,jx,jz,fE,gO,iF,jh⟩⟩;obtain⟨_,_,hglt,iU⟩:=zdw eF;have eq:(v.ownBlock=some g∧GrB w w' (some g))∨(g=w.heap.size∧GrB w w' none):=by
  rcases eq with ⟨g0,h1,h2,h3⟩|⟨h1,h2⟩
  ·simp[Value.ownBlock]at h2;subst h2;exact .inl ⟨h1,h3⟩
  ·simp[Value.ownBlock]at h1;exact .inr ⟨h1,h2⟩
 have hB:∀b,v.ownBlock=some b→B≤b:=λb hb=>by
  rcases ed.2 with ⟨rfl,_⟩|⟨g0,cap0,cur0,rfl,nn,_⟩
  ·simp[Value.ownBlock]at hb
  ·simp[Value.ownBlock]at hb;omega
 have jA:G.L g≤(n+m)*size:=by
  rcases eq with ⟨h,_⟩|⟨h,_⟩
  ·rw[jk g h];exact au _ (by omega)
  ·rw[hH.fresh g (by omega)];exact bu _
 -- all other blocks are asx they were
 have eV:∀b,b<w.heap.size→b≠g→w'.heap[b]?=w.heap[b]?:=by
  intro b hb en;rcases eq with ⟨_,h⟩|⟨_,h⟩
  ·exact h.block b hb (by simp[en])
  ·exact h.block b hb (by simp)
 have fH:w.heap.size≤w'.heap.size:=by rcases eq with ⟨_,h⟩|⟨_,h⟩ <;> exact h.size
 have gH:∀(id':Nat) gi b,id'≠id→G.μ[id']?=some gi→gi.block=some b→b≠g:=by
  intro id' gi b en h1 h2 gA;subst gA;rcases eq with ⟨h,_⟩|⟨h,_⟩
  ·exact en (hH.dist id' id gi _ b h1 hμ h2 (by simpa[GI.block]using h))
  ·have:=hH.lt id' gi b h1 h2;omega
 have fI:id<G.μ.length:=(List.getElem?_eq_some_iff.1 hμ).1;have he:Ext B w G w' ⟨λb=>if b=g then (n+m)*size else G.L b,G.μ.set id (.own (.slice (some ⟨g,0,none⟩) (n+m) cap) size (n+m))⟩:=by
  refine⟨by rcases eq with ⟨_,h⟩|⟨_,h⟩ <;> exact h.dr,?_,?_,?_,?_⟩
  ·have hb:∀k,k<B→w'.heap[k]?=w.heap[k]?:=λk hk=>eV k (bg hk hH.base) (by
    intro oW;subst oW;rcases eq with ⟨h,_⟩|⟨h,_⟩
    ·have:=hB k h;omega
    ·have:=hH.base;omega)
   rcases eq with ⟨_,h⟩|⟨_,h⟩ <;> exact⟨h.os,h.tape,h.output,h.size,hb⟩
  ·intro b;by_cases hb:b=g
   ·subst hb;simpa using jA
   ·simp[hb]
  ·intro b off gT;by_cases gA:b=g
   ·subst gA;rcases eq with ⟨h,_⟩ | ⟨h,_⟩
    ·rcases ed.2 with ⟨rfl,_⟩ | ⟨g0,cap0,cur0,rfl,nn,hw0,_⟩
     ·simp[Value.ownBlock]at h
     ·simp[Value.ownBlock]at h;subst h;rw[jk _ rfl]at gT;obtain⟨fN,_,_,iV⟩:=zdw ed;rw[iV off gT,iU off (bg gT (au _ (by omega))),List.getElem?_append_left (by omega)]
    ·rw[hH.fresh b (by omega)]at gT;omega
   ·exact zfm (eV b (ziV hH gT) gA)
  ·intro id' gi h1;by_cases d9:id'=id
   ·subst d9;rw[hμ]at h1;cases h1;exact⟨_,List.getElem?_set_self fI,rfl,.inr (by omega)⟩
   ·exact⟨gi,by simp only[];rw[List.getElem?_set_ne (λh=>d9 h.symm)];exact h1,gi.le_refl⟩
 have eQ:∀ (id':Nat) gi,(G.μ.set id (.own (.slice (some ⟨g,0,none⟩) (n+m) cap) size (n+m)))[id']?=some gi →
   (id'=id∧gi=.own (.slice (some ⟨g,0,none⟩) (n+m) cap) size (n+m))∨(id'≠id∧G.μ[id']?=some gi):=by
  intro id' gi h;by_cases d9:id'=id
  ·subst d9;rw[List.getElem?_set_self fI]at h;cases h;exact .inl ⟨rfl,rfl⟩
  ·rw[List.getElem?_set_ne (λh=>d9 h.symm)]at h;exact .inr ⟨d9,h⟩
 refine⟨_,he,⟨by simp[hH.len],?_,?_,?_,?_,ar hH.base fH⟩,⟨?_,_,size,n+m,List.getElem?_set_self fI,by simp;omega,λ_=>⟨rfl,λc hc=>?_⟩⟩⟩
 ·intro id' ab gi h1 h2;rcases eQ id' gi h2 with ⟨rfl,rfl⟩ | ⟨d9,h2⟩
  ·have d7:id'<H.length:=by rw[←hH.len];exact fI
   rw[List.getElem?_set_self d7]at h1;cases h1;refine⟨rfl,rfl,⟨_,eF⟩,λb hb=>?_⟩;simp[Value.ownBlock]at hb;subst hb;simp
  ·rw[List.getElem?_set_ne (λh=>d9 h.symm)]at h1;refine(hH.ok id' ab gi h1 h2).keep he (λb hb=>?_);have en:=gH id' gi b d9 h2 hb;exact⟨eV b (hH.lt id' gi b h2 hb) en,by simp[en]⟩
 ·intro i1 i2 gi1 gi2 b h1 h2 h3 h4;rcases eQ i1 gi1 h1 with ⟨e1,e2⟩ | ⟨iK,k1⟩ <;> rcases eQ i2 gi2 h2 with ⟨e3,e4⟩ | ⟨jR,k2⟩
  ·rw[e1,e3]
  ·rw[e2]at h3;simp[GI.block,Value.ownBlock]at h3;exact absurd h3.symm (gH i2 gi2 b jR k2 h4)
  ·rw[e4]at h4;simp[GI.block,Value.ownBlock]at h4;exact absurd h4.symm (gH i1 gi1 b iK k1 h3)
  ·exact hH.dist i1 i2 gi1 gi2 b k1 k2 h3 h4
 ·intro b hb;have en:b≠g:=by intro h;subst h;omega
  simp[en,hH.fresh b (by omega)]
 ·intro i1 gi b h1 h2;rcases eQ i1 gi h1 with ⟨rfl,rfl⟩ | ⟨iK,h1⟩
  ·simp[GI.block,Value.ownBlock]at h2;omega
  ·have:=hH.lt i1 gi b h1 h2;omega
 ·have en:es++ys≠[]:=by intro h;have:=congrArg List.length h;rw[az,List.length_nil]at this;omega
  have eB:∀c∈es++ys,c.length=size:=λc hc=>(aX.1 hc).elim (hse c) (lY c);have d8:(es++ys).length=n+m:=by simp;omega
  have eZ:=DRel.of_flat (w:=w') (L:=λb=>if b=g then (n+m)*size else G.L b) (g:=g) (cap:=cap) (zs:=xs++news) eB en (by omega) (by simp[eO,hm])
   (by rw[cg];exact(hx.append hn).mono λ_ _=>he.drel)
   (λj u hj=>by
    have kV:j<(n+m)*size:=by rw[←gf];exact(List.getElem?_eq_some_iff.1 hj).1
    rw[iU j kV];exact hj)
  rw[d8]at eZ;exact eZ
 ·rcases aX.1 hc with h | h
  ·exact hse c h
  ·exact lY c h

theorem zir{e:TypeId}{size n m id:Nat}{v v':Value}{w':World}{xs news:List Value}{cs ds:List AV}(hH:HRel B w G H)(gh:H[id]?=some (.vec e size n cs))(hμ:G.μ[id]?=some (.own v size n))(ed:w.ownsRow B e size v n xs)(eF:w'.ownsRow B e size v' (n+m) (xs++news))(eq:(∃ g,v.ownBlock=some g∧v'.ownBlock=some g∧GrB w w' (some g))∨(v'.ownBlock=some w.heap.size∧GrB w w' none))(gB:0<m)(hx:All2 (ARel w G) xs cs)(hn:All2 (ARel w G) news ds):
  ∃G',Ext B w G w' G'∧HRel B w' G' (H.set id (.vec e size (n+m) (cs++ds)))∧TRel w' G' v' (.ov id (n+m)):=by
 obtain⟨_,_,⟨_,_,_⟩,jk⟩:=hH.ok id _ _ gh hμ;obtain⟨gf,eW⟩:=eF;rcases eW with ⟨hv,hz⟩|⟨g,cap,cur,hv,jx,jz,fE,gO,iF,jh⟩
 ·omega
 subst hv;have eF:w'.ownsRow B e size (.slice (some ⟨g,0,none⟩) (n+m) cap) (n+m) (xs++news):=⟨gf,.inr ⟨g,cap,cur,rfl,jx,jz,fE,gO,iF,jh⟩⟩;obtain⟨_,_,hglt,iU⟩:=zdw eF;have eq:(v.ownBlock=some g∧GrB w w' (some g))∨(g=w.heap.size∧GrB w w' none):=by
  rcases eq with ⟨g0,h1,h2,h3⟩|⟨h1,h2⟩
  ·simp[Value.ownBlock]at h2;subst h2;exact .inl ⟨h1,h3⟩
  ·simp[Value.ownBlock]at h1;exact .inr ⟨h1,h2⟩
 have hB:∀b,v.ownBlock=some b→B≤b:=λb hb=>by
  rcases ed.2 with ⟨rfl,_⟩|⟨g0,cap0,cur0,rfl,nn,_⟩
  ·simp[Value.ownBlock]at hb
  ·simp[Value.ownBlock]at hb;omega
 have jA:G.L g=0:=by
  rcases eq with ⟨h,_⟩|⟨h,_⟩
  ·exact jk g h
  ·exact hH.fresh g (by omega)
 have eV:∀b,b<w.heap.size→b≠g→w'.heap[b]?=w.heap[b]?:=by
  intro b hb en;rcases eq with ⟨_,h⟩|⟨_,h⟩
  ·exact h.block b hb (by simp[en])
  ·exact h.block b hb (by simp)
 have fH:w.heap.size≤w'.heap.size:=by rcases eq with ⟨_,h⟩|⟨_,h⟩ <;> exact h.size
 have gH:∀(id':Nat) gi b,id'≠id→G.μ[id']?=some gi→gi.block=some b→b≠g:=by
  intro id' gi b en h1 h2 gA;subst gA;rcases eq with ⟨h,_⟩|⟨h,_⟩
  ·exact en (hH.dist id' id gi _ b h1 hμ h2 (by simpa[GI.block]using h))
  ·have:=hH.lt id' gi b h1 h2;omega
 have fI:id<G.μ.length:=(List.getElem?_eq_some_iff.1 hμ).1;have he:Ext B w G w' ⟨G.L,G.μ.set id (.own (.slice (some ⟨g,0,none⟩) (n+m) cap) size (n+m))⟩:=by
  refine⟨by rcases eq with ⟨_,h⟩|⟨_,h⟩ <;> exact h.dr,?_,λ_=>aa _,?_,?_⟩
  ·have hb:∀k,k<B→w'.heap[k]?=w.heap[k]?:=λk hk=>eV k (bg hk hH.base) (by
    intro oW;subst oW;rcases eq with ⟨h,_⟩|⟨h,_⟩
    ·have:=hB k h;omega
    ·have:=hH.base;omega)
   rcases eq with ⟨_,h⟩|⟨_,h⟩ <;> exact⟨h.os,h.tape,h.output,h.size,hb⟩
  ·intro b off gT;by_cases gA:b=g
   ·subst gA;omega
   ·exact zfm (eV b (ziV hH gT) gA)
  ·intro id' gi h1;by_cases d9:id'=id
   ·subst d9;rw[hμ]at h1;cases h1;exact⟨_,List.getElem?_set_self fI,rfl,.inr (by omega)⟩
   ·exact⟨gi,by simp only[];rw[List.getElem?_set_ne (λh=>d9 h.symm)];exact h1,gi.le_refl⟩
 have eQ:∀ (id':Nat) gi,(G.μ.set id (.own (.slice (some ⟨g,0,none⟩) (n+m) cap) size (n+m)))[id']?=some gi →
   (id'=id∧gi=.own (.slice (some ⟨g,0,none⟩) (n+m) cap) size (n+m))∨(id'≠id∧G.μ[id']?=some gi):=by
  intro id' gi h;by_cases d9:id'=id
  ·subst d9;rw[List.getElem?_set_self fI]at h;cases h;exact .inl ⟨rfl,rfl⟩
  ·rw[List.getElem?_set_ne (λh=>d9 h.symm)]at h;exact .inr ⟨d9,h⟩
 refine⟨_,he,⟨by simp[hH.len],?_,?_,?_,?_,ar hH.base fH⟩,⟨⟨_,_,rfl,λ_=>⟨g,rfl⟩,fE⟩,_,size,n+m,List.getElem?_set_self fI,aa _,λ_=>rfl⟩⟩
 ·intro id' ab gi h1 h2;rcases eQ id' gi h2 with ⟨rfl,rfl⟩ | ⟨d9,h2⟩
  ·have d7:id'<H.length:=by rw[←hH.len];exact fI
   rw[List.getElem?_set_self d7]at h1;cases h1;refine⟨rfl,rfl,⟨_,eF,(hx.mono λ_ _=>he.arel).append (hn.mono λ_ _=>he.arel)⟩,λb hb=>?_⟩;simp[Value.ownBlock]at hb;subst hb;exact jA
  ·rw[List.getElem?_set_ne (λh=>d9 h.symm)]at h1;refine(hH.ok id' ab gi h1 h2).keep he (λb hb=>?_);have en:=gH id' gi b d9 h2 hb;exact⟨eV b (hH.lt id' gi b h2 hb) en,rfl⟩
 ·intro i1 i2 gi1 gi2 b h1 h2 h3 h4;rcases eQ i1 gi1 h1 with ⟨e1,e2⟩ | ⟨iK,k1⟩ <;> rcases eQ i2 gi2 h2 with ⟨e3,e4⟩ | ⟨jR,k2⟩
  ·rw[e1,e3]
  ·rw[e2]at h3;simp[GI.block,Value.ownBlock]at h3;exact absurd h3.symm (gH i2 gi2 b jR k2 h4)
  ·rw[e4]at h4;simp[GI.block,Value.ownBlock]at h4;exact absurd h4.symm (gH i1 gi1 b iK k1 h3)
  ·exact hH.dist i1 i2 gi1 gi2 b k1 k2 h3 h4
 ·intro b hb;exact hH.fresh b (by omega)
 ·intro i1 gi b h1 h2;rcases eQ i1 gi h1 with ⟨rfl,rfl⟩ | ⟨iK,h1⟩
  ·simp[GI.block,Value.ownBlock]at h2;omega
  ·have:=hH.lt i1 gi b h1 h2;omega

end
end Go.Proofs.YtdmamdnkcefmmaaGreatDoor
