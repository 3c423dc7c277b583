import Derived.Test.YtaifokkaaahdoaaGreatDoorAbsP
import Derived.WideKeyRuns
set_option linter.unusedSimpArgs false
set_option linter.unusedVariables false
set_option linter.unusedSectionVars false
set_option maxRecDepth 8000
namespace Go.Abs
open Go Go.RowKit

variable {P:Program} {B:Nat} {w:World} {G:Gh} {H:zaa}

structure GrB (w w':World) (g:Option Nat):Prop where
 dr:w.drawn≤w'.drawn
 os:w'.os=w.os
 tape:w'.tape=w.tape
 output:w'.output=w.output
 size:w.heap.size≤w'.heap.size
 block:∀k,k<w.heap.size→some k≠g→w'.heap[k]?=w.heap[k]?
theorem ztO(w:World)(o:Obj):w.drawn≤(w.drew.alloc o).drawn:=Nat.le_succ _

theorem zhQ{t t' ty e:TypeId}{a c:Option Addr}{n cap cap':Nat}(he:za8 P t=some e)(he':za8 P t'=some e)(hs:∃ s,zaK P e=some s)(hk:n≤cap):
  (Builtin.append_ #[t,t'] ty #[.slice a n cap,.slice c 0 cap']).run P w=.ok (.slice a n cap) w:=by
 obtain⟨s,hs⟩:=hs;have hl:∀x,(loadCells x 0).run P w=.ok #[] w:=λx=>by simpa using run_loadCells_list (P:=P) w x [] (by simp)
 have hst:∀x,(storeCells x [] 0).run P w=.ok () w:=λx=>rfl;cases a <;> cases c <;> simp[Builtin.append_,zaO (zbB he),zaO (zbB he'),zbs hs,Builtin.lenOf,hk,Builtin.firstCells,hl,hst]

theorem zoP{t ty e:TypeId}{i:TypeInfo}{z:Value}(ht:P.underlying t=some (.slice e))(hi:P.info? e=some i)(hz:i.zero=some z)(hzs:z.cells.size=i.size){v:Value}{n:Nat}{xs:List Value}(hown:w.ownsRow B e i.size v n xs)(a:Addr)(m c:Nat)(news:List Value)(hl:news.length=m*i.size)(hnews:∀ j u,news[j]?=some u→w.cell? (a.add j)=some u)(h1:∀ u∈news,u.oneCell'=true)(hm:0<m)(h63:n+m≤maxLen)(hbytes:(n+m)*i.bytes≤140737488355328)(hbase:B≤w.heap.size):
  ∃ v' w',(Builtin.append_ #[t,t] ty #[v,.slice (some a) m c]).run P w=.ok v' w'∧w'.ownsRow B e i.size v' (n+m) (xs++news) ∧
   ((∃g,v.ownBlock=some g∧v'.ownBlock=some g∧GrB w w' (some g))∨(v'.ownBlock=some w.heap.size∧GrB w w' none)):=by
 have hsmall:n+m≤9223372036854775807:=by simp only[maxLen]at h63;omega
 have hlen:(xs++news).length=(n+m)*i.size:=by rw[List.length_append,hown.1,hl,Nat.add_mul]
 have grown:∀ (old:Nat),old<n+m →
   (w.drew.alloc (.cells (xs.toArray++news.toArray++Builtin.zeroCells z.cells (grownCap w (n+m) old e-(n+m))) e)).ownsRow B e i.size
    (.slice (some ⟨w.heap.size,0,none⟩) (n+m) (grownCap w (n+m) old e)) (n+m) (xs++news) ∧
   GrB w (w.drew.alloc (.cells (xs.toArray++news.toArray++Builtin.zeroCells z.cells (grownCap w (n+m) old e-(n+m))) e)) none:=by
  intro old ho;have hge:=grownCap_ge w (n+m) old e;have hcm:grownCap w (n+m) old e≤maxLen:=grownCap_le_maxLen w (n+m) old e h63;refine⟨⟨hlen,.inr ⟨w.heap.size,_,_,rfl,hbase,zeh (w:=w.drew) _,hge,hcm,?_,?_⟩⟩,⟨ztO w _,rfl,rfl,rfl,by simp,λk hk _=>zc8 (w:=w.drew) hk⟩⟩
  ·simp only[Array.size_append,List.size_toArray,size_zeroCells,hzs,hown.1,hl,←Nat.add_mul];congr 1;omega
  ·simp only[Array.toList_append,List.append_assoc];rw[←List.append_assoc,←hlen];exact List.take_left
 rcases hown.2 with ⟨rfl,rfl⟩|⟨g,cap,cur,rfl,hbg,hg,hnc,hcm,hcs,htake⟩
 ·have hx:xs=[]:=List.eq_nil_of_length_eq_zero (by simpa using hown.1);subst hx;have hr:=run_append_nil (P:=P) w t ty e i z ht hi hz a m c news hl hnews hm (by omega) (by have hb:=hbytes;simp only[Nat.zero_add]at hb;omega);have hgr:=grown 0 (by omega);simp only[Nat.zero_add,List.nil_append,Array.empty_append]at hgr ⊢;exact⟨_,_,hr,hgr.1,.inr ⟨rfl,hgr.2⟩⟩
 ·by_cases hroom:n+m≤cap
  ·have hfit:n*i.size+news.length≤cur.size:=by rw[hl,hcs,←Nat.add_mul];exact Nat.mul_le_mul_right _ hroom
   have hr:=run_append_room (P:=P) w t ty e i ht hi g n cap cur hg a m c news hl hnews h1 hroom hfit;refine⟨_,_,hr,⟨hlen,.inr ⟨g,cap,_,rfl,hbg,setRow_heap w g cur _ e _ hg,hroom,hcm,?_,?_⟩⟩,.inl ⟨g,rfl,rfl,⟨Nat.le_refl _,rfl,rfl,rfl,by simp,λk _ hk=>setRow_other w g k _ (λe=>hk (by simp[e]))⟩⟩⟩
   ·simp only[List.size_toArray,List.length_append,List.length_take,List.length_drop,Array.length_toList];omega
   ·rw[htake,←hlen];exact List.take_left
  ·have holds:∀j u,xs[j]?=some u→w.cell? ((⟨g,0,none⟩:Addr).add j)=some u:=hown.cells (g:=g) rfl;have hr:=run_append_grow (P:=P) w t ty e i z ht hi hz ⟨g,0,none⟩ n cap xs hown.1 holds a m c news hl hnews (by omega) (by omega) (growslice_fits (by omega) hbytes);have hgr:=grown cap (by omega);exact⟨_,_,hr,hgr.1,.inr ⟨rfl,hgr.2⟩⟩

theorem zt6{t ty e:TypeId}{i:TypeInfo}{z:Value}(ht:P.underlying t=some (.slice e))(hi:P.info? e=some i)(hz:i.zero=some z)(hzs:z.cells.size=i.size){ad:Option Addr}{n:Nat}{xs:List Value}(hxl:xs.length=n*i.size)(hx:∀ b,ad=some b→∀ j u,xs[j]?=some u→w.cell? (b.add j)=some u)(hn:ad=none→n=0)(a:Addr)(m c:Nat)(news:List Value)(hl:news.length=m*i.size)(hnews:∀ j u,news[j]?=some u→w.cell? (a.add j)=some u)(hm:0<m)(h63:n+m≤maxLen)(hbytes:(n+m)*i.bytes≤140737488355328)(hbase:B≤w.heap.size):
  ∃v' w',(Builtin.append_ #[t,t] ty #[.slice ad n n,.slice (some a) m c]).run P w=.ok v' w'∧w'.ownsRow B e i.size v' (n+m) (xs++news)∧v'.ownBlock=some w.heap.size∧GrB w w' none:=by
 have hsmall:n+m≤9223372036854775807:=by simp only[maxLen]at h63;omega
 have hlen:(xs++news).length=(n+m)*i.size:=by rw[List.length_append,hxl,hl,Nat.add_mul]
 have grown:∀ (old:Nat),old<n+m →
   (w.drew.alloc (.cells (xs.toArray++news.toArray++Builtin.zeroCells z.cells (grownCap w (n+m) old e-(n+m))) e)).ownsRow B e i.size
    (.slice (some ⟨w.heap.size,0,none⟩) (n+m) (grownCap w (n+m) old e)) (n+m) (xs++news) ∧
   GrB w (w.drew.alloc (.cells (xs.toArray++news.toArray++Builtin.zeroCells z.cells (grownCap w (n+m) old e-(n+m))) e)) none:=by
  intro old ho;have hge:=grownCap_ge w (n+m) old e;have hcm:grownCap w (n+m) old e≤maxLen:=grownCap_le_maxLen w (n+m) old e h63;refine⟨⟨hlen,.inr ⟨w.heap.size,_,_,rfl,hbase,zeh (w:=w.drew) _,hge,hcm,?_,?_⟩⟩,⟨ztO w _,rfl,rfl,rfl,by simp,λk hk _=>zc8 (w:=w.drew) hk⟩⟩
  ·simp only[Array.size_append,List.size_toArray,size_zeroCells,hzs,hxl,hl,←Nat.add_mul];congr 1;omega
  ·simp only[Array.toList_append,List.append_assoc];rw[←List.append_assoc,←hlen];exact List.take_left
 cases ad with
 |none=>obtain rfl:=hn rfl;have hx0:xs=[]:=List.eq_nil_of_length_eq_zero (by simpa using hxl);subst hx0;have hr:=run_append_nil (P:=P) w t ty e i z ht hi hz a m c news hl hnews hm (by omega) (by have hb:=hbytes;simp only[Nat.zero_add]at hb;omega);have hgr:=grown 0 (by omega);simp only[Nat.zero_add,List.nil_append,Array.empty_append]at hgr ⊢;exact⟨_,_,hr,hgr.1,rfl,hgr.2⟩
 |some b=>have hr:=run_append_grow (P:=P) w t ty e i z ht hi hz b n n xs hxl (hx b rfl) a m c news hl hnews (by omega) (by omega) (growslice_fits (by omega) hbytes);have hgr:=grown n (by omega);exact⟨_,_,hr,hgr.1,rfl,hgr.2⟩
theorem zvt{e:TypeId}{size n m id:Nat}{v v':Value}{w':World}{xs news:List Value}{es ys:List (List AV)}(hH:HRel B w G H)(hHid:H[id]?=some (.perm e size n))(hμ:G.μ[id]?=some (.own v size n))(hown:w.ownsRow B e size v n xs)(hown':w'.ownsRow B e size v' (n+m) (xs++news))(hcase:(∃ g,v.ownBlock=some g∧v'.ownBlock=some g∧GrB w w' (some g))∨(v'.ownBlock=some w.heap.size∧GrB w w' none))(hm:ys.length=m)(hm0:0<m)(hes:es.length=n)(hse:∀ c∈es,c.length=size)(hsy:∀ c∈ys,c.length=size)(hx:All2 (DRel w G.L) xs es.flatten)(hn:All2 (DRel w G.L) news ys.flatten):
  ∃G',Ext B w G w' G'∧HRel B w' G' (H.set id (.perm e size (n+m)))∧TRel w' G' v' (.sl (es++ys) (.own id)):=by
 obtain⟨_,_,⟨_,_⟩,hLown⟩:=hH.ok id _ _ hHid hμ;obtain⟨hl',hrow⟩:=hown';rcases hrow with ⟨hv,hz⟩|⟨g,cap,cur,hv,hBg,hg',hc1,hc2,hc3,hc4⟩
 ·omega
 subst hv;have hown':w'.ownsRow B e size (.slice (some ⟨g,0,none⟩) (n+m) cap) (n+m) (xs++news):=⟨hl',.inr ⟨g,cap,cur,rfl,hBg,hg',hc1,hc2,hc3,hc4⟩⟩;obtain⟨_,_,hglt,hcell'⟩:=zdw hown';have hcase:(v.ownBlock=some g∧GrB w w' (some g))∨(g=w.heap.size∧GrB w w' none):=by
  rcases hcase with ⟨g0,h1,h2,h3⟩|⟨h1,h2⟩
  ·simp[Value.ownBlock]at h2;subst h2;exact .inl ⟨h1,h3⟩
  ·simp[Value.ownBlock]at h1;exact .inr ⟨h1,h2⟩
 have hB:∀b,v.ownBlock=some b→B≤b:=λb hb=>by
  rcases hown.2 with ⟨rfl,_⟩|⟨g0,cap0,cur0,rfl,hB0,_⟩
  ·simp[Value.ownBlock]at hb
  ·simp[Value.ownBlock]at hb;omega
 have hLg:G.L g≤(n+m)*size:=by
  rcases hcase with ⟨h,_⟩|⟨h,_⟩
  ·rw[hLown g h];exact Nat.mul_le_mul_right _ (by omega)
  ·rw[hH.fresh g (by omega)];exact Nat.zero_le _
 -- all other blocks are asx they were
 have hsame:∀b,b<w.heap.size→b≠g→w'.heap[b]?=w.heap[b]?:=by
  intro b hb hne;rcases hcase with ⟨_,h⟩|⟨_,h⟩
  ·exact h.block b hb (by simp[hne])
  ·exact h.block b hb (by simp)
 have hsize:w.heap.size≤w'.heap.size:=by rcases hcase with ⟨_,h⟩|⟨_,h⟩ <;> exact h.size
 have hoth:∀(id':Nat) gi b,id'≠id→G.μ[id']?=some gi→gi.block=some b→b≠g:=by
  intro id' gi b hne h1 h2 hbg;subst hbg;rcases hcase with ⟨h,_⟩|⟨h,_⟩
  ·exact hne (hH.dist id' id gi _ b h1 hμ h2 (by simpa[GI.block]using h))
  ·have:=hH.lt id' gi b h1 h2;omega
 have hidlt:id<G.μ.length:=(List.getElem?_eq_some_iff.1 hμ).1;have he:Ext B w G w' ⟨λb=>if b=g then (n+m)*size else G.L b,G.μ.set id (.own (.slice (some ⟨g,0,none⟩) (n+m) cap) size (n+m))⟩:=by
  refine⟨DR.set (by rcases hcase with ⟨_,h⟩|⟨_,h⟩ <;> exact h.dr) rfl (by simp),?_,?_,?_,?_⟩
  ·have hb:∀k,k<B→w'.heap[k]?=w.heap[k]?:=λk hk=>hsame k (Nat.lt_of_lt_of_le hk hH.base) (by
    intro hkg;subst hkg;rcases hcase with ⟨h,_⟩|⟨h,_⟩
    ·have:=hB k h;omega
    ·have:=hH.base;omega)
   rcases hcase with ⟨_,h⟩|⟨_,h⟩ <;> exact⟨h.os,h.tape,h.output,h.size,hb⟩
  ·intro b;by_cases hb:b=g
   ·subst hb;simpa using hLg
   ·simp[hb]
  ·intro b off hoff;by_cases hbg:b=g
   ·subst hbg;rcases hcase with ⟨h,_⟩ | ⟨h,_⟩
    ·rcases hown.2 with ⟨rfl,_⟩ | ⟨g0,cap0,cur0,rfl,hB0,hw0,_⟩
     ·simp[Value.ownBlock]at h
     ·simp[Value.ownBlock]at h;subst h;rw[hLown _ rfl]at hoff;obtain⟨hxl,_,_,hc0⟩:=zdw hown;rw[hc0 off hoff,hcell' off (Nat.lt_of_lt_of_le hoff (Nat.mul_le_mul_right _ (by omega))),List.getElem?_append_left (by omega)]
    ·rw[hH.fresh b (by omega)]at hoff;omega
   ·exact zgb (hsame b (zgU hH hoff) hbg)
  ·intro id' gi h1;by_cases hid:id'=id
   ·subst hid;rw[hμ]at h1;cases h1;exact⟨_,List.getElem?_set_self hidlt,rfl,.inr (by omega)⟩
   ·exact⟨gi,by simp only[];rw[List.getElem?_set_ne (λh=>hid h.symm)];exact h1,gi.le_refl⟩
 have hsplit:∀ (id':Nat) gi,(G.μ.set id (.own (.slice (some ⟨g,0,none⟩) (n+m) cap) size (n+m)))[id']?=some gi →
   (id'=id∧gi=.own (.slice (some ⟨g,0,none⟩) (n+m) cap) size (n+m))∨(id'≠id∧G.μ[id']?=some gi):=by
  intro id' gi h;by_cases hid:id'=id
  ·subst hid;rw[List.getElem?_set_self hidlt]at h;cases h;exact .inl ⟨rfl,rfl⟩
  ·rw[List.getElem?_set_ne (λh=>hid h.symm)]at h;exact .inr ⟨hid,h⟩
 refine⟨_,he,⟨by simp[hH.len],?_,?_,?_,?_,Nat.le_trans hH.base hsize⟩,⟨?_,_,size,n+m,List.getElem?_set_self hidlt,by simp;omega,λ_=>⟨rfl,λc hc=>?_⟩⟩⟩
 ·intro id' ab gi h1 h2;rcases hsplit id' gi h2 with ⟨rfl,rfl⟩ | ⟨hid,h2⟩
  ·have hlt:id'<H.length:=by rw[←hH.len];exact hidlt
   rw[List.getElem?_set_self hlt]at h1;cases h1;refine⟨rfl,rfl,⟨_,hown'⟩,λb hb=>?_⟩;simp[Value.ownBlock]at hb;subst hb;simp
  ·rw[List.getElem?_set_ne (λh=>hid h.symm)]at h1;refine(hH.ok id' ab gi h1 h2).keep he (λb hb=>?_);have hne:=hoth id' gi b hid h2 hb;exact⟨hsame b (hH.lt id' gi b h2 hb) hne,by simp[hne]⟩
 ·intro i1 i2 gi1 gi2 b h1 h2 h3 h4;rcases hsplit i1 gi1 h1 with ⟨e1,e2⟩ | ⟨hn1,k1⟩ <;> rcases hsplit i2 gi2 h2 with ⟨e3,e4⟩ | ⟨hn2,k2⟩
  ·rw[e1,e3]
  ·rw[e2]at h3;simp[GI.block,Value.ownBlock]at h3;exact absurd h3.symm (hoth i2 gi2 b hn2 k2 h4)
  ·rw[e4]at h4;simp[GI.block,Value.ownBlock]at h4;exact absurd h4.symm (hoth i1 gi1 b hn1 k1 h3)
  ·exact hH.dist i1 i2 gi1 gi2 b k1 k2 h3 h4
 ·intro b hb;have hne:b≠g:=by intro h;subst h;omega
  simp[hne,hH.fresh b (by omega)]
 ·intro i1 gi b h1 h2;rcases hsplit i1 gi h1 with ⟨rfl,rfl⟩ | ⟨hn1,h1⟩
  ·simp[GI.block,Value.ownBlock]at h2;omega
  ·have:=hH.lt i1 gi b h1 h2;omega
 ·have hne:es++ys≠[]:=by intro h;have:=congrArg List.length h;rw[List.length_append,List.length_nil]at this;omega
  have hall:∀c∈es++ys,c.length=size:=λc hc=>(List.mem_append.1 hc).elim (hse c) (hsy c);have hlen:(es++ys).length=n+m:=by simp;omega
  have hfl:=DRel.of_flat (w:=w') (L:=λb=>if b=g then (n+m)*size else G.L b) (g:=g) (cap:=cap) (zs:=xs++news) hall hne (by omega) (by simp[hes,hm])
   (by rw[List.flatten_append];exact(hx.append hn).mono λ_ _=>he.drel)
   (λj u hj=>by
    have hj':j<(n+m)*size:=by rw[←hl'];exact(List.getElem?_eq_some_iff.1 hj).1
    rw[hcell' j hj'];exact hj)
  rw[hlen]at hfl;exact hfl
 ·rcases List.mem_append.1 hc with h | h
  ·exact hse c h
  ·exact hsy c h

theorem zhY{e:TypeId}{size n m id:Nat}{v v':Value}{w':World}{xs news:List Value}{cs ds:List AV}(hH:HRel B w G H)(hHid:H[id]?=some (.vec e size n cs))(hμ:G.μ[id]?=some (.own v size n))(hown:w.ownsRow B e size v n xs)(hown':w'.ownsRow B e size v' (n+m) (xs++news))(hcase:(∃ g,v.ownBlock=some g∧v'.ownBlock=some g∧GrB w w' (some g))∨(v'.ownBlock=some w.heap.size∧GrB w w' none))(hm0:0<m)(hx:All2 (ARel w G) xs cs)(hn:All2 (ARel w G) news ds):
  ∃G',Ext B w G w' G'∧HRel B w' G' (H.set id (.vec e size (n+m) (cs++ds)))∧TRel w' G' v' (.ov id (n+m)):=by
 obtain⟨_,_,⟨_,_,_⟩,hLown⟩:=hH.ok id _ _ hHid hμ;obtain⟨hl',hrow⟩:=hown';rcases hrow with ⟨hv,hz⟩|⟨g,cap,cur,hv,hBg,hg',hc1,hc2,hc3,hc4⟩
 ·omega
 subst hv;have hown':w'.ownsRow B e size (.slice (some ⟨g,0,none⟩) (n+m) cap) (n+m) (xs++news):=⟨hl',.inr ⟨g,cap,cur,rfl,hBg,hg',hc1,hc2,hc3,hc4⟩⟩;obtain⟨_,_,hglt,hcell'⟩:=zdw hown';have hcase:(v.ownBlock=some g∧GrB w w' (some g))∨(g=w.heap.size∧GrB w w' none):=by
  rcases hcase with ⟨g0,h1,h2,h3⟩|⟨h1,h2⟩
  ·simp[Value.ownBlock]at h2;subst h2;exact .inl ⟨h1,h3⟩
  ·simp[Value.ownBlock]at h1;exact .inr ⟨h1,h2⟩
 have hB:∀b,v.ownBlock=some b→B≤b:=λb hb=>by
  rcases hown.2 with ⟨rfl,_⟩|⟨g0,cap0,cur0,rfl,hB0,_⟩
  ·simp[Value.ownBlock]at hb
  ·simp[Value.ownBlock]at hb;omega
 have hLg:G.L g=0:=by
  rcases hcase with ⟨h,_⟩|⟨h,_⟩
  ·exact hLown g h
  ·exact hH.fresh g (by omega)
 have hsame:∀b,b<w.heap.size→b≠g→w'.heap[b]?=w.heap[b]?:=by
  intro b hb hne;rcases hcase with ⟨_,h⟩|⟨_,h⟩
  ·exact h.block b hb (by simp[hne])
  ·exact h.block b hb (by simp)
 have hsize:w.heap.size≤w'.heap.size:=by rcases hcase with ⟨_,h⟩|⟨_,h⟩ <;> exact h.size
 have hoth:∀(id':Nat) gi b,id'≠id→G.μ[id']?=some gi→gi.block=some b→b≠g:=by
  intro id' gi b hne h1 h2 hbg;subst hbg;rcases hcase with ⟨h,_⟩|⟨h,_⟩
  ·exact hne (hH.dist id' id gi _ b h1 hμ h2 (by simpa[GI.block]using h))
  ·have:=hH.lt id' gi b h1 h2;omega
 have hidlt:id<G.μ.length:=(List.getElem?_eq_some_iff.1 hμ).1;have he:Ext B w G w' ⟨G.L,G.μ.set id (.own (.slice (some ⟨g,0,none⟩) (n+m) cap) size (n+m))⟩:=by
  refine⟨DR.set (by rcases hcase with ⟨_,h⟩|⟨_,h⟩ <;> exact h.dr) rfl (by simp),?_,λ_=>Nat.le_refl _,?_,?_⟩
  ·have hb:∀k,k<B→w'.heap[k]?=w.heap[k]?:=λk hk=>hsame k (Nat.lt_of_lt_of_le hk hH.base) (by
    intro hkg;subst hkg;rcases hcase with ⟨h,_⟩|⟨h,_⟩
    ·have:=hB k h;omega
    ·have:=hH.base;omega)
   rcases hcase with ⟨_,h⟩|⟨_,h⟩ <;> exact⟨h.os,h.tape,h.output,h.size,hb⟩
  ·intro b off hoff;by_cases hbg:b=g
   ·subst hbg;omega
   ·exact zgb (hsame b (zgU hH hoff) hbg)
  ·intro id' gi h1;by_cases hid:id'=id
   ·subst hid;rw[hμ]at h1;cases h1;exact⟨_,List.getElem?_set_self hidlt,rfl,.inr (by omega)⟩
   ·exact⟨gi,by simp only[];rw[List.getElem?_set_ne (λh=>hid h.symm)];exact h1,gi.le_refl⟩
 have hsplit:∀ (id':Nat) gi,(G.μ.set id (.own (.slice (some ⟨g,0,none⟩) (n+m) cap) size (n+m)))[id']?=some gi →
   (id'=id∧gi=.own (.slice (some ⟨g,0,none⟩) (n+m) cap) size (n+m))∨(id'≠id∧G.μ[id']?=some gi):=by
  intro id' gi h;by_cases hid:id'=id
  ·subst hid;rw[List.getElem?_set_self hidlt]at h;cases h;exact .inl ⟨rfl,rfl⟩
  ·rw[List.getElem?_set_ne (λh=>hid h.symm)]at h;exact .inr ⟨hid,h⟩
 refine⟨_,he,⟨by simp[hH.len],?_,?_,?_,?_,Nat.le_trans hH.base hsize⟩,⟨⟨_,_,rfl,λ_=>⟨g,rfl⟩,hc1⟩,_,size,n+m,List.getElem?_set_self hidlt,Nat.le_refl _,λ_=>rfl⟩⟩
 ·intro id' ab gi h1 h2;rcases hsplit id' gi h2 with ⟨rfl,rfl⟩ | ⟨hid,h2⟩
  ·have hlt:id'<H.length:=by rw[←hH.len];exact hidlt
   rw[List.getElem?_set_self hlt]at h1;cases h1;refine⟨rfl,rfl,⟨_,hown',(hx.mono λ_ _=>he.arel).append (hn.mono λ_ _=>he.arel)⟩,λb hb=>?_⟩;simp[Value.ownBlock]at hb;subst hb;exact hLg
  ·rw[List.getElem?_set_ne (λh=>hid h.symm)]at h1;refine(hH.ok id' ab gi h1 h2).keep he (λb hb=>?_);have hne:=hoth id' gi b hid h2 hb;exact⟨hsame b (hH.lt id' gi b h2 hb) hne,rfl⟩
 ·intro i1 i2 gi1 gi2 b h1 h2 h3 h4;rcases hsplit i1 gi1 h1 with ⟨e1,e2⟩ | ⟨hn1,k1⟩ <;> rcases hsplit i2 gi2 h2 with ⟨e3,e4⟩ | ⟨hn2,k2⟩
  ·rw[e1,e3]
  ·rw[e2]at h3;simp[GI.block,Value.ownBlock]at h3;exact absurd h3.symm (hoth i2 gi2 b hn2 k2 h4)
  ·rw[e4]at h4;simp[GI.block,Value.ownBlock]at h4;exact absurd h4.symm (hoth i1 gi1 b hn1 k1 h3)
  ·exact hH.dist i1 i2 gi1 gi2 b k1 k2 h3 h4
 ·intro b hb;exact hH.fresh b (by omega)
 ·intro i1 gi b h1 h2;rcases hsplit i1 gi h1 with ⟨rfl,rfl⟩ | ⟨hn1,h1⟩
  ·simp[GI.block,Value.ownBlock]at h2;omega
  ·have:=hH.lt i1 gi b h1 h2;omega

end Go.Abs
namespace Go.Abs
open Go Go.RowKit

variable {P:Program} {B:Nat} {w:World} {G:Gh} {H:zaa}

theorem zwO{t e:TypeId}(h:zey P t=some e):∃k i,P.underlying t=some (.map k e)∧P.underlying k=some (.array 2 i)∧P.underlying i=some (.int .i64)∧zaK P i=some 1:=by
 unfold zey at h;cases hu:P.underlying t with
 |none=>simp[hu]at h
 |some d=>
  simp only[hu,Option.bind_some]at h;cases d <;> simp only[]at h <;> try (cases h;done)
  rename_i k e';split at h
  ·rename_i i hk;split at h
   ·rename_i hi hs;cases h;exact⟨k,i,rfl,hk,hi,hs⟩
   ·cases h
  ·cases h
section
variable {k i:TypeId} (hk:P.underlying k=some (.array 2 i)) (hi:P.underlying i=some (.int .i64)) (hs:zaK P i=some 1)
include hi in
theorem zgz(w:World)(p:Int×Int)(j:Nat)(hj:j<2):(part i #[.int .i64 p.1,.int .i64 p.2] j).run P w=.ok (.int .i64 (if j=0 then p.1 else p.2)) w:=by
 have hp:P.plainKey i=true:=by unfold Program.plainKey;rw[hi]
 refine run_part_plain w hp ?_
 match j,hj with
 |0,_=>rfl
 |1,_=>rfl
include hk hi hs in
theorem zEf(w:World)(p q:Int×Int):(Op.equal k (zbO p) (zbO q)).run P w=.ok (p == q) w:=by
 obtain⟨ti,hti⟩:∃ti,P.info? i=some ti:=by
  unfold zaK at hs;cases h:P.info? i with
  |none=>simp[h]at hs
  |some ti=>exact⟨ti,rfl⟩
 have hc:P.cellsOf i=1:=by unfold zaK at hs;rw[hti]at hs;simp[Program.cellsOf,hti]at hs ⊢;exact hs
 have hcell:∀(a b:Int) (d:Nat),(Op.equalIn (d+1) i (.int .i64 a) (.int .i64 b)).run P w=.ok (a == b) w:=λa b d=>by simp[Op.equalIn,run_underlying hi]
 unfold Op.equal Op.maxDepth zbO;rw[run_equalIn_array w 9999 _ _ hk hti,hc];have p0:=zgz hi w p 0 (by omega);have q0:=zgz hi w q 0 (by omega);have p1:=zgz hi w p 1 (by omega);have q1:=zgz hi w q 1 (by omega);obtain⟨a,b⟩:=p;obtain⟨c,d⟩:=q;have e:((a,b) == (c,d))=(a == c && b == d):=rfl;rw[e];simp only[if_true,Nat.one_ne_zero,if_false]at p0 q0 p1 q1;simp only[List.range,List.range.loop,Op.eqItems,Sem.run_bind,Nat.mul_one,p0,q0,Result.andThen_ok,hcell];cases h1:a == c
 ·simp
 ·simp[p1,q1,hcell];by_cases hbd:b=d
  ·simp[hbd]
  ·have:(b == d)=false:=by simpa using hbd
   simp[hbd,this]
include hk hi hs in
theorem znt(w:World){s:Int × Int}{x:AV}:∀ {es:List MapEntry} {kvs:List ((Int × Int) × AV)} (j:Nat),All2 (ERelP w G) es kvs →
  (zb1 kvs s=none∧(Instr.findAsking k (zbO s) es j).run P w=.ok none w∧zcx kvs s x=kvs++[(s,x)]) ∨
  (∃n e v,zb1 kvs s=some v∧(Instr.findAsking k (zbO s) es j).run P w=.ok (some (j+n,e.val)) w∧es[n]?=some e∧VRel w G e.val v∧e.key=zbO s∧zcx kvs s x=kvs.set n (s,x))
 |[],[],j,_=>.inl ⟨rfl,by simp[Instr.findAsking],rfl⟩
 |e::es,p::kvs,j,h=>by
  obtain⟨⟨hke,hv⟩,ht⟩:=h;have heq:=zEf hk hi hs w s p.1;have hsym:(p.1 == s)=(s == p.1):=by rw[Bool.eq_iff_iff,beq_iff_eq,beq_iff_eq];exact⟨Eq.symm,Eq.symm⟩
  cases hb:(s == p.1) with
  |true=>
   right;rw[hb]at heq hsym;have hps:s=p.1:=by simpa using hb
   exact⟨0,e,p.2,by simp only[zb1,hsym],by simp[Instr.findAsking,hke,heq],rfl,hv,by rw[hke,hps],by simp only[zcx,hsym,List.set_cons_zero]⟩
  |false=>
   rw[hb]at heq hsym;rcases znt w (s:=s) (x:=x) (j+1) ht with ⟨h1,h2,h3⟩|⟨n,e',v,h1,h2,h3,h4,h5,h6⟩
   ·exact .inl ⟨by simp only[zb1,hsym,h1],by simp[Instr.findAsking,hke,heq,h2],by simp only[zcx,hsym,h3,List.cons_append]⟩
   ·refine .inr ⟨n+1,e',v,by simp only[zb1,hsym,h1],?_,by simpa using h3,h4,h5,by simp only[zcx,hsym,h6,List.set_cons_succ]⟩;simp[Instr.findAsking,hke,heq,h2];omega
 |[],_::_,_,h=>h.elim
 |_::_,[],_,h=>h.elim
theorem zEa(hi:P.underlying i=some (.int .i64))(w:World)(em:Bool)(n:Nat)(a:Int):(Instr.checkKey em (n+1) i (.int .i64 a)).run P w=.ok () w:=by simp[Instr.checkKey,run_underlying hi]
include hk hi hs in
theorem zEb(w:World)(em:Bool)(s:Int×Int)(n:Nat):(Instr.checkKey em (n+2) k (zbO s)).run P w=.ok () w:=by have hsz:(sizeOf i).run P w=.ok 1 w:=zbs hs;have h0:=zgz hi w s 0 (by omega);have h1:=zgz hi w s 1 (by omega);unfold zbO;rw[Instr.checkKey];simp only[Sem.run_bind,run_underlying hk,Result.andThen_ok];simp only[Std.Legacy.Range.forIn_eq_forIn_range',Std.Legacy.Range.size,Nat.sub_zero,Nat.add_one_sub_one,Nat.div_one];simp only[List.range',List.forIn_cons,List.forIn_nil,Sem.run_bind,hsz,Result.andThen_ok,Nat.zero_mul,Nat.zero_add,Nat.one_mul,h0,h1,zEa hi,Sem.run_pure,if_true,Nat.one_ne_zero,if_false]
include hk hi hs in
theorem zvT(w:World)(em:Bool)(s:Int×Int):(Instr.checkKey em 10000 k (zbO s)).run P w=.ok () w:=zEb hk hi hs w em s 9998
end
theorem zE3{t:TypeId}{K:AV→zaa→Prop}(hH:HRel B w G H)(h:zef H K):OpOK P B w G K (((do pure (.value (←Instr.makeMap t none))):Sem Next).run P w):=by
 obtain⟨he,hH'⟩:=hH.newMapP;have hrun:((do pure (.value (←Instr.makeMap t none))):Sem Next).run P w=.ok (.value (.map (some w.heap.size))) (w.alloc (.map #[] 0)):=by simp[Instr.makeMap,newObj,Sem.run,World.alloc_eq]
 rw[hrun];refine⟨.map H.length,_,_,he,hH',⟨w.heap.size,?_,rfl⟩,h⟩;rw[←hH.len];simp
theorem zjM{kt i:TypeId}(hk:P.underlying kt=some (.array 2 i))(w:World)(x:Value)(es:List MapEntry):(Instr.findKey kt x es).run P w=(Instr.findAsking kt x es).run P w:=run_findKey_eq w (by rw[hk]) x es
theorem zs7{v:Value}{a b:Int}(h:TRel w G v (.agg [.int .i64 a,.int .i64 b])):v=zbO (a,b):=by
 obtain⟨cs,rfl,hr⟩:=h;obtain⟨l⟩:=cs
 match l,hr with
 |[x,y],hr=>obtain⟨h1,h2,_⟩:=hr;cases h1;cases h2;rfl
theorem zEZ{t e:TypeId}{z vm vk:Value}{m k:AV}{ok:Bool}{K:AV→Prop}(hH:HRel B w G H)(ht:zey P t=some e)(hz:zbi P e=some z)(hm:TRel w G vm m)(hk:TRel w G vk k)(h:zed (zcP z) ok m k H K):∃u,(Instr.lookup t vm vk ok).run P w=.ok u w∧∃av,TRel w G u av∧K av:=by
 obtain⟨kt,it,hu,huk,hui,hus⟩:=zwO ht;unfold zed at h;split at h
 ·rename_i id a b;split at h
  ·rename_i kvs hkvs;obtain⟨bl,hμ,rfl⟩:=hm;have hvk:=zs7 hk;subst hvk;obtain⟨_,_,es,clk,hw,hes⟩:=hH.ok id _ _ hkvs hμ;have hck:=λem=>zvT huk hui hus w em (a,b);rcases znt huk hui hus w (s:=(a,b)) (x:=.unk) 0 hes with ⟨h1,h2,_⟩ | ⟨j,e',v,h1,h2,h3,h4,h5,_⟩
   ·rw[h1]at h;have hzv:VRel w G z (zcP z):=zvI z;rw[←zjM huk]at h2;cases ok with
    |false=>refine⟨z,?_,_,zoX z,h⟩;simp[Instr.lookup,zaO hu,MapKept.run_getObj_map hw,hck,h2,zdX hz]
    |true=>refine⟨.tuple #[z,.bool false],?_,.tup [zcP z,.bool false],⟨_,rfl,hzv,rfl,trivial⟩,h⟩;simp[Instr.lookup,zaO hu,MapKept.run_getObj_map hw,hck,h2,zdX hz]
   ·rw[h1]at h;rw[←zjM huk]at h2;cases ok with
    |false=>refine⟨e'.val,?_,_,TRel.of_v h4,h⟩;simp[Instr.lookup,zaO hu,MapKept.run_getObj_map hw,hck,h2]
    |true=>refine⟨.tuple #[e'.val,.bool true],?_,.tup [v,.bool true],⟨_,rfl,h4,rfl,trivial⟩,h⟩;simp[Instr.lookup,zaO hu,MapKept.run_getObj_map hw,hck,h2]
  ·exact h.elim
 ·exact h.elim
theorem zEg(w:World)(s:Int×Int):(Instr.keyThatStays (zbO s) (zbO s)).run P w=.ok (zbO s) w:=by simp[Instr.keyThatStays,Instr.sameBits,zbO]
theorem zwd{t e:TypeId}{vm vk vx:Value}{m k x:AV}{K:zaa→Prop}(hH:HRel B w G H)(ht:zey P t=some e)(hm:TRel w G vm m)(hk:TRel w G vk k)(hx:TRel w G vx x)(h:zc7 m k x H K):∃w' H',(Instr.mapUpdate t vm vk vx).run P w=.ok () w'∧Ext B w G w' G∧HRel B w' G H'∧K H':=by
 obtain⟨kt,it,hu,huk,hui,hus⟩:=zwO ht;unfold zc7 at h;split at h
 ·rename_i id a b;split at h
  ·rename_i kvs hkvs;obtain⟨bl,hμ,rfl⟩:=hm;have hvk:=zs7 hk;subst hvk;obtain⟨_,_,es,clk,hw,hes⟩:=hH.ok id _ _ hkvs hμ;have hck:=λem=>zvT huk hui hus w em (a,b);split at h
   ·exact h.elim
   ·rename_i hnt;have hv:VRel w G vx x:=by cases x <;> first | exact hx | exact (hnt _ rfl).elim
    rcases znt huk hui hus w (s:=(a,b)) (x:=x) 0 hes with ⟨h1,h2,h6⟩|⟨j,e',v,h1,h2,h3,h4,h5,h6⟩
    ·rw[h6]at h;rw[←zjM huk]at h2;obtain⟨he,hH'⟩:=hH.storeMapP (es':=es.push ⟨zbO (a,b),vx,clk⟩) (clk':=clk+1) hkvs hμ hw (kvs':=kvs++[((a,b),x)]) (by
      rw[Array.toList_push];exact hes.append ⟨⟨rfl,hv⟩,trivial⟩)
     refine⟨_,_,?_,he,hH',h⟩;simp[Instr.mapUpdate,zaO hu,MapKept.run_getObj_map hw,hck,h2,MapKept.run_setObj_map _ hw]
    ·rw[h6]at h;rw[←zjM huk]at h2;have hj:es[j]?=some e':=by simpa using h3
     have hjl:j<es.size:=(Array.getElem?_eq_some_iff.1 hj).1;obtain⟨he,hH'⟩:=hH.storeMapP (es':=es.modify j λe=>{ e with key:=zbO (a,b),val:=vx }) (clk':=clk) hkvs hμ hw (kvs':=kvs.set j ((a,b),x)) (by
      have e1:(es.modify j λe=>{ e with key:=zbO (a,b),val:=vx }).toList=es.toList.set j { e' with key:=zbO (a,b),val:=vx }:=by rw[Array.toList_modify,List.modify_eq_set];simp[hj]
      rw[e1];exact hes.set j ⟨rfl,hv⟩)
     refine⟨_,_,?_,he,hH',h⟩;have hks:(Instr.keyThatStays (((es[j]?).map (·.key)).getD (zbO (a,b))) (zbO (a,b))).run P w=.ok (zbO (a,b)) w:=by rw[hj];simp only[Option.map_some,Option.getD_some,h5];exact zEg w _
     simp only[Nat.zero_add]at h2;simp[Instr.mapUpdate,zaO hu,MapKept.run_getObj_map hw,hck,h2,hks,MapKept.run_setObj_map _ hw]
  ·exact h.elim
 ·exact h.elim
end Go.Abs
namespace Go.Abs
open Go Go.RowKit

variable {P:Program} {B:Nat} {w:World} {G:Gh} {H:zaa}

theorem HRel.newOwn(h:HRel B w G H)(e size:Nat):
  Ext B w G w ⟨G.L,G.μ++[.own (.slice none 0 0) size 0]⟩∧HRel B w ⟨G.L,G.μ++[.own (.slice none 0 0) size 0]⟩ (H++[.perm e size 0]):=by
 have he:Ext B w G w ⟨G.L,G.μ++[.own (.slice none 0 0) size 0]⟩:=⟨DR.app (Nat.le_refl _) rfl (by simp),Below.refl _ _,λ_=>Nat.le_refl _,λ_ _ _=>rfl,λid gi hg=>⟨gi,by
  have:id<G.μ.length:=(List.getElem?_eq_some_iff.1 hg).1;simp only[];rw[List.getElem?_append_left this];exact hg,gi.le_refl⟩⟩
 have split:∀(id:Nat) gi,(G.μ++[.own (.slice none 0 0) size 0])[id]?=some gi→G.μ[id]?=some gi∨(id=G.μ.length∧gi=.own (.slice none 0 0) size 0):=by
  intro id gi hg;by_cases hlt:id<G.μ.length
  ·rw[List.getElem?_append_left hlt]at hg;exact .inl hg
  ·have hlt2:=(List.getElem?_eq_some_iff.1 hg).1;simp at hlt2;have:id=G.μ.length:=by omega
   subst this;simp at hg;exact .inr ⟨rfl,hg.symm⟩
 refine⟨he,by simp[h.len],?_,?_,h.fresh,?_,h.base⟩
 ·intro id ab gi h1 h2;rcases split id gi h2 with h2 | ⟨rfl,rfl⟩
  ·have hlt:id<H.length:=by rw[←h.len];exact (List.getElem?_eq_some_iff.1 h2).1
   rw[List.getElem?_append_left hlt]at h1;exact(h.ok id ab gi h1 h2).keep he (λb hb=>⟨rfl,rfl⟩)
  ·rw[h.len]at h1;simp at h1;subst h1;exact⟨rfl,rfl,⟨[],World.ownsRow_nil w B e size⟩,λb hb=>by simp[Value.ownBlock]at hb⟩
 ·intro id id' gi gi' b h1 h2 h3 h4;rcases split id gi h1 with k1 | ⟨e1,e2⟩ <;> rcases split id' gi' h2 with k2 | ⟨e3,e4⟩
  ·exact h.dist id id' gi gi' b k1 k2 h3 h4
  ·rw[e4]at h4;simp[GI.block,Value.ownBlock]at h4
  ·rw[e2]at h3;simp[GI.block,Value.ownBlock]at h3
  ·rw[e1,e3]
 ·intro id gi b h1 h2;rcases split id gi h1 with k1 | ⟨e1,e2⟩
  ·exact h.lt id gi b k1 h2
  ·rw[e2]at h2;simp[GI.block,Value.ownBlock]at h2

theorem ztN{v:Value}{a:AV}(h:DRel w G.L v a):v.oneCell'=true:=by cases h <;> rfl

theorem zGa{e size n:Nat}{v:Value}{xs:List Value}{es:List (List AV)}(hown:w.ownsRow B e size v n xs)(hd:DRel w G.L v (.sl es .none))(hes:es.length=n)(hsz:∀c∈es,c.length=size):All2 (DRel w G.L) xs es.flatten:=by
 by_cases hne:es=[]
 ·subst hne;simp at hes;subst hes;have:xs=[]:=List.eq_nil_of_length_eq_zero (by simpa using hown.1);rw[this];trivial
 ·obtain⟨b,off,cap,zs,hv,hl,hr,hc,_⟩:=hd.flat hne hsz;have hoff:off=0:=by
   rcases hown.2 with ⟨h1,_⟩|⟨g,cap',cur,h1,_⟩
   ·rw[hv]at h1;simp at h1
   ·rw[hv]at h1;simp at h1;exact h1.1.2
  subst hoff;rw[hv,hes]at hown;obtain⟨hxl,_,_,hcx⟩:=zdw hown;have:xs=zs:=by
   apply List.ext_getElem?;intro j;by_cases hj:j<n*size
   ·have hz:j<zs.length:=by rw[hl,hes];exact hj
    have:=hc j zs[j] (by simp[hz]);rw[Nat.zero_add]at this;rw[←hcx j hj,this];simp[hz]
   ·rw[List.getElem?_eq_none (by omega),List.getElem?_eq_none (by rw[hl,hes];omega)]
  rw[this];exact hr

theorem HRel.newVec0(h:HRel B w G H)(e size:Nat):Ext B w G w ⟨G.L,G.μ++[.own (.slice none 0 0) size 0]⟩∧HRel B w ⟨G.L,G.μ++[.own (.slice none 0 0) size 0]⟩ (H++[.vec e size 0 []]):=by
 obtain⟨hE,hH⟩:=h.newOwn e size;refine⟨hE,by simpa using hH.len,λid ab gi h1 h2=>?_,hH.dist,hH.fresh,hH.lt,hH.base⟩;by_cases hlt:id<H.length
 ·rw[List.getElem?_append_left hlt]at h1;exact hH.ok id ab gi (by rw[List.getElem?_append_left hlt];exact h1) h2
 ·have hlt2:=(List.getElem?_eq_some_iff.1 h2).1;simp[h.len]at hlt2;obtain rfl:id=H.length:=by omega
  simp at h1;have h2:(G.μ++[GI.own (.slice none 0 0) size 0])[H.length]?=some gi:=h2;rw[←h.len]at h2;simp at h2;subst h1 h2;exact⟨rfl,rfl,⟨[],World.ownsRow_nil w B e size,trivial⟩,λb hb=>by simp[Value.ownBlock]at hb⟩
theorem zwa{t e ty:TypeId}{size bytes:Nat}{z:Value}{vx vy:Value}{x:AV}{m:Nat}{ds:List AV}{K:AV→zaa→Prop}(hH:HRel B w G H)(he:za8 P t=some e)(hn:zaK P e=some size)(hby:zcM P e=some bytes)(hz:zbi P e=some z)(hzl:(zbn z).length=size)(hx:TRel w G vx x)(news:List Value)(ay:Option Addr)(capy:Nat)(hvy:vy=.slice ay m capy)(hrn:All2 (ARel w G) news ds)(hcn:0<m→∃ b off,ay=some ⟨b,off,none⟩∧∀ j u,news[j]?=some u→w.cell? ⟨b,off+j,none⟩=some u)(h:zeb e size bytes x m ds H K):
  OpOK P B w G K (((do pure (.value (←Builtin.append_ #[t,t] ty #[vx,vy]))):Sem Next).run P w):=by
 subst hvy;have hzr:=zdz (w:=w) (G:=G) z;have hzs:z.cells.size=size:=by have:=hzr.length;simp at this;omega
 have hone:ds.all AV.known=true→∀u∈news,u.oneCell'=true:=λhk=>zjH hrn (λc hc=>λhu=>by
  subst hu;have:=List.all_eq_true.1 hk _ hc;simp[AV.known]at this)
 have hlen:=hrn.length;unfold zeb at h;split at h
 ·rename_i id n;split at h
  ·rename_i e' s' n' cs hid;obtain⟨⟨⟨rfl,rfl,rfl⟩,hkn,hdl,hb1,hb2⟩,hk⟩:=h;obtain⟨hsl,v',s0,n0,hμ,hle,heq⟩:=hx;obtain⟨rfl,rfl,⟨xs,hown,hrx⟩,_⟩:=hH.ok id _ _ hid hμ;obtain rfl:=heq rfl;by_cases hys:m=0
   ·subst hys;obtain⟨ax,capx,rfl,hle⟩:=zjG hown;have hrun:=zhQ (P:=P) (w:=w) (ty:=ty) (a:=ax) (c:=ay) (cap':=capy) he he ⟨_,hn⟩ hle;rw[Sem.run_bind,hrun];refine⟨.ov id n',G,H,Ext.refl _ _ _,hH,⟨hsl,_,_,n',hμ,Nat.le_refl _,λ_=>rfl⟩,?_⟩;have hds:ds=[]:=by cases ds <;> simp_all
    subst hds;have:H.set id (.vec e' s' n' cs)=H:=by
     apply List.ext_getElem?;intro k;by_cases hk:k=id
     ·subst hk;rw[List.getElem?_set_self (List.getElem?_eq_some_iff.1 hid).1];exact hid.symm
     ·rw[List.getElem?_set_ne (λh=>hk h.symm)]
    simp only[Nat.add_zero,List.append_nil,this]at hk;exact hk
   ·have hm0:0<m:=by omega
    obtain⟨b,off,rfl,hcc⟩:=hcn hm0;unfold zaK at hn;unfold zcM at hby;unfold zbi at hz;cases hi:P.info? e' with
    |none=>simp[hi]at hn
    |some i=>simp[hi]at hn hby hz;subst hn;subst hby;obtain⟨v2,w',hrun,hown',hcase⟩:=zoP (P:=P) (ty:=ty) (zbB he) hi hz hzs hown ⟨b,off,none⟩ m capy news (by omega) (λj u hj=>by rw[add_lit];exact hcc j u hj) (hone hkn) hm0 (by simp only[maxLen];omega) hb1 hH.base;obtain⟨G',hE',hH',hT⟩:=zhY hH hid hμ hown hown' hcase hm0 hrx hrn;rw[Sem.run_bind,hrun];exact⟨_,G',_,hE',hH',hT,hk⟩
  ·exact h.elim
 ·split at h
  ·obtain⟨hdx,ax,rfl⟩:=hx;have hrun:=zhQ (P:=P) (w:=w) (ty:=ty) (a:=ax) (c:=ay) (cap':=capy) he he ⟨_,hn⟩ (Nat.le_refl 0);rw[Sem.run_bind];simp only[List.length_nil];rw[hrun];exact⟨.sl [] .none,G,H,Ext.refl _ _ _,hH,.slE _ _,h⟩
  ·rename_i m';obtain⟨⟨hkn,hdl,hb1,hb2⟩,hk⟩:=h;obtain⟨hdx,ax,rfl⟩:=hx;have hm0:0<m'+1:=by omega
   obtain⟨b,off,rfl,hcc⟩:=hcn hm0;unfold zaK at hn;unfold zcM at hby;unfold zbi at hz;cases hi:P.info? e with
   |none=>simp[hi]at hn
   |some i=>
    simp[hi]at hn hby hz;subst hn;subst hby;obtain⟨v',w',hrun,hown',hblk,hgr⟩:=zt6 (P:=P) (ty:=ty) (n:=0) (xs:=[]) (zbB he) hi hz hzs (by simp) (λb hb j u hj=>by simp at hj) (λh=>rfl) ⟨b,off,none⟩ (m'+1) capy news (by omega) (λj u hj=>by rw[add_lit];exact hcc j u hj) hm0 (by simp only[maxLen];omega) (by simpa using hb1) hH.base;obtain⟨hE,hH0⟩:=hH.newVec0 e i.size;have hid:(H++[.vec e i.size 0 []])[H.length]?=some (.vec e i.size 0 []):=by simp
    obtain⟨G',hE',hH',hT⟩:=zhY (n:=0) (cs:=[]) (xs:=[]) hH0 hid (by rw[←hH.len];simp) (World.ownsRow_nil w B e i.size) (by simpa using hown') (.inr ⟨hblk,hgr⟩) hm0 trivial (hrn.mono λ_ _=>hE.arel);rw[Sem.run_bind];simp only[List.length_nil];rw[hrun];refine⟨_,G',_,hE.trans hE',hH',hT,?_⟩;simpa using hk
 ·exact h.elim

theorem zEE{t e ty:TypeId}{size bytes:Nat}{z:Value}{vx vy:Value}{x y:AV}{K:AV→zaa→Prop}(hH:HRel B w G H)(he:za8 P t=some e)(hn:zaK P e=some size)(hby:zcM P e=some bytes)(hz:zbi P e=some z)(hzl:(zbn z).length=size)(hx:TRel w G vx x)(hy:TRel w G vy y)(h:zay e size bytes x y H K):
  OpOK P B w G K (((do pure (.value (←Builtin.append_ #[t,t] ty #[vx,vy]))):Sem Next).run P w):=by
 unfold zay at h;split at h
 ·rename_i id off len cap;split at h
  ·rename_i cs hid;obtain⟨b,hμ,rfl⟩:=hy;obtain⟨_,_,vs,_,hw,hcs⟩:=hH.ok id _ _ hid hμ;have hl:=hcs.length;refine zwa hH he hn hby hz hzl hx ((vs.toList.drop off).take (len*size)) _ _ rfl ((hcs.drop off).take _) (λ_=>⟨b,off,rfl,λj u hj=>?_⟩) h.2;rw[List.getElem?_take]at hj;split at hj
   ·simp only[World.cell?,hw];simpa using hj
   ·cases hj
  ·exact h.elim
 ·rename_i id n;split at h
  ·rename_i e' s' n' cs hid;obtain⟨⟨rfl,rfl⟩,h⟩:=h;obtain⟨⟨a,cap0,rfl,_⟩,v',s0,n0,hμ,_,heq⟩:=hy;obtain⟨rfl,rfl,⟨xs,hown,hcs⟩,_⟩:=hH.ok id _ _ hid hμ;obtain rfl:=heq rfl;refine zwa hH he hn hby hz hzl hx xs _ _ rfl hcs (λhm=>?_) h;obtain⟨hl,hrow⟩:=hown;rcases hrow with ⟨h1,h2⟩ | ⟨g,cap,cur,h1,h2,h3,h4,h5,h6,h7⟩
   ·omega
   ·simp at h1;obtain⟨rfl,rfl⟩:=h1;obtain⟨_,_,_,hcell⟩:=zdw ⟨hl,.inr ⟨g,cap0,cur,rfl,h2,h3,h4,h5,h6,h7⟩⟩;exact⟨g,0,rfl,λj u hj=>by
     rw[Nat.zero_add,hcell j (by rw[←hl];exact(List.getElem?_eq_some_iff.1 hj).1)];exact hj⟩
  ·exact h.elim
 obtain⟨ys,hdy,hsy,h⟩:∃ys,DRel w G.L vy (.sl ys .none)∧(∀c∈ys,c.length=size)∧za2 e size bytes x ys H K:=by
  unfold zbb at h;split at h
  ·rename_i ys tok _ _;exact⟨ys,zhS hy,h.1,h.2⟩
  ·cases hy;exact⟨[],.slE _ _,h.1,h.2⟩
  ·exact h.elim
 have hzr:=zdz (w:=w) (G:=G) z;have hzs:z.cells.size=size:=by have:=hzr.length;simp at this;omega
 -- the general step, for a right that is there already
 have main:∀ (G0:Gh) (H0:zaa) (id:Nat) (es:List (List AV)) (v:Value),Ext B w G w G0→HRel B w G0 H0→H0[id]?=some (.perm e size es.length)→G0.μ[id]?=some (.own v size es.length)→DRel w G.L v (.sl es .none) →
   (∀c∈es,c.length=size)→vx=v→(es.length+ys.length)*bytes≤140737488355328→es.length+ys.length≤9223372036854775807→K (.sl (es++ys) (.own id)) (H0.set id (.perm e size (es.length+ys.length))) →
   OpOK P B w G K (((do pure (.value (←Builtin.append_ #[t,t] ty #[vx,vy]))):Sem Next).run P w):=by
  intro G0 H0 id es v hE hH0 hid hμ hdx hsx hvx hb1 hb2 hk;subst hvx;obtain⟨_,_,⟨xs,hown⟩,_⟩:=hH0.ok id _ _ hid hμ;by_cases hys:ys=[]
  ·subst hys;obtain⟨ay,capy,rfl,_⟩:=hdy.slice_form;obtain⟨ax,capx,rfl,hle⟩:=zjG hown;have hrun:=zhQ (P:=P) (w:=w) (ty:=ty) (a:=ax) (c:=ay) (cap':=capy) he he ⟨size,hn⟩ hle;simp only[List.length_nil];rw[Sem.run_bind,hrun];refine⟨.sl es (.own id),G0,H0,hE,hH0,⟨hE.drel hdx,_,size,es.length,hμ,Nat.le_refl _,λ_=>⟨rfl,hsx⟩⟩,?_⟩;have:H0.set id (.perm e size (es.length+0))=H0:=by
    apply List.ext_getElem?;intro k;by_cases hk:k=id
    ·subst hk;rw[List.getElem?_set_self (List.getElem?_eq_some_iff.1 hid).1];exact hid.symm
    ·rw[List.getElem?_set_ne (λh=>hk h.symm)]
   rw[List.length_nil,this]at hk;simpa using hk
  ·obtain⟨b,off,capy,news,hvy,hln,hrn,hcn,_⟩:=hdy.flat hys hsy;subst hvy;have hm0:0<ys.length:=by cases ys <;> simp_all
   unfold zaK at hn;unfold zcM at hby;unfold zbi at hz;cases hi:P.info? e with
   |none=>simp[hi]at hn
   |some i=>
    simp[hi]at hn hby hz;subst hn;subst hby;have hone:∀u∈news,u.oneCell'=true:=λu hu=>by obtain⟨j,hj⟩:=List.mem_iff_getElem?.1 hu;obtain⟨c,_,h2⟩:=hrn.get' hj;exact ztN h2
    obtain⟨v',w',hrun,hown',hcase⟩:=zoP (P:=P) (ty:=ty) (zbB he) hi hz hzs hown ⟨b,off,none⟩ ys.length capy news hln (λj u hj=>by rw[add_lit];exact hcn j u hj) hone hm0 (by simp only[maxLen];omega) hb1 hH0.base;obtain⟨G',hE',hH',hT⟩:=zvt hH0 hid hμ hown hown' hcase rfl hm0 rfl hsx hsy (zGa hown (hE.drel hdx) rfl hsx) (hrn.mono λ_ _=>hE.drel);rw[Sem.run_bind,hrun];exact⟨_,G',_,hE.trans hE',hH',hT,hk⟩
 unfold za2 at h;split at h
 ·cases hx;obtain⟨hE,hH0⟩:=hH.newOwn e size;have hid:(H++[.perm e size 0])[H.length]?=some (.perm e size ([]:List (List AV)).length):=by simp
  refine main _ _ H.length [] _ hE hH0 hid (by rw[←hH.len];simp) (.slE _ _) (by simp) rfl (by simpa using h.1.1) (by simpa using h.1.2) ?_;simpa using h.2
 ·rename_i es id _;obtain⟨h1,⟨h2,h3⟩,hk⟩:=h;obtain⟨hd,v',s',n',hμ,hle,heq⟩:=hx;have hok:=hH.ok id _ _ h1 hμ;obtain⟨hss,hnn,_⟩:=hok;subst hnn;subst hss;obtain⟨hvv,hsx⟩:=heq rfl;subst hvv;exact main G H id es _ (Ext.refl _ _ _) hH h1 hμ hd hsx rfl h2 h3 hk
 ·rename_i id n _;split at h
  ·rename_i e' s' n' cs hid;obtain⟨⟨⟨rfl,rfl,rfl⟩,hb1,hb2⟩,hk⟩:=h;obtain⟨hsl,v',s0,n0,hμ,hle,heq⟩:=hx;obtain⟨rfl,rfl,⟨xs,hown,hrx⟩,_⟩:=hH.ok id _ _ hid hμ;obtain rfl:=heq rfl;by_cases hys:ys=[]
   ·subst hys;obtain⟨ay,capy,rfl,_⟩:=hdy.slice_form;obtain⟨ax,capx,rfl,hle⟩:=zjG hown;have hrun:=zhQ (P:=P) (w:=w) (ty:=ty) (a:=ax) (c:=ay) (cap':=capy) he he ⟨_,hn⟩ hle;simp only[List.length_nil];rw[Sem.run_bind,hrun];refine⟨.ov id n',G,H,Ext.refl _ _ _,hH,⟨hsl,_,_,n',hμ,Nat.le_refl _,λ_=>rfl⟩,?_⟩;have:H.set id (.vec e' s' n' cs)=H:=by
     apply List.ext_getElem?;intro k;by_cases hk:k=id
     ·subst hk;rw[List.getElem?_set_self (List.getElem?_eq_some_iff.1 hid).1];exact hid.symm
     ·rw[List.getElem?_set_ne (λh=>hk h.symm)]
    simp only[List.length_nil,Nat.add_zero,List.flatten_nil,List.append_nil,this]at hk;exact hk
   ·obtain⟨b,off,capy,news,hvy,hln,hrn,hcn,_⟩:=hdy.flat hys hsy;subst hvy;have hm0:0<ys.length:=by cases ys <;> simp_all
    unfold zaK at hn;unfold zcM at hby;unfold zbi at hz;cases hi:P.info? e' with
    |none=>simp[hi]at hn
    |some i=>
     simp[hi]at hn hby hz;subst hn;subst hby;have hone:∀u∈news,u.oneCell'=true:=λu hu=>by obtain⟨j,hj⟩:=List.mem_iff_getElem?.1 hu;obtain⟨c,_,h2⟩:=hrn.get' hj;exact ztN h2
     obtain⟨v2,w',hrun,hown',hcase⟩:=zoP (P:=P) (ty:=ty) (zbB he) hi hz hzs hown ⟨b,off,none⟩ ys.length capy news hln (λj u hj=>by rw[add_lit];exact hcn j u hj) hone hm0 (by simp only[maxLen];omega) hb1 hH.base;obtain⟨G',hE',hH',hT⟩:=zhY hH hid hμ hown hown' hcase hm0 hrx (hrn.mono λ_ _ h=>ARel.of_b h.toB);rw[Sem.run_bind,hrun];exact⟨_,G',_,hE',hH',hT,hk⟩
  ·exact h.elim
 ·rename_i es _;obtain⟨hdx,ax,rfl⟩:=hx;by_cases hys0:ys=[]
  ·subst hys0;have hk:K (.sl es .full) H:=h;obtain⟨ay,capy,rfl,_⟩:=hdy.slice_form;have hrun:=zhQ (P:=P) (w:=w) (ty:=ty) (a:=ax) (c:=ay) (n:=es.length) (cap:=es.length) (cap':=capy) he he ⟨size,hn⟩ (Nat.le_refl _);simp only[List.length_nil];rw[Sem.run_bind,hrun];exact⟨.sl es .full,G,H,Ext.refl _ _ _,hH,⟨hdx,ax,rfl⟩,hk⟩
  have h:(0<ys.length∧(∀c∈es,c.length=size)∧(es.length+ys.length)*bytes≤140737488355328∧es.length+ys.length≤9223372036854775807)∧K (.sl (es++ys) (.own H.length)) (H++[.perm e size (es.length+ys.length)]):=by
   cases ys with
   |nil=>exact absurd rfl hys0
   |cons y ys=>exact h
  obtain⟨⟨hm0,hsx,hb1,hb2⟩,hk⟩:=h;have hys:ys≠[]:=λh=>by rw[h]at hm0;simp at hm0
  obtain⟨b,off,capy,news,hvy,hln,hrn,hcn,_⟩:=hdy.flat hys hsy;subst hvy;unfold zaK at hn;unfold zcM at hby;unfold zbi at hz;cases hi:P.info? e with
  |none=>simp[hi]at hn
  |some i=>
   simp[hi]at hn hby hz;subst hn;subst hby;obtain⟨xs,hxl,hrx,hxc,hx0⟩:∃xs:List Value,xs.length=es.length*i.size∧All2 (DRel w G.L) xs es.flatten∧(∀b,ax=some b→∀j u,xs[j]?=some u→w.cell? (b.add j)=some u)∧(ax=none→es.length=0):=by
    by_cases hne:es=[]
    ·subst hne;exact⟨[],by simp,trivial,λb hb j u hj=>by simp at hj,λ_=>rfl⟩
    ·obtain⟨b2,off2,cap2,xs,hv2,hxl,hrx,hxc,_⟩:=hdx.flat hne hsx;injection hv2 with e1 e2 e3
     subst e1;refine⟨xs,hxl,hrx,λb hb j u hj=>?_,λh=>by cases h⟩;injection hb with hb
     subst hb;rw[add_lit];exact hxc j u hj
   obtain⟨v',w',hrun,hown',hblk,hgr⟩:=zt6 (P:=P) (ty:=ty) (zbB he) hi hz hzs hxl hxc hx0 ⟨b,off,none⟩ ys.length capy news hln (λj u hj=>by rw[add_lit];exact hcn j u hj) hm0 (by simp only[maxLen];omega) hb1 hH.base;obtain⟨hE,hH0⟩:=hH.newOwn e i.size;have hid:(H++[.perm e i.size 0])[H.length]?=some (.perm e i.size 0):=by simp
   obtain⟨G',hE',hH',hT⟩:=zvt (es:=[]) (ys:=es++ys) (xs:=[]) (news:=xs++news) (m:=es.length+ys.length) (v':=v') (w':=w') hH0 hid (by rw[←hH.len];simp) (World.ownsRow_nil w B e i.size)
    (by simpa using hown') (.inr ⟨hblk,hgr⟩) (by simp) (by omega) rfl (by simp) (λc hc=>by
     rcases List.mem_append.1 hc with hc|hc
     ·exact hsx c hc
     ·exact hsy c hc) trivial (by rw[List.flatten_append];exact(hrx.append hrn).mono λ_ _=>hE.drel)
   rw[Sem.run_bind,hrun];refine⟨_,G',_,hE.trans hE',hH',hT,?_⟩;simpa using hk
 ·exact h.elim

theorem zCI{v:Value}{a:AV}(h:TRel w G v a)(hb:a.isB=true):BRel w G v a:=by cases a <;> first|exact h|(simp[AV.isB]at hb;done)
theorem zuw:∀ {vs:List Value} {asx:List AV},All2 (TRel w G) vs asx→asx.all AV.isB=true→All2 (BRel w G) vs asx
 |[],[],_,_=>trivial
 |v::vs,a::asx,h,hb=>by simp only[List.all_cons,Bool.and_eq_true]at hb;exact⟨zCI h.1 hb.1,zuw h.2 hb.2⟩


theorem zbU{s:Sem Value}{K:AV→zaa→Prop}(hH:HRel B w G H)(h:∃r,s.run P w=.ok r w∧∃av,TRel w G r av∧K av H):OpOK P B w G K (((do pure (.value (←s))):Sem Next).run P w):=by obtain⟨r,h1,av,h2,h3⟩:=h;rw[Sem.run_bind,h1];exact⟨av,G,H,Ext.refl _ _ _,hH,h2,h3⟩

theorem zjE{a:Act}{F:List AV}(hF:FRel w G a.tmps F)(x:Option Operand):All2 (TRel w G) (x.map a.eval).toList (x.map (ev F)).toList:=by
 cases x with
 |none=>trivial
 |some x=>exact⟨zaD hF x,trivial⟩

theorem zoS{a:Act}{F:List AV}(hF:FRel w G a.tmps F)(ps:List (Nat × Operand)):
  All2 (λ(p:Nat×Value) (q:Nat×AV)=>p.1=q.1∧TRel w G p.2 q.2) (ps.map λ(i,x)=>(i,a.eval x)) (ps.map λp=>(p.1,ev F p.2)):=by
 induction ps with
 |nil=>trivial
 |cons p ps ih=>exact⟨⟨rfl,zaD hF p.2⟩,ih⟩

theorem zD9{f:FuncId}{vs:Array Value}(h:zdr P f=true):(callFunc f vs).run P w=.ok (.enter f vs) w:=by
 unfold zdr at h;cases hf:P.funcs[f]? with
 |none=>simp[hf]at h
 |some fn=>
  simp only[hf,Bool.and_eq_true,Bool.not_eq_true']at h;obtain⟨h1,h2⟩:=h;have h3:fn.body.isNone=false:=by cases hb:fn.body <;> simp_all
  simp only[callFunc,Sem.run_bind,run_program,Result.andThen_ok,hf,h1,h3,Bool.false_eq_true,if_false,Sem.run_pure]

theorem zEL{c:Call}{ty:TypeId}{a:Act}{F:List AV}{fo:Operand}{K:AV→zaa→Prop}(hH:HRel B w G H)(hF:FRel w G a.tmps F)(hc:c.callee=.value fo)(h:aCallV P (ev F fo) (c.args.toList.map (ev F)) H K):OpOK P B w G K (((do let d ←resolve a.eval c ty;invoke d.target d.args):Sem Next).run P w):=by
 have hf:=zaD hF fo;unfold aCallV at h;split at h
 ·rename_i f caps hfe;rw[hfe]at hf;obtain⟨cs,hfv,hcaps⟩:=hf;split at h
  ·rename_i hcall;have hrun:((do let d ←resolve a.eval c ty;invoke d.target d.args):Sem Next).run P w=.ok (.enter f (c.args.map a.eval++cs)) w:=by simp only[resolve,hc,hfv,Deferred.ofValue,Sem.run_bind,Sem.run_pure,Result.andThen_ok,invoke,Array.empty_append];exact zD9 hcall
   rw[hrun];refine⟨rfl,h B w G _ hH ?_⟩;have h1:=ztP hF c.args.toList;have h2:All2 (TRel w G) cs.toList caps:=hcaps.mono λ_ _ hb=>TRel.of_v (VRel.of_a (ARel.of_b hb));simpa using h1.append h2
  ·exact h.elim
 ·exact h.elim

theorem zti{α:Type}{xs:Array α}{x:α}(h:xs.toList=[x]):xs=#[x]:=by cases xs;simp_all
theorem zg1{α:Type}{xs:Array α}{x y:α}(h:xs.toList=[x,y]):xs=#[x,y]:=by cases xs;simp_all

theorem zEP{t t' ty e:TypeId}{size:Nat}{x y:AV}{u v:Value}{K:AV→zaa→Prop}(hH:HRel B w G H)(he:za8 P t=some e)(hs:zaK P e=some size)(hx:TRel w G u x)(hy:TRel w G v y)(h:zf1 size x y H K):OpOK P B w G K (((do pure (.value (←Builtin.copy_ #[t,t'] ty #[u,v]))):Sem Next).run P w):=by
 unfold zf1 at h;split at h
 ·rename_i id n lo z id' n' lo' z';split at h
  ·rename_i e0 s m cs hcs;obtain⟨⟨⟨⟨rfl,rfl,rfl⟩,rfl,rfl,rfl⟩,hkn⟩,hk⟩:=h;obtain⟨⟨hlo,a,c,rfl,hc⟩,v1,s1,n1,hμ,_,heq⟩:=hx;obtain⟨⟨hlo',a',c',rfl,hc'⟩,v2,s2,n2,hμ2,_,heq2⟩:=hy;rw[hμ]at hμ2;cases hμ2;obtain⟨rfl,rfl,⟨xs,hown,hr⟩,_⟩:=hH.ok _ _ _ hcs hμ
   replace heq:=heq rfl
   replace heq2:=heq2 rfl
   have hrl:=hr.length;obtain⟨hyl,hrow⟩:=hown;obtain⟨k,hkd⟩:∃k,k=min (m-lo') (m-lo):=⟨_,rfl⟩;have hkd2:Nat.min (m-lo') (m-lo)=k:=hkd.symm;rw[←hkd]at hk;by_cases hk0:k=0
   ·have hsame:H.set id' (.vec e0 s m (zcF cs (lo*s) ((cs.drop (lo'*s)).take (k*s))))=H:=by
     rw[hk0];simp only[zcF,Nat.zero_mul,List.take_zero,List.append_nil,List.length_nil,Nat.add_zero,List.take_append_drop];apply List.ext_getElem?;intro j;by_cases hj:id'=j
     ·subst hj;rw[List.getElem?_set_self (List.getElem?_eq_some_iff.1 hcs).1,hcs]
     ·rw[List.getElem?_set_ne hj]
    rw[hsame]at hk;have hrun:((do pure (.value (←Builtin.copy_ #[t,t'] ty #[.slice a (m-lo) c,.slice a' (m-lo') c']))):Sem Next).run P w=.ok (.value (.int .i64 ((k:Nat):Int))) w:=by
     have hl:∀(x:Addr),(loadCells x 0).run P w=.ok #[] w:=λx=>by simpa using run_loadCells_list (P:=P) w x [] (by simp)
     cases a <;> cases a' <;> simp[Builtin.copy_,zaO (zbB he),Builtin.lenOf,Builtin.firstCells,zbs hs,hkd2,hk0,storeCells,hl,goInt]
    rw[hrun];exact OpOK.same (av:=.int .i64 ((k:Nat):Int)) hH rfl hk
   ·rcases hrow with ⟨rfl,hn0⟩ | ⟨g,cap,cur,rfl,hBg,hw,hc1,hc2,hc3,hc4⟩
    ·omega
    ·simp only[zhR,if_neg (show ¬ cap=lo by omega),if_neg (show ¬ cap=lo' by omega),add_lit,Nat.zero_add,Value.slice.injEq]at heq heq2;obtain⟨rfl,_,rfl⟩:=heq;obtain⟨rfl,_,rfl⟩:=heq2;obtain⟨vals,hvals⟩:∃ vals,vals=(xs.drop (lo'*s)).take (k*s):=⟨_,rfl⟩;have hks:lo'*s+k*s≤m*s:=by rw[←Nat.add_mul];exact Nat.mul_le_mul_right _ (by omega)
     have hks2:lo*s+k*s≤m*s:=by rw[←Nat.add_mul];exact Nat.mul_le_mul_right _ (by omega)
     have hvl:vals.length=k*s:=by rw[hvals];simp;omega
     have hvr:All2 (ARel w G) vals ((cs.drop (lo'*s)).take (k*s)):=by rw[hvals];exact(hr.drop _).take _
     have hone:∀v∈vals,v.oneCell'=true:=zjH hvr (λc hc=>by
      have:=List.all_eq_true.1 hkn c (List.mem_of_mem_drop (List.mem_of_mem_take hc));intro hcu;subst hcu;simp[AV.known]at this)
     obtain⟨_,_,_,hcell⟩:=zdw (w:=w) (B:=B) (e:=e0) (size:=s) (n:=m) (cap:=cap) (g:=g) (xs:=xs) ⟨hyl,.inr ⟨g,cap,cur,rfl,hBg,hw,hc1,hc2,hc3,hc4⟩⟩;have hload:(loadCells ⟨g,lo'*s,none⟩ (k*s)).run P w=.ok vals.toArray w:=by rw[←hvl];refine run_loadCells_list (P:=P) w ⟨g,lo'*s,none⟩ vals λj v hj=>?_;have hjl:j<vals.length:=(List.getElem?_eq_some_iff.1 hj).1;rw[add_lit,hcell _ (by omega)];rw[hvals,List.getElem?_take_of_lt (by omega),List.getElem?_drop]at hj;exact hj
     have hms:m*s≤cur.size:=by rw[hc3];exact Nat.mul_le_mul_right _ hc1
     have hst:=run_storeCells_at P g (lo*s) e0 vals 0 cur w hw (by omega) hone;simp only[Nat.add_zero]at hst;have htk:(cur.toList.take (lo*s)++vals++cur.toList.drop (lo*s+vals.length)).toArray.toList.take (m*s)=xs.take (lo*s)++vals++xs.drop (lo*s+vals.length):=by
      rw[←hc4];simp only[List.take_append,List.length_take,Array.length_toList,List.length_append,hvl];rw[List.take_take,List.take_take,List.drop_take,List.take_of_length_le (l:=vals) (by omega)];congr 2
      ·congr 1;omega
      ·congr 1;omega
     have hvl2:((cs.drop (lo'*s)).take (k*s)).length=vals.length:=hvr.length.symm;obtain⟨hE,hH'⟩:=hH.storeV (cs':=zcF cs (lo*s) ((cs.drop (lo'*s)).take (k*s))) hcs hμ hw hBg hc1 hc2 (by simp[List.length_append,hvl];omega) htk (by simp[hvl];omega) (by
      have:=((hr.take (lo*s)).append hvr).append (hr.drop (lo*s+vals.length));unfold zcF;rw[hvl2];simpa using this)
     have hrun:((do pure (.value (←Builtin.copy_ #[t,t'] ty #[.slice (some ⟨g,lo*s,none⟩) (m-lo) (cap-lo),.slice (some ⟨g,lo'*s,none⟩) (m-lo') (cap-lo')]))):Sem Next).run P w=.ok (.value (.int .i64 ((k:Nat):Int))) (w.setRow g (cur.toList.take (lo*s)++vals++cur.toList.drop (lo*s+vals.length)).toArray):=by simp[Builtin.copy_,zaO (zbB he),Builtin.lenOf,Builtin.firstCells,zbs hs,hkd2,hload,hst,goInt]
     rw[hrun];exact⟨.int .i64 ((k:Nat):Int),G,_,hE,hH',rfl,hk⟩
  ·exact h.elim
 ·rename_i id off len cap es tk;split at h
  ·rename_i cs hcs;obtain⟨⟨⟨hfit,hsz⟩,hkn⟩,hk⟩:=h;obtain⟨b,hμ,rfl⟩:=hx;obtain⟨hB,_,vs,e0,hw,hr⟩:=hH.ok id _ _ hcs hμ;have hd:DRel w G.L v (.sl es .none):=by
    cases tk with
    |none=>exact hy
    |full=>exact hy.1
    |own id=>exact hy.1
   have hrl:=hr.length;obtain⟨k,hkd⟩:∃k,k=min es.length len:=⟨_,rfl⟩;have hkd2:Nat.min es.length len=k:=hkd.symm;rw[←hkd]at hk hfit;have hl:∀(x:Addr),(loadCells x 0).run P w=.ok #[] w:=λx=>by simpa using run_loadCells_list (P:=P) w x [] (by simp)
   by_cases hk0:k=0
   ·have hsame:H.set id (.cells (zcF cs off (es.flatten.take (k*size))))=H:=by
     rw[hk0];simp only[zcF,Nat.zero_mul,List.take_zero,List.append_nil,List.length_nil,Nat.add_zero,List.take_append_drop];apply List.ext_getElem?;intro j;by_cases hj:id=j
     ·subst hj;rw[List.getElem?_set_self (List.getElem?_eq_some_iff.1 hcs).1,hcs]
     ·rw[List.getElem?_set_ne hj]
    rw[hsame]at hk;have hlv:∃a c,v=.slice a es.length c:=by
     generalize hq:AV.sl es .none=q at hd;cases hd <;> cases hq
     ·exact⟨_,_,rfl⟩
     ·exact⟨_,_,rfl⟩
    obtain⟨a',c',rfl⟩:=hlv;have hrun:((do pure (.value (←Builtin.copy_ #[t,t'] ty #[.slice (some ⟨b,off,none⟩) len cap,.slice a' es.length c']))):Sem Next).run P w=.ok (.value (.int .i64 ((k:Nat):Int))) w:=by cases a' <;> simp[Builtin.copy_,zaO (zbB he),Builtin.lenOf,Builtin.firstCells,zbs hs,hkd2,hk0,storeCells,hl,goInt]
    rw[hrun];exact OpOK.same (av:=.int .i64 ((k:Nat):Int)) hH rfl hk
   ·have hne:es≠[]:=by intro h0;subst h0;simp at hkd;exact hk0 hkd
    obtain⟨b',off',cap',zs,rfl,hzl,hzr,hzc,_⟩:=hd.flat hne hsz;have hkes:k*size≤es.length*size:=Nat.mul_le_mul_right _ (by omega);obtain⟨vals,hvals⟩:∃vals,vals=zs.take (k*size):=⟨_,rfl⟩;have hvl:vals.length=k*size:=by rw[hvals];simp;omega
    have hvr:All2 (ARel w G) vals (es.flatten.take (k*size)):=by rw[hvals];exact(hzr.mono λ_ _ hx=>ARel.of_b (DRel.toB hx)).take _
    have hone:∀v∈vals,v.oneCell'=true:=zjH hvr (λc hc=>by
     have:=List.all_eq_true.1 hkn c (List.mem_of_mem_take hc);intro hcu;subst hcu;simp[AV.known]at this)
    have hload:(loadCells ⟨b',off',none⟩ (k*size)).run P w=.ok vals.toArray w:=by
     rw[←hvl];refine run_loadCells_list (P:=P) w ⟨b',off',none⟩ vals λj v hj=>?_;rw[add_lit];refine hzc j v ?_;rw[hvals]at hj;have hjl:j<k*size:=by rw[←hvl,hvals];exact(List.getElem?_eq_some_iff.1 hj).1
     rwa [List.getElem?_take_of_lt hjl]at hj
    have hst:=run_storeCells_at P b off e0 vals 0 vs w hw (by simp at hrl ⊢;omega) hone;simp only[Nat.add_zero]at hst;have hvl2:(es.flatten.take (k*size)).length=vals.length:=hvr.length.symm;obtain⟨hE,hH'⟩:=hH.store (cs':=zcF cs off (es.flatten.take (k*size))) (vs':=(vs.toList.take off++vals++vs.toList.drop (off+vals.length)).toArray) hcs hμ hw hB (by
     have:=((hr.take off).append hvr).append (hr.drop (off+vals.length));unfold zcF;rw[hvl2];simpa using this)
    have hrun:((do pure (.value (←Builtin.copy_ #[t,t'] ty #[.slice (some ⟨b,off,none⟩) len cap,.slice (some ⟨b',off',none⟩) es.length cap']))):Sem Next).run P w=.ok (.value (.int .i64 ((k:Nat):Int))) (w.setRow b (vs.toList.take off++vals++vs.toList.drop (off+vals.length)).toArray):=by simp[Builtin.copy_,zaO (zbB he),Builtin.lenOf,Builtin.firstCells,zbs hs,hkd2,hload,hst,goInt]
    rw[hrun];exact⟨.int .i64 ((k:Nat):Int),G,_,hE,hH',rfl,hk⟩
  ·exact h.elim
 ·exact h.elim
theorem zEK{c:Call}{ty:TypeId}{a:Act}{F:List AV}{b:Builtin}{K:AV→zaa→Prop}(hH:HRel B w G H)(hF:FRel w G a.tmps F)(hc:c.callee=.builtin b)(h:zeJ P b c F H K):OpOK P B w G K (((do let d ←resolve a.eval c ty;invoke d.target d.args):Sem Next).run P w):=by
 cases b <;> simp only[zeJ]at h <;> (try exact h.elim)
 case append=>
  split at h
  ·rename_i x y t t' hargs htypes;split at h
   ·rename_i e size bytes z he hs hb hz htt;simp only[beq_iff_eq]at htt;subst htt;split at h
    ·rename_i hq;simp only[Bool.and_eq_true,decide_eq_true_eq,beq_iff_eq]at hq;simp only[he,Option.bind_some]at hs hz hb;have h1:=zg1 hargs;have h2:=zg1 htypes;have hrun:((do let d ←resolve a.eval c ty;invoke d.target d.args):Sem Next).run P w=((do pure (.value (←Builtin.append_ #[t,t] ty #[a.eval x,a.eval y]))):Sem Next).run P w:=by simp only[resolve,hc,h1,h2,List.map_toArray,List.map_cons,List.map_nil,Sem.run_bind,Sem.run_pure,Result.andThen_ok,invoke,builtin]
     rw[hrun];exact zEE hH he hs hb hz hq.2 (zaD hF x) (zaD hF y) h
    ·exact h.elim
   ·exact h.elim
  ·exact h.elim
 case copy=>
  split at h
  ·rename_i x y t t' hargs htypes;split at h
   ·rename_i size hs;have h1:=zg1 hargs;have h2:=zg1 htypes;cases he:za8 P t with
    |none=>simp[he]at hs
    |some e=>
     simp only[he,Option.bind_some]at hs;have hrun:((do let d ←resolve a.eval c ty;invoke d.target d.args):Sem Next).run P w=((do pure (.value (←Builtin.copy_ #[t,t'] ty #[a.eval x,a.eval y]))):Sem Next).run P w:=by simp only[resolve,hc,h1,h2,List.map_toArray,List.map_cons,List.map_nil,Sem.run_bind,Sem.run_pure,Result.andThen_ok,invoke,builtin]
     rw[hrun];exact zEP hH he hs (zaD hF x) (zaD hF y) h
   ·exact h.elim
  ·exact h.elim
 case max=>
  split at h
  ·rename_i x y hargs;have h1:=zg1 hargs;have hrun:((do let d ←resolve a.eval c ty;invoke d.target d.args):Sem Next).run P w=((do pure (.value (←Builtin.max_ c.argTypes ty #[a.eval x,a.eval y]))):Sem Next).run P w:=by simp only[resolve,hc,h1,List.map_toArray,List.map_cons,List.map_nil,Sem.run_bind,Sem.run_pure,Result.andThen_ok,invoke,builtin]
   rw[hrun];unfold zgV at h;have hx:=zaD hF x;have hy:=zaD hF y;split at h
   ·rename_i k m k' n e1 e2;rw[e1]at hx;rw[e2]at hy;have hx:a.eval x=.int k m:=hx;have hy:a.eval y=.int k' n:=hy;rw[hx,hy];have hr:((do pure (.value (←Builtin.max_ c.argTypes ty #[.int k m,.int k' n]))):Sem Next).run P w=.ok (.value (.int k (if n>m then n else m))) w:=by
     have h2:(Builtin.max_ c.argTypes ty #[.int k m,.int k' n]).run P w=.ok (.int k (if n>m then n else m)) w:=by simp[Builtin.max_,Builtin.max2]
     rw[Sem.run_bind,h2];rfl
    rw[hr];exact OpOK.same (av:=.int k (if n>m then n else m)) hH rfl h
   ·exact h.elim
  ·exact h.elim
 case len=>
  split at h
  ·rename_i x t hargs htypes;split at h
   ·rename_i u hu;have h1:=zti hargs;have h2:=zti htypes;have hrun:((do let d ←resolve a.eval c ty;invoke d.target d.args):Sem Next).run P w=((do pure (.value (←Builtin.len_ #[t] ty #[a.eval x]))):Sem Next).run P w:=by simp only[resolve,hc,h1,h2,List.map_toArray,List.map_cons,List.map_nil,Sem.run_bind,Sem.run_pure,Result.andThen_ok,invoke,builtin]
    rw[hrun];exact zbU hH (zEX (zaD hF x) hu h)
   ·exact h.elim
  ·exact h.elim

theorem zDE{o:Oper}{a:Act}{F:List AV}{K:AV→zaa→Prop}(hH:HRel B w G H)(hF:FRel w G a.tmps F)(h:zc9 P o F H K):OpOK P B w G K ((execOp a.eval o).run P w):=by
 obtain⟨dst,op,type,pos,after,guard⟩:=o;unfold zc9 at h;simp only[]at h;cases op <;> (try simp only[]at h) <;> (try exact h.elim) <;> simp only[execOp]
 case move x=>exact OpOK.same hH (zaD hF x) h
 case assign x=>exact OpOK.same hH (zaD hF x) h
 case pick c x y=>
  unfold zai at h;split at h
  ·rename_i t ht;have hc:=zaD hF c;rw[ht]at hc;have hc:a.eval c=.bool t:=hc;have hrun:((do pure (.value (if ←asBool (a.eval c) then a.eval x else a.eval y))):Sem Next).run P w=.ok (.value (if t=true then a.eval x else a.eval y)) w:=by rw[hc];cases t <;> rfl
   rw[hrun];refine OpOK.same hH ?_ h;cases t
   ·exact zaD hF y
   ·exact zaD hF x
  ·exact h.elim
 case alloc t=>
  split at h
  ·rename_i z hz;exact zED hH hz h
  ·exact h.elim
 case box t x=>exact zEG hH (zaD hF x) h
 case build t parts=>
  split at h
  ·rename_i z ps hz hp;exact zbU hH (zEH hz hp (by simpa using zoS hF parts.toList) h)
  ·exact h.elim
 case buildSlice t len parts=>
  split at h
  ·rename_i size z hs hz;split at h
   ·rename_i hb;simp only[Bool.and_eq_true,decide_eq_true_eq,beq_iff_eq]at hb;cases he:za8 P t with
    |none=>simp[he]at hs
    |some e=>simp only[he,Option.bind_some]at hs hz;exact zEI hH he hs hz hb.1.1 hb.1.2 hb.2 (by simpa using zoS hF parts.toList) h
   ·exact h.elim
  ·exact h.elim
 case load t x=>
  split at h
  ·rename_i g n hg hn;obtain⟨u,h1,av,h2,h3⟩:=zwb hH (zaD hF x) hg hn h;exact zbU hH ⟨u,h1,av,h2,h3⟩
  ·exact h.elim
 case store t x y=>
  split at h
  ·rename_i n hn;obtain⟨w',H',h1,h2,h3,h4⟩:=zE8 hH (zaD hF x) (zaD hF y) hn h;have hrun:((do Instr.storeAt t (a.eval x) (a.eval y);pure .skip):Sem Next).run P w=.ok .skip w':=by rw[Sem.run_bind,h1];rfl
   rw[hrun];exact⟨G,H',h2,h3,h4⟩
  ·exact h.elim
 case nilCheck x=>
  have hx:=zaD hF x;rw[zAZ]at h;split at h
  ·rename_i id off hid;rw[hid]at hx h;obtain⟨b,hμ,hv⟩:=hx;rw[hv];exact OpOK.same hH (av:=.ptr id off) ⟨b,hμ,rfl⟩ h
  ·rename_i cs hid;rw[hid]at hx h;obtain⟨b,off,hv,hc⟩:=hx;rw[hv];exact OpOK.same hH (av:=.view cs) ⟨b,off,rfl,hc⟩ h
  ·rename_i f cs hid;rw[hid]at hx h;obtain⟨vs,hv,hc⟩:=hx;rw[hv];exact OpOK.same hH (av:=.fn f cs) ⟨vs,rfl,hc⟩ h
  ·rename_i id m off hid;rw[hid]at hx h;obtain⟨⟨b,o,hv⟩,hr⟩:=hx;rw[hv]at hr ⊢;exact OpOK.same hH (av:=.vp id m off) ⟨⟨b,o,rfl⟩,hr⟩ h
  ·exact h.elim
 case binOp op t x y yt=>
  split at h
  ·rename_i hy;exact zbU hH (zE4 (zaD hF x) hy h)
  ·exact zbU hH (zEF (zaD hF x) (zaD hF y) h)
 case unOp op t x=>exact zbU hH (zE9 (zaD hF x) h)
 case convert s t x=>
  have hspec:∀ k,cvK P s t=some k→(match k with
    |.ints k=>(∃j,P.underlying s=some (.int j))∧P.underlying t=some (.int k)
    |.strs=>P.underlying s=some .string∧P.underlying t=some .string
    |.bytes=>∃e,P.underlying s=some (.slice e)∧P.underlying t=some .string∧tU8 P e=true):=by
   intro k hk;unfold cvK at hk;split at hk
   ·rename_i hs;split at hk
    ·rename_i ht;cases hk;exact⟨⟨_,hs⟩,ht⟩
    ·cases hk
   ·rename_i hs;split at hk
    ·rename_i ht;cases hk;exact⟨hs,ht⟩
    ·cases hk
   ·rename_i hs;split at hk
    ·rename_i ht;split at hk
     ·rename_i he;cases hk;exact⟨_,hs,ht,he⟩
     ·cases hk
    ·cases hk
   ·cases hk
  split at h
  ·rename_i k hk;obtain⟨⟨j,hs⟩,ht⟩:=hspec _ hk;exact zbU hH (zEM (zaD hF x) hs ht h)
  ·rename_i hk;obtain⟨hs,ht⟩:=hspec _ hk;exact zbU hH (zEO (zaD hF x) hs ht h)
  ·rename_i hk;obtain⟨e,hs,ht,he⟩:=hspec _ hk;exact zbU hH (zEN (zaD hF x) hs ht he h)
  ·exact h.elim
 case makeFunc fn first caps=>
  cases fn <;> simp only[]at h <;> (try exact h.elim)
  rename_i f;split at h
  ·rename_i hfirst;obtain⟨hb,hk⟩:=h;have hf0:first=#[]:=by cases first;simp_all
   subst hf0;have hrun:((do pure (.value (←Instr.makeFunc (.func f) (Array.map a.eval #[]) (caps.map a.eval)))):Sem Next).run P w=.ok (.value (.func (.func f) #[] (caps.map a.eval))) w:=by simp[Instr.makeFunc]
   rw[hrun];refine OpOK.same hH (av:=.fn f (caps.toList.map (ev F))) ⟨_,rfl,?_⟩ hk;have:=zuw (ztP hF caps.toList) hb;simpa using this
  ·exact h.elim
 case makeSlice t l c=>
  split at h
  ·rename_i size bytes z hs hb hz;split at h
   ·rename_i hq;simp only[Bool.and_eq_true,decide_eq_true_eq,beq_iff_eq]at hq;cases he:za8 P t with
    |none=>simp[he]at hs
    |some e=>simp only[he,Option.bind_some]at hs hz hb;exact zE0 hH he hs hb hz hq.1 hq.2 (zaD hF l) (zaD hF c) h
   ·exact h.elim
  ·exact h.elim
 case slice t x lo hi mx=>
  cases mx <;> simp only[]at h <;> (try exact h.elim)
  split at h
  ·rename_i ht;exact zbU hH (zpd (zaD hF x) (zjE hF lo) (zjE hF hi) ht (by omega) h)
  ·rename_i ht;split at h
   ·rename_i size hs;exact zbU hH (zpd (zaD hF x) (zjE hF lo) (zjE hF hi) ht (λ_=>hs) h)
   ·exact h.elim
  ·exact h.elim
 case fieldAddr s x i=>
  split at h
  ·rename_i f hf;split at h
   ·rename_i n hn;exact zbU hH (zES (zaD hF x) hf hn h)
   ·exact h.elim
  ·exact h.elim
 case field s x i=>
  split at h
  ·rename_i f hf;split at h
   ·rename_i g n hg hn;exact zbU hH (zET (zaD hF x) hf hg hn h)
   ·exact h.elim
  ·exact h.elim
 case indexAddr t x i=>
  split at h
  ·rename_i size hs;cases he:za8 P t with
   |none=>simp[he]at hs
   |some e=>simp only[he,Option.bind_some]at hs;exact zbU hH (zEU (zaD hF x) (zaD hF i) he hs h)
  ·rename_i a size hs ha hz;simp only[ha,Option.bind_some]at hz;exact zbU hH (zEV (zaD hF x) (zaD hF i) ha hz h)
  ·exact h.elim
 case index t x i=>
  split at h
  ·rename_i ht;exact zbU hH (zEW (zaD hF x) (zaD hF i) ht h)
  ·exact h.elim
 case extract x i=>exact zbU hH (zEQ (zaD hF x) h)
 case call c=>
  split at h
  ·rename_i fo hc;exact zEL hH hF hc h
  ·rename_i b hc;exact zEK hH hF hc h
  ·exact h.elim

theorem zDI{o:Oper}{a:Act}{F:List AV}{K:AV→zaa→Prop}(hH:HRel B w G H)(hF:FRel w G a.tmps F)(h:zeM P o.op F H K):OpOK P B w G K ((execOp a.eval o).run P w):=by
 obtain⟨dst,op,type,pos,after,guard⟩:=o;unfold zeM at h;simp only[]at h;cases op <;> (try simp only[]at h) <;> (try exact h.elim) <;> simp only[execOp]
 case makeMap t r=>
  split at h
  ·exact zE2 hH h
  ·exact zE3 hH h
  ·exact h.elim
 case lookup t x i ok=>
  split at h
  ·rename_i z hz;cases he:zez P t with
   |none=>simp[he]at hz
   |some e=>simp only[he,Option.bind_some]at hz;exact zbU hH (zEY hH he hz (zaD hF x) (zaD hF i) h)
  ·rename_i z _ hz;cases he:zey P t with
   |none=>simp[he]at hz
   |some e=>simp only[he,Option.bind_some]at hz;exact zbU hH (zEZ hH he hz (zaD hF x) (zaD hF i) h)
  ·exact h.elim
 case mapUpdate t m k x=>
  split at h
  ·rename_i e he;obtain⟨w',H',h1,h2,h3,h4⟩:=zwc hH he (zaD hF m) (zaD hF k) (zaD hF x) h;have hrun:((do Instr.mapUpdate t (a.eval m) (a.eval k) (a.eval x);pure .skip):Sem Next).run P w=.ok .skip w':=by rw[Sem.run_bind,h1];rfl
   rw[hrun];exact⟨G,H',h2,h3,h4⟩
  ·rename_i e _ he;obtain⟨w',H',h1,h2,h3,h4⟩:=zwd hH he (zaD hF m) (zaD hF k) (zaD hF x) h;have hrun:((do Instr.mapUpdate t (a.eval m) (a.eval k) (a.eval x);pure .skip):Sem Next).run P w=.ok .skip w':=by rw[Sem.run_bind,h1];rfl
   rw[hrun];exact⟨G,H',h2,h3,h4⟩
  ·exact h.elim
 case insert t m k x=>
  split at h
  ·rename_i e he;obtain⟨w',H',h1,h2,h3,h4⟩:=zwc hH he (zaD hF m) (zaD hF k) (zaD hF x) h;have hrun:((do Instr.mapUpdate t (a.eval m) (a.eval k) (a.eval x);pure .skip):Sem Next).run P w=.ok .skip w':=by rw[Sem.run_bind,h1];rfl
   rw[hrun];exact⟨G,H',h2,h3,h4⟩
  ·rename_i e _ he;obtain⟨w',H',h1,h2,h3,h4⟩:=zwd hH he (zaD hF m) (zaD hF k) (zaD hF x) h;have hrun:((do Instr.mapUpdate t (a.eval m) (a.eval k) (a.eval x);pure .skip):Sem Next).run P w=.ok .skip w':=by rw[Sem.run_bind,h1];rfl
   rw[hrun];exact⟨G,H',h2,h3,h4⟩
  ·exact h.elim
theorem zfB{o:Oper}{a:Act}{F:List AV}{K:AV→zaa→Prop}(hH:HRel B w G H)(hF:FRel w G a.tmps F)(h:aop P o F H K):OpOK P B w G K ((execOp a.eval o).run P w):=by
 unfold aop at h;split at h
 ·exact zDI hH hF h
 ·exact zDE hH hF h

end Go.Abs
