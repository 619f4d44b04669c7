/- A shelf and the document's, side by side, and what lies apart of both. No program. -/
import Derived.Maps.RangeRun
import Derived.Test.YtglenbikdahgjaaGreatDoorPs12
set_option maxRecDepth 100000
set_option maxHeartbeats 16000000
open And renaming intro->Dj
open Array renaming getElem?_eq_some_iff->DQ
open Go renaming Calls->CZ,TypeId->Dn,Value->CQ,World->CP,maxLen->Dc,run_underlying->Fa,zeroValue->FT
open Go.Instr renaming lookup->ER
open Go.MapKept renaming run_findKey->FQ,run_getObj_map->Fe
open Go.Result renaming andThen->Ff
open Go.RowKit.Below renaming refl->CT,trans->DC
open Go.Value renaming int->Dx
open Go.World renaming block_lt_of_cell?->CW,cell?_of_block->Dp
open Int renaming eq_ofNat_of_zero_le->DK,toNat_natCast->Dy
open List renaming getD_eq_getElem?_getD->CR,getElem?_eq_getElem->CV,getElem_mem->DW,length_map->CY,length_set->Ea,map_append->D3,map_map->FM,mem_cons->DA,mem_map->DM,mem_map_of_mem->DX,nil_append->Eh,take_of_length_le->CX
open List.Nodup renaming length_le_of_subset->FU
open Nat renaming le_refl->CU,lt_of_le_of_lt->EE,lt_of_lt_of_le->Dd,mul_one->EZ,zero_add->Dq,zero_le->C9
open Option renaming none->DG,some->DJ
open Option.some renaming inj->Ei
namespace Go.Proofs.Bl
open Go Go.RowKit Go.Proofs
open Go.Proofs.Tryz renaming prog->CO,underlying27->Ef,underlying3->DP,underlying5->Ex,underlying84->D7,underlying9->EY
variable {c b B0 m:Nat}
structure kL (B0:Nat) (H N Q F:Nat->Prop) (b d:Nat) (s t:bL) (w:CP):Prop where
 sv:gx N Q w b s
 dv:ek F w d t
 ow:tF B0 w d
 so:cH s
 to:cH t
 qn:∀i,Q i->N i
 nl:∀i,N i->B0<=i/\i < w.heap.size
 fl:∀i,F i->i < w.heap.size
 qf:∀i,Q i->¬F i
 bf:∀i,i < B0->F i
 hn:∀i,H i->N i/\¬Q i/\¬F i/\i≠b/\i≠d
 nd:N d
 qd:¬Q d
 db:d≠b
 bb:b < w.heap.size
 rw:∀v i,w.cell? ⟨d,0,DG⟩=some v->v.ownBlock=some i->N i/\¬Q i/\i≠b/\i≠d/\¬H i
def Pl (B0:Nat) (H:Nat->Prop) (b d:Nat) (s t:bL) (w:CP):Prop:=∃N Q F,kL B0 H N Q F b d s t w
def Kh (B0:Nat) (H:Nat->Prop) (w w':CP):Prop:=Kq (fun i=>B0<=i/\¬H i) w w'
theorem gx.kept {N a Q Q2:Nat->Prop} {w w':CP} {s:bL} (h:gx N Q w b s) (k:Kq Q2 w w') (d:∀i,Q2 i->N i/\¬Q i/\i≠b) (c:∀i,a i->N i\/w.heap.size<=i):gx a Q w' b s:=by
 obtain⟨m,e,mp,h⟩:=h;exact⟨m,e,mp,h.kept k d c⟩
theorem gx.sz {N Q:Nat->Prop} {w:CP} {s:bL} (h:gx N Q w b s):∀i,Q i->i < w.heap.size:=by
 obtain⟨m,a,mp,h⟩:=h;exact h.sz
theorem tF.kept {d:Nat} {Q:Nat->Prop} {w w':CP} (h:tF B0 w d) (k:Kq Q w w') (c:¬Q d) (f:∀v i,w.cell? ⟨d,0,DG⟩=some v->v.ownBlock=some i->¬Q i):tF B0 w' d/\w'.cell? ⟨d,0,DG⟩=w.cell? ⟨d,0,DG⟩:=by
 obtain⟨v,n,xs,h1,h2,b⟩:=h;have e:w'.cell? ⟨d,0,DG⟩=w.cell? ⟨d,0,DG⟩:=Dp (k.block d (CW _ _ h1) c);exact⟨⟨v,n,xs,by rw[e];exact h1,h2.kept (fun i a=>k.block i (h2.block i a).2 (f v i h1 a)) k.size,b⟩,e⟩
section
variable {B0:Nat} {H N Q F:Nat->Prop} {b d:Nat} {s t:bL} {w w':CP}
theorem kL.dl (h:kL B0 H N Q F b d s t w):B0<=d/\d < w.heap.size:=h.nl d h.nd
theorem kL.kh (h:kL B0 H N Q F b d s t w) {H2:Nat->Prop} (k:Kq H2 w w') (a:∀i,H2 i->H i):kL B0 H N Q F b d s t w':=by
 have o:=h.ow.kept k (fun q=>(h.hn d (a d q)).2.2.2.2 rfl) fun v i h1 h2 q=>(h.rw v i h1 h2).2.2.2.2 (a i q)
 have c:=k.size;exact⟨h.sv.kept k (fun i q=>⟨(h.hn i (a i q)).1,(h.hn i (a i q)).2.1,(h.hn i (a i q)).2.2.2.1⟩) fun i q=>.inl q,h.dv.kept k (fun i q=>⟨(h.hn i (a i q)).2.2.1,(h.hn i (a i q)).2.2.2.2⟩) (fun i q _=>q) h.dv.nb,o.1,h.so,h.to,h.qn,fun i q=>⟨(h.nl i q).1,Dd (h.nl i q).2 c⟩,fun i q=>Dd (h.fl i q) c,h.qf,h.bf,h.hn,h.nd,h.qd,h.db,Dd h.bb c,fun v i h1 h2=>h.rw v i (by rw[<-o.2];exact h1) h2⟩
theorem kL.ext (h:kL B0 H N Q F b d s t w) (a:au w w'):kL B0 H N Q F b d s t w':=h.kh (H2:=fun _=>False) (Kq.AI a) fun _ q=>q.elim
theorem kL.wide (h:kL B0 H N Q F b d s t w) (a:au w w'):kL B0 H N Q (fun i=>F i\/(w.heap.size<=i/\i < w'.heap.size)) b d s t w':=by
 have g:=h.ext a
 exact⟨g.sv,g.dv.mono (fun i q _=>.inl q) (fun q=>by
  rcases q with q | q
  ·exact g.dv.nb q
  ·have:=h.dl;omega),g.ow,g.so,g.to,g.qn,g.nl,fun i q=>by
  rcases q with q | q
  ·exact g.fl i q
  ·exact q.2,fun i q r=>by
  rcases r with r | r
  ·exact h.qf i q r
  ·have:=(h.nl i (h.qn i q)).2;omega,fun i q=>.inl (h.bf i q),fun i q=>⟨(h.hn i q).1,(h.hn i q).2.1,fun r=>by
   rcases r with r | r
   ·exact(h.hn i q).2.2.1 r
   ·have:=(h.nl i (h.hn i q).1).2;omega,(h.hn i q).2.2.2⟩,g.nd,g.qd,g.db,g.bb,g.rw⟩
theorem kL.hole (h:kL B0 H N Q F b d s t w) (a:au w w'):kL B0 (fun i=>H i\/(w.heap.size<=i/\i < w'.heap.size)) (fun i=>N i\/(w.heap.size<=i/\i < w'.heap.size)) Q F b d s t w':=by
 have g:=h.ext a;have f:=h.dl;have k:=a.size;have j:=h.bb
 exact⟨h.sv.kept (Q2:=fun _=>False) (Kq.AI a) (fun _ q=>q.elim) fun i q=>q.imp id fun q=>q.1,g.dv,g.ow,g.so,g.to,fun i q=>.inl (h.qn i q),fun i q=>by
  rcases q with q | q
  ·exact g.nl i q
  ·omega,g.fl,g.qf,g.bf,fun i q=>by
  rcases q with q | q
  ·exact⟨.inl (h.hn i q).1,(h.hn i q).2⟩
  ·exact⟨.inr q,fun r=>by have:=(h.nl i (h.qn i r)).2;omega,fun r=>by have:=h.fl i r;omega,by omega,by omega⟩,.inl g.nd,g.qd,g.db,g.bb,fun v i h1 h2=>by
  have:=g.rw v i h1 h2;have c:w'.cell? ⟨d,0,DG⟩=w.cell? ⟨d,0,DG⟩:=Dp (a.block d f.2);have e:=h.rw v i (by rw[<-c];exact h1) h2
  exact⟨.inl this.1,this.2.1,this.2.2.1,this.2.2.2.1,fun q=>by
   rcases q with q | q
   ·exact this.2.2.2.2 q
   ·have:=(h.nl i e.1).2;omega⟩⟩
theorem kL.less (h:kL B0 H N Q F b d s t w) {H2:Nat->Prop} (a:∀i,H2 i->H i):kL B0 H2 N Q F b d s t w:=
 ⟨h.sv,h.dv,h.ow,h.so,h.to,h.qn,h.nl,h.fl,h.qf,h.bf,fun i q=>h.hn i (a i q),h.nd,h.qd,h.db,h.bb,fun v i h1 h2=>by
  have:=h.rw v i h1 h2
  exact⟨this.1,this.2.1,this.2.2.1,this.2.2.2.1,fun q=>this.2.2.2.2 (a i q)⟩⟩
theorem kL.go (h:kL B0 H N Q F b d s t w) {g:bL} (n:iI N Q w w' b g) (p:cH g):Pl B0 H b d g t w'/\Kh B0 H w w':=by
 obtain⟨a,k,Q',l,u,f,z,x,n5,n6⟩:=n;have o:=h.ow.kept a h.qd fun v i h1 h2=>(h.rw v i h1 h2).2.1
 have j:=a.size;have m:=h.dl;have c:∀i,i < w.heap.size->Q' i->Q i:=fun i y q=>by
  rcases n5 i q with q | q
  ·exact q
  ·omega
 refine⟨⟨k,Q',F,l,h.dv.kept a (fun i q=>⟨h.qf i q,fun e=>h.qd (e▸q)⟩) (fun i q _=>q) h.dv.nb,o.1,p,h.to,x,fun i q=>⟨?_,n6 i q⟩,fun i q=>Dd (h.fl i q) j,fun i q r=>h.qf i (c i (h.fl i r) q) r,h.bf,fun i q=>⟨f i (h.hn i q).1,fun r=>(h.hn i q).2.1 (c i (h.nl i (h.hn i q).1).2 r),(h.hn i q).2.2⟩,f d h.nd,fun q=>h.qd (c d m.2 q),h.db,Dd h.bb j,fun v i h1 h2=> ?_⟩,a.mono fun i _ q=>⟨(h.nl i (h.qn i q)).1,fun r=>(h.hn i r).2.1 q⟩⟩
 ·rcases u i q with q | q
  ·exact(h.nl i q).1
  ·omega
 ·have:=h.rw v i (by rw[<-o.2];exact h1) h2;exact⟨f i this.1,fun q=>this.2.1 (c i (h.nl i this.1).2 q),this.2.2⟩
theorem kL.CA (h:kL B0 H N Q F b d s t w) {c:bL} {R:Nat->Prop} (k:Kq R w w') (a:∀i,R i->N i/\¬Q i/\i≠b/\¬H i) (e:ek (fun i=>F i\/w.heap.size<=i) w' d c) (f:tF B0 w' d) (j:cH c) (g:∀v i,w'.cell? ⟨d,0,DG⟩=some v->v.ownBlock=some i->(w.cell? ⟨d,0,DG⟩=some v)\/(w.heap.size<=i/\i < w'.heap.size)):Pl B0 H b d s c w'/\Kh B0 H w w':=by
 have o:=k.size;have n:=h.dl;have m:=h.bb;refine⟨⟨fun i=>N i\/(w.heap.size<=i/\i < w'.heap.size),Q,fun i=>(F i\/w.heap.size<=i)/\i < w'.heap.size,h.sv.kept k (fun i q=>⟨(a i q).1,(a i q).2.1,(a i q).2.2.1⟩) fun i q=>q.imp id fun q=>q.1,e.mono (fun i q l=>⟨q,l⟩) (fun q=>e.nb q.1),f,h.so,j,fun i q=>.inl (h.qn i q),fun i q=> ?_,fun i q=>q.2,fun i q r=> ?_,fun i q=>⟨.inl (h.bf i q),by omega⟩,fun i q=>⟨.inl (h.hn i q).1,(h.hn i q).2.1,fun r=> ?_,(h.hn i q).2.2.2⟩,.inl h.nd,h.qd,h.db,by omega,fun v i h1 h2=> ?_⟩,k.mono fun i _ q=>⟨(h.nl i (a i q).1).1,(a i q).2.2.2⟩⟩
 ·rcases q with q | q
  ·have:=h.nl i q;omega
  ·omega
 ·have:=(h.nl i (h.qn i q)).2;rcases r.1 with r | r
  ·exact h.qf i q r
  ·omega
 ·have:=(h.nl i (h.hn i q).1).2;rcases r.1 with r | r
  ·exact(h.hn i q).2.2.1 r
  ·omega
 ·rcases g v i h1 h2 with q | q
  ·have:=h.rw v i q h2;exact⟨.inl this.1,this.2⟩
  ·exact⟨.inr q,fun r=>by have:=(h.nl i (h.qn i r)).2;omega,by omega,by omega,fun r=>by have:=(h.nl i (h.hn i r).1).2;omega⟩
theorem kL.CC (h:kL B0 H N Q F b d s t w) {n at':Int} {x:List Int} {e:Ending} (hx:bI x) (g:zC B0 F d t n at' x w e w'):e=.returned (.bool (jq t n at' x))/\Pl B0 H b d s (gZ t n at' x) w'/\Kh B0 H w w':=by
 obtain⟨h1,h2,a,c,f⟩:=g;refine⟨h1,h.CA c (fun i q=> ?_) h2 a (h.to.Cs _ _ hx) fun v i q _=>.inl (by rw[<-f];exact q)⟩;obtain⟨_,_,v,j,k⟩:=q;have:=h.rw v i j k;exact⟨this.1,this.2.1,this.2.2.1,this.2.2.2.2⟩
theorem kL.CB (h:kL B0 H N Q F b d s t w) {l:BC} {e:Ending} (C:∀x∈l.blocks,bI x) (B:la F d t l w e w'):(∃vp vs vb L,e=.returned (.tuple #[.agg (cL (bC t l).1 vp vs vb).toArray,.bool (bC t l).2])/\cn (fun k=>¬H k) w' (bC t l).1 vp vs vb L)/\Pl B0 H b d s (cm t l) w'/\Kq (fun i=>i=d) w w':=by
 obtain⟨vp,vs,vb,L,h1,h2,a,c,_,o⟩:=B;have p:=h.dl;refine⟨⟨vp,vs,vb,L,h1,h2.kept fun i q _=>⟨fun r=> ?_,rfl⟩⟩,(h.CA c (fun i q=> ?_) a ?_ (h.to.CE C) fun v i z A=> ?_).1,c⟩
 ·rcases q with q | q
  ·exact(h.hn i r).2.2.1 q
  ·have:=(h.nl i (h.hn i r).1).2;omega
 ·rw[show i=d from q];exact⟨h.nd,h.qd,h.db,fun r=>(h.hn d r).2.2.2.2 rfl⟩
 ·obtain⟨f,E,D,g⟩:=a;have j:=g.bx.cell (i:=0) (v:=f) rfl;rcases o f p.2 j with q | ⟨k,xs,m,y⟩
  ·obtain⟨v,n,xs,h1,h2,a⟩:=h.ow;have e:v=f:=Ei (h1.symm.trans q);subst e;exact⟨v,n,xs,j,h2.kept (fun i u=>c.block i (h2.block i u).2 (h.rw v i h1 u).2.2.2.1) c.size,a⟩
  ·exact⟨f,k,xs,j,m.mono (by omega),y⟩
 ·rcases o v p.2 z with q | ⟨k,xs,m,y⟩
  ·exact .inl q
  ·exact .inr (m.block i A)
end
def qE (H:Nat->Prop) (c:Nat) (s:bL) (w:CP):Prop:=∃Q,gx (fun i=>Q i\/¬H i) Q w c s/\(∀i,Q i->H i)/\H c
theorem qE.kh {H:Nat->Prop} {s:bL} {w w':CP} (h:qE H c s w) (k:Kh B0 H w w'):qE H c s w':=by
 obtain⟨Q,h1,h2,a⟩:=h;exact⟨Q,h1.kept k (fun i q=>⟨.inr q.2,fun r=>q.2 (h2 i r),fun e=>q.2 (e▸a)⟩) fun i q=>.inl q,h2,a⟩
theorem qE.ext {H:Nat->Prop} {s:bL} {w w':CP} (h:qE H c s w) (a:au w w'):qE H c s w':=by
 obtain⟨Q,h1,h2⟩:=h;exact⟨Q,h1.ext a,h2⟩
theorem qE.new {s:bL} {w w':CP} {Q:Nat->Prop} (h1:w.heap.size<=c) (h2:c < w'.heap.size) (a:gx (fun i=>Q i\/i < w.heap.size) Q w' c s) (b:∀i,Q i->w.heap.size<=i/\i < w'.heap.size):qE (fun i=>w.heap.size<=i/\i < w'.heap.size) c s w':=
 ⟨Q,a.kept (Q2:=fun _=>False) (Kq.refl w') (fun _ q=>q.elim) (fun i q=>by
  rcases q with q | q
  ·exact .inl (.inl q)
  ·by_cases d:i < w.heap.size
   ·exact .inl (.inr d)
   ·exact .inr (by omega)),b,h1,h2⟩
theorem qE.at' {H:Nat->Prop} {s:bL} {w:CP} (h:qE H c s w):∃N Q,gx N Q w c s/\(∀i,Q i->N i)/\(∀i,N i->i < w.heap.size)/\∀i,Q i->H i:=by
 obtain⟨Q,h1,h2,a⟩:=h;exact⟨fun i=>(Q i\/¬H i)/\i < w.heap.size,Q,h1.kept (Q2:=fun _=>False) (Kq.refl w) (fun _ q=>q.elim) (fun i q=>.inl q.1),fun i q=>⟨.inl q,h1.sz i q⟩,fun i q=>q.2,h2⟩
theorem Kh.ext {H:Nat->Prop} {a w w':CP} (k:Kh B0 H w w') (h:au a w) (b:a.heap.size<=B0):au a w':=h.trans' (N:=B0) (k.mono fun _ _ q=>q.1) b
def lU (B0:Nat) (H:Nat->Prop) (b e:Nat) (s s':bL) (i1 i2:Nat) (d:Nat->Bool) (_:Nat->CQ) (w:CP):Prop:=Pl B0 H b e (if d i1=true then s' else s) (if d i2=true then s' else s) w
section
variable {B0:Nat} {H:Nat->Prop} {b e:Nat} {s s':bL} {i1 i2 i t:Nat} {d:Nat->Bool} {u:Nat->CQ} {v:CQ} {w w':CP} {o:Option Tmp}
theorem lU.start (h:Pl B0 H b e s s w):lU B0 H b e s s' i1 i2 (fun _=>false) u w:=h
theorem lU.same (h:lU B0 H b e s s' i1 i2 d u w) (a:(decide (i=i1)||decide (i=i2))=false):lU B0 H b e s s' i1 i2 (bW d i) (bH o u v) w:=by
 simp only[Bool.or_eq_false_iff,decide_eq_false_iff_not]at a;have c:bW d i i1=d i1:=if_neg fun e=>a.1 e.symm
 have a2:bW d i i2=d i2:=if_neg fun e=>a.2 e.symm
 unfold lU;rw[c,a2];exact h
theorem lU.CH (h:lU B0 H b e s s' i1 i2 d u w) (h0:d i1=false):Pl B0 H b e s (if d i2=true then s' else s) w:=by
 unfold lU at h;rw[h0]at h;exact h
theorem lU.CI (h:lU B0 H b e s s' i1 i2 d u w) (h0:d i2=false):Pl B0 H b e (if d i1=true then s' else s) s w:=by
 unfold lU at h;rw[h0]at h;exact h
theorem lU.one (c:decide (i1=i2)=false) (h:Pl B0 H b e s' (if d i2=true then s' else s) w):lU B0 H b e s s' i1 i2 (bW d i1) (bH o u v) w:=by
 have a:bW d i1 i1=true:=if_pos rfl;have a2:bW d i1 i2=d i2:=if_neg fun e=>of_decide_eq_false c e.symm
 unfold lU;rw[a,a2];exact h
theorem lU.two (c:decide (i1=i2)=false) (h:Pl B0 H b e (if d i1=true then s' else s) s' w):lU B0 H b e s s' i1 i2 (bW d i2) (bH o u v) w:=by
 have a:bW d i2 i1=d i1:=if_neg fun e=>of_decide_eq_false c e
 have a2:bW d i2 i2=true:=if_pos rfl;unfold lU;rw[a,a2];exact h
end
theorem bJ.Ci {P:Program} {t k e:Dn} {w:CP} {mp:List (Int × CQ)} (f:P.underlying t=some (.map k e)) (a:P.underlying k=some (.int .i64)) {z:CQ} (i:(FT e).run P w=.ok z w) (h:bJ w m mp) (x:Int):
  (ER t (.map (some m)) (.int .i64 x) false).run P w=.ok ((dF mp x).getD z) w:=by
 obtain⟨es,c,h1,h2,_⟩:=h;obtain⟨r,d,g⟩:=fL x es.toList mp 0 h2;have b:(Instr.checkKey es.isEmpty 10000 k (.int .i64 x)).run P w=.ok () w:=MapKept.run_checkKey (k:=.int .i64 x) a (by simp[MapKept.IsKey]) _ 9999;rw[<-g];cases r with
 | none=>simp[ER,Fa f,Fe h1,b,FQ a d,i,Ff]
 | some r=>simp[ER,Fa f,Fe h1,b,FQ a d,Ff]
theorem eR.Cx {N Q:Nat->Prop} {w a:CP} {o g i:Nat} {mp:List (Int × CQ)} {s:bL} {n:Int} {st:List (List Int)} {u:CQ} {x:List Int} (h:eR N Q w b m o mp s) (f:∀i,Q i->N i) (j:∀i,N i->i < w.heap.size) (l:dF mp n=DJ (.slice (DJ ⟨g,0,DG⟩) st.length c)) (v:bn s n=DJ st) (r:i < st.length) (d:au w a) {e:Dn} (hu:a.ownsRow w.heap.size e 1 u x.length (aj .u8 x)) (hx:bI x):
  iI N Q w (a.setCell ⟨g,i,DG⟩ u) b (iT s n i x):=
 ⟨(Kq.AI d).setCell (Q:=Q) ⟨g,i,DG⟩ (h.rw _ (dt l) g rfl).1 u,N,Q,⟨m,o,mp,h.B9 f l v r d ⟨aY.By (aX.AS hu) fun k t _ q=>by
  have h1:=(Pk.AS hu).block k t;have h2:=j k q
  omega,hx⟩⟩,fun _ q=>.inl q,fun _ q=>q,fun _ q=>q,f,fun _ q=>.inl q,fun i q=>Dd (Dd (j i q) d.size) ((CT 0 a).setCell (p:=⟨g,_,DG⟩) (C9 _) u).size⟩
theorem sQ (b:Nat) (N Q:Nat->Prop) (s:bL) (n at':Int) (vb:CQ) (x:List Int) (w:CP) (q:gx N Q w b s) (hx:Bu w .u8 vb x) (d:jq s n at' x=false):
  CZ CO 24 #[.pointer (some ⟨b,0,none⟩),.int .i64 n,.int .i64 at',vb] w fun e w'=>e=.returned (.bool false)/\au w w':=by
 obtain⟨m,C,mp,a⟩:=q;obtain⟨B,u,r,_,_⟩:=aX.form hx;have A:=a.bx.cell (i:=0) (v:=.map (some m)) rfl;have l:(FT 22).run CO w=.ok (.slice none 0 0) w:=by first | rfl | kernel_rfl | (simp[go_sem];done)
 have t:=a.mt.Ci (P:=CO) D7 DP l n;obtain⟨p,k,c,e,h⟩:∃p k c,(dF mp n).getD (.slice none 0 0)=.slice p k c/\((∃st,bn s n=some st/\k=st.length)\/(bn s n=none/\k=0)):=by
  cases hg:bn s n with
  | none=>rw[a.none hg];exact⟨none,0,0,rfl,.inr ⟨rfl,rfl⟩⟩
  | some st=>obtain⟨v0,h1,h2⟩:=a.some hg;rw[h1];obtain⟨p,c,f,_,_⟩:=h2.BF.form;exact⟨p,_,c,f,.inl ⟨st,rfl,rfl⟩⟩
 rw[e]at t;have g:at' < 0\/(k:Int)<=at'\/¬x.length=16:=by
  unfold jq at d;rcases h with ⟨st,h1,rfl⟩ | ⟨h1,rfl⟩
  ·rw[h1]at d;simp only at d;rw[decide_eq_false_iff_not]at d;omega
  ·omega
 subst r;obtain⟨o,j⟩:=exq x.length;rw[<-j]at g⊢;clear a hx d l e h j;by_cases h1:at' < 0
 ·go_enter Tryz.func24,Tryz.ntmps24
  go_wp2_with fail
  go_ret;exact⟨rfl,CT _ _⟩
 have h1':0<=at':=by omega
 by_cases h2:(k:Int)<=at'
 ·go_enter Tryz.func24,Tryz.ntmps24
  go_wp2_with fail
  go_ret;exact⟨rfl,CT _ _⟩
 have y:at' < (k:Int):=by omega
 have f:¬o=16:=by omega
 have z:¬(o:Int)=16:=by omega
 clear g;go_enter Tryz.func24,Tryz.ntmps24
 go_wp2_with fail
 go_ret;exact⟨rfl,CT _ _⟩
theorem qG (b:Nat) (N Q:Nat->Prop) (s:bL) (n:Int) (i:Nat) (vb:CQ) (x:List Int) (st:List (List Int)) (w:CP) (L:gx N Q w b s) (J:∀i,Q i->N i) (K:∀i,N i->i < w.heap.size) (hx:Bu w .u8 vb x) (B:bI x) (y:x.length=16) (r:bn s n=some st) (C:i < st.length):
  CZ CO 24 #[.pointer (some ⟨b,0,none⟩),.int .i64 n,.int .i64 (i:Nat),vb] w fun e w'=>e=.returned (.bool true)/\iI N Q w w' b (iT s n i x):=by
 obtain⟨m,sb,mp,d⟩:=L;obtain⟨v0,p,M,f,V,H⟩:=d.some r;have A:M.length=st.length:=by rw[<-H,CY]
 rw[A]at f;obtain⟨g,cap,S,_,ad,O,ae,R⟩:=f.form (by omega);subst S;have l:=aa (eD vb x w hx (by omega));obtain⟨pb,Z,U,_,_⟩:=aX.form hx;have ac:=d.bx.cell (i:=0) (v:=.map (some m)) rfl;have G:(FT 22).run CO w=.ok (.slice none 0 0) w:=by first | rfl | kernel_rfl | (simp[go_sem];done)
 have h:=d.mt.Ci (P:=CO) D7 DP G n;rw[p]at h;replace h:(ER 84 (.map (some m)) (.int .i64 n) false).run CO w=.ok (.slice (some ⟨g,0,none⟩) st.length cap) w:=h;have o:Hid (∀a u,au w a->a.ownsRow w.heap.size 5 1 u x.length (aj .u8 x)->iI N Q w (a.setCell ⟨g,i,none⟩ u) b (iT s n i x)):=aa fun a u c hu=>d.Cx J K p r C c hu B
 have t:Hid (∀a,au w a->(∃z,a.cell? ⟨g,i,none⟩=some z)/\a.frozen? ⟨g,i,none⟩=false):=aa fun a c=>by
  have h1:=f.ext c;have E:i < (aD cB M).length:=by rw[fy,CY];omega
  exact⟨⟨_,h1.cell (CV E)⟩,h1.fz (j:=i) E⟩
 obtain⟨k,D⟩:=exq st.length;rw[<-D]at h C O;subst U;obtain⟨nb,F⟩:=exq x.length;rw[<-F]at l o y⊢;subst y;have h1:¬(i:Int) < 0:=by omega
 have h2:¬(k:Int)<=(i:Int):=by omega
 have ab:(i:Int) < (k:Int):=by omega
 have h1':(0:Int)<=(i:Int):=by omega
 clear d p f V H A hx B G r R D F;go_enter Tryz.func24,Tryz.ntmps24
 go_wp2_with fail
 refine l.mono ?_;rintro e a ⟨W,rfl,q,c⟩;have I:=aa (o a W c q);obtain⟨⟨z,X⟩,f0⟩:=t a c;obtain⟨p9,Y,T,_,_⟩:=(aX.AS q).form;clear q c o t l;subst T
 go_wp2_with fail
 go_ret;exact⟨rfl,I⟩
theorem qH (b:Nat) (N Q:Nat->Prop) (s:bL) (n at':Int) (vb:CQ) (x:List Int) (w:CP) (a:gx N Q w b s) (c:∀i,Q i->N i) (d:∀i,N i->i < w.heap.size) (hx:Bu w .u8 vb x) (h:bI x):
  CZ CO 24 #[.pointer (some ⟨b,0,none⟩),.int .i64 n,.int .i64 at',vb] w fun e w'=>e=.returned (.bool (jq s n at' x))/\iI N Q w w' b (gZ s n at' x):=by
 unfold gZ;cases hsp:jq s n at' x with
 | false=>refine(sQ b N Q s n at' vb x w a hx hsp).mono ?_;rintro e w' ⟨rfl,g⟩;exact⟨rfl,a.go c d g⟩
 | true=>obtain⟨st,h1,h2,j,f⟩:=kn hsp;obtain⟨i,rfl⟩:=DK h2;rw[Dy];exact qG b N Q s n i vb x st w a c d hx h f h1 (by omega)
theorem sR (_:Nat) (F:Nat->Prop) (b:Nat) (s:bL) (n at':Int) (vb:CQ) (x:List Int) (w:CP) (I:ek F w b s) (hx:Bu w .u8 vb x) (f:jq s n at' x=false):
  CZ CO 25 #[.pointer (some ⟨b,0,none⟩),.int .i64 n,.int .i64 at',vb] w fun e w'=>e=.returned (.bool false)/\au w w':=by
 obtain⟨R,Q,D,h⟩:=I;obtain⟨pb,T,M,_,_⟩:=aX.form hx;have p:=aa (fh F b R Q D s n w h);have H:=aa h;subst M;obtain⟨k,B⟩:=exq x.length;have l:Hid (∀st,bn s n=some st->at' < 0\/(st.length:Int)<=at'\/¬k=16):=aa fun st h1=>by unfold jq at f;rw[h1]at f;simp only at f;rw[decide_eq_false_iff_not]at f;omega
 rw[<-B];clear h f hx B;go_enter Tryz.func25,Tryz.ntmps25
 go_wp2_with fail
 refine p.mono ?_;rintro e S ⟨⟨r,rfl,L⟩,q⟩;have a:=aa q;clear q p;rcases L with ⟨j,d,rfl,h1,h2⟩ | ⟨rfl,h2⟩
 ·have A:=H.some d h1 h2;have u:=l _ A;obtain⟨g,o,c,O,_,_,W,y⟩:=(H.ext a).pos (EE (C9 _) d);subst O;have J:=(H.bx.ext a).cell (i:=0) (v:=.slice (some ⟨g,o,none⟩) D.length c) rfl;have C:=y j d;obtain⟨P,E,z,_,_⟩:=(H.ok _ (aJ o0 d)).BF.form;have K:S.cell? ⟨g,o+j*2+1,none⟩=some (.slice P (D.getD j o0).2.2.length E):=by rw[C 1 _ rfl,z]
  obtain⟨m,hm⟩:=exq ((D.getD j o0).2.2.length);obtain⟨N,t⟩:=exq D.length;rw[<-hm]at K u;rw[<-t]at J d;have X:¬(j:Int) < 0:=by omega
  have Y:(0:Int)<=(j:Int):=by omega
  have Z:(j:Int) < (N:Int):=by omega
  clear A h1 h2 y C z hm t l H;by_cases h1:at' < 0
  ·go_wp2_with fail
   go_ret;exact⟨rfl,a⟩
  by_cases h2:(m:Int)<=at'
  ·go_wp2_with fail
   go_ret;exact⟨rfl,a⟩
  have U:¬k=16:=by omega
  have G:¬(k:Int)=16:=by omega
  have V:((k:Int) != 16)=true:=bne_iff_ne.2 G;clear u
  go_wp2_with fail
  go_ret;exact⟨rfl,a⟩
 ·clear h2 l H
  go_wp2_with fail
  go_ret;exact⟨rfl,a⟩
theorem qJ (B0:Nat) (F:Nat->Prop) (b:Nat) (s:bL) (n:Int) (i:Nat) (vb:CQ) (x:List Int) (st:List (List Int)) (w:CP) (hD:ek F w b s) (hO:tF B0 w b) (bp:cH s) (hx:Bu w .u8 vb x) (ba:bI x) (aZ:x.length=16) (ah:bn s n=some st) (hi:i < st.length):
  CZ CO 25 #[.pointer (some ⟨b,0,none⟩),.int .i64 n,.int .i64 (i:Nat),vb] w fun e w'=>e=.returned (.bool true)/\ek (fun i=>F i\/w.heap.size<=i) w' b (iT s n i x)/\tF B0 w' b/\Kq (fun i=>B0<=i/\i≠b/\∃v,w.cell? ⟨b,0,none⟩=some v/\v.ownBlock=some i) w w'/\w'.cell? ⟨b,0,none⟩=w.cell? ⟨b,0,none⟩:=by
 obtain⟨vo,va,D,h⟩:=hD;obtain⟨v2,V,xs,e1,e2,e3⟩:=hO;have e0:=h.bx.cell (i:=0) (v:=vo) rfl;rw[e0]at e1;injection e1 with e1;subst e1;obtain⟨pb,cb,b4,_,_⟩:=aX.form hx;have HF:=aa (fh F b vo va D s n w h);have H:=aa h;have L:=aa (Dj e2 e3);have X:=aa e0;have Hx:=aa (Dj hx ba);have Z:=aa (Dj bp (Dj ah aZ));subst b4;obtain⟨nb,T⟩:=exq x.length;have ak:=aa T;have bX:nb=16:=by omega
 rw[<-T];rw[<-T]at Hx;subst bX;clear h e2 e3 e0 hx ba bp aZ T;go_enter Tryz.func25,Tryz.ntmps25
 go_wp2_with fail
 refine HF.mono ?_;rintro e a ⟨⟨r,rfl,hr⟩,B⟩;have W:=aa B;clear HF;rcases hr with ⟨j,J,rfl,h1,h2⟩ | ⟨rfl,h2⟩
 ·have I:=H.some J h1 h2;rw[ah]at I;injection I with I;obtain⟨g,o,c,aK,_,_,aC,aA⟩:=(H.ext B).pos (EE (C9 _) J);obtain⟨be,bY,bV⟩:B0<=g/\o=0/\V=D.length:=by
   rcases L.1 with ⟨q,_,_⟩ | ⟨g',cc,br,bU,_⟩
   ·rw[aK]at q;cases q
   ·rw[aK]at br;injection br with P a2 a3;injection P with P;injection P with P a4;subst P;exact⟨bU,a4,a2.symm⟩
  subst bY bV;subst aK;have aH:=L.1.ext B;have bk:g≠b:=fun q=>by have h:=aA 0 (EE (C9 _) J) 0 _ rfl;rw[q]at h;have h2:=(H.bx.ext B).cell (i:=0) (v:=.slice (some ⟨g,0,none⟩) D.length c) rfl;rw[h2]at h;cases h
  have S:=(H.bx.ext B).cell (i:=0) (v:=.slice (some ⟨g,0,none⟩) D.length c) rfl;have bq:=aA j J;have bZ:=(H.ext B).ok _ (aJ o0 J);obtain⟨M,U,V,k3⟩:=bZ;have hM:M.length=st.length:=by rw[I,<-k3,CY]
  obtain⟨q1,c1,G,_,_⟩:=U.BD.form;rw[hM]at G U;have ay:a.cell? ⟨g,j*2+1,none⟩=some (.slice q1 st.length c1):=by have h:=bq 1 _ rfl;rw[Dq]at h;rw[h,G]
  have bc:a.frozen? ⟨g,j*2+1,none⟩=false:=aH.fz (j:=j*2+1) (by rw[L.out.2];omega);have aI:=Z.1.get Z.2.1;obtain⟨m,hm⟩:=exq st.length;obtain⟨N,hN⟩:=exq D.length;have Hm:=aa (Dj hm hN);have cr:1<=m/\m<=512:=by rw[hm];exact⟨aI.1,aI.2.1⟩
  rw[<-hm]at ay hi U G;rw[<-hN]at S;have Hj:Hid (j < D.length/\(D.getD j o0).1=n/\st=(D.getD j o0).2.2/\j < N/\B0<=g/\g≠b/\i < m):=aa ⟨J,h1,I,by omega,be,bk,hi⟩;have cg:¬(j:Int) < 0:=by omega
  have ch:(0:Int)<=(j:Int):=by omega
  have ci:(j:Int) < (N:Int):=by omega
  have cl:¬(i:Int) < 0:=by omega
  have cm:(0:Int)<=(i:Int):=by omega
  have cn:(i:Int) < (m:Int):=by omega
  have co:¬(m:Int)<=(i:Int):=by omega
  have a5:(aD cB M).length=m:=by rw[fy,CY,hM,hm]
  have O:Hid (M.length=m/\(∀y∈M,ju F a y)/\M.map (·.2)=st/\(aD cB M).length=m):=aa ⟨by omega,V,by rw[I];exact k3,a5⟩;have ac:au a (a.alloc (.cells #[] 27)):=ae _ _;have Ho:Hid ((a.alloc (.cells #[] 27)).ownsRow a.heap.size 27 1 (.slice (some ⟨a.heap.size,0,none⟩) 0 0) 0 []):=aa (cX a 27 #[] a.heap.size 0 1 (CU _) (by decide) rfl);have aT:Hid (aX (a.alloc (.cells #[] 27)) (.slice q1 m c1) m (aD cB M)):=aa (by rw[<-G];exact U.BD.ext ac)
  have bD:Hid (∀c∈aD cB M,c.oneCell'=true):=aa (kD fun y hy c hc=>by
   obtain rfl:c=y.1:=by simpa[cB] using hc
   obtain⟨p9,c9,e9,_,_⟩:=(V y hy).1.BD.form
   rw[e9];rfl)
  have b8:(a.alloc (.cells #[] 27)).cell? ⟨b,0,none⟩=some (.slice (some ⟨g,0,none⟩) N c):=by rw[<-S];exact Dp (ac.block b (CW _ _ S))
  have b9:(a.alloc (.cells #[] 27)).cell? ⟨g,j*2+1,none⟩=some (.slice q1 m c1):=by rw[<-ay];exact Dp (ac.block g aC)
  have bE:=aa aH;have Y:Hid (g < a.heap.size/\b < a.heap.size/\w.heap.size<=a.heap.size):=aa ⟨aC,CW _ _ S,B.size⟩;have cf:=aa bc;clear I h1 h2 aA bq G hm hN aH bk hM U V k3 aI a5 ac B ah aC bc J be
  go_wp2_with (with_reducible refine av ?_)
  refine ax ?_;refine bg zi Ho aT rfl rfl (by rw[O.out.2.2.2,EZ]) bD (by unfold Dc;omega) (by omega) (by simp) ?_;intro p4 cap l t aF R hK af az;rw[Dq]at t af⊢;rw[Eh]at t;have ao:au a l:=DC (ae _ _) R;obtain⟨g4,cd,hf,bf,bh,bi,aB,b2⟩:=(Pq.AS t).1.form (by omega);injection hf with G bT bS;subst G bS;clear bT b2;have bB:=aa (Pq.AS t).1;have bu:=aa ao;have aO:Hid (a.heap.size<=g4/\g4 < l.heap.size/\m<=cap/\cap<=Dc):=aa ⟨bf,bh,bi,aB⟩;have ck:(m:Int)<=(cap:Int):=by omega
  clear t aF R hK af az bf bh bi aB Ho aT b8 b9 S ay;have E:au l (l.alloc (.cells #[] 5)):=ae _ _;have aS:Hid ((l.alloc (.cells #[] 5)).ownsRow l.heap.size 5 1 (.slice (some ⟨l.heap.size,0,none⟩) 0 0) 0 []):=aa (cX l 5 #[] l.heap.size 0 1 (CU _) (by decide) rfl)
  have aU:Hid (aX (l.alloc (.cells #[] 5)) (.slice pb 16 cb) 16 (aj .u8 x)):=aa (by
   have h:=aX.ext Hx.1 ((W.trans ao).trans E);rw[<-ak.out]at h
   exact h)
  clear E ao
  go_wp2_with (with_reducible refine av ?_)
  refine ax ?_;refine bg aQ aS aU rfl rfl (by rw[ints_length,<-ak.out]) (aE _ _) (by unfold Dc;omega) (by omega) (by simp) ?_;intro C A p t aF R hK af az;rw[Eh]at t;have E:au l p:=DC (ae _ _) R;have ai:=aa (Pq.AS t).1;have z:=aa (bu.trans E);have bv:=aa E;have ad:=bB.ext E;have aG:i < (aD cB M).length:=by rw[O.out.2.2.2];omega
  have q5:=ad.cell (CV aG);have f5:=ad.fz aG;have f:Kq (fun k=>k=g4) p (p.setCell ⟨g4,i,none⟩ (.slice C (0+16) A)):=(Kq.refl p).setCell (Q:=fun k=>k=g4) ⟨g4,i,none⟩ rfl _;have bA:=aa (ad.put (j:=i) aG (.slice C (0+16) A));have bw:=aa f;have a7:b < p.heap.size:=by have:=Y.out;have:=z.size;omega
  have bj:g < p.heap.size:=by have:=Y.out;have:=z.size;omega
  have a9:b≠g4/\g≠g4:=by have:=Y.out;have:=aO.out;omega
  have cv:(p.setCell ⟨g4,i,none⟩ (.slice C (0+16) A)).cell? ⟨b,0,none⟩=some (.slice (some ⟨g,0,none⟩) N c):=by have h:=((H.ext (W.trans z)).bx.cell (i:=0) (v:=.slice (some ⟨g,0,none⟩) D.length c) rfl);rw[<-Hm.out.2]at h;rw[<-h];exact Dp (f.block b a7 a9.1)
  have ag:=(bE.ext z).kept (fun k d=>f.block k (by
   injection d with d;subst d
   exact bj) (by
   injection d with d;subst d
   exact a9.2)) f.size
  have bo:j*2+1 < xs.length:=by rw[L.out.2];have:=Hj.1;omega
  have cw:=ag.cell (CV bo);have f61:=ag.fz bo;have bz:=aa ag;clear t aF R hK af az E ad f a7 bj ag aS aU
  go_wp2_with fail
  go_ret;have cj:=Y.out;have aB:=aO.out;have K:=Hj.out;have cq:=z.size;have cp:=bv.size;obtain⟨u,b5⟩:=exq (p.setCell ⟨g4,i,none⟩ (.slice C (0+16) A));have f:=bw.out;have aw:=bA.out;have a6:=bz.out;rw[<-b5]at f aw a6⊢;have T:=(H.bound).nb;have bJ:gV (fun i=>F i\/w.heap.size<=i) u b (.slice (some ⟨g,0,none⟩) D.length c) va D s:=((H.bound).ext (W.trans z)).kept f (fun k q=>⟨fun r=>by have:=r.2;omega,by omega⟩) (fun k q _=>.inl q.1) fun q=>by
   rcases q with q | q
   ·exact H.nb q
   ·have:b < w.heap.size:=CW _ _ X;omega
  have bM:i < M.length:=by rw[O.out.1];exact K.2.2.2.2.2.2
  have b3:di (fun i=>F i\/w.heap.size<=i) u (.slice (some ⟨g4,0,none⟩) m cap) ((D.getD j o0).2.2.set i x):=by
   refine⟨M.set i (.slice C (0+16) A,x),?_,fun y hy=> ?_,by rw[List.map_set,O.out.2.2.1,K.2.2.1]⟩
   ·have h5:=fA u7 b0 (.slice C (0+16) A,x) (.slice C (0+16) A) 0 (by decide) M i bM rfl;rw[EZ,Nat.add_zero]at h5;rw[Ea,<-h5,O.out.1];exact aY.By aw.BD fun k d _=>.inr (by have:=(aw.block k d).1;omega)
   ·have bm:∀k,k < p.heap.size->k≠g4->u.heap[k]? =p.heap[k]? :=fun k h1 h2=>f.block k h1 h2
    rcases List.mem_or_eq_of_mem_set hy with hy | rfl
    ·exact bQ _ _ _ _ _ (O.2.1 y hy) fun k d hl=>⟨.inl d,(bm k (by omega) (by omega)).trans (z.block k hl)⟩
    ·refine⟨?_,Hx.2⟩;have a8:=ai.kept (w':=u) (fun k d=>bm k (ai.block k d).2 (by have:=(ai.block k d).1;omega)) f.size;show aY _ _ (.slice C (0+16) A) x.length _;rw[<-ak.out];exact aY.By a8.BD fun k d _=>.inr (by have:=(a8.block k d).1;omega)
  have bd:=bJ.B9 Z.1 K.1 Z.2.2 b3;rw[K.2.1,Dq]at bd;have bK:Kq (fun k=>k=g) u (u.setCell ⟨g,j*2+1,none⟩ (.slice (some ⟨g4,0,none⟩) m cap)):=(Kq.refl u).setCell (Q:=fun k=>k=g) ⟨g,j*2+1,none⟩ rfl _;have a1:Kq (fun k=>k=g\/w.heap.size<=k) w (u.setCell ⟨g,j*2+1,none⟩ (.slice (some ⟨g4,0,none⟩) m cap)):=(((Kq.AI (W.trans z)).trans (f.mono fun k _ q=>.inr (by omega))).trans (bK.mono fun k _ q=>.inl q));have bO:b < w.heap.size:=CW _ _ X
  have bb:(u.setCell ⟨g,j*2+1,none⟩ (.slice (some ⟨g4,0,none⟩) m cap)).cell? ⟨b,0,none⟩=w.cell? ⟨b,0,none⟩:=Dp (a1.block b bO fun q=>by
   rcases q with q | q
   ·exact K.2.2.2.2.2.1 q.symm
   ·omega)
  refine⟨rfl,⟨_,_,_,bd⟩,⟨_,_,_,by rw[bb];exact X,a6.put (j:=j*2+1) (by rw[L.out.2];omega) _,by rw[Ea];exact L.2⟩,a1.mono fun k d q=> ?_,bb⟩;rcases q with rfl | q
  ·exact⟨K.2.2.2.2.1,K.2.2.2.2.2.1,_,X,rfl⟩
  ·omega
 ·exact absurd (H.none h2) (by rw[ah];simp)
theorem qK (B0:Nat) (F:Nat->Prop) (b:Nat) (s:bL) (n at':Int) (vb:CQ) (x:List Int) (w:CP) (a:ek F w b s) (d:tF B0 w b) (j:cH s) (hx:Bu w .u8 vb x) (h:bI x):
  CZ CO 25 #[.pointer (some ⟨b,0,none⟩),.int .i64 n,.int .i64 at',vb] w fun e w'=>zC B0 F b s n at' x w e w':=by
 unfold zC gZ;cases hsp:jq s n at' x with
 | false=>refine(sR B0 F b s n at' vb x w a hx hsp).mono ?_;rintro e w' ⟨rfl,c⟩;have f:=a.lt;exact⟨rfl,a.wide c,d.ext f c,Kq.AI c,Dp (c.block b f)⟩
 | true=>obtain⟨st,h1,h2,k,g⟩:=kn hsp;obtain⟨i,rfl⟩:=DK h2;rw[Dy];exact qJ B0 F b s n i vb x st w a d j hx h g h1 (by omega)
theorem eO:∀ {mp:List (Int × Value)},(mp.map (·.1)).Nodup->∀ {p:Int × Value},p∈mp->dF mp p.1=some p.2
 | [],_,_,hp=>by cases hp
 | q :: mp,h,p,hp=>by
  rw[List.map_cons,List.nodup_cons]at h;rcases DA.1 hp with rfl | hp
  ·simp[dF]
  ·have b:¬q.1=p.1:=fun e=>h.1 (by rw[e];exact DX (f:=fun x:Int × Value=>x.1) hp)
   have a:=eO h.2 hp;unfold dF at a⊢;rw[List.find?_cons_of_neg (by simpa using b)];exact a
theorem lV {es:Array MapEntry} {mp:List (Int × CQ)} (h:es.toList.map (fun e=>(e.key,e.val))=mp.map fun x=>(Dx .i64 x.1,x.2)) (b:MapKept.Stamped es c):(mp.map (·.1)).Nodup:=by
 have e:es.toList.map (·.key)=(mp.map (·.1)).map (Dx .i64):=by have:=congrArg (List.map Prod.fst) h;rw[FM,FM]at this;rw[FM];exact this
 have a:=b.2.2;rw[e]at a;unfold List.Nodup at a⊢;rw[List.pairwise_map]at a;exact a.imp fun d q=>d (by rw[q])
theorem bJ.nd {w:CP} {mp:List (Int × CQ)} (h:bJ w m mp):(mp.map (·.1)).Nodup:=by
 obtain⟨es,c,_,h2,a⟩:=h;exact lV h2 a
theorem gz:∀ {l:List MapEntry},l.Pairwise (fun x y=>x.key≠y.key)->∀ {x y:MapEntry},x∈l->y∈l->x.key=y.key->x=y
 | [],_,_,_,hx,_,_=>by cases hx
 | a :: r,hp,x,y,hx,hy,h=>by
  obtain⟨h1,h2⟩:=List.pairwise_cons.1 hp;rcases DA.1 hx with ex | d
  ·rcases DA.1 hy with b | c
   ·rw[ex,b]
   ·exact absurd (ex▸h) (h1 y c)
  ·rcases DA.1 hy with b | c
   ·exact absurd (b▸h).symm (h1 x d)
   ·exact gz h2 d c h
def eF (w:CP) (m r:Nat) (mp D:List (Int × CQ)):Prop:=
 ∃(es:Array MapEntry) (c since c0:Nat) (dn:List MapEntry),w.heap[m]? =some (.map es c)/\es.toList.map (fun e=>(e.key,e.val))=(mp.map fun x=>(Dx .i64 x.1,x.2))/\MapKept.Stamped es c/\w.heap[r]? =some (.mapIter (some m) since (dn.map (·.born)).toArray c0)/\
  (∀x∈es.toList,x.born < since)/\since<=c0/\since<=c/\(∀e∈dn,e∈es.toList)/\dn.map (fun e=>(e.key,e.val))=(D.map fun x=>(Dx .i64 x.1,x.2))/\(D.map (·.1)).Nodup
section
variable {P:Program} {w w':CP} {m r:Nat} {mp D:List (Int × CQ)}
theorem eF.map (h:eF w m r mp D):bJ w m mp:=by
 obtain⟨es,c,_,_,_,h1,h2,a,_⟩:=h;exact⟨es,c,h1,h2,a⟩
theorem eF.lt (h:eF w m r mp D):r < w.heap.size:=by
 obtain⟨es,c,_,_,_,_,_,_,h1,_⟩:=h;exact(DQ.1 h1).1
theorem eF.ne (h:eF w m r mp D):r≠m:=by
 obtain⟨es,c,_,_,_,h1,_,_,h2,_⟩:=h;intro e;rw[e,h1]at h2;cases h2
theorem eF.same (h:eF w m r mp D) (h1:w'.heap[m]? =w.heap[m]?) (h2:w'.heap[r]? =w.heap[r]?):eF w' m r mp D:=by
 obtain⟨es,c,s,b,d,a,a2,a3,a4,a5⟩:=h;exact⟨es,c,s,b,d,h1.trans a,a2,a3,h2.trans a4,a5⟩
theorem eF.kept {Q:Nat->Prop} (h:eF w m r mp D) (k:Kq Q w w') (hm:¬Q m) (a:¬Q r):eF w' m r mp D:=h.same (k.block m h.map.lt hm) (k.block r h.lt a)
theorem bJ.range {t k e:Dn} (d:P.underlying t=some (.map k e)) (h:bJ w m mp):
  ∃w',(Instr.range t (.map (some m))).run P w=.ok (.pointer (some ⟨w.heap.size,0,none⟩)) w'/\eF w' m w.heap.size mp []/\au w w':=by
 have b:=h.lt;obtain⟨es,c,h1,h2,a⟩:=h;exact⟨_,run_range_map w t k e m es c d h1,⟨es,c,c,c,[],((MapKept.heap_alloc w _).2 m b).trans h1,h2,a,(MapKept.heap_alloc w _).1,a.1,CU _,CU _,fun _ q=>(by cases q),rfl,List.nodup_nil⟩,ae _ _⟩
theorem eF.next (h:eF w m r mp D) (ty:Dn):
  ((∀p∈mp,p∈D)/\D.length=mp.length/\(Instr.next (.pointer (some ⟨r,0,none⟩)) false ty).run P w=.ok (.tuple #[.bool false]) w)\/
  ∃p w',p∈mp/\p.1 ∉ D.map (·.1)/\(Instr.next (.pointer (some ⟨r,0,none⟩)) false ty).run P w=.ok (.tuple #[.bool true,.int .i64 p.1,p.2]) w'/\eF w' m r mp (D++[p])/\Kq (fun k=>k=r) w w'/\w'.heap.size=w.heap.size/\
   (Instr.entry (.pointer (some ⟨r,0,none⟩))).run P w'=.ok (.tuple #[.int .i64 p.1,p.2]) w':=by
 have W:=h.ne;have Y:=h.lt;obtain⟨es,c,since,O,l,z,a2,a3,a4,a5,N,C,u,a9,B⟩:=h;have A:=(MapKept.stamped_iff es c).1 a3;have U:∀e∈es.toList,e.born∈l.map (·.born)->e∈l:=fun e he q=>by obtain⟨d,i,g⟩:=DM.1 q;obtain rfl:=born_inj A.2.1 (u d i) he g;exact i
 have F:∀q∈D,∃d∈l,d.key=.int .i64 q.1/\d.val=q.2:=fun q j=>by
  have h1:(Value.int .i64 q.1,q.2)∈D.map fun x=>(Value.int .i64 x.1,x.2):=DX (f:=fun x:Int × Value=>(Value.int .i64 x.1,x.2)) j
  rw[<-a9]at h1;obtain⟨d,i,g⟩:=DM.1 h1;exact⟨d,i,congrArg Prod.fst g,congrArg Prod.snd g⟩
 have V:∀q∈mp,∃d∈es.toList,d.key=.int .i64 q.1/\d.val=q.2:=fun q j=>by
  have h1:(Value.int .i64 q.1,q.2)∈mp.map fun x=>(Value.int .i64 x.1,x.2):=DX (f:=fun x:Int × Value=>(Value.int .i64 x.1,x.2)) j
  rw[<-a2]at h1;obtain⟨d,i,g⟩:=DM.1 h1;exact⟨d,i,congrArg Prod.fst g,congrArg Prod.snd g⟩
 have R:∀q∈D,q∈mp:=fun q j=>by obtain⟨d,i,g,o⟩:=F q j;obtain⟨p,hp,n,t⟩:=bJ.key a2 (u d i);rw[g]at n;injection n with _ n;have:q=p:=Prod.ext n (o.symm.trans t);rw[this];exact hp
 rcases run_next_at (P:=P) w ty r m since O (l.map (·.born)).toArray es c a4 z a5 N with ⟨h0,y⟩ | ⟨e,he,s,G,y⟩
 ·have H:∀p∈mp,p∈D:=fun p hp=>by
   obtain⟨d,i,g,o⟩:=V p hp;have h1:=all_seen es _ h0 d i;have h2:d.born∈l.map (·.born):=by simpa using h1
   have Q:=U d i h2;obtain⟨q,j,n,t⟩:=bJ.key a9 Q;rw[g]at n;injection n with _ n;have:p=q:=Prod.ext n (o.symm.trans t);rw[this];exact j
  refine .inl ⟨H,?_,y⟩;have n1:=lV a2 a3;have Z:=FU B (l₂:=mp.map (·.1)) fun x hx=>by obtain⟨q,j,rfl⟩:=DM.1 hx;exact DX (f:=fun x:Int × Value=>x.1) (R q j)
  have l2:=FU n1 (l₂:=D.map (·.1)) fun x hx=>by obtain⟨q,j,rfl⟩:=DM.1 hx;exact DX (f:=fun x:Int × Value=>x.1) (H q j)
  rw[CY,CY]at Z l2;omega
 ·obtain⟨v,X⟩:e∈es.toList/\¬e.born∈l.map (·.born):=by unfold leftOf at he;simp only[Array.toList_filter,List.mem_filter]at he;exact⟨he.1,by simpa using he.2⟩
  obtain⟨p,hp,g,o⟩:=bJ.key a2 v;have M:s.heap=w.heap:=by rcases G with rfl | rfl<;>rfl
  have I:Kq (fun k=>k=r) w (ChangeMaps.setBlock s r (.mapIter (some m) since ((l.map (·.born)).toArray.push e.born) c)):=by
   have h1:Kq (fun k=>k=r) w s:=by
    rcases G with rfl | rfl
    ·exact Kq.refl _
    ·exact Kq.drew _
   exact h1.trans (oG s r _)
  have L:(ChangeMaps.setBlock s r (.mapIter (some m) since ((l.map (·.born)).toArray.push e.born) c)).heap[r]? =some (.mapIter (some m) since ((l.map (·.born)).toArray.push e.born) c):=lN s (by rw[M];exact Y);have J:=(I.block m (DQ.1 z).1 fun q=>W q.symm).trans z;have K:p.1 ∉ D.map (·.1):=fun q=>by obtain⟨q,j,n⟩:=DM.1 q;obtain⟨d,i,t,_⟩:=F q j;obtain rfl:=gz A.2.2 (u d i) v (by rw[t,g,n]);exact X (DX (f:=fun x:MapEntry=>x.born) i)
  rw[g,o]at y;refine .inr ⟨p,_,hp,K,y,⟨es,c,since,c,l++[e],J,a2,a3,?_,a5,C,C,fun x hx=> ?_,?_,?_⟩,I,?_,?_⟩
  ·rw[L];simp
  ·rcases List.mem_append.1 hx with hx | hx
   ·exact u x hx
   ·obtain rfl:x=e:=by simpa using hx
    exact v
  ·rw[D3,D3,a9];simp[g,o]
  ·rw[D3,List.nodup_append];refine⟨B,by simp,fun a S b T q=> ?_⟩;obtain rfl:b=p.1:=by simpa using T
   exact K (q▸S)
  ·show(s.heap.setIfInBounds r _).size=_;rw[Array.size_setIfInBounds,M]
  ·have E:=run_entry_at (P:=P) _ r m since (l.map (·.born)).toArray es c e L J v A.2.1;rw[g,o]at E;exact E
end
theorem fT (R vb:CQ) (xs ys:List (List Int)) (w:CP) (hA:aU w R xs) (hB:aU w vb ys) (H:∀p∈xs,bI p) (I:∀p∈ys,bI p):
  CZ CO 31 #[R,vb] w fun e w'=>e=.returned (.bool (decide (xs=ys)))/\au w w':=by
 obtain⟨wa,z,N,P⟩:=hA;obtain⟨wb,A,O,Q⟩:=hB;obtain⟨pa,ca,ao,aq,am⟩:=z.form;obtain⟨pb,cb,ap,ar,an⟩:=A.form;subst ao ap;have E:=aa z;have F:=aa A;have X:=aa P;have Y:=aa Q;have V:=aa N;have W:=aa O;have S:=aa H;have T:=aa I;unfold Dc at am an;obtain⟨n,v⟩:=exq xs.length;obtain⟨m,hm⟩:=exq ys.length;rw[<-v]at E⊢aq;rw[<-hm]at F⊢ar;have l:=aa v;have j:=aa hm;clear z A P Q N O H I v hm;by_cases M:n=m
 ·subst M;go_enter Tryz.func31,Tryz.ntmps31
  go_wp2_with fail
  go_loopw [13] (fun i wr=>∃k:Nat,k<=n/\i=.int .i64 k/\au w wr/\Hid (xs.take k=ys.take k)) (fun i _=>n - (intOf i).toNat);case atStart=>exact⟨0,C9 _,rfl,CT _ _,aa rfl⟩
  case round=>
   obtain⟨k,hk,rfl,G,D⟩:=hrel;have a:=aa G;clear G;by_cases L:k < n
   ·have b:k < xs.length:=by rw[<-l.out];exact L
    have c:k < ys.length:=by rw[<-j.out];exact L
    obtain⟨b1,o1,ak,ag,ai⟩:=aU.BK (ps:=xs) (n:=n) (by have:=E.ext a;rw[l.out]at this⊢;exact this) V k b;obtain⟨b2,o2,al,ah,aj⟩:=aU.BK (ps:=ys) (n:=n) (by have:=F.ext a;rw[j.out]at this⊢;exact this) W k c;subst ak al;have d:=X k b;have f:=Y k c;have t:bI (xs.getD k []):=by rw[CR,CV b];exact S _ (DW b)
    have u:bI (ys.getD k []):=by rw[CR,CV c];exact T _ (DW c)
    have B:=aa (iC xs k b);have C:=aa (iC ys k c);obtain⟨x,hx⟩:=exq (xs.getD k []);obtain⟨y,hy⟩:=exq (ys.getD k []);rw[<-hx]at d t B;rw[<-hy]at f u C;obtain⟨p1,c1,J,_,_⟩:=d.form;obtain⟨p2,c2,K,_,_⟩:=f.form;rw[J]at ai d;rw[K]at aj f;have az:∀m,(convert 27 9 (.slice p1 x.length c1)).run CO (wr.drewN m)=.ok (.string (fX x)) (wr.drewN m):=fun m=>dG (d.ext (a.trans ((CT _ _).drewN m))) Ef Ex EY
    have aA:∀m,(convert 27 9 (.slice p2 y.length c2)).run CO (wr.drewN m)=.ok (.string (fX y)) (wr.drewN m):=fun m=>dG (f.ext (a.trans ((CT _ _).drewN m))) Ef Ex EY
    have o:=lj t u;have Z:=aa hx;have Hy:=aa hy;clear d f J K ag ah hx hy b c t u;by_cases r:x=y
    ·subst r;clear o
     go_wp2_with fail
     go_quiet (fail)
     go_wp2_with fail
     go_roundw;case rel=>exact⟨k+1,by omega,by go_num,a.trans ((CT _ _).drewN _),aa (by rw[B.out,C.out,D.out])⟩
     case measure=>simp[intOf];omega
    ·rw[decide_eq_false r]at o;have g:¬xs=ys:=fun q=>r (by rw[Z.out,Hy.out,q])
     have s:=aa g;have aD:¬(fX x=fX y):=fun q=>by rw[q]at o;simp at o
     clear g r
     go_wp2_with fail
     go_quiet (fail)
     go_wp2_with fail
     go_ret;exact⟨by rw[decide_eq_false s.out];rfl,a.trans ((CT _ _).drewN _)⟩
   ·obtain rfl:k=n:=by omega
    have U:Hid (xs=ys):=aa (by
     have h:=D.out
     rwa[CX (by rw[<-l.out];exact CU _),CX (by rw[<-j.out];exact CU _)]at h)
    go_wp2_with fail
    go_ret;exact⟨by rw[decide_eq_true U.out];rfl,a⟩
 ·have g:¬xs=ys:=fun q=>M (by rw[l.out,j.out,q])
  have s:=aa g;have aC:((n:Int)==(m:Int))=false:=by rw[beq_eq_false_iff_ne];omega
  clear g;go_enter Tryz.func31,Tryz.ntmps31
  go_wp2_with fail
  go_ret;exact⟨by rw[decide_eq_false s.out];rfl,CT _ _⟩
end Go.Proofs.Bl
