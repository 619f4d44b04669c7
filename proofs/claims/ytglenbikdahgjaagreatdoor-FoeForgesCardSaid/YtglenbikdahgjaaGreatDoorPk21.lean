/- What the document's Handle leaves, plainly; an object more, put together in whatever order. No program. -/
import Derived.Maps.AppendAt
import Derived.Test.YtglenbikdahgjaaGreatDoorPk20
import Derived.Test.YtglenbikdahgjaaGreatDoorPk19
set_option maxRecDepth 100000
set_option maxHeartbeats 16000000
namespace Go.Proofs.Bl
open Go Go.RowKit
section
variable {P:Program}
theorem run_append_rds {w:World} {t ty e:TypeId} {v u z:Value} {base size bytes n m:Nat} {xs news:List Value}
  (hT:SlT P t e z size bytes) (hown:w.ownsRow base e size v n xs) (hrd:Rds w u m news) (hl:news.length=m*size) (h1:∀c∈news,c.oneCell'=true)
  (hlen:n+m<=maxLen) (hbytes:(n+m)*bytes<=140737488355328) (hbase:base<=w.heap.size):
  ∃v' w',(Builtin.append_ #[t,t] ty #[v,u]).run P w= .ok v' w'/\w'.ownsRow base e size v' (n+m) (xs++news)/\w.grownBy w' v.ownBlock/\(∀k,v'.ownBlock=some k->v.ownBlock=some k\/w.heap.size<=k):=by
 obtain⟨i,hi,hz,hs1,hb1⟩:=info_parts hT.info
 have key:∀(ad:Addr) (c:Nat),(∀j u,news[j]? =some u->w.cell? (ad.add j)=some u)->∃v' w',(Builtin.append_ #[t,t] ty #[v,.slice (some ad) m c]).run P w= .ok v' w'/\w'.ownsRow base e size v' (n+m) (xs++news)/\w.grownBy w' v.ownBlock/\(∀k,v'.ownBlock=some k->v.ownBlock=some k\/w.heap.size<=k):=fun ad c hn=>by
  obtain⟨v',w',hr,h2,h3,_,h5⟩:=run_append_own_at (P:=P) w base t ty e i z size bytes hT.ht hi hz hs1 hb1 hT.hz hT.pos v n xs hown ad m c news hl hn h1 hlen hbytes hbase
  refine⟨v',w',hr,h2,h3,fun k hk=> ?_⟩
  rcases h5 with h5 | h5
  ·rw [h5]at hk;exact .inl hk
  ·rw [h5]at hk
   exact .inr (by have:=Option.some.inj hk;omega)
 rcases hrd with ⟨⟨p,rfl⟩,rfl,rfl⟩ | ⟨b,o,c,rfl,hnc,hcm,hr⟩
 ·cases p with
  | none=>exact⟨v,w,run_append_owned_none w base t ty e i size hT.ht hi v n xs hown,by simpa using hown,World.grownBy.refl w _,fun k hk=> .inl hk⟩
  | some ad=>exact key ad 0 fun j u hj=>by simp at hj
 ·exact key ⟨b,o,none⟩ c fun j u hj=>by rw [Addr.add_mid];exact hr j u hj
theorem goodX_append_rds {R:World->World->Prop} {ev:Nat->Value} {w:World} {φ :Value->World->Prop} {d:Option Tmp} {tt t e:TypeId} {pp:String} {af:Array Edge} {g:Option (Nat × Bool)} {s x:Operand} {v u z:Value} {base size bytes n m:Nat} {xs news:List Value}
  (hT:SlT P t e z size bytes) (hown:w.ownsRow base e size v n xs) (hrd:Rds w u m news) (hl:news.length=m*size) (h1:∀c∈news,c.oneCell'=true)
  (hlen:n+m<=maxLen) (hbytes:(n+m)*bytes<=140737488355328) (hbase:base<=w.heap.size)
  (hs:evalE ev s=v) (hx:evalE ev x=u)
  (hφ:∀v' w',w'.ownsRow base e size v' (n+m) (xs++news)->w.grownBy w' v.ownBlock->(∀k,v'.ownBlock=some k->v.ownBlock=some k\/w.heap.size<=k)->R w w'/\ φ v' w'):
  GoodX R P w φ ((execOp (evalE ev) ⟨d,.call {callee:= .builtin .append,args:=#[s,x],argTypes:=#[t,t]},tt,pp,af,g⟩).run P w):=by
 obtain⟨v',w',hrun,h2,h3,h4⟩:=run_append_rds (P:=P) (ty:=tt) (t:=t) hT hown hrd hl h1 hlen hbytes hbase
 simp [execOp,resolve,invoke,builtin,hs,hx,hrun,Result.andThen]
 exact hφ v' w' h2 h3 h4
theorem goodX_bld2 {R:World->World->Prop} {ev:Nat->Value} {w:World} {φ :Value->World->Prop} {d:Option Tmp} {tt:TypeId} {pp:String} {af:Array Edge} {g:Option (Nat × Bool)} {x y:Operand} {i j:Nat} {vx vy v:Value} {ty:TypeId} (hr:∀w,R w w) (hx:evalE ev x=vx) (hy:evalE ev y=vy) (hb:(Instr.build ty #[(i,vx),(j,vy)]).run P w= .ok v w) (hφ: φ v w):
  GoodX R P w φ ((execOp (evalE ev) ⟨d,.build ty #[(i,x),(j,y)],tt,pp,af,g⟩).run P w):=by
 unfold execOp
 simp only [hx,hy,List.map_toArray,List.map_cons,List.map_nil,Sem.run_bind,Sem.run_pure,hb,Result.andThen_ok]
 exact⟨hr _,hφ⟩
end
theorem LtF.rowF {F:Nat->Prop} {w:World} {l:LT} {vp vs vb:Value} {L:List Sv} (h:LtF F w l vp vs vb L):RowF F w vb l.blocks:=h.bl
theorem RowF.el {F:Nat->Prop} {w:World} {v:Value} {st:List (List Int)} (h:RowF F w v st) {i:Nat} (hi:i < st.length):∃(b o c:Nat) (p1:Option Addr) (c1:Nat),v= .slice (some ⟨b,o,none⟩) st.length c/\st.length<=c/\c<=maxLen/\b < w.heap.size/\w.cell? ⟨b,o+i,none⟩=some (.slice p1 (st.getD i []).length c1)/\RdsF F w (.slice p1 (st.getD i []).length c1) (st.getD i []).length (ints .u8 (st.getD i []))/\Byt (st.getD i []):=by
 obtain⟨M,h1,h2,h3⟩:=h
 have hl:M.length=st.length:=by rw [<-h3,List.length_map]
 have hiM:i < M.length:=by omega
 obtain⟨b,o,c,hv,hc,hm,hb,hr⟩:=Rds.pos h1.rds (by omega) (fun q=>by have:=cellsR_length (f:=cB) (s:=1) (L:=M) (fun _ _=>rfl);rw [q]at this;simp at this;omega)
 have hx:=h2 _ (getD_mem nilB hiM)
 have hcl:=hr i _ (cellB_at M i hiM)
 have e:(M.getD i nilB).2=st.getD i []:=by
  rw [<-h3,List.getD_eq_getElem?_getD,List.getD_eq_getElem?_getD,List.getElem?_map,List.getElem?_eq_getElem hiM];rfl
 unfold OkB at hx
 rw [e]at hx
 obtain⟨p1,c1,hf,_,_⟩:=hx.1.rds.form
 rw [hf]at hcl hx
 exact⟨b,o,c,p1,c1,by rw [<-hl];exact hv,by rw [<-hl];exact hc,hm,hb,hcl,hx.1,hx.2⟩
theorem RowF.form {F:Nat->Prop} {w:World} {v:Value} {st:List (List Int)} (h:RowF F w v st):∃p c,v= .slice p st.length c/\st.length<=c/\c<=maxLen:=h.rdss.form
section
variable {F F' G Q:Nat->Prop} {w w':World} {b:Nat} {vo va:Value} {D:List Ob} {s:ShT}
theorem DvR.mono (h:DvR F w b vo va D s) (hF:∀i,F i->i < w.heap.size->F' i) (hb:¬F' b):DvR F' w b vo va D s:=h.kept (Q:=fun _=>False) (Kq.refl w) (fun _ q=>q.elim) hF hb
theorem DvR.bound (h:DvR F w b vo va D s):DvR (fun i=>F i/\i < w.heap.size) w b vo va D s:=h.mono (fun _ q l=>⟨q,l⟩) fun q=>h.nb q.1
theorem DvX.mono (h:DvX F w b s) (hF:∀i,F i->i < w.heap.size->F' i) (hb:¬F' b):DvX F' w b s:=by
 obtain⟨vo,va,D,h⟩:=h;exact⟨vo,va,D,h.mono hF hb⟩
theorem DvX.kept (h:DvX F w b s) (k:Kq Q w w') (hq:∀i,Q i->¬F i/\i≠b) (hF:∀i,F i->i < w.heap.size->F' i) (hb:¬F' b):DvX F' w' b s:=by
 obtain⟨vo,va,D,h⟩:=h;exact⟨vo,va,D,h.kept k hq hF hb⟩
theorem DvX.lt (h:DvX F w b s):b < w.heap.size:=by
 obtain⟨vo,va,D,h⟩:=h;exact h.bx.lt
theorem DvX.nb (h:DvX F w b s):¬F b:=by
 obtain⟨vo,va,D,h⟩:=h;exact h.nb
theorem cO_one {D:List Ob} (h:∀x∈D,OkO F w x):∀c∈cellsR cO D,c.oneCell'=true:=cellsR_cell fun x hx c hc=>by
 obtain⟨p,n,hv,_⟩:=(h x hx).form
 unfold cO at hc
 rw [hv]at hc
 simp only [List.mem_cons,List.not_mem_nil,or_false]at hc
 rcases hc with rfl | rfl<;>rfl
theorem DvR.push (h:DvR G w b vo va D s) {BB:Nat} (hG:∀i,BB<=i->G i) {e:TypeId} {v':Value} {n:Int} {vb:Value} {st:List (List Int)} (hown:w.ownsRow BB e 2 v' (D.length+1) (cellsR cO D++cO (n,vb,st))) (hst:RowF G w vb st):
  DvR G (w.setCell ⟨b,0,Option.none⟩ v') b v' va (D++[(n,vb,st)]) ⟨s.objs++[(n,st)],s.ids⟩:=by
 have hk:∀i,G i->i < w.heap.size->G i/\(w.setCell ⟨b,0,Option.none⟩ v').heap[i]? =w.heap[i]? :=fun i hi _=>⟨hi,Below.heap_setCell w ⟨b,0,Option.none⟩ v' i fun q=>h.nb (by rw [show i=b from q]at hi;exact hi)⟩
 refine⟨h.bx.put (i:=0) (show 0 < 2 by decide) v',?_,fun x hx=> ?_,?_,h.ra.kept hk,h.rn,h.nb⟩
 ·rw [List.length_append,List.length_singleton,cellsR_append,cellsR_one]
  exact(RdsF.of_rds (F:=G) (Rds.of_owns hown) fun k hk _=>hG k (hown.lt k hk).1).kept hk
 ·rcases List.mem_append.1 hx with hx | hx
  ·exact(h.ok x hx).kept hk
  ·obtain rfl:x=(n,vb,st):=by simpa using hx
   exact RowF.kept hst hk
 ·rw [List.map_append,h.eq];rfl
end
def DhR (F:Nat->Prop) (b:Nat) (s:ShT) (l:LT) (w:World) (e:Ending) (w':World):Prop:=∃vp vs vb L,e= .returned (.tuple #[.agg (cL (hanL s l).1 vp vs vb).toArray,.bool (hanL s l).2])/\LtF (fun k=>F k\/w.heap.size<=k) w' (hanL s l).1 vp vs vb L/\DvX (fun k=>F k\/w.heap.size<=k) w' b (hanS s l)/\Kq (fun i=>i=b) w w'/\KC2 b w w'
def Kb (b:Nat) (w w':World):Prop:=Kq (fun i=>i=b\/w.heap.size<=i) w w'/\KC2 b w w'
theorem Kb.of_ext {b:Nat} {w w':World} (h:Ext w w'):Kb b w w':=⟨Kq.of_ext h,KC2.of_ext h⟩
theorem Kb.ext {b:Nat} {w w1 w2:World} (h:Kb b w w1) (h2:Ext w1 w2):Kb b w w2:=⟨h.1.trans (Kq.of_ext h2),h.2.trans (KC2.of_ext h2)⟩
theorem Kb.kq {b:Nat} {Q:Nat->Prop} {w w1 w2:World} (h:Kb b w w1) (k:Kq Q w1 w2) (hq:∀i,Q i->w.heap.size<=i):Kb b w w2:=⟨h.1.trans (k.mono fun i _ q=> .inr (hq i q)),h.2.kq k hq⟩
theorem Kb.own {b:Nat} {w w1 w2:World} (h:Kb b w w1) (k:Kq (fun i=>i=b) w1 w2) (c:KC2 b w1 w2):Kb b w w2:=⟨h.1.trans (k.mono fun _i _ q=> .inl q),h.2.trans c⟩
theorem Dh.fin {F:Nat->Prop} {b R0 BB:Nat} {s':ShT} {lt:LT} {w W:World} {vp vs vb:Value} {L:List Sv} (hF:(∀i,F i->i < w.heap.size)/\¬F b/\b < w.heap.size) (hR:w.heap.size<=R0/\R0 < BB) (hKb:Kb b w W) (hL:LtF (fun k=>F k\/BB<=k) W lt vp vs vb L) (hD:DvX (fun k=>F k\/BB<=k) W b s') (cs:List Value):
  LtF (fun k=>F k\/w.heap.size<=k) (W.setCells R0 0 cs) lt vp vs vb L/\DvX (fun k=>F k\/w.heap.size<=k) (W.setCells R0 0 cs) b s'/\Kq (fun i=>i=b) w (W.setCells R0 0 cs)/\KC2 b w (W.setCells R0 0 cs):=by
 obtain⟨h1,h2,h3⟩:=hF
 have hK:=hKb.1
 have k:Kq (fun k=>k=R0) W (W.setCells R0 0 cs):=(Kq.refl W).setCells (Q:=fun k=>k=R0) rfl 0 cs
 have hn:∀i,(F i\/BB<=i)->i≠R0:=fun i q e=>by
  rcases q with q | q
  ·have:=h1 i q;omega
  ·omega
 have hm:∀i,(F i\/BB<=i)->(F i\/w.heap.size<=i):=fun i q=>q.imp id fun q=>by omega
 refine⟨hL.kept fun i q hl=>⟨hm i q,k.block i hl (hn i q)⟩,hD.kept k (fun i q=>⟨fun r=>hn i r q,by omega⟩) (fun i q _=>hm i q) fun q=> ?_,?_,hKb.2.kq k fun i q=>by omega⟩
 ·rcases q with q | q
  ·exact h2 q
  ·omega
 ·exact(hK.trans (k.mono (Q':=fun i=>i=b\/w.heap.size<=i) fun i _ q=> .inr (by omega))).mono fun i hi q=>by omega
structure JP (BB:Nat) (e:TypeId) (n:Nat) (A E:List Value) (d:Nat->Bool) (u:Nat->Value) (w:World):Prop where
 le:BB<=w.heap.size
 a:d 1=true->d 6=false->w.ownsRow BB e 2 (u 87) 0 []
 b:d 6=true->d 13=false->w.ownsRow BB e 2 (u 92) n A
 l:d 12=true->d 13=false->∃g,u 98= .slice (some ⟨g,0,none⟩) 1 1/\w.rangeAt g 0 E/\(d 1=true->d 6=false->(u 87).ownBlock≠some g)/\(d 6=true->(u 92).ownBlock≠some g)
 c:d 13=true->w.ownsRow BB e 2 (u 99) (n+1) (A++E)
section
variable {BB:Nat} {e:TypeId} {n:Nat} {A E:List Value} {d:Nat->Bool} {u:Nat->Value} {w w':World}
theorem JP.start (h:BB<=w.heap.size):JP BB e n A E (fun _=>false) u w:=⟨h,fun q=>(by cases q),fun q=>(by cases q),fun q=>(by cases q),fun q=>(by cases q)⟩
theorem JP.same {j t:Nat} {v:Value} (h:JP BB e n A E d u w) (hi:(decide (j=1)||decide (j=6)||decide (j=12)||decide (j=13)||decide (t=87)||decide (t=92)||decide (t=98)||decide (t=99))=false):JP BB e n A E (upd d j) (updv (some t) u v) w:=by
 simp only [Bool.or_eq_false_iff,decide_eq_false_iff_not]at hi
 obtain⟨⟨⟨⟨⟨⟨⟨h1,h2⟩,h3⟩,h4⟩,h5⟩,h6⟩,h7⟩,h8⟩:=hi
 have a1:upd d j 1=d 1:=if_neg (fun e=>h1 e.symm)
 have a2:upd d j 6=d 6:=if_neg (fun e=>h2 e.symm)
 have a3:upd d j 12=d 12:=if_neg (fun e=>h3 e.symm)
 have a4:upd d j 13=d 13:=if_neg (fun e=>h4 e.symm)
 have b1:updv (some t) u v 87=u 87:=if_neg (fun e=>h5 e.symm)
 have b2:updv (some t) u v 92=u 92:=if_neg (fun e=>h6 e.symm)
 have b3:updv (some t) u v 98=u 98:=if_neg (fun e=>h7 e.symm)
 have b4:updv (some t) u v 99=u 99:=if_neg (fun e=>h8 e.symm)
 exact⟨h.le,by rw [a1,a2,b1];exact h.a,by rw [a2,a4,b2];exact h.b,by rw [a3,a4,b3,a1,a2,b1,b2];exact h.l,by rw [a4,b4];exact h.c⟩
theorem JP.new (h:JP BB e n A E d u w) (hE:E≠[]) (h6:d 6=false) (h13:d 13=false):JP BB e n A E (upd d 1) (updv (some 87) u (.slice (some ⟨w.heap.size,0,none⟩) 0 0)) (w.alloc (.cells #[] e)):=by
 have hx:=ext_alloc w (.cells #[] e)
 refine⟨Nat.le_trans h.le hx.size,fun _ _=>owns_nil_lit w e BB h.le 2,fun q=> ?_,fun q1 q2=> ?_,fun q=> ?_⟩
 ·have q:d 6=true:=q
  rw [h6]at q;cases q
 ·have q1:d 12=true:=q1
  obtain⟨g,k1,k2,k3,k4⟩:=h.l q1 h13
  have hg:=rangeAt_lt k2 hE
  refine⟨g,k1,rangeAt_ext k2 hx,fun _ _ q=> ?_,fun q=> ?_⟩
  ·have q:some w.heap.size=some g:=q
   have:=Option.some.inj q
   omega
  ·have q:d 6=true:=q
   rw [h6]at q;cases q
 ·have q:d 13=true:=q
  rw [h13]at q;cases q
theorem JP.app1 (h:JP BB e n A E d u w) (hE:E≠[]) {v':Value} (h1:d 1=true) (h6:d 6=false) (h13:d 13=false) (ho:w'.ownsRow BB e 2 v' (0+n) ([]++A)) (hg:w.grownBy w' (u 87).ownBlock) (hk:∀k,v'.ownBlock=some k->(u 87).ownBlock=some k\/w.heap.size<=k):Below BB w w'/\JP BB e n A E (upd d 6) (updv (some 92) u v') w':=by
 have hB:Below BB w w':=(Below.refl BB w).grown hg h.le fun k hk=>((h.a h1 h6).lt k hk).1
 refine⟨hB,Nat.le_trans h.le hB.size,fun _ q=> ?_,fun _ _=> ?_,fun q1 q2=> ?_,fun q=> ?_⟩
 ·have q:true=false:=q
  cases q
 ·rw [Nat.zero_add,List.nil_append]at ho
  exact ho
 ·have q1:d 12=true:=q1
  obtain⟨g,k1,k2,k3,k4⟩:=h.l q1 h13
  have hlt:=rangeAt_lt k2 hE
  have hne:=k3 h1 h6
  refine⟨g,k1,fun j x hx=> ?_,fun _ q=> ?_,fun _ q=> ?_⟩
  ·rw [World.cell?_of_block (w:=w) (hg.block g hlt fun q=>hne q.symm)]
   exact k2 j x hx
  ·have q:true=false:=q
   cases q
  ·have q:v'.ownBlock=some g:=q
   rcases hk g q with z | z
   ·exact hne z
   ·omega
 ·have q:d 13=true:=q
  rw [h13]at q;cases q
theorem JP.bld (h:JP BB e n A E d u w) (h13:d 13=false):JP BB e n A E (upd d 12) (updv (some 98) u (.slice (some ⟨w.heap.size,0,none⟩) 1 1)) (w.alloc (.cells E.toArray e)):=by
 have hx:=ext_alloc w (.cells E.toArray e)
 refine⟨Nat.le_trans h.le hx.size,fun q1 q2=>owns_ext (h.a q1 q2) hx,fun q1 q2=>owns_ext (h.b q1 q2) hx,fun _ _=>⟨w.heap.size,rfl,fun j x hj=> ?_,fun q1 q2 q=> ?_,fun q1 q=> ?_⟩,fun q=> ?_⟩
 ·rw [Nat.zero_add,World.cell?_alloc_new];simpa using hj
 ·have:=((h.a q1 q2).lt _ q).2;omega
 ·have:=((h.b q1 h13).lt _ q).2;omega
 ·have q:d 13=true:=q
  rw [h13]at q;cases q
theorem JP.app2 (h:JP BB e n A E d u w) {v':Value} (h6:d 6=true) (h13:d 13=false) (ho:w'.ownsRow BB e 2 v' (n+1) (A++E)) (hg:w.grownBy w' (u 92).ownBlock):Below BB w w'/\JP BB e n A E (upd d 13) (updv (some 99) u v') w':=by
 have hB:Below BB w w':=(Below.refl BB w).grown hg h.le fun k hk=>((h.b h6 h13).lt k hk).1
 refine⟨hB,Nat.le_trans h.le hB.size,fun _ q=> ?_,fun _ q=> ?_,fun _ q=> ?_,fun _=>ho⟩
 ·have q:d 6=false:=q
  rw [h6]at q;cases q
 ·have q:true=false:=q
  cases q
 ·have q:true=false:=q
  cases q
end
theorem one2 (x:Int) (p:Option Addr) (n c:Nat):∀v∈[Value.int .i64 x,.slice p n c],v.oneCell'=true:=fun v hv=>by
 simp only [List.mem_cons,List.not_mem_nil,or_false]at hv
 rcases hv with rfl | rfl<;>rfl
end Go.Proofs.Bl
