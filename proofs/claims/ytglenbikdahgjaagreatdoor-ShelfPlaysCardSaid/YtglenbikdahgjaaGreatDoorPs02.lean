/- Texts that stood apart, in one: ShaOct, WLeavesP, WChunkDP, Marks, WRootsP, WSameP. -/
import Derived.Lib.SlBytesConst
import Derived.Lib.SmallJoins
import Derived.Stop.Asserts
import Derived.RowKitTokens
import Derived.Below
import Derived.ChangeSame
import Derived.ProofKit
import Derived.OpenShut
import Derived.LaidMore
import Derived.Stop.Joined
import GoSem.PinnedTables
import Derived.ChangeSlices
import Derived.Deep.Matrix
import Derived.Lib.LaidTab
import Derived.Deep.Slices
import Derived.Test.YtglenbikdahgjaaGreatDoorPs01
import Derived.Test.YtglenbikdahgjaaGreatDoorRows
set_option maxRecDepth 100000
set_option maxHeartbeats 16000000
open Array renaming getElem?_eq_some_iff->DQ
open Go renaming Program->Ds,TypeId->Dn,Value->CQ,World->CP,all_oneCell_toArray->Gu,maxLen->Dc
open Go.Addr renaming add_mid->EH
open Go.DataW renaming trod->Fk
open Go.Instr renaming storeAt->Fo
open Go.KeepsOthers renaming setCell->EO
open Go.RowKit renaming Below->Et
open Go.RowKit.Below renaming refl->CT
open Go.World renaming block_lt_of_cell?->CW,cell?_alloc_new->Df,cell?_of_block->Dp,cell?_setCell_other->Dv,cell?_setCell_same'->FC,frozen?_setCell->Fi,ownsRow_nil->ES,rangeAt_setCells_same->Dr,there_setCells->Fs
open List renaming drop_eq_getElem_cons->EL,drop_of_length_le->Fc,getD_cons_succ->EN,getD_eq_getElem?_getD->CR,getElem?_append_left->D4,getElem?_append_right->FB,getElem?_drop->Es,getElem?_eq_getElem->CV,getElem?_eq_none->Fj,getElem?_eq_some_iff->Dt,getElem?_map->DE,getElem?_set_self->Eb,getElem?_take->DL,getElem_mem->DW,getElem_of_mem->Ev,length_append->C7,length_cons->DB,length_drop->C6,length_eq_zero_iff->DI,length_singleton->D6,length_take->Da,mem_append->Dz,mem_cons->DA,mem_of_mem_take->En,not_mem_nil->Eg,take_append_drop->D5,take_left'->GA,take_of_length_le->CX,take_succ_eq_append_getElem->Ee
open Nat renaming add_assoc->Fm,le_refl->CU,lt_of_lt_of_le->Dd,min_eq_left->E1,mul_le_mul_right->EK,zero_add->Dq
namespace Go.Proofs.Bl
open Go Go.RowKit Go.Proofs
variable {n B base size o L C e U p g:Nat} {d:Nat->Bool} {Z:List Int}
theorem wy:∀(s:St),bI s.bytes:=fun s x hx=>by
 obtain⟨i,a,rfl⟩:=List.mem_iff_getElem.1 hx;have h:=s.BV i a;rw[CR,CV a]at h;simp only[Option.getD_some]at h;rw[h];unfold St.byte;omega
theorem mY (l:List Int):bI (sha l):=wy _
def bZ (ds:List (List Int)):List Int:=over ej zD ds
theorem rS:zD.length=32:=rfl
theorem aU.BK {w:CP} {p:Option Addr} {c:Nat} {ps:List (List Int)} {vs:List CQ} (f:aX w (.slice p n c) ps.length vs) (d:vs.length=ps.length) (k:Nat) (h:k < ps.length):∃b o,p=some ⟨b,o,none⟩/\b < w.heap.size/\w.cell? ⟨b,o+k,none⟩=some (vs.getD k undef):=by
 rcases f with ⟨h1,h2,e⟩ | ⟨b,o,g,h1,h2,e,a⟩
 ·omega
 ·cases h1;refine⟨b,o,rfl,bK a (fun q=>by rw[q]at d;simp at d;omega),a k _ ?_⟩;rw[CR,CV (by omega)];rfl
theorem wA (b:List Int):bI (ij b):=mY _
theorem rk (l r:List Int):bI (ej l r):=mY _
theorem xK:bI zD:=mY _
theorem jj (ps:List (List Int)):dd (ps.map ij):=fun d a=>by
 obtain⟨b,_,rfl⟩:=List.mem_map.1 a;exact⟨jh b,wA b⟩
theorem dP:∀(n:Nat) (ds:List (List Int)),ds.length=n->dd ds->ds.length < 2^63->(bZ ds).length=32/\bI (bZ ds):=by
 intro n;induction n using Nat.strongRecOn with
 | _ n ih=>
  intro ds c b a;unfold bZ;by_cases h0:ds.length=0
  ·obtain rfl:=DI.1 h0;rw[tO];exact⟨rS,xK⟩
  ·by_cases h2:2<=ds.length
   ·rw[jD _ _ _ h2 a];exact⟨jg _ _,rk _ _⟩
   ·match ds,h0,h2 with
    | [d],_,_=>rw[jC];exact b d (by simp)
    | _ :: _ :: _,_,h=>simp at h
def ln (n k:Nat):Nat:=if 2*k+2<=n then 2 else 1
def ft (B:Nat) (w:CP):Nat->List Deferred->Prop
 | _,[]=>True
 | N,d :: ds=>∃D,d= {target:=.collected D,args:=#[]}/\B<=D/\D < N/\w.heap[D]? =some (.deferred (some []))/\ft B w D ds
theorem ft.BU {w w':CP}:∀(ds:List Deferred) (N:Nat),(∀D,B<=D->D < N->w.heap[D]? =some (.deferred (some []))->w'.heap[D]? =w.heap[D]?)->ft B w N ds->ft B w' N ds
 | [],_,_,_=>trivial
 | _ :: ds,_,hk,⟨D,h1,h2,h3,h4,h5⟩=>⟨D,h1,h2,h3,(hk D h2 h3 h4).trans h4,ft.BU ds D (fun k a b=>hk k a (Nat.lt_trans b h3)) h5⟩
theorem ft.mono {w:CP} {N a:Nat}:∀(ds:List Deferred),N<=a->ft B w N ds->ft B w a ds
 | [],_,_=>trivial
 | _ :: _,hN,⟨D,h1,h2,h3,h4,h5⟩=>⟨D,h1,h2,Dd h3 hN,h4,h5⟩
theorem gK {P:Ds} {fn:Func} {tmps:Array CQ} {R:Ending->CP->Prop}:∀(ds:List Deferred) (N:Nat) (w:CP),ft B w N ds->
  (∀w',Et B w w'->∃v,(results fn tmps).run P w'=.ok v w'/\R (.returned v) w')->LeavesInM Fence.wide n P fn tmps R ds .returning w
 | [],_,w,_,h=>by
  simp only[LeavesInM,LeavesIn];exact h w (CT _ _)
 | _ :: ds,_,w,⟨D,hd,hB,_,hD,hm⟩,h=>by subst hd;have d:D < w.heap.size:=(DQ.1 hD).1;have a:Et B w (w.putObj D (.deferred none)):=(CT B w).grown (grownBy_putObj' w D (.deferred none)) (by omega) (fun k e=>by cases e;omega);refine⟨by simp,.inl ⟨_,_,rfl,run_takeDeferred hD,?_⟩⟩;refine gK ds D _ (ft.BU ds D (fun k _ c _=>World.putObj_heap_other (by omega)) hm) ?_;intro w' b;exact h w' (a.trans b)
theorem mC {F:Fence} {nf:Nat} {P:Ds} {ops:Array Oper} {rest:List Oper} {a:Act} {w:CP} {Q:Exit->Act->CP->Prop} {d:Option Tmp} {J t e:Dn} {pp:String} {g:Array Edge} {s x:Operand} {v u z:CQ} {bytes k:Nat} {xs news:List CQ}
  (f:kv P t e z size bytes) (C:w.ownsRow base e size v k xs) (E:aX w u 1 news) (G:a.eval s=v) (hx:a.eval x=u) (K:news.length=size) (h1:∀c∈news,c.oneCell'=true)
  (hlen:k+1<=Dc) (r:(k+1)*bytes<=140737488355328) (q:base<=w.heap.size)
  (h:∀p c w',w'.ownsRow base e size (.slice p (k+1) c) (k+1) (xs++news)->w.grownBy w' v.ownBlock->wpListIn F nf P ops Q rest (a.put d (.slice p (k+1) c)) w'):
  wpListIn F nf P ops Q (⟨d,.call {callee:=.builtin .append,args:=#[s,x],argTypes:=#[t,t]},J,pp,g,none⟩ :: rest) a w:=by
 obtain⟨i,y,I,H,n⟩:=info_parts f.info;rcases E with ⟨_,hm,_⟩ | ⟨b,o,c,hu,_,_,D⟩
 ·omega
 ·have B:∀j u,news[j]? =some u->w.cell? ((⟨b,o,none⟩:Addr).add j)=some u:=fun j u A=>by rw[EH];exact D j u A
  refine wpListIn_append_own w rfl s x t rfl base e i z size bytes f.ht y I H n f.hz f.pos v k xs G C ⟨b,o,none⟩ 1 c news (hx.trans hu) (by omega) B h1 hlen r q ?_;intro L w' h2 m _;obtain⟨p,l,rfl,_,_⟩:=(aX.AS h2).form;exact h p l w' h2 m
theorem pN {w w':CP} {v:CQ} {xs:List CQ} {row:Option Nat} (h:w.ownsRow base e size v n xs) (f:w.grownBy w' row) (i:∀r,row=some r->∃o:Obj,w.heap[r]? =some o/\o.isCells=false):w'.ownsRow base e size v n xs:=by
 obtain⟨h1,h2⟩:=h;refine⟨h1,?_⟩;rcases h2 with h2 | ⟨g,cap,cur,j,c,a,r⟩
 ·exact .inl h2
 ·refine .inr ⟨g,cap,cur,j,c,?_,r⟩;rw[f.block g (DQ.1 a).1 (fun q=> ?_)]
  ·exact a
  ·obtain⟨o,b,d⟩:=i g q.symm;rw[a]at b;cases b;exact absurd d (by simp[Obj.isCells])
theorem pO {w w':CP} {v:CQ} {xs:List CQ} (h:w.ownsRow base e size v n xs) (c:w.grownBy w' v.ownBlock):KeepsOthers w w':=
 ⟨c.size,fun l o a d=>(c.block l (DQ.1 a).1 (fun q=>by
  rcases h.2 with ⟨b,_⟩ | ⟨g,cap,cur,b,i,f,r⟩
  ·rw[b]at q;cases q
  ·rw[b]at q;simp only[Value.ownBlock,Option.some.injEq]at q;subst q;rw[f]at a;cases a
   exact absurd d (by simp[Obj.isCells]))).trans a⟩
def ub {α :Type} (T:Dn) (U n₀:Nat) (f: α ->List Int) (pre:List α) (W:CP):Prop:=
 ∃p c,W.cell? ⟨U,0,none⟩=some (.slice p pre.length c)/\W.frozen? ⟨U,0,none⟩=false/\W.ownsRow n₀ T 32 (.slice p pre.length c) pre.length (aO (pre.map f))
theorem ub.from {α :Type} {T:Dn} {b:Nat} {f: α ->List Int} (k:U < b):OwnFrom b (fun(pre:List α) W=>ub T U b f pre W):=by
 rintro pre W j row ⟨p,c,h1,h2,i⟩ a h;have d:U < W.heap.size:=CW _ _ h1;have g:some U≠row:=fun e=>by have:=(h U e.symm).1;omega
 exact⟨p,c,(a.cell_far ⟨U,0,none⟩ d g).trans h1,(a.frozen_far ⟨U,0,none⟩ d g).trans h2,pN i a (fun r e=>(h r e).2)⟩
theorem rl {α :Type} {T:Dn} {f: α ->List Int} {a W g b:CP} {pre:List α} {x: α} {v y:CQ} {p:Option Addr} {c:Nat} {xs:List CQ}
  (D:U < a.heap.size) (l:cP U a.heap.size a W) (t:Et U a W) (d:au W g) (e:g.grownBy b v.ownBlock) (s:g.ownsRow a.heap.size T 32 v pre.length xs)
  (r:b.ownsRow a.heap.size T 32 (.slice p (pre.length+1) c) (pre.length+1) (aO (pre.map f)++aO [f x]))
  (m:W.cell? ⟨U,0,none⟩=some y) (A:W.frozen? ⟨U,0,none⟩=false):
  KeepsOthers W (b.setCell ⟨U,0,none⟩ (.slice p (pre.length+1) c))/\cP U a.heap.size W (b.setCell ⟨U,0,none⟩ (.slice p (pre.length+1) c))/\
   (ub T U a.heap.size f (pre++[x]) (b.setCell ⟨U,0,none⟩ (.slice p (pre.length+1) c))/\(cP U a.heap.size a (b.setCell ⟨U,0,none⟩ (.slice p (pre.length+1) c))/\Et U a (b.setCell ⟨U,0,none⟩ (.slice p (pre.length+1) c)))):=by
 have n:U < W.heap.size:=CW _ _ m;have E:W.heap.size<=g.heap.size:=d.size;have C:a.heap.size<=W.heap.size:=l.1;have i:∀k,v.ownBlock=some k->a.heap.size<=k:=fun k h=>(s.lt k h).1
 have o:some U≠v.ownBlock:=fun q=>by have:=i U q.symm;omega
 have j:cP U a.heap.size W b:=(cP.BZ d C).trans ⟨e.size,fun k h _=>e.block k (by omega) (fun q=>by have:=i k q.symm;omega)⟩;have w:b.cell? ⟨U,0,none⟩=some y:=(e.cell_far ⟨U,0,none⟩ (show U < _ by omega) o).trans (((ay d).1 U 0 n).trans m);have z:b.frozen? ⟨U,0,none⟩=false:=(e.frozen_far ⟨U,0,none⟩ (show U < _ by omega) o).trans (((ay d).2 U 0 n).trans A);have u:Et U a b:=(t.trans (d.mono (by omega))).trans ((CT U g).grown e (by omega) (fun k h=>by have:=i k h;omega));have B:(Value.slice p (pre.length+1) c).ownBlock≠some U:=fun q=>by have:=(r.lt U q).1;omega
 refine⟨((lv d).trans (pO s e)).trans (EO _ _ _),j.set 0 _,⟨p,c,?_,?_,?_⟩,(l.trans j).set 0 _,u.setCell (CU _) _⟩
 ·rw[C7,D6];exact World.cell?_setCell_same _ _ _ w
 ·rw[Fi];exact z
 ·rw[C7,D6,List.map_append,cf];exact eV r B 0 _
def rm (r:List (List Int)) (k:Nat):List Int:=if 2*k+2<=r.length then ej (r.getD (2*k) []) (r.getD (2*k+1) [])else r.getD (2*k) []
theorem uc:∀(r:List (List Int)) (k:Nat),k < (r.length+1) / 2->(up ej r)[k]? =some (rm r k)
 | [],k,h=>by simp at h
 | [a],k,h=>by
  have f:k=0:=by simp at h;omega
  subst f;simp[up,rm]
 | a :: b :: r,0,_=>by simp[up,rm]
 | a :: b :: r,k+1,h=>by
  have g:=uc r k (by simp at h;omega);simp only[up,List.getElem?_cons_succ,g];congr 1;unfold rm;have c:2*(k+1)=2*k+1+1:=by omega
  have e:2*(k+1)+1=2*k+1+1+1:=by omega
  simp only[DB];by_cases d:2*k+2<=r.length
  ·rw[if_pos d,if_pos (by omega),e,c,EN,EN,EN,EN]
  ·rw[if_neg d,if_neg (by omega),c,EN,EN]
theorem yU (r:List (List Int)) (m:Nat) (hm:m=(r.length+1) / 2):(List.finRange m).map (fun x=>rm r x.val)=up ej r:=by
 apply List.ext_getElem?;intro k;by_cases a:k < m
 ·rw[uc r k (by omega),DE,CV (by simpa using a)];simp
 ·rw[Fj (by simp;omega),Fj (by rw[gh];omega)]
theorem ud:∀(r:List (List Int)),dd r->dd (up ej r)
 | [],h=>h
 | [_],h=>h
 | a :: b :: r,h=>by
  have e:=ud r (fun d c=>h d (by simp[c]));intro d c;simp only[up,DA]at c;rcases c with rfl | c
  ·exact⟨jg _ _,rk _ _⟩
  ·exact e d c
theorem ue (r:List (List Int)) (h:r.length<=1048576):bZ (up ej r)=bZ r:=wg ej zD r.length r rfl (by omega)
def zO (ps:List (List Int)):List Int:=bZ (ps.map ij)
theorem aU.take {w:CP} {b c:Nat} {ps:List (List Int)} (h:aU w (.slice (some ⟨b,o,none⟩) n c) ps) (k:Nat) (z:k<=ps.length):aU w (.slice (some ⟨b,o,none⟩) k c) (ps.take k):=by
 obtain⟨vs,u,r,t⟩:=h;have s:(ps.take k).length=k:=by rw[Da];omega
 refine⟨vs.take k,?_,by rw[Da,Da,r],fun j y=> ?_⟩
 ·rw[s];rcases u with ⟨⟨p,h1⟩,h2,e⟩ | ⟨v,A,x,h1,h2,e,q⟩
  ·injection h1 with a g d;obtain rfl:k=0:=by omega
   refine .inl ⟨⟨_,by rw[d]⟩,rfl,by simp⟩
  ·injection h1 with a g d;injection a with a;injection a with i m;subst i m d;exact .inr ⟨_,_,_,rfl,by omega,e,dM q k⟩
 ·have f:j < k:=by omega
  have:=t j (by omega);rw[CR,DL,if_pos f,<-CR,CR (l:=ps.take k),DL,if_pos f,<-CR];exact this
theorem aU.drop {w:CP} {b c:Nat} {ps:List (List Int)} (h:aU w (.slice (some ⟨b,o,none⟩) n c) ps) (k:Nat) (x:k < ps.length):aU w (.slice (some ⟨b,o+k,none⟩) (n - k) (c - k)) (ps.drop k):=by
 obtain⟨vs,t,r,s⟩:=h;refine⟨vs.drop k,?_,by rw[C6,C6,r],fun j q=> ?_⟩
 ·rcases t with ⟨⟨p,h1⟩,h2,i⟩ | ⟨u,y,v,h1,h2,i,m⟩
  ·omega
  ·injection h1 with a d e;injection a with a;injection a with f g;subst f g e d;refine .inr ⟨_,_,_,by rw[C6],by rw[C6];omega,by omega,cU m k⟩
 ·rw[C6]at q;have:=s (k+j) (by omega);rw[CR,Es,<-CR,CR (l:=ps.drop k),Es,<-CR];exact this
def zP (ps:List (List Int)) (most:Nat):Bool:= !(decide (ps.length<=most)&&ps.all fun p=>decide (p.length<=200))
theorem iC (ps:List (List Int)) (k:Nat) (h:k < ps.length):ps.take (k+1)=ps.take k++[ps.getD k []]:=by
 rw[CR,CV h,Ee h];rfl
section
variable {P:Ds}
theorem mh {w:CP} {t ty e:Dn} {v z:CQ} {base size bytes n m c b o:Nat} {xs news:List CQ}
  (f:kv P t e z size bytes) (J:Pk w base size v n xs) (I:w.rangeAt b o news) (s:news.length=m*size) (h1:∀u∈news,u.oneCell'=true) (_:0 < m)
  (hlen:n+m<=Dc) (E:(n+m)*bytes<=140737488355328) (D:base<=w.heap.size):
  ∃l w',(Builtin.append_ #[t,t] ty #[v,.slice (some ⟨b,o,none⟩) m c]).run P w=.ok l w'/\Pk w' base size l (n+m) (xs++news)/\w.grownBy w' v.ownBlock/\(∀k,l.ownBlock=some k->v.ownBlock=some k\/w.heap.size<=k):=by
 obtain⟨i,y,F,A,C⟩:=info_parts f.info;have x:∀j u,news[j]? =some u->w.cell? ((⟨b,o,none⟩:Addr).add j)=some u:=fun j u a=>by rw[EH];exact I j u a
 rcases J with ⟨rfl,rfl,rfl⟩ | ⟨g,cap,rfl,G,hp⟩
 ·obtain⟨l,w',r,h2,h,_⟩:=run_append_own (P:=P) w w.heap.size t ty e i z size bytes f.ht y F A C f.hz f.pos (.slice none 0 0) 0 [] (ES w _ e size) ⟨b,o,none⟩ m c news s x h1 hlen E (CU _);exact⟨l,w',r,Pk.AS (dX h2 D),h,fun k d=>.inr (h2.lt k d).1⟩
 ·have M:=hp.len;by_cases r:n+m<=cap
  ·have K:(n+m)*size<=cap*size:=EK _ r;rw[Nat.add_mul]at K;have B:w.there g (0+n*size) news.length:=fun j a=>by have:=hp.th (n*size+j) (by omega);rw[<-Fm]at this;exact this
   have p:=aA news g (0+n*size) w (CT 0 w) (Nat.zero_le _);subst A;refine⟨_,_,run_append_room_cells (P:=P) w t ty e i f.ht y g 0 n cap ⟨b,o,none⟩ m c news s x h1 r (fun j a=>(B j a).1) (fun j a=>(B j a).2),.inr ⟨g,cap,rfl,G,r,hp.mx,by rw[C7,hp.len,s,Nat.add_mul],?_,Fs hp.th _ _ _,Dd hp.lt p.size⟩,⟨p.os,p.tape,p.output,p.size,fun k d H=>World.heap_setCells_other w g _ news d (fun q=>H (by rw[q];rfl))⟩,fun k d=>.inl d⟩;intro j u hu;by_cases a:j < xs.length
   ·rw[D4 a]at hu;exact World.rangeAt_setCells_apart hp.rg g (0+n*i.size) news (.inr (.inl (by rw[hp.len];omega))) j u hu
   ·rw[FB (by omega)]at hu;have:=Dr w g (0+n*i.size) news B (j - xs.length) u hu;rw[show 0+n*i.size+(j - xs.length)=0+j by omega]at this;exact this
  ·obtain⟨l,w',L,h2,h⟩:=run_append_arg_grows (P:=P) w t ty e i z size bytes f.ht y F A C f.hz f.pos ⟨g,0,none⟩ n cap xs hp.len (fun j u a=>by rw[EH];exact hp.rg j u a) ⟨b,o,none⟩ m c news s x (by omega) hlen E;exact⟨l,w',L,Pk.AS (dX h2 D),⟨h.os,h.tape,h.output,h.size,fun k d _=>h.block k d (by simp)⟩,fun k d=>.inr (h2.lt k d).1⟩
theorem eY {R:CP->CP->Prop} {f:Nat->CQ} {w:CP} {φ :CQ->CP->Prop} {d:Option Tmp} {h t e:Dn} {pp:String} {i:Array Edge} {g:Option (Nat × Bool)} {s x:Operand} {v z:CQ} {base size bytes n m c b o:Nat} {xs news:List CQ}
  (p:kv P t e z size bytes) (B:Pk w base size v n xs) (A:w.rangeAt b o news) (y:news.length=m*size) (h1:∀u∈news,u.oneCell'=true) (hm:0 < m)
  (hlen:n+m<=Dc) (r:(n+m)*bytes<=140737488355328) (q:base<=w.heap.size)
  (D:bh f s=v) (hx:bh f x=.slice (some ⟨b,o,none⟩) m c)
  (E:∀a w',Pk w' base size a (n+m) (xs++news)->w.grownBy w' v.ownBlock->(∀k,a.ownBlock=some k->v.ownBlock=some k\/w.heap.size<=k)->R w w'/\ φ a w'):
  eo R P w φ ((execOp (bh f) ⟨d,.call {callee:=.builtin .append,args:=#[s,x],argTypes:=#[t,t]},h,pp,i,g⟩).run P w):=by
 obtain⟨a,w',C,h2,j,l⟩:=mh (P:=P) (ty:=h) (t:=t) p B A y h1 hm hlen r q (c:=c);simp[execOp,resolve,invoke,builtin,D,hx,C,Result.andThen];exact E a w' h2 j l
end
structure JA (ia ib ta tb B b D:Nat) (X:CQ) (n k:Nat) (xs:List CQ) (dg:List Int) (w0:CP) (d:Nat->Bool) (u:Nat->CQ) (w:CP):Prop where
 c0:w.cell? ⟨b,0,none⟩=some (.int .i64 n)
 c1:w.cell? ⟨b,1,none⟩=some X
 f0:w.frozen? ⟨b,0,none⟩=false
 f1:w.frozen? ⟨b,1,none⟩=false
 box:mg w D dg
 ne:X.ownBlock≠some b
 nd:X.ownBlock≠some D
 hb:B<=b
 hX:∀j,X.ownBlock=some j->B<=j
 ad:yO w0 w b X.ownBlock
 le:B<=w0.heap.size
 pk:d ia=false->Pk w 0 32 X k xs
 bl:d ib=true->d ia=false->∃g,u tb=.slice (some ⟨g,0,none⟩) 1 1/\w.rangeAt g 0 (aj .u8 dg)
 nw:d ia=true->Pk w 0 32 (u ta) (k+1) (xs++aj .u8 dg)/\(∀j,(u ta).ownBlock=some j->X.ownBlock=some j\/w0.heap.size<=j)
section
variable {ia ib ta tb B b D:Nat} {X:CQ} {n k:Nat} {xs:List CQ} {dg:List Int} {w0:CP} {d:Nat->Bool} {u:Nat->CQ} {w:CP}
end
theorem HJ.get {A B:CP->Prop} {u:Nat->CQ} {w:CP} (h:HJ p A B d u w) (q:d p=false):A w:=h.2 q
theorem HJ.B5 {A B:CP->Prop} {u:Nat->CQ} {w:CP} (h:HJ p A B d u w) (q:d p=true):B w:=h.1 q
structure A4 (w:CP) (A B:Nat) (x y:List Int):Prop where
 a:mg w A x
 b:mg w B y
 ne:A≠B
structure Au (iA iB iS tA tB base:Nat) (x:List Int) (d:Nat->Bool) (u:Nat->CQ) (w:CP):Prop where
 a:d iA=true->∃X,u tA=.pointer (some ⟨X,0,none⟩)/\base<=X/\(d iS=false->mg w X tU)/\(d iS=true->mg w X x)
 b:d iB=true->∃Y,u tB=.pointer (some ⟨Y,0,none⟩)/\base<=Y/\mg w Y tU
 ne:d iA=true->d iB=true->u tA≠u tB
 le:base<=w.heap.size
section
variable {iA iB iS tA tB base:Nat} {x:List Int} {d:Nat->Bool} {u:Nat->CQ} {w:CP}
end
def zo (ds:List (List Int)):List (List Int):=yI ej zD ds
def zp (ds:List (List Int)) (m:Nat) (w:Bool):List (List Int):=An ej zD ds m w
def yV (m n:Nat) (old:List Int) (w:Bool) (p:List (List Int)):List Int × List Int:=yN ej zD m n old w p
def uf (m n:Int):Bool:=decide (1<=m)&&decide (m<=n)&&decide (n<=512)
def Av (m n:Int):Int:=if uf m n=true then(yL m.toNat n.toNat true:Int)else -1
def zq (m n:Int) (old now:List Int) (p:List (List Int)):Nat:=
 if uf m n=true then(if p.length=yL m.toNat n.toNat true then(if yV m.toNat n.toNat old true p=(old,now)then 0 else 15)else 8)else 1
def yW:Nat->Nat->Nat->List Nat
 | 0,_,_=>[]
 | f+1,m,n=>if m < n then n :: yW f m (sp n)else []
def zr (m n:Nat):List Nat:=yW n m n
def Aw (m n:Nat):Prop:=∀k∈zr m n,m<=sp k
structure A5 (vs:List (Nat × Nat)) (base:Nat) (d:Nat->Bool) (u:Nat->CQ) (w:CP):Prop where
 al:∀p∈vs,d p.1=true->∃X,u p.2=.pointer (some ⟨X,0,none⟩)/\base<=X/\mg w X tU
 ne:∀p∈vs,∀q∈vs,p.1≠q.1->d p.1=true->d q.1=true->u p.2≠u q.2
 le:base<=w.heap.size
section
variable {vs:List (Nat × Nat)} {base:Nat} {d:Nat->Bool} {u:Nat->CQ} {w w':CP}
end
structure A6 (w:CP) (A B C:Nat) (x y z:List Int):Prop where
 a:mg w A x
 b:mg w B y
 c:mg w C z
 ab:A≠B
 ac:A≠C
 bc:B≠C
section
variable {F:Fence} {nf:Nat} {P:Ds} {ops:Array Oper} {rest:List Oper} {a:Act} {w w':CP} {Q:Exit->Act->CP->Prop} {d:Option Tmp} {tt ty:Dn} {pp:String} {af:Array Edge} {x y:Operand} {p v:CQ}
end
def zQ (Q:Nat->Prop) (n:Nat) (w w':CP):Prop:=w.heap.size<=w'.heap.size/\∀k,k < n->¬Q k->w'.heap[k]? =w.heap[k]?
section
open Go.Extern Go.Extern.Stop Go.Stop
def Ax:Array CQ->Sem CQ:=Extern.ReflectliteType.method fun t=>do Extern.Rtype.noPackHeld "Comparable" t;pure (.bool (<-typeInfo t).comparable)
end
section
open Go.ChangeAt Go.ChangeShapes Go.WideShapes
theorem ug {H:Type} {enc:Dn × CQ->H} {P:Ds} {f:Func} {s:ChangeSpec} {apart fresh handsOn again:Bool} {W a:CP} {args:Array CQ} {v:CQ} {ds gs:List (DataW H)} {before pa pv:List MemPlace}
  (h:au W a) (d:DataW.Whole enc P f.params.toList s.vars apart W args.toList ds gs before)
  (l:∀(b:Nat) (sp:Nat->Bool) (o:Bool),DataW.TrodAll enc P a b sp o f.resultTypes.toList (v.resultList f.resultTypes.size) (s.fn H (ds++gs)).results [])
  (g:∀sp:Nat->Bool,(∀p∈before,sp p.block=true)->DataW.TrodAll enc P a 0 sp true f.params.toList args.toList (s.fn H (ds++gs)).args pa)
  (m:∀sp:Nat->Bool,(∀p∈before,sp p.block=true)->DataW.TrodVars enc P a sp s.vars (s.fn H (ds++gs)).vars pv)
  (c:before=pa++pv)
  (w:∀(j:Nat) (t:Dn) (r:CQ),f.resultTypes[j]? =some t->(v.resultList f.resultTypes.size)[j]? =some r->Value.okWide P a .any 0 t r):
  s.post enc P f apart fresh handsOn again W args v a:=by
 have i:∀p∈before,p.block < W.heap.size:=fun p hp=>d.lt p hp
 have e:∀p∈before,decide (p.block < W.heap.size)=true:=fun p hp=>decide_eq_true (i p hp)
 have q:W.keptBut a (· ∈before):=h.frame _;have h1:=g (fun b=>decide (b < W.heap.size)) e;have h2:=m (fun b=>decide (b < W.heap.size)) e;refine⟨ds,gs,before,[],pa,pv,d,l _ _ _,h1,h2,World.keptBut_mono (fun p hp=>⟨hp,?_⟩) q,fun _=> ?_⟩
 ·rw[c]at hp;exact Or.inr (Dz.1 hp)
 ·obtain⟨_,_,_,_,_,x,u⟩:=d;have k:∀p,p∈([]++pa)++pv->p∈before:=fun p hp=>by rw[c];simpa using hp
  refine⟨w,_,_,([]++pa)++pv,⟨[]++pa,pv,trodAll_append (g _ (fun _ _=>rfl)) (l _ _ _),m _ (fun _ _=>rfl),rfl,fun b off hp=> ?_,fun n=> ?_⟩,fun p hp _=> ?_⟩
  ·rw[h.frozen (i _ (k _ hp))];exact x b off (k _ hp)
  ·have:=u n;rw[c]at this;simpa using this
  ·rw[c];simpa using hp
end
section
open Go.ChangeAt Go.ChangeShapes Go.WideShapes
theorem zt:ownKnob Tryz.prog.godebug=none:=by kernel_rfl
end
section
open Go.ChangeAt Go.ChangeShapes Go.Deep Go.WideShapes
theorem mD {w:CP} {A:Option Addr} {cs:List CQ} (h1:L<=C) (h2:C<=Dc) (g:cs.length=L) (d:A=none->C=0)
  (e:∀a,A=some a->(0 < C->a.spot=none)/\∀c v,cs[c]? =some v->w.cell? (a.add c)=some v):aX w (.slice A L C) L cs:=by
 by_cases hC:C=0
 ·subst hC;obtain rfl:L=0:=by omega
  exact .inl ⟨⟨A,rfl⟩,rfl,DI.1 g⟩
 ·cases A with
  | none=>exact absurd (d rfl) hC
  | some a=>obtain⟨b,o,s⟩:=a;obtain⟨h,f⟩:=e _ rfl;obtain rfl:s=none:=h (by omega);refine .inr ⟨b,o,C,rfl,h1,h2,fun j v i=> ?_⟩;have:=f j v i;rw[EH]at this;exact this
theorem rp {n:Int} (h:(Lit.int .u8 n).wf=true):0<=n/\n<=255:=by
 simpa[Lit.wf,IntKind.min,IntKind.max,IntKind.signed,IntKind.bits] using h
theorem uh {w:CP} {A:Option Addr} (h1:L<=C) (h2:C<=Dc) (i:Z.length=C) (h:A=none->C=0)
  (e:∀a,A=some a->∀c,c < C->w.cell? (a.add c)=some (.int .u8 (Z.getD c 0))):Bu w .u8 (.slice A L C) (Z.take L):=by
 have b:(Z.take L).length=L:=by rw[Da];omega
 show aX w (.slice A L C) (Z.take L).length _;rw[b];refine mD h1 h2 (by rw[ints_length,b]) h fun a f=>⟨fun hC=> ?_,fun c v d=> ?_⟩
 ·have:=World.cell?_spot (e a f 0 hC);simpa[Addr.add] using this
 ·have g:c < L:=by have:=(Dt.1 d).1;rw[ints_length,b]at this;exact this
  rw[cJ _ _ _ (by rw[b];exact g)]at d;cases d;rw[e a f c (by omega)];simp[CR,g]
section
variable {H:Type} {enc:Dn × CQ->H} {P:Ds} {w:CP} {base:Nat}
end
theorem jI {H:Type} {enc:Dn × CQ->H} {P:Ds} {W b:CP} (e:laidOutB P=true) (c:au W b) {sp:Nat->Bool}:
  ∀(a:List Dn) {vs:List CQ} {ds:List (DataW H)} {ps:List MemPlace},DataW.TrodAll enc P W 0 (fun _=>true) true a vs ds ps->(∀t∈a,P.readableRec t=true/\t < P.types.size)->(∀x∈ps,x.block < W.heap.size)->(∀x∈ps,sp x.block=true)->DataW.TrodAll enc P b 0 sp true a vs ds ps
 | [],vs,ds,ps,h,_,_,_=>by
  obtain⟨rfl,rfl,rfl⟩:=trodAll_nil h;rfl
 | t :: a,vs,ds,ps,h,hr,hlt,hsp=>by
  obtain⟨v,g,d,f,p,q,rfl,rfl,rfl,h0,h1⟩:=trodAll_cons h;exact trodAll_cons_mk (WideElems.Trod_stays e (hr t (by simp)).1 (hr t (by simp)).2 h0 (fun x hx=>Below.same c (hlt x (by simp[hx]))) (fun x hx=>hsp x (by simp[hx])))
   (jI e c a h1 (fun u hu=>hr u (by simp[hu])) (fun x hx=>hlt x (by simp[hx])) (fun x hx=>hsp x (by simp[hx])))
theorem ui {H:Type} {enc:Dn × CQ->H} {P:Ds} {f:Func} {s:ChangeSpec} {apart fresh handsOn again:Bool} {W d:CP} {args:Array CQ} {ds gs:List (DataW H)} {before:List MemPlace} {l:Dn}
  (r:laidOutB P=true) (v:∀t∈f.params.toList,P.readableRec t=true/\t < P.types.size) (h:f.resultTypes=#[l]) (j:P.underlying l=some .bool) (k:s.vars=[])
  (g:au W d) (a:DataW.Whole enc P f.params.toList s.vars apart W args.toList ds gs before) (o:s.fn H ds= {results:=[.lit (.bool true)],args:=ds}):s.post enc P f apart fresh handsOn again W args (.bool true) d:=by
 have n:=a;have u:∀p∈before,p.block < W.heap.size:=fun p hp=>a.lt p hp
 obtain⟨p,q,m,e,rfl,y,z⟩:=a;rw[k]at e;obtain⟨rfl,rfl⟩:=trodVars_none e;have c:s.fn H (ds++[])= {results:=[.lit (.bool true)],args:=ds}:=by rw[List.append_nil];exact o
 refine ug (pa:=p) (pv:=[]) g n (fun b sp w=> ?_) (fun sp i=> ?_) (fun sp i=> ?_) rfl ?_
 ·rw[c,h];exact trodAll_cons_mk (shut_bool j _) trodAll_mk0
 ·rw[c];exact jI r g _ m v (fun x hx=>u x (by simp[hx])) (fun x hx=>i x (by simp[hx]))
 ·rw[c,k];rfl
 ·exact ok_one h rfl (okWide_bool_mk j _)
theorem iN {P:Ds} {L:List (String × DataW Unit)} {w:CP} {name:String} {k:IntKind} {a:List Int} {t e:Dn} (h:laidMetH P L w)
  (f:(L.filter fun x=>x.1==name)=[(name,Lib.tabData k a)]) (b:P.globalNamed name=some g) (m:(P.globals[g]?).map (·.type)=some t) (l:P.underlying t=some (.array n e)) (he:P.underlying e=some (.int k)) (c:P.cellsOf e=1) (d:P.cellsOf t=n):
  ∀i,i < a.length->w.cell? ⟨g,i,none⟩=some (.int k (a.getD i 0)):=by
 have h1:=h.filter (fun x=>x.1==name);rw[f,MakeChecks.laidMetH_plain _ _ _ rfl]at h1;exact fun i j=>(Lib.tabIs_of_head b m l he c d h1).cell b i j
end
section
open Go.ChangeAt Go.ChangeShapes Go.Deep Go.WideShapes
section
variable {H:Type} {enc:Dn × CQ->H} {P:Ds} {w:CP} {base:Nat}
theorem rT {sp:Nat->Bool} {held:Bool} {e:Dn} (he:P.underlying e=some (.int .u8)) {m:Nat} {c:CQ} {y:DataW H × List MemPlace} (h:Fk enc P w base sp held m e [c]=some y):∃z,c=.int .u8 z/\0<=z/\z<=255:=by
 cases m with
 | zero=>simp[Fk]at h
 | succ m=>
  unfold Fk at h;rw[he]at h;cases c<;>simp at h
  rename_i k z;obtain⟨⟨rfl,hw⟩,_⟩:=h;exact⟨z,rfl,rp hw⟩
end
end
section
open Go.ChangeAt Go.ChangeShapes Go.Deep Go.WideShapes
theorem pP {w:CP} {A:Option Addr} (h1:L<=C) (h2:C<=Dc) (i:Z.length=C) (h:A=none->C=0)
  (e:∀a,A=some a->∀c,c < C->w.cell? (a.add c)=some (.int .i64 (Z.getD c 0))):Bu w .i64 (.slice A L C) (Z.take L):=by
 have b:(Z.take L).length=L:=by rw[Da];omega
 show aX w (.slice A L C) (Z.take L).length _;rw[b];refine mD h1 h2 (by rw[ints_length,b]) h fun a f=>⟨fun hC=> ?_,fun c v d=> ?_⟩
 ·have:=World.cell?_spot (e a f 0 hC);simpa[Addr.add] using this
 ·have g:c < L:=by have:=(Dt.1 d).1;rw[ints_length,b]at this;exact this
  rw[cJ _ _ _ (by rw[b];exact g)]at d;cases d;rw[e a f c (by omega)];simp[CR,g]
section
variable {H:Type} {enc:Dn × CQ->H} {P:Ds} {w:CP} {base:Nat}
end
end
section
open Go.ChangeAt Go.ChangeShapes Go.Deep Go.WideShapes
theorem mZ {w:CP} {L:List (List Int)} (h:∀i,i < L.length->w.rangeAt g (o+i*32) (aj .u8 (L.getD i []))) (b:dd L):w.rangeAt g o (aO L):=fun j v c=>by
 have f:j < L.length*32:=by have:=(Dt.1 c).1;rwa[bT b]at this
 have a:j / 32 < L.length:=by omega
 have e:(aO L)[j]? =(aj .u8 (L.getD (j / 32) []))[j % 32]? :=by
  have h2:(aO L).drop (j / 32*32)=aO (L.drop (j / 32)):=fH b _;have d:(aO L)[j]? =((aO L).drop (j / 32*32))[j % 32]? :=by rw[Es];congr 1;omega
  rw[d,h2,EL a];show(aj .u8 L[j / 32]++aO _)[j % 32]? =_;rw[D4 (by rw[ints_length,(b _ (DW a)).1];omega),CR,CV a];rfl
 rw[e]at c;have:=h (j / 32) a (j % 32) v c;rw[show o+j / 32*32+j % 32=o+j from by omega]at this;exact this
theorem iO {α :Type} (d: α) (R:Nat-> α ->Prop):∀n,(∀i,i < n->∃x,R i x)->∃l:List α,l.length=n/\∀i,i < n->R i (l.getD i d)
 | 0,_=>⟨[],rfl,fun i a=>absurd a (Nat.not_lt_zero _)⟩
 | n+1,h=>by
  obtain⟨l,b,c⟩:=iO d R n (fun i a=>h i (by omega));obtain⟨x,hx⟩:=h n (by omega);refine⟨l++[x],by simp[b],fun i a=> ?_⟩;by_cases e:i < n
  ·rw[CR,D4 (by omega),<-CR];exact c i e
  ·obtain rfl:i=n:=by omega
   rw[CR,FB (by omega)];simp only[b,Nat.sub_self,List.getElem?_cons_zero,Option.getD_some];exact hx
section
variable {H:Type} {enc:Dn × CQ->H} {P:Ds} {w:CP} {n:Nat} {t:Dn} {cs:List CQ} {y:DataW H × List MemPlace}
theorem lB {e:Dn} (k:P.underlying t=some (.slice e)) (he:P.underlying e=some (.int .u8)) (d:P.cellsOf e=1) (h:Fk enc P w 0 (fun _=>true) true n t cs=some y):∃v l,cs=[v]/\Bu w .u8 v l/\bI l:=by
 rcases open_ints k he d h with ⟨b,_⟩ | ⟨a,len,cap,m,b,_,j,hm,f,_,i,hw⟩
 ·exact⟨_,[],b,Bu.nil _ _,bI.nil⟩
 ·simp only[if_true]at f;exact⟨_,m.take len,b,uh j hm f (fun q=>by cases q) (fun o g c d=>by cases g;exact i c (by omega)),fun x hx=>rp (hw x (En hx))⟩
theorem xL {e:Dn} {m:Nat} (q:P.underlying t=some (.array m e)) (he:P.underlying e=some (.int .u8)) (f:P.cellsOf e=1) (g:P.cellsOf t=m) (h:Fk enc P w 0 (fun _=>true) true n t cs=some y):∃l,cs=aj .u8 l/\l.length=m/\bI l:=by
 obtain⟨xs,k,_,_,o,s,j⟩:=DataW.trod_array q h;rw[g]at o
 obtain⟨l,p,b⟩:=iO (0:Int) (fun i z=>cs[i]? =some (.int .u8 z)/\0<=z/\z<=255) m (fun i a=>by
  have h1:=j i a;rw[f,Nat.mul_one,CV (by omega)]at h1;have h2:(cs.drop i).take 1=[cs[i]'(by omega)]:=by rw[EL (by omega)];rfl
  rw[h2]at h1;obtain⟨z,r,c,d⟩:=rT he h1
  exact⟨z,by rw[CV (by omega),r],c,d⟩)
 refine⟨l,?_,p,fun x hx=> ?_⟩
 ·apply List.ext_getElem?;intro i;by_cases a:i < m
  ·rw[(b i a).1,cJ .u8 l i (by omega)]
  ·rw[Fj (by omega),Fj (by rw[ints_length];omega)]
 ·obtain⟨i,a,rfl⟩:=Ev hx;have:=(b i (by omega)).2;rwa[CR,CV a]at this
theorem jJ {e:Dn} {s:Nat} (H:P.underlying t=some (.slice e)) (r:P.cellsOf e=s) (F:0 < s) (h:Fk enc P w 0 (fun _=>true) true n t cs=some y):
  ∃v m,cs=[v]/\((∃p,v=.slice p 0 0/\m=0)\/∃b o c,v=.slice (some ⟨b,o,none⟩) m c/\m<=c/\c<=Dc)/\
   ∀b o,(∃c,v=.slice (some ⟨b,o,none⟩) m c/\0 < c)->∀i,i < m->∃cs' k J,cs'.length=s/\w.rangeAt b (o+i*s) cs'/\Fk enc P w 0 (fun _=>true) true k e cs'=some J:=by
 rcases open_slice H h with ⟨l,_⟩ | ⟨a,len,cap,m,k,D,Pl,l,_,C,hm,z,_,u⟩
 ·exact⟨_,0,l,.inl ⟨none,rfl,rfl⟩,fun b o ⟨c,d,_⟩=>by cases d⟩
 ·simp only[if_true]at z;subst z;by_cases hC:m=0
  ·subst hC;obtain rfl:len=0:=by omega
   exact⟨_,0,l,.inl ⟨some a,rfl,rfl⟩,fun b o ⟨c,d,h0⟩=>by injection d with _ _ d;omega⟩
  ·obtain⟨b,o,sp⟩:=a;have G:sp=none:=by obtain⟨cs',q,_⟩:=u 0 (by omega);obtain⟨_,g,f⟩:=World.cells?_some q;rw[r]at g f;have:=f 0 F;rw[CV (by omega)]at this;have:=World.cell?_spot this;simpa[Addr.add] using this
   subst G;refine⟨_,len,l,.inr ⟨b,o,m,rfl,C,hm⟩,fun K M ⟨c,d,_⟩ i L=> ?_⟩;injection d with d _ _;injection d with d;injection d with A E;subst A E;obtain⟨cs',q,I⟩:=u i (by omega);obtain⟨_,g,f⟩:=World.cells?_some q;rw[r]at g f;refine⟨cs',k,_,g,fun j v x=> ?_,I⟩;have B:j < s:=by have:=(Dt.1 x).1;omega
   have:=f j B;rw[x,EH,EH]at this;exact this
theorem wB {e q:Dn} (G:P.underlying t=some (.slice e)) (he:P.underlying e=some (.array 32 q)) (F:P.underlying q=some (.int .u8)) (z:P.cellsOf q=1) (ce:P.cellsOf e=32) (h:Fk enc P w 0 (fun _=>true) true n t cs=some y):∃v ds,cs=[v]/\et w v ds/\dd ds:=by
 obtain⟨v,m,g,H,D⟩:=jJ G ce (by decide) h;rcases H with ⟨p,rfl,rfl⟩ | ⟨b,o,c,rfl,r,s⟩
 ·exact⟨_,[],g,.inl ⟨⟨p,rfl⟩,rfl,rfl⟩,dd.nil⟩
 ·by_cases h0:m=0
  ·subst h0;refine⟨_,[],g,.inr ⟨b,o,c,rfl,r,s,fun j v E=>by simp[aO]at E⟩,dd.nil⟩
  ·obtain⟨ds,u,x⟩:=iO ([]:List Int) (fun i d=>w.rangeAt b (o+i*32) (aj .u8 d)/\d.length=32/\bI d) m (fun i f=>by
    obtain⟨cs',k,I,_,h2,A⟩:=D b o ⟨c,rfl,by omega⟩ i f;obtain⟨l,rfl,B,C⟩:=xL he F z ce A
    exact⟨l,h2,B,C⟩)
   have a:dd ds:=fun d a=>by obtain⟨i,f,rfl⟩:=Ev a;have:=(x i (by omega)).2;rwa[CR,CV f]at this
   refine⟨_,ds,g,.inr ⟨b,o,c,by rw[u],by rw[u];exact r,s,mZ (fun i f=>(x i (by omega)).1) a⟩,a⟩
theorem kc {a:Array Field} (e:P.underlying t=some (.struct a)) (h:Fk enc P w 0 (fun _=>true) true n t cs=some y):
  cs.length=P.cellsOf t/\∃k,∀(i:Nat) (f:Field),a[i]? =some f->∃z,Fk enc P w 0 (fun _=>true) true k f.type ((cs.drop f.offset).take (P.cellsOf f.type))=some z:=by
 obtain⟨xs,k,_,_,d,g,c⟩:=DataW.trod_struct e h;refine⟨d,k,fun i f b=> ?_⟩;have:=c i f b;rw[CV (by rw[g];exact(DQ.1 b).1)]at this;exact⟨_,this⟩
end
end
section
open Go.ChangeAt Go.ChangeShapes Go.Deep Go.WideShapes
theorem wC:laidOutB Tryz.prog=true:=by kernel_rfl
end
section
variable {α :Type} {f: α ->List CQ} {s:Nat}
def aD (f: α ->List CQ) (L:List α):List CQ:=L.flatMap f
theorem dB (a b:List α):aD f (a++b)=aD f a++aD f b:=by simp[aD]
theorem gL (x: α):aD f [x]=f x:=by simp[aD]
theorem dc (x: α) (r:List α):aD f (x :: r)=f x++aD f r:=by simp[aD]
theorem bu:∀ {L:List α},(∀x∈L,(f x).length=s)->(aD f L).length=L.length*s
 | [],_=>by simp[aD]
 | x :: r,h=>by
  have h1:=h x (by simp);have h2:=bu (L:=r) (fun y hy=>h y (List.mem_cons_of_mem _ hy));rw[dc,C7,h1,h2,DB,Nat.add_mul];omega
theorem kD {L:List α} (h:∀x∈L,∀c∈f x,c.oneCell'=true):∀c∈aD f L,c.oneCell'=true:=fun c a=>by
 obtain⟨x,hx,b⟩:=List.mem_flatMap.1 a;exact h x hx c b
theorem iD {L:List α} (h:∀x∈L,(f x).length=s) (k:Nat):(aD f L).drop (k*s)=aD f (L.drop k):=by
 by_cases a:k<=L.length
 ·have e:L=L.take k++L.drop k:=(D5 k L).symm;conv=>lhs;rw[e,dB]
  exact List.drop_left' (by rw[bu (s:=s) (fun x hx=>h x (En hx)),Da,E1 a])
 ·rw[Fc (by rw[bu h];exact EK _ (by omega)),Fc (by omega)];rfl
theorem oa {L:List α} (h:∀x∈L,(f x).length=s) (k:Nat):(aD f L).take (k*s)=aD f (L.take k):=by
 by_cases a:k<=L.length
 ·have e:L=L.take k++L.drop k:=(D5 k L).symm;conv=>lhs;rw[e,dB]
  exact GA (by rw[bu (s:=s) (fun x hx=>h x (En hx)),Da,E1 a])
 ·rw[CX (by rw[bu h];exact EK _ (by omega)),CX (by omega)]
theorem aJ {L:List α} (d: α) {i:Nat} (a:i < L.length):L.getD i d∈L:=by
 rw[CR,CV a];exact DW a
theorem na {w:CP} {b o:Nat} {L:List α} (d: α) (h:w.rangeAt b o (aD f L)) (c:∀x∈L,(f x).length=s) {i:Nat} (a:i < L.length):w.rangeAt b (o+i*s) (f (L.getD i d)):=by
 have h1:=cU h (i*s);rw[iD c,EL a,dc]at h1;have h2:=dM h1 s;rw[GA (c _ (DW a))]at h2;rw[CR,CV a];exact h2
theorem jK {w:CP} {g o:Nat} {L:List α} (d: α) (l:0 < s) (b:∀x∈L,(f x).length=s) (h:∀i,i < L.length->w.rangeAt g (o+i*s) (f (L.getD i d))):w.rangeAt g o (aD f L):=fun j v c=>by
 have n:j < L.length*s:=by have:=(Dt.1 c).1;rwa[bu b]at this
 have a:j / s < L.length:=(Nat.div_lt_iff_lt_mul l).2 n;have k:j / s*s+j % s=j:=by rw[Nat.mul_comm];exact Nat.div_add_mod j s
 have e:(aD f L)[j]? =(f (L.getD (j / s) d))[j % s]? :=by
  have h2:(aD f L).drop (j / s*s)=aD f (L.drop (j / s)):=iD b _;have m:(aD f L)[j]? =((aD f L).drop (j / s*s))[j % s]? :=by rw[Es,k]
  rw[m,h2,EL a,dc,D4 (by rw[b _ (DW a)];exact Nat.mod_lt _ l),CR,CV a];rfl
 rw[e]at c;have:=h (j / s) a (j % s) v c;rw[Fm,k]at this;exact this
end
theorem aX.pos {w:CP} {v:CQ} {cs:List CQ} (h:aX w v n cs) (f:0 < n) (e:cs≠[]):∃b o c,v=.slice (some ⟨b,o,none⟩) n c/\n<=c/\c<=Dc/\b < w.heap.size/\w.rangeAt b o cs:=by
 rcases h with ⟨_,h,_⟩ | ⟨b,o,c,h1,h2,d,a⟩
 ·omega
 ·exact⟨b,o,c,h1,h2,d,bK a e,a⟩
structure aw (w:CP) (X:Nat) (cs:List CQ):Prop where
 rg:w.rangeAt X 0 cs
 th:w.there X 0 cs.length
 ne:cs≠[]
section
variable {w w':CP} {X:Nat} {cs:List CQ}
theorem aw.lt (h:aw w X cs):X < w.heap.size:=bK h.rg h.ne
theorem aw.same (h:aw w X cs) (a:w'.heap[X]? =w.heap[X]?):aw w' X cs:=
 ⟨fun j v b=>by rw[Dp (w:=w) a];exact h.rg j v b,fun j b=>by rw[Dp (w:=w) a,World.frozen?_of_block (w:=w) a];exact h.th j b,h.ne⟩
theorem aw.ext (h:aw w X cs) (a:au w w'):aw w' X cs:=h.same (a.block X h.lt)
theorem aw.grown {row:Option Nat} (h:aw w X cs) (a:w.grownBy w' row) (b:row≠some X):aw w' X cs:=h.same (a.block X h.lt (fun q=>b q.symm))
theorem aw.cell (h:aw w X cs) {i:Nat} {v:CQ} (a:cs[i]? =some v):w.cell? ⟨X,i,none⟩=some v:=by
 have:=h.rg i v a;rwa[Dq]at this
theorem aw.loadVar {P:Ds} (h:aw w X cs) {ty:Dn} {d:TypeDesc} (hu:P.underlying ty=some d) (a:d.isRow=true) (b:(P.info? ty).map (·.size)=some cs.length):(loadVar ty ⟨X,0,none⟩).run P w=.ok (.agg cs.toArray) w:=
 run_loadVar_mid (P:=P) w X 0 ty cs d h.rg hu a b
theorem aw.load {P:Ds} (h:aw w X cs) {ty:Dn} {d:TypeDesc} (hu:P.underlying ty=some d) (a:d.isRow=true) (b:(P.info? ty).map (·.size)=some cs.length):(Instr.loadAt ty (.pointer (some ⟨X,0,none⟩))).run P w=.ok (.agg cs.toArray) w:=
 run_loadAt_mid (P:=P) w X 0 ty cs d h.rg hu a b
theorem aw.box (w:CP) (e:Dn) (b:cs≠[]):aw (w.alloc (.cells cs.toArray e)) w.heap.size cs:=
 ⟨fun j v a=>by rw[Dq,Df];simpa using a,iL w cs.toArray e _ (by simp),b⟩
theorem aw.store {P:Ds} {cs':List CQ} (h:aw w X cs) (b:cs'.length=cs.length) (h1:∀c∈cs',c.oneCell'=true) {ty:Dn} (a:(P.info? ty).map (·.size)=some cs'.length):
  (Fo ty (.pointer (some ⟨X,0,none⟩)) (.agg cs'.toArray)).run P w=.ok () (w.setCells X 0 cs'):=by
 have h2:=run_storeAt_mid (P:=P) w X 0 ty cs'.toArray (by simpa[b] using h.th) (by simpa using a) (Gu h1);simpa using h2
theorem aw.set {cs':List CQ} (h:aw w X cs) (a:cs'.length=cs.length):aw (w.setCells X 0 cs') X cs':=
 ⟨Dr w X 0 cs' (by rw[a];exact h.th),by rw[a];exact Fs h.th _ _ _,fun q=>h.ne (DI.1 (by rw[<-a,q];rfl))⟩
theorem aw.fresh (w:CP) (e:Dn) (z:Array CQ) (c:z.size=cs.length) (b:cs≠[]):aw ((w.alloc (.cells z e)).setCells w.heap.size 0 cs) w.heap.size cs/\au w ((w.alloc (.cells z e)).setCells w.heap.size 0 cs):=by
 have a:=iL w z e cs.length c;exact⟨⟨Dr _ _ _ cs a,Fs a _ _ _,b⟩,aA _ _ _ _ (ae _ _) (CU _)⟩
theorem aH {P:Ds} (w:CP) (e:Dn) (z:Array CQ) (b:z.size=cs.length) (h1:∀c∈cs,c.oneCell'=true) {ty:Dn} (a:(P.info? ty).map (·.size)=some cs.length):
  (Fo ty (.pointer (some ⟨w.heap.size,0,none⟩)) (.agg cs.toArray)).run P (w.alloc (.cells z e))=.ok () ((w.alloc (.cells z e)).setCells w.heap.size 0 cs):=by
 have h2:=run_storeAt_mid (P:=P) (w.alloc (.cells z e)) w.heap.size 0 ty cs.toArray (by simpa using iL w z e cs.length b) (by simpa using a) (Gu h1);simpa using h2
end
structure JN (ia ib ta tb s B b f D:Nat) (X:CQ) (k:Nat) (xs nc:List CQ) (w0:CP) (d:Nat->Bool) (u:Nat->CQ) (w:CP):Prop where
 c:w.cell? ⟨b,f,none⟩=some X
 fr:w.frozen? ⟨b,f,none⟩=false
 box:aw w D nc
 ne:X.ownBlock≠some b
 nd:X.ownBlock≠some D
 hb:B<=b
 hX:∀j,X.ownBlock=some j->B<=j
 ad:yO w0 w b X.ownBlock
 le:B<=w0.heap.size
 pk:d ia=false->Pk w 0 s X k xs
 bl:d ib=true->d ia=false->∃g,u tb=.slice (some ⟨g,0,none⟩) 1 1/\w.rangeAt g 0 nc
 nw:d ia=true->Pk w 0 s (u ta) (k+1) (xs++nc)/\(∀j,(u ta).ownBlock=some j->X.ownBlock=some j\/w0.heap.size<=j)
section
variable {ia ib ta tb s B b f D:Nat} {X:CQ} {k:Nat} {xs nc:List CQ} {w0:CP} {d:Nat->Bool} {u:Nat->CQ} {w:CP}
end
section
variable {P:Ds} {Q:Exit->Act->CP->Prop} {ops:Array Oper} {rest:List Oper} {a:Act} {w:CP} {d:Option Tmp} {tt ty:Dn} {pp:String} {af:Array Edge}
end
abbrev Nt:=Nat × List Int
def cN (x:Nt):List CQ:=.int .i64 (x.1:Int) :: aj .u8 x.2
def zR (N:List Nt):Prop:=∀x∈N,x.2.length=32/\bI x.2
abbrev A7 (w:CP) (v:CQ) (N:List Nt):Prop:=aX w v N.length (aD cN N)
abbrev n0:Nt:=(0,tU)
structure Di (w:CP) (b:Nat) (v:CQ) (N:List Nt):Prop where
 c0:w.cell? ⟨b,0,none⟩=some v
 f0:w.frozen? ⟨b,0,none⟩=false
 pk:Pk w 0 33 v N.length (aD cN N)
 CN:zR N
 ne:v.ownBlock≠some b
section
variable {w w':CP} {b:Nat} {v:CQ} {N:List Nt}
end
structure Dm (w:CP) (b:Nat) (v:CQ) (N:List Nt):Prop where
 c0:w.cell? ⟨b,0,none⟩=some v
 f0:w.frozen? ⟨b,0,none⟩=false
 rd:ld w b v N.length (aD cN N)
 CN:zR N
section
variable {w w':CP} {b:Nat} {v:CQ} {N:List Nt}
end
def rq (N:List Nt):Nt:=N.getD (N.length - 1) n0
def yX (N:List Nt) (size:Int) (root:List Int) (p:List (List Int)):Nat:=
 if size < 1\/512 < size then 1 else if N.length=0 then(if p.length=0 then 0 else 8)else if size < ((rq N).1:Int)then 19 else zq (rq N).1 size (rq N).2 root p
def zS (N:List Nt) (size:Int) (root:List Int) (p:List (List Int)):List Nt:=
 if yX N size root p=0/\((rq N).1:Int) < size then N++[(size.toNat,root)]else N
structure A8 (N:List Nt):Prop where
 rg:∀x∈N,1<=x.1/\x.1<=512
 up:N.Pairwise (fun a b=>a.1 < b.1)
def Ay (N:List Nt) (k:Int):Bool:=N.any fun x=>decide ((x.1:Int)=k)
def A9 (N:List Nt) (k:Int):List Int:=((N.find? fun x=>decide ((x.1:Int)=k)).map (·.2)).getD tU
section
open Go.ChangeAt Go.ChangeShapes Go.Deep Go.WideShapes
abbrev Ac:=Int × List Int × CQ × List (List Int)
def cA (x:Ac):List CQ:=.int .i64 x.1 :: (aj .u8 x.2.1++[x.2.2.1])
abbrev BA:Ac:=(0,[],.slice none 0 0,[])
def Az (w:CP) (x:Ac):Prop:=x.2.1.length=32/\bI x.2.1/\et w x.2.2.1 x.2.2.2/\dd x.2.2.2
structure Ba (w:CP) (v:CQ) (L:List Ac):Prop where
 rd:aX w v L.length (aD cA L)
 ok:∀x∈L,Az w x
section
variable {H:Type} {enc:Dn × CQ->H} {P:Ds} {w:CP} {base:Nat}
end
end
abbrev Sh:=Int × List Int × List (List Int)
abbrev Sv:=Int × (CQ × List Int) × CQ × List (List Int)
def cC (x:Sv):Sh:=(x.1,x.2.1.2,x.2.2.2)
def cS (x:Sv):List CQ:=[.int .i64 x.1,x.2.1.1,x.2.2.1]
abbrev s0:Sv:=(0,(.slice none 0 0,[]),.slice none 0 0,[])
abbrev h0:Sh:=(0,[],[])
structure rU (w:CP) (x:Sv):Prop where
 st:Bu w .u8 x.2.1.1 x.2.1.2
 bs:bI x.2.1.2
 pa:et w x.2.2.1 x.2.2.2
 dg:dd x.2.2.2
theorem rU.ext {w w':CP} {x:Sv} (h:rU w x) (k:au w w'):rU w' x:=⟨h.st.ext k,h.bs,aX.ext h.pa k,h.dg⟩
theorem bU (x:Sv):(cS x).length=3:=rfl
theorem kE (x:Sv):cS x≠[]:=fun h=>by cases h
theorem gM {w:CP} {x:Sv} (h:rU w x):∀c∈cS x,c.oneCell'=true:=fun c a=>by
 obtain⟨p1,e,b,_,_⟩:=h.st.form;obtain⟨p2,f,d,_,_⟩:=h.pa.form;unfold cS at a;rw[b,d]at a;simp only[DA,Eg,or_false]at a;rcases a with rfl | rfl | rfl<;>rfl
structure ng (w:CP) (v:CQ) (L:List Sv):Prop where
 rd:aX w v L.length (aD cS L)
 ok:∀x∈L,rU w x
theorem ng.ext {w w':CP} {v:CQ} {L:List Sv} (h:ng w v L) (k:au w w'):ng w' v L:=⟨aX.ext h.rd k,fun x hx=>(h.ok x hx).ext k⟩
theorem ng.nil (w:CP):ng w (.slice none 0 0) []:=⟨aX.nil _,fun x hx=>by cases hx⟩
theorem pQ (L:List Sv):(aD cS L).length=L.length*3:=bu fun x _=>bU x
theorem ng.pos {w:CP} {v:CQ} {L:List Sv} (h:ng w v L) (g:0 < L.length):∃b o c,v=.slice (some ⟨b,o,none⟩) L.length c/\L.length<=c/\c<=Dc/\b < w.heap.size/\∀i,i < L.length->w.rangeAt b (o+i*3) (cS (L.getD i s0)):=by
 obtain⟨b,o,c,h1,h2,a,d,e⟩:=aX.pos h.rd g (fun q=>by have:=pQ L;rw[q]at this;simp at this;omega);exact⟨b,o,c,h1,h2,a,d,fun i f=>na s0 e (fun x _=>bU x) f⟩
theorem dq (L:List Sv) (i:Nat):(L.map cC).getD i h0=cC (L.getD i s0):=by
 rw[CR,CR,DE];cases L[i]? <;>rfl
structure BC where
 kind:Int
 id:Int
 obj:Int
 places:List Int
 shown:List Sh
 BE:Int
 BG:Int
 blocks:List (List Int)
 code:Int
def BC.BN (l:BC):List Int:=[l.kind,l.id,l.obj,l.BE,l.BG,l.code]
theorem BC.BO {a b:BC}:a=b↔a.BN=b.BN/\a.places=b.places/\a.shown=b.shown/\a.blocks=b.blocks:=by
 constructor
 ·rintro rfl;exact⟨rfl,rfl,rfl,rfl⟩
 ·rintro⟨h1,h2,c,d⟩;cases a;cases b;simp only[BC.BN,List.cons.injEq,and_true]at h1;obtain⟨rfl,rfl,rfl,rfl,rfl,rfl⟩:=h1;simp only at h2 c d;subst h2 c d;rfl
instance (a b:BC):Decidable (a=b):=decidable_of_iff _ BC.BO.symm
def cL (l:BC) (vp vs vb:CQ):List CQ:=[.int .i64 l.kind,.int .i64 l.id,.int .i64 l.obj,vp,vs,.int .i64 l.BE,.int .i64 l.BG,vb,.int .i64 l.code]
structure iE (w:CP) (cs:List CQ) (l:BC) (vp vs vb:CQ) (L:List Sv):Prop where
 eq:cs=cL l vp vs vb
 pl:Bu w .i64 vp l.places
 sh:ng w vs L
 sl:L.map cC=l.shown
 bl:aU w vb l.blocks
 BJ:∀b∈l.blocks,bI b
theorem iE.ext {w w':CP} {cs:List CQ} {l:BC} {vp vs vb:CQ} {L:List Sv} (h:iE w cs l vp vs vb L) (k:au w w'):iE w' cs l vp vs vb L:=⟨h.eq,h.pl.ext k,h.sh.ext k,h.sl,h.bl.ext k,h.BJ⟩
theorem aU.form {w:CP} {v:CQ} {ps:List (List Int)} (h:aU w v ps):∃p c,v=.slice p ps.length c/\ps.length<=c/\c<=Dc:=by
 obtain⟨vs,h1,_⟩:=h;exact h1.form
theorem aU.nil (w:CP):aU w (.slice none 0 0) []:=⟨[],aX.nil _,rfl,fun i a=>by cases a⟩
def eg (w:CP) (v:CQ) (l:BC):Prop:=∃cs vp vs vb L,v=.agg (List.toArray cs)/\iE w cs l vp vs vb L
theorem eg.ext {w w':CP} {v:CQ} {l:BC} (h:eg w v l) (k:au w w'):eg w' v l:=by
 obtain⟨cs,vp,vs,vb,L,h1,h2⟩:=h;exact⟨cs,vp,vs,vb,L,h1,h2.ext k⟩
theorem bR (l:BC) (vp vs vb:CQ):cL l vp vs vb≠[]:=fun h=>by cases h
theorem iE.one {w:CP} {cs:List CQ} {l:BC} {vp vs vb:CQ} {L:List Sv} (h:iE w cs l vp vs vb L):∀c∈cs,c.oneCell'=true:=fun c a=>by
 obtain⟨p1,f,b,_,_⟩:=h.pl.form;obtain⟨p2,g,d,_,_⟩:=h.sh.rd.form;obtain⟨j,i,e,_,_⟩:=h.bl.form;rw[h.eq]at a;unfold cL at a;rw[b,d,e]at a;simp only[DA,Eg,or_false]at a;rcases a with rfl | rfl | rfl | rfl | rfl | rfl | rfl | rfl | rfl<;>rfl
def cQ (a b:BC):Bool:=decide (a=b)
structure nh (l:BC):Prop where
 pl:l.places.length<=100
 sh:l.shown.length<=30
 bl:l.blocks.length<=600
 st:∀s∈l.shown,s.2.1.length<=100/\s.2.2.length<=40
 bs:∀b∈l.blocks,b.length<=100
def dW:BC:=⟨0,0,0,[],[],0,0,[],0⟩
abbrev zL:Array CQ:=#[.int .i64 0,.int .i64 0,.int .i64 0,.slice none 0 0,.slice none 0 0,.int .i64 0,.int .i64 0,.slice none 0 0,.int .i64 0]
abbrev eS:Array CQ:=#[.int .i64 0,.slice none 0 0,.slice none 0 0]
theorem iE.zero (w:CP):iE w (cL dW (.slice none 0 0) (.slice none 0 0) (.slice none 0 0)) dW (.slice none 0 0) (.slice none 0 0) (.slice none 0 0) []:=⟨rfl,aX.nil _,ng.nil _,rfl,aU.nil _,fun b a=>by cases a⟩
section
variable {α :Type}
theorem aF (d: α) (l:List α) (k:Nat) (h:k < l.length):l.take (k+1)=l.take k++[l.getD k d]:=by
 rw[CR,CV h,Ee h];rfl
end
section
variable {w w':CP}
theorem aX.kept {v:CQ} {n:Nat} {cs:List CQ} (h:aX w v n cs) (f:∀k,v.ownBlock=some k->k < w.heap.size->w'.heap[k]? =w.heap[k]?):aX w' v n cs:=by
 rcases h with h1 | ⟨b,o,c,h1,h2,e,a⟩
 ·exact .inl h1
 ·refine .inr ⟨b,o,c,h1,h2,e,?_⟩;by_cases d:cs=[]
  ·subst d;intro j x hx;simp at hx
  ·intro j x hx;rw[Dp (w:=w) (f b (by rw[h1];rfl) (bK a d))];exact a j x hx
theorem aw.put {X:Nat} {cs:List CQ} (h:aw w X cs) {i:Nat} (b:i < cs.length) (u:CQ):aw (w.setCell ⟨X,i,none⟩ u) X (cs.set i u):=by
 have c:∀j,j < cs.length->∃v,w.cell? ⟨X,j,none⟩=some v:=fun j a=>⟨_,h.cell (CV a)⟩
 refine⟨fun j v a=> ?_,fun j a=> ?_,fun q=>h.ne (by simpa using q)⟩
 ·rw[Dq];by_cases e:j=i
  ·subst e;rw[Eb (by simpa using b)]at a;obtain⟨v0,h0⟩:=c j b;rw[FC _ _ _ (by rw[h0];rfl)];exact a
  ·rw[List.getElem?_set_ne (fun q=>e q.symm)]at a;rw[Dv _ _ _ _ (by intro q;injection q with _ q;omega)];exact h.cell a
 ·rw[List.length_set]at a;obtain⟨h1,h2⟩:=h.th j a;rw[Dq]at h1 h2⊢;refine⟨?_,by rw[Fi];exact h2⟩;by_cases e:j=i
  ·subst e;obtain⟨v0,h0⟩:=c j b;rw[FC _ _ _ (by rw[h0];rfl)];rfl
  ·rw[Dv _ _ _ _ (by intro q;injection q with _ q;omega)];exact h1
theorem aw.fz {X:Nat} {cs:List CQ} (h:aw w X cs) {i:Nat} (a:i < cs.length):w.frozen? ⟨X,i,none⟩=false:=by
 have:=(h.th i a).2;rwa[Dq]at this
theorem kU (w:CP) (e:Dn) (cs:List CQ):aX (w.alloc (.cells cs.toArray e)) (.slice (some ⟨w.heap.size,0,none⟩) 1 1) 1 cs:=by
 refine .inr ⟨w.heap.size,0,1,rfl,CU _,show 1<=Dc from by decide,fun j v a=> ?_⟩;rw[Dq,Df];simpa using a
end
def aY (F:Nat->Prop) (w:CP) (v:CQ) (n:Nat) (cs:List CQ):Prop:=
 ((∃p,v=.slice p 0 0)/\n=0/\cs=[])\/∃b o c,v=.slice (some ⟨b,o,none⟩) n c/\n<=c/\c<=Dc/\w.rangeAt b o cs/\(cs≠[]->F b)
section
variable {F F':Nat->Prop} {w w':CP} {v:CQ} {n:Nat} {cs:List CQ}
theorem aY.BD (h:aY F w v n cs):aX w v n cs:=by
 rcases h with h | ⟨b,o,c,h1,h2,a,d,_⟩
 ·exact .inl h
 ·exact .inr ⟨b,o,c,h1,h2,a,d⟩
theorem aY.By (h:aX w v n cs) (e:∀b,v.ownBlock=some b->b < w.heap.size->F b):aY F w v n cs:=by
 rcases h with h | ⟨b,o,c,h1,h2,d,a⟩
 ·exact .inl h
 ·exact .inr ⟨b,o,c,h1,h2,d,a,fun f=>e b (by rw[h1];rfl) (bK a f)⟩
theorem aY.kept (h:aY F w v n cs) (g:∀b,F b->b < w.heap.size->F' b/\w'.heap[b]? =w.heap[b]?):aY F' w' v n cs:=by
 rcases h with h | ⟨b,o,c,h1,h2,d,e,f⟩
 ·exact .inl h
 ·by_cases a:cs=[]
  ·subst a;exact .inr ⟨b,o,c,h1,h2,d,fun j x hx=>by simp at hx,fun q=>absurd rfl q⟩
  ·obtain⟨i,k⟩:=g b (f a) (bK e a);refine .inr ⟨b,o,c,h1,h2,d,fun j x hx=> ?_,fun _=>i⟩;rw[Dp (w:=w) k];exact e j x hx
theorem aY.nil (w:CP):aY F w (.slice none 0 0) 0 []:=.inl ⟨⟨_,rfl⟩,rfl,rfl⟩
end
structure fD (F:Nat->Prop) (w:CP) (x:Sv):Prop where
 st:aY F w x.2.1.1 x.2.1.2.length (aj .u8 x.2.1.2)
 bs:bI x.2.1.2
 pa:aY F w x.2.2.1 x.2.2.2.length (aO x.2.2.2)
 dg:dd x.2.2.2
theorem fD.ok {F:Nat->Prop} {w:CP} {x:Sv} (h:fD F w x):rU w x:=⟨h.st.BD,h.bs,h.pa.BD,h.dg⟩
def gN {α :Type} (Ok:(Nat->Prop)->CP-> α ->Prop):Prop:=∀(F F':Nat->Prop) (w w':CP) (x: α),Ok F w x->(∀b,F b->b < w.heap.size->F' b/\w'.heap[b]? =w.heap[b]?)->Ok F' w' x
theorem bD:gN fD:=fun _ _ _ _ _ h a=>⟨h.st.kept a,h.bs,h.pa.kept a,h.dg⟩
abbrev Bv:=CQ × List Int
def cB (x:Bv):List CQ:=[x.1]
def ju (F:Nat->Prop) (w:CP) (x:Bv):Prop:=aY F w x.1 x.2.length (aj .u8 x.2)/\bI x.2
theorem bQ:gN ju:=fun _ _ _ _ _ h a=>⟨aY.kept h.1 a,h.2⟩
def cI (x:Int):List CQ:=[.int .i64 x]
theorem xM (l:List Int):aD cI l=aj .i64 l:=by
 unfold aD aj cI;induction l with
 | nil=>rfl
 | cons x r ih=>simp[List.flatMap_cons,ih]
def jL {α :Type} (_:Nat->Prop) (_:CP) (_: α):Prop:=True
theorem cD {α :Type}:gN (jL (α := α)):=fun _ _ _ _ _ _ _=>trivial
structure GR {α :Type} (f: α ->List CQ) (s:Nat) (Ok:(Nat->Prop)->CP-> α ->Prop) (A:Nat->Prop) (B e:Nat) (w:CP) (X fi:Nat) (cs:List CQ) (v:CQ) (M:List α):Prop where
 box:aw w X cs
 BQ:cs[fi]? =some v
 own:w.ownsRow B e s v M.length (aD f M)
 ok:∀x∈M,Ok (fun b=>b≠X/\v.ownBlock≠some b/\A b) w x
 ne:v.ownBlock≠some X
section
variable {α :Type} {f: α ->List CQ} {s:Nat} {Ok:(Nat->Prop)->CP-> α ->Prop} {A:Nat->Prop} {B e:Nat} {w w1 w2:CP} {X fi:Nat} {cs:List CQ} {v v':CQ} {M:List α} {y: α}
theorem GR.ext (c:gN Ok) (h:GR f s Ok A B e w X fi cs v M) (a:au w w1):GR f s Ok A B e w1 X fi cs v M:=
 ⟨h.box.ext a,h.BQ,aN h.own a,fun x hx=>c _ _ _ _ _ (h.ok x hx) fun b d g=>⟨d,a.block b g⟩,h.ne⟩
theorem GR.start (a:aw w X cs) (b:cs[fi]? =some (.slice none 0 0)):GR f s Ok A B e w X fi cs (.slice none 0 0) []:=
 ⟨a,b,ES _ _ _ _,fun x hx=>(by cases hx),fun q=>(by cases q)⟩
theorem GR.lt (h:GR f s Ok A B e w X fi cs v M):fi < cs.length:=(Dt.1 h.BQ).1
theorem GR.cell (h:GR f s Ok A B e w X fi cs v M):w.cell? ⟨X,fi,none⟩=some v:=h.box.cell h.BQ
theorem GR.BP (h:GR f s Ok A B e w1 X fi cs v M) (a:w1.grownBy w2 v.ownBlock):aw w2 X cs:=h.box.grown a (fun q=>h.ne q)
theorem GR.B1 (h:GR f s Ok A B e w X fi cs v M) {n:Nat} (a:M.length=n):w.ownsRow B e s v n (aD f M):=by subst a;exact h.own
theorem GR.push (c:gN Ok) (h:GR f s Ok A B e w1 X fi cs v M) {n:Nat} (l:M.length=n) (m:w2.ownsRow B e s v' (n+1) (aD f M++f y)) (d:w1.grownBy w2 v.ownBlock) (g:∀k,v'.ownBlock=some k->v.ownBlock=some k\/w1.heap.size<=k) (hy:Ok (fun b=>b≠X/\v.ownBlock≠some b/\A b) w1 y):
  GR f s Ok A B e (w2.setCell ⟨X,fi,none⟩ v') X fi (cs.set fi v') v' (M++[y]):=by
 subst l;have i:v'.ownBlock≠some X:=fun q=>by
  rcases g X q with z | z
  ·exact h.ne z
  ·have:=h.box.lt;omega
 refine⟨(h.BP d).put h.lt v',by rw[Eb h.lt],?_,fun x hx=> ?_,i⟩
 ·rw[C7,D6,dB,gL];exact eV m i fi v'
 ·have key:∀b,(b≠X/\v.ownBlock≠some b/\A b)->b < w1.heap.size->(b≠X/\v'.ownBlock≠some b/\A b)/\(w2.setCell ⟨X,fi,none⟩ v').heap[b]? =w1.heap[b]? :=fun b a j=>by
   refine⟨⟨a.1,fun q=> ?_,a.2.2⟩,?_⟩
   ·rcases g b q with z | z
    ·exact a.2.1 z
    ·omega
   ·rw[Below.heap_setCell w2 ⟨X,fi,none⟩ v' b a.1];exact d.block b j (fun q=>a.2.1 q.symm)
  rcases Dz.1 hx with hx | hx
  ·exact c _ _ _ _ _ (h.ok x hx) key
  ·obtain rfl:x=y:=by simpa using hx
   exact c _ _ _ _ _ hy key
end
def oc (v:CQ):Prop:=∃p n c,v=.slice p n c
theorem aX.BM {w:CP} {v:CQ} {cs:List CQ} (h:aX w v n cs):oc v:=by
 obtain⟨p,c,h1,_⟩:=h.form;exact⟨p,n,c,h1⟩
theorem aU.BM {w:CP} {v:CQ} {ps:List (List Int)} (h:aU w v ps):oc v:=by
 obtain⟨p,c,h1,_⟩:=h.form;exact⟨p,_,c,h1⟩
theorem bk {l:BC} {vp vs vb:CQ} (h1:oc vp) (h2:oc vs) (b:oc vb):∀c∈cL l vp vs vb,c.oneCell'=true:=fun c a=>by
 obtain⟨p1,g,d,rfl⟩:=h1;obtain⟨p2,h,e,rfl⟩:=h2;obtain⟨j,i,f,rfl⟩:=b;unfold cL at a;simp only[DA,Eg,or_false]at a;rcases a with rfl | rfl | rfl | rfl | rfl | rfl | rfl | rfl | rfl<;>rfl
theorem eK {p:Int} {u v:CQ} (h1:oc u) (h2:oc v):∀c∈([.int .i64 p,u,v]:List CQ),c.oneCell'=true:=fun c a=>by
 obtain⟨p1,e,b,rfl⟩:=h1;obtain⟨p2,f,d,rfl⟩:=h2;simp only[DA,Eg,or_false]at a;rcases a with rfl | rfl | rfl<;>rfl
theorem iF:oc (.slice none 0 0):=⟨_,_,_,rfl⟩
end Go.Proofs.Bl
