/- Texts that stood apart, in one: ShaOct, WLeavesP, WChunkDP, Marks, WRootsP, WSameP. -/
import Derived.Lib.SlBytesConst
import Derived.Lib.SmallJoins
import Derived.Stop.Asserts
import Derived.RowKitTokens
import Derived.Below
import Derived.ChangeSame
import Derived.ProofKit
import Derived.OpenShut
import Derived.LaidMore
import Derived.Stop.Joined
import GoSem.PinnedTables
import Derived.ChangeSlices
import Derived.Deep.Matrix
import Derived.Lib.LaidTab
import Derived.Deep.Slices
import Derived.Test.YtglenbikdahgjaaGreatDoorPr01
import Derived.Test.YtglenbikdahgjaaGreatDoorRows
set_option maxRecDepth 100000
set_option maxHeartbeats 16000000
open Array renaming getElem?_eq_some_iff->EM
open Go renaming Program->Ee,TypeId->Ec,Value->DG,World->DF,all_oneCell_toArray->GM,maxLen->DV,run_storeAt_mid->Ir
open Go.Addr renaming add_mid->Ft
open Go.Instr renaming storeAt->Fb
open Go.KeepsOthers renaming setCell->FG
open Go.MakeChecks renaming laidMetH_plain->Ii
open Go.RowKit renaming Below->EZ
open Go.RowKit.Below renaming refl->DI
open Go.Value renaming cells->Gw,okWide->H9,slice->FE
open Go.World renaming block_lt_of_cell?->DM,cell?_alloc_new->D6,cell?_of_block->EH,cell?_setCell_other->El,cell?_setCell_same'->Ij,frozen?_setCell->Gc,ownsRow_nil->EU,rangeAt_setCells_same->Eb,there_setCells->Fp
open List renaming drop_of_length_le->FQ,getD_cons_succ->FF,getD_eq_getElem?_getD->DJ,getElem?_drop->E3,getElem?_eq_getElem->DL,getElem?_eq_none->G3,getElem?_eq_some_iff->Er,getElem?_map->Ev,getElem?_set_self->E8,getElem?_take->EA,getElem_mem->Fc,length_append->DS,length_cons->Eu,length_drop->DR,length_eq_zero_iff->Ed,length_singleton->Ez,length_take->DX,mem_append->EL,mem_cons->Es,mem_map->F6,mem_of_mem_take->EN,not_mem_nil->ED,range->Eh,take_append_drop->Fs,take_left'->Iv,take_of_length_le->DW,take_succ_eq_append_getElem->E1
open Nat renaming le_refl->DH,lt_of_lt_of_le->D9,min_eq_left->Fw,mul_le_mul_right->Fq,zero_add->DY
namespace Go.Proofs.Bl
open Go Go.RowKit Go.Proofs
open Go.Proofs.Tryz renaming prog->DE
variable {n base B size e U o p L C:Nat} {d:Nat->Bool}
theorem xK:∀(s:St),bA s.bytes:=fun s x hx=>by
 obtain⟨i,a,rfl⟩:=List.mem_iff_getElem.1 hx;have h:=s.CJ i a;rw[DJ,DL a]at h;simp only[Option.getD_some]at h;rw[h];unfold St.byte;omega
theorem oa (l:List Int):bA (sha l):=xK _
def cD (ds:List (List Int)):List Int:=over eo zD ds
theorem tv:zD.length=32:=rfl
theorem bf.Cv {w:DF} {p:Option Addr} {c:Nat} {ps:List (List Int)} {vs:List DG} (f:bh w (.slice p n c) ps.length vs) (d:vs.length=ps.length) (k:Nat) (h:k < ps.length):∃b o,p=some ⟨b,o,none⟩/\b < w.heap.size/\w.cell? ⟨b,o+k,none⟩=some (vs.getD k undef):=by
 rcases f with ⟨h1,h2,e⟩ | ⟨b,o,g,h1,h2,e,a⟩
 ·omega
 ·cases h1;refine⟨b,o,rfl,bP a (fun q=>by rw[q]at d;simp at d;omega),a k _ ?_⟩;rw[DJ,DL (by omega)];rfl
theorem xL (b:List Int):bA (im b):=oa _
theorem sv (l r:List Int):bA (eo l r):=oa _
theorem yV:bA zD:=oa _
theorem jx (ps:List (List Int)):dm (ps.map im):=fun d a=>by
 obtain⟨b,_,rfl⟩:=F6.1 a;exact⟨jv b,xL b⟩
theorem dS:∀(n:Nat) (ds:List (List Int)),ds.length=n->dm ds->ds.length < 2^63->(cD ds).length=32/\bA (cD ds):=by
 intro n;induction n using Nat.strongRecOn with
 | _ n ih=>
  intro ds c b a;unfold cD;by_cases h0:ds.length=0
  ·obtain rfl:=Ed.1 h0;rw[uU];exact⟨tv,yV⟩
  ·by_cases h2:2<=ds.length
   ·rw[jP _ _ _ h2 a];exact⟨ju _ _,sv _ _⟩
   ·match ds,h0,h2 with
    | [d],_,_=>rw[jO];exact b d (by simp)
    | _ :: _ :: _,_,h=>simp at h
def ln (n k:Nat):Nat:=if 2*k+2<=n then 2 else 1
def fF (B:Nat) (w:DF):Nat->List Deferred->Prop
 | _,[]=>True
 | N,d :: ds=>∃D,d= {target:=.collected D,args:=#[]}/\B<=D/\D < N/\w.heap[D]? =some (.deferred (some []))/\fF B w D ds
theorem fF.CI {w w':DF}:∀(ds:List Deferred) (N:Nat),(∀D,B<=D->D < N->w.heap[D]? =some (.deferred (some []))->w'.heap[D]? =w.heap[D]?)->fF B w N ds->fF B w' N ds
 | [],_,_,_=>trivial
 | _ :: ds,_,hk,⟨D,h1,h2,h3,h4,h5⟩=>⟨D,h1,h2,h3,(hk D h2 h3 h4).trans h4,fF.CI ds D (fun k a b=>hk k a (Nat.lt_trans b h3)) h5⟩
theorem fF.mono {w:DF} {N a:Nat}:∀(ds:List Deferred),N<=a->fF B w N ds->fF B w a ds
 | [],_,_=>trivial
 | _ :: _,hN,⟨D,h1,h2,h3,h4,h5⟩=>⟨D,h1,h2,D9 h3 hN,h4,h5⟩
theorem gN {P:Ee} {fn:Func} {tmps:Array DG} {R:Ending->DF->Prop}:∀(ds:List Deferred) (N:Nat) (w:DF),fF B w N ds->
  (∀w',EZ B w w'->∃v,(results fn tmps).run P w'=.ok v w'/\R (.returned v) w')->LeavesInM Fence.wide n P fn tmps R ds .returning w
 | [],_,w,_,h=>by
  simp only[LeavesInM,LeavesIn];exact h w (DI _ _)
 | _ :: ds,_,w,⟨D,hd,hB,_,hD,hm⟩,h=>by subst hd;have d:D < w.heap.size:=(EM.1 hD).1;have a:EZ B w (w.putObj D (.deferred none)):=(DI B w).grown (grownBy_putObj' w D (.deferred none)) (by omega) (fun k e=>by cases e;omega);refine⟨by simp,.inl ⟨_,_,rfl,run_takeDeferred hD,?_⟩⟩;refine gN ds D _ (fF.CI ds D (fun k _ c _=>World.putObj_heap_other (by omega)) hm) ?_;intro w' b;exact h w' (a.trans b)
theorem nv {F:Fence} {nf:Nat} {P:Ee} {ops:Array Oper} {rest:List Oper} {a:Act} {w:DF} {Q:Exit->Act->DF->Prop} {d:Option Tmp} {J t e:Ec} {pp:String} {g:Array Edge} {s x:Operand} {v u z:DG} {bytes k:Nat} {xs news:List DG}
  (f:jE P t e z size bytes) (C:w.ownsRow base e size v k xs) (E:bh w u 1 news) (G:a.eval s=v) (hx:a.eval x=u) (K:news.length=size) (h1:∀c∈news,c.oneCell'=true)
  (hlen:k+1<=DV) (r:(k+1)*bytes<=140737488355328) (q:base<=w.heap.size)
  (h:∀p c w',w'.ownsRow base e size (.slice p (k+1) c) (k+1) (xs++news)->w.grownBy w' v.ownBlock->wpListIn F nf P ops Q rest (a.put d (.slice p (k+1) c)) w'):
  wpListIn F nf P ops Q (⟨d,.call {callee:=.builtin .append,args:=#[s,x],argTypes:=#[t,t]},J,pp,g,none⟩ :: rest) a w:=by
 obtain⟨i,y,I,H,n⟩:=info_parts f.info;rcases E with ⟨_,hm,_⟩ | ⟨b,o,c,hu,_,_,D⟩
 ·omega
 ·have B:∀j u,news[j]? =some u->w.cell? ((⟨b,o,none⟩:Addr).add j)=some u:=fun j u A=>by rw[Ft];exact D j u A
  refine wpListIn_append_own w rfl s x t rfl base e i z size bytes f.ht y I H n f.hz f.pos v k xs G C ⟨b,o,none⟩ 1 c news (hx.trans hu) (by omega) B h1 hlen r q ?_;intro L w' h2 m _;obtain⟨p,l,rfl,_,_⟩:=(bh.AS h2).form;exact h p l w' h2 m
theorem qR {w w':DF} {v:DG} {xs:List DG} {row:Option Nat} (h:w.ownsRow base e size v n xs) (f:w.grownBy w' row) (i:∀r,row=some r->∃o:Obj,w.heap[r]? =some o/\o.isCells=false):w'.ownsRow base e size v n xs:=by
 obtain⟨h1,h2⟩:=h;refine⟨h1,?_⟩;rcases h2 with h2 | ⟨g,cap,cur,j,c,a,r⟩
 ·exact .inl h2
 ·refine .inr ⟨g,cap,cur,j,c,?_,r⟩;rw[f.block g (EM.1 a).1 (fun q=> ?_)]
  ·exact a
  ·obtain⟨o,b,d⟩:=i g q.symm;rw[a]at b;cases b;exact absurd d (by simp[Obj.isCells])
theorem qS {w w':DF} {v:DG} {xs:List DG} (h:w.ownsRow base e size v n xs) (c:w.grownBy w' v.ownBlock):KeepsOthers w w':=
 ⟨c.size,fun l o a d=>(c.block l (EM.1 a).1 (fun q=>by
  rcases h.2 with ⟨b,_⟩ | ⟨g,cap,cur,b,i,f,r⟩
  ·rw[b]at q;cases q
  ·rw[b]at q;simp only[Value.ownBlock,Option.some.injEq]at q;subst q;rw[f]at a;cases a
   exact absurd d (by simp[Obj.isCells]))).trans a⟩
def vi {α :Type} (T:Ec) (U n₀:Nat) (f: α ->List Int) (pre:List α) (W:DF):Prop:=
 ∃p c,W.cell? ⟨U,0,none⟩=some (.slice p pre.length c)/\W.frozen? ⟨U,0,none⟩=false/\W.ownsRow n₀ T 32 (.slice p pre.length c) pre.length (aN (pre.map f))
theorem vi.from {α :Type} {T:Ec} {b:Nat} {f: α ->List Int} (k:U < b):OwnFrom b (fun(pre:List α) W=>vi T U b f pre W):=by
 rintro pre W j row ⟨p,c,h1,h2,i⟩ a h;have d:U < W.heap.size:=DM _ _ h1;have g:some U≠row:=fun e=>by have:=(h U e.symm).1;omega
 exact⟨p,c,(a.cell_far ⟨U,0,none⟩ d g).trans h1,(a.frozen_far ⟨U,0,none⟩ d g).trans h2,qR i a (fun r e=>(h r e).2)⟩
theorem sw {α :Type} {T:Ec} {f: α ->List Int} {a W g b:DF} {pre:List α} {x: α} {v y:DG} {p:Option Addr} {c:Nat} {xs:List DG}
  (D:U < a.heap.size) (l:dc U a.heap.size a W) (t:EZ U a W) (d:az W g) (e:g.grownBy b v.ownBlock) (s:g.ownsRow a.heap.size T 32 v pre.length xs)
  (r:b.ownsRow a.heap.size T 32 (.slice p (pre.length+1) c) (pre.length+1) (aN (pre.map f)++aN [f x]))
  (m:W.cell? ⟨U,0,none⟩=some y) (A:W.frozen? ⟨U,0,none⟩=false):
  KeepsOthers W (b.setCell ⟨U,0,none⟩ (.slice p (pre.length+1) c))/\dc U a.heap.size W (b.setCell ⟨U,0,none⟩ (.slice p (pre.length+1) c))/\
   (vi T U a.heap.size f (pre++[x]) (b.setCell ⟨U,0,none⟩ (.slice p (pre.length+1) c))/\(dc U a.heap.size a (b.setCell ⟨U,0,none⟩ (.slice p (pre.length+1) c))/\EZ U a (b.setCell ⟨U,0,none⟩ (.slice p (pre.length+1) c)))):=by
 have n:U < W.heap.size:=DM _ _ m;have E:W.heap.size<=g.heap.size:=d.size;have C:a.heap.size<=W.heap.size:=l.1;have i:∀k,v.ownBlock=some k->a.heap.size<=k:=fun k h=>(s.lt k h).1
 have o:some U≠v.ownBlock:=fun q=>by have:=i U q.symm;omega
 have j:dc U a.heap.size W b:=(dc.CP d C).trans ⟨e.size,fun k h _=>e.block k (by omega) (fun q=>by have:=i k q.symm;omega)⟩;have w:b.cell? ⟨U,0,none⟩=some y:=(e.cell_far ⟨U,0,none⟩ (show U < _ by omega) o).trans (((aD d).1 U 0 n).trans m);have z:b.frozen? ⟨U,0,none⟩=false:=(e.frozen_far ⟨U,0,none⟩ (show U < _ by omega) o).trans (((aD d).2 U 0 n).trans A);have u:EZ U a b:=(t.trans (d.mono (by omega))).trans ((DI U g).grown e (by omega) (fun k h=>by have:=i k h;omega));have B:(FE p (pre.length+1) c).ownBlock≠some U:=fun q=>by have:=(r.lt U q).1;omega
 refine⟨((lN d).trans (qS s e)).trans (FG _ _ _),j.set 0 _,⟨p,c,?_,?_,?_⟩,(l.trans j).set 0 _,u.setCell (DH _) _⟩
 ·rw[DS,Ez];exact World.cell?_setCell_same _ _ _ w
 ·rw[Gc];exact z
 ·rw[DS,Ez,List.map_append,cE];exact fc r B 0 _
def sx (r:List (List Int)) (k:Nat):List Int:=if 2*k+2<=r.length then eo (r.getD (2*k) []) (r.getD (2*k+1) [])else r.getD (2*k) []
theorem vj:∀(r:List (List Int)) (k:Nat),k < (r.length+1) / 2->(up eo r)[k]? =some (sx r k)
 | [],k,h=>by simp at h
 | [a],k,h=>by
  have f:k=0:=by simp at h;omega
  subst f;simp[up,sx]
 | a :: b :: r,0,_=>by simp[up,sx]
 | a :: b :: r,k+1,h=>by
  have g:=vj r k (by simp at h;omega);simp only[up,List.getElem?_cons_succ,g];congr 1;unfold sx;have c:2*(k+1)=2*k+1+1:=by omega
  have e:2*(k+1)+1=2*k+1+1+1:=by omega
  simp only[Eu];by_cases d:2*k+2<=r.length
  ·rw[if_pos d,if_pos (by omega),e,c,FF,FF,FF,FF]
  ·rw[if_neg d,if_neg (by omega),c,FF,FF]
theorem Al (r:List (List Int)) (m:Nat) (hm:m=(r.length+1) / 2):(List.finRange m).map (fun x=>sx r x.val)=up eo r:=by
 apply List.ext_getElem?;intro k;by_cases a:k < m
 ·rw[vj r k (by omega),Ev,DL (by simpa using a)];simp
 ·rw[G3 (by simp;omega),G3 (by rw[gn];omega)]
theorem vk:∀(r:List (List Int)),dm r->dm (up eo r)
 | [],h=>h
 | [_],h=>h
 | a :: b :: r,h=>by
  have e:=vk r (fun d c=>h d (by simp[c]));intro d c;simp only[up,Es]at c;rcases c with rfl | c
  ·exact⟨ju _ _,sv _ _⟩
  ·exact e d c
theorem vl (r:List (List Int)) (h:r.length<=1048576):cD (up eo r)=cD r:=xF eo zD r.length r rfl (by omega)
def Bk (ps:List (List Int)):List Int:=cD (ps.map im)
theorem bf.take {w:DF} {b c:Nat} {ps:List (List Int)} (h:bf w (.slice (some ⟨b,o,none⟩) n c) ps) (k:Nat) (z:k<=ps.length):bf w (.slice (some ⟨b,o,none⟩) k c) (ps.take k):=by
 obtain⟨vs,u,r,t⟩:=h;have s:(ps.take k).length=k:=by rw[DX];omega
 refine⟨vs.take k,?_,by rw[DX,DX,r],fun j y=> ?_⟩
 ·rw[s];rcases u with ⟨⟨p,h1⟩,h2,e⟩ | ⟨v,A,x,h1,h2,e,q⟩
  ·injection h1 with a g d;obtain rfl:k=0:=by omega
   refine .inl ⟨⟨_,by rw[d]⟩,rfl,by simp⟩
  ·injection h1 with a g d;injection a with a;injection a with i m;subst i m d;exact .inr ⟨_,_,_,rfl,by omega,e,cU q k⟩
 ·have f:j < k:=by omega
  have:=t j (by omega);rw[DJ,EA,if_pos f,<-DJ,DJ (l:=ps.take k),EA,if_pos f,<-DJ];exact this
theorem bf.drop {w:DF} {b c:Nat} {ps:List (List Int)} (h:bf w (.slice (some ⟨b,o,none⟩) n c) ps) (k:Nat) (x:k < ps.length):bf w (.slice (some ⟨b,o+k,none⟩) (n - k) (c - k)) (ps.drop k):=by
 obtain⟨vs,t,r,s⟩:=h;refine⟨vs.drop k,?_,by rw[DR,DR,r],fun j q=> ?_⟩
 ·rcases t with ⟨⟨p,h1⟩,h2,i⟩ | ⟨u,y,v,h1,h2,i,m⟩
  ·omega
  ·injection h1 with a d e;injection a with a;injection a with f g;subst f g e d;refine .inr ⟨_,_,_,by rw[DR],by rw[DR];omega,by omega,ch m k⟩
 ·rw[DR]at q;have:=s (k+j) (by omega);rw[DJ,E3,<-DJ,DJ (l:=ps.drop k),E3,<-DJ];exact this
def Bm (ps:List (List Int)) (most:Nat):Bool:= !(decide (ps.length<=most)&&ps.all fun p=>decide (p.length<=200))
theorem iG (ps:List (List Int)) (k:Nat) (h:k < ps.length):ps.take (k+1)=ps.take k++[ps.getD k []]:=by
 rw[DJ,DL h,E1 h];rfl
section
variable {P:Ee}
theorem jj {w:DF} {t ty e:Ec} {v z:DG} {base size bytes n m c b o:Nat} {xs news:List DG}
  (f:jE P t e z size bytes) (J:Pk w base size v n xs) (I:w.rangeAt b o news) (s:news.length=m*size) (h1:∀u∈news,u.oneCell'=true) (_hm:0 < m)
  (hlen:n+m<=DV) (E:(n+m)*bytes<=140737488355328) (D:base<=w.heap.size):
  ∃l w',(Builtin.append_ #[t,t] ty #[v,.slice (some ⟨b,o,none⟩) m c]).run P w=.ok l w'/\Pk w' base size l (n+m) (xs++news)/\w.grownBy w' v.ownBlock/\(∀k,l.ownBlock=some k->v.ownBlock=some k\/w.heap.size<=k):=by
 obtain⟨i,y,F,A,C⟩:=info_parts f.info;have x:∀j u,news[j]? =some u->w.cell? ((⟨b,o,none⟩:Addr).add j)=some u:=fun j u a=>by rw[Ft];exact I j u a
 rcases J with ⟨rfl,rfl,rfl⟩ | ⟨g,cap,rfl,G,hp⟩
 ·obtain⟨l,w',r,h2,h,_⟩:=run_append_own (P:=P) w w.heap.size t ty e i z size bytes f.ht y F A C f.hz f.pos (.slice none 0 0) 0 [] (EU w _ e size) ⟨b,o,none⟩ m c news s x h1 hlen E (DH _);exact⟨l,w',r,Pk.AS (dQ h2 D),h,fun k d=>.inr (h2.lt k d).1⟩
 ·have M:=hp.len;by_cases r:n+m<=cap
  ·have K:(n+m)*size<=cap*size:=Fq _ r;rw[Nat.add_mul]at K;have B:w.there g (0+n*size) news.length:=fun j a=>by have:=hp.th (n*size+j) (by omega);rw[<-Nat.add_assoc]at this;exact this
   have p:=aE news g (0+n*size) w (DI 0 w) (Nat.zero_le _);subst A;refine⟨_,_,run_append_room_cells (P:=P) w t ty e i f.ht y g 0 n cap ⟨b,o,none⟩ m c news s x h1 r (fun j a=>(B j a).1) (fun j a=>(B j a).2),.inr ⟨g,cap,rfl,G,r,hp.mx,by rw[DS,hp.len,s,Nat.add_mul],?_,Fp hp.th _ _ _,D9 hp.lt p.size⟩,⟨p.os,p.tape,p.output,p.size,fun k d H=>World.heap_setCells_other w g _ news d (fun q=>H (by rw[q];rfl))⟩,fun k d=>.inl d⟩;intro j u hu;by_cases a:j < xs.length
   ·rw[List.getElem?_append_left a]at hu;exact World.rangeAt_setCells_apart hp.rg g (0+n*i.size) news (.inr (.inl (by rw[hp.len];omega))) j u hu
   ·rw[List.getElem?_append_right (by omega)]at hu;have:=Eb w g (0+n*i.size) news B (j - xs.length) u hu;rw[show 0+n*i.size+(j - xs.length)=0+j by omega]at this;exact this
  ·obtain⟨l,w',L,h2,h⟩:=run_append_arg_grows (P:=P) w t ty e i z size bytes f.ht y F A C f.hz f.pos ⟨g,0,none⟩ n cap xs hp.len (fun j u a=>by rw[Ft];exact hp.rg j u a) ⟨b,o,none⟩ m c news s x (by omega) hlen E;exact⟨l,w',L,Pk.AS (dQ h2 D),⟨h.os,h.tape,h.output,h.size,fun k d _=>h.block k d (by simp)⟩,fun k d=>.inr (h2.lt k d).1⟩
theorem dy {R:DF->DF->Prop} {f:Nat->DG} {w:DF} {φ :DG->DF->Prop} {d:Option Tmp} {h t e:Ec} {pp:String} {i:Array Edge} {g:Option (Nat × Bool)} {s x:Operand} {v z:DG} {base size bytes n m c b o:Nat} {xs news:List DG}
  (p:jE P t e z size bytes) (B:Pk w base size v n xs) (A:w.rangeAt b o news) (y:news.length=m*size) (h1:∀u∈news,u.oneCell'=true) (hm:0 < m)
  (hlen:n+m<=DV) (r:(n+m)*bytes<=140737488355328) (q:base<=w.heap.size)
  (D:aX f s=v) (hx:aX f x=.slice (some ⟨b,o,none⟩) m c)
  (E:∀a w',Pk w' base size a (n+m) (xs++news)->w.grownBy w' v.ownBlock->(∀k,a.ownBlock=some k->v.ownBlock=some k\/w.heap.size<=k)->R w w'/\ φ a w'):
  dU R P w φ ((execOp (aX f) ⟨d,.call {callee:=.builtin .append,args:=#[s,x],argTypes:=#[t,t]},h,pp,i,g⟩).run P w):=by
 obtain⟨a,w',C,h2,j,l⟩:=jj (P:=P) (ty:=h) (t:=t) p B A y h1 hm hlen r q (c:=c);simp[execOp,resolve,invoke,builtin,D,hx,C,Result.andThen];exact E a w' h2 j l
end
structure JA (ia ib ta tb B b D:Nat) (X:DG) (n k:Nat) (xs:List DG) (dg:List Int) (w0:DF) (d:Nat->Bool) (u:Nat->DG) (w:DF):Prop where
 c0:w.cell? ⟨b,0,none⟩=some (.int .i64 n)
 c1:w.cell? ⟨b,1,none⟩=some X
 f0:w.frozen? ⟨b,0,none⟩=false
 f1:w.frozen? ⟨b,1,none⟩=false
 box:mK w D dg
 ne:X.ownBlock≠some b
 nd:X.ownBlock≠some D
 hb:B<=b
 hX:∀j,X.ownBlock=some j->B<=j
 ad:Af w0 w b X.ownBlock
 le:B<=w0.heap.size
 pk:d ia=false->Pk w 0 32 X k xs
 bl:d ib=true->d ia=false->∃g,u tb=.slice (some ⟨g,0,none⟩) 1 1/\w.rangeAt g 0 (ao .u8 dg)
 nw:d ia=true->Pk w 0 32 (u ta) (k+1) (xs++ao .u8 dg)/\(∀j,(u ta).ownBlock=some j->X.ownBlock=some j\/w0.heap.size<=j)
section
variable {ia ib ta tb B b D:Nat} {X:DG} {n k:Nat} {xs:List DG} {dg:List Int} {w0:DF} {d:Nat->Bool} {u:Nat->DG} {w:DF}
end
theorem HJ.get {A B:DF->Prop} {u:Nat->DG} {w:DF} (h:HJ p A B d u w) (q:d p=false):A w:=h.2 q
theorem HJ.CE {A B:DF->Prop} {u:Nat->DG} {w:DF} (h:HJ p A B d u w) (q:d p=true):B w:=h.1 q
structure Cc (w:DF) (A B:Nat) (x y:List Int):Prop where
 a:mK w A x
 b:mK w B y
 ne:A≠B
structure BP (iA iB iS tA tB base:Nat) (x:List Int) (d:Nat->Bool) (u:Nat->DG) (w:DF):Prop where
 a:d iA=true->∃X,u tA=.pointer (some ⟨X,0,none⟩)/\base<=X/\(d iS=false->mK w X uZ)/\(d iS=true->mK w X x)
 b:d iB=true->∃Y,u tB=.pointer (some ⟨Y,0,none⟩)/\base<=Y/\mK w Y uZ
 ne:d iA=true->d iB=true->u tA≠u tB
 le:base<=w.heap.size
section
variable {iA iB iS tA tB base:Nat} {x:List Int} {d:Nat->Bool} {u:Nat->DG} {w:DF}
end
def A4 (ds:List (List Int)):List (List Int):=z7 eo zD ds
def A5 (ds:List (List Int)) (m:Nat) (w:Bool):List (List Int):=BI eo zD ds m w
def Am (m n:Nat) (old:List Int) (w:Bool) (p:List (List Int)):List Int × List Int:=Ae eo zD m n old w p
def vm (m n:Int):Bool:=decide (1<=m)&&decide (m<=n)&&decide (n<=512)
def BQ (m n:Int):Int:=if vm m n=true then(Ad m.toNat n.toNat true:Int)else -1
def A6 (m n:Int) (old now:List Int) (p:List (List Int)):Nat:=
 if vm m n=true then(if p.length=Ad m.toNat n.toNat true then(if Am m.toNat n.toNat old true p=(old,now)then 0 else 15)else 8)else 1
def An:Nat->Nat->Nat->List Nat
 | 0,_,_=>[]
 | f+1,m,n=>if m < n then n :: An f m (sp n)else []
def A7 (m n:Nat):List Nat:=An n m n
def BR (m n:Nat):Prop:=∀k∈A7 m n,m<=sp k
structure Cd (vs:List (Nat × Nat)) (base:Nat) (d:Nat->Bool) (u:Nat->DG) (w:DF):Prop where
 al:∀p∈vs,d p.1=true->∃X,u p.2=.pointer (some ⟨X,0,none⟩)/\base<=X/\mK w X uZ
 ne:∀p∈vs,∀q∈vs,p.1≠q.1->d p.1=true->d q.1=true->u p.2≠u q.2
 le:base<=w.heap.size
section
variable {vs:List (Nat × Nat)} {base:Nat} {d:Nat->Bool} {u:Nat->DG} {w w':DF}
end
structure Ce (w:DF) (A B C:Nat) (x y z:List Int):Prop where
 a:mK w A x
 b:mK w B y
 c:mK w C z
 ab:A≠B
 ac:A≠C
 bc:B≠C
section
variable {F:Fence} {nf:Nat} {P:Ee} {ops:Array Oper} {rest:List Oper} {a:Act} {w w':DF} {Q:Exit->Act->DF->Prop} {d:Option Tmp} {tt ty:Ec} {pp:String} {af:Array Edge} {x y:Operand} {p v:DG}
end
def Bo (Q:Nat->Prop) (n:Nat) (w w':DF):Prop:=w.heap.size<=w'.heap.size/\∀k,k < n->¬Q k->w'.heap[k]? =w.heap[k]?
section
open Go.Extern Go.Extern.Stop Go.Stop
def BS:Array DG->Sem DG:=Extern.ReflectliteType.method fun t=>do Extern.Rtype.noPackHeld "Comparable" t;pure (.bool (<-typeInfo t).comparable)
end
section
open Go.ChangeAt Go.ChangeShapes Go.WideShapes
theorem vn {H:Type} {enc:Ec × DG->H} {P:Ee} {f:Func} {s:ChangeSpec} {apart fresh handsOn again:Bool} {W a:DF} {args:Array DG} {v:DG} {ds gs:List (DataW H)} {before pa pv:List MemPlace}
  (h:az W a) (d:DataW.Whole enc P f.params.toList s.vars apart W args.toList ds gs before)
  (l:∀(b:Nat) (sp:Nat->Bool) (o:Bool),DataW.TrodAll enc P a b sp o f.resultTypes.toList (v.resultList f.resultTypes.size) (s.fn H (ds++gs)).results [])
  (g:∀sp:Nat->Bool,(∀p∈before,sp p.block=true)->DataW.TrodAll enc P a 0 sp true f.params.toList args.toList (s.fn H (ds++gs)).args pa)
  (m:∀sp:Nat->Bool,(∀p∈before,sp p.block=true)->DataW.TrodVars enc P a sp s.vars (s.fn H (ds++gs)).vars pv)
  (c:before=pa++pv)
  (w:∀(j:Nat) (t:Ec) (r:DG),f.resultTypes[j]? =some t->(v.resultList f.resultTypes.size)[j]? =some r->H9 P a .any 0 t r):
  s.post enc P f apart fresh handsOn again W args v a:=by
 have i:∀p∈before,p.block < W.heap.size:=fun p hp=>d.lt p hp
 have e:∀p∈before,decide (p.block < W.heap.size)=true:=fun p hp=>decide_eq_true (i p hp)
 have q:W.keptBut a (· ∈before):=h.frame _;have h1:=g (fun b=>decide (b < W.heap.size)) e;have h2:=m (fun b=>decide (b < W.heap.size)) e;refine⟨ds,gs,before,[],pa,pv,d,l _ _ _,h1,h2,World.keptBut_mono (fun p hp=>⟨hp,?_⟩) q,fun _=> ?_⟩
 ·rw[c]at hp;exact Or.inr (EL.1 hp)
 ·obtain⟨_,_,_,_,_,x,u⟩:=d;have k:∀p,p∈([]++pa)++pv->p∈before:=fun p hp=>by rw[c];simpa using hp
  refine⟨w,_,_,([]++pa)++pv,⟨[]++pa,pv,trodAll_append (g _ (fun _ _=>rfl)) (l _ _ _),m _ (fun _ _=>rfl),rfl,fun b off hp=> ?_,fun n=> ?_⟩,fun p hp _=> ?_⟩
  ·rw[h.frozen (i _ (k _ hp))];exact x b off (k _ hp)
  ·have:=u n;rw[c]at this;simpa using this
  ·rw[c];simpa using hp
end
section
open Go.ChangeAt Go.ChangeShapes Go.WideShapes
theorem A8:ownKnob Tryz.prog.godebug=none:=by kernel_rfl
end
section
open Go.ChangeAt Go.ChangeShapes Go.Deep Go.WideShapes
theorem nA {w:DF} {A:Option Addr} {cs:List DG} (h1:L<=C) (h2:C<=DV) (g:cs.length=L) (d:A=none->C=0)
  (e:∀a,A=some a->(0 < C->a.spot=none)/\∀c v,cs[c]? =some v->w.cell? (a.add c)=some v):bh w (.slice A L C) L cs:=by
 by_cases hC:C=0
 ·subst hC;obtain rfl:L=0:=by omega
  exact .inl ⟨⟨A,rfl⟩,rfl,Ed.1 g⟩
 ·cases A with
  | none=>exact absurd (d rfl) hC
  | some a=>obtain⟨b,o,s⟩:=a;obtain⟨h,f⟩:=e _ rfl;obtain rfl:s=none:=h (by omega);refine .inr ⟨b,o,C,rfl,h1,h2,fun j v i=> ?_⟩;have:=f j v i;rw[Ft]at this;exact this
theorem sy {n:Int} (h:(Lit.int .u8 n).wf=true):0<=n/\n<=255:=by
 simpa[Lit.wf,IntKind.min,IntKind.max,IntKind.signed,IntKind.bits] using h
theorem oZ {w:DF} {A:Option Addr} {Z:List Int} (h1:L<=C) (h2:C<=DV) (i:Z.length=C) (h:A=none->C=0)
  (e:∀a,A=some a->∀c,c < C->w.cell? (a.add c)=some (.int .u8 (Z.getD c 0))):Rd w .u8 (.slice A L C) (Z.take L):=by
 have b:(Z.take L).length=L:=by rw[DX];omega
 show bh w (.slice A L C) (Z.take L).length _;rw[b];refine nA h1 h2 (by rw[ints_length,b]) h fun a f=>⟨fun hC=> ?_,fun c v d=> ?_⟩
 ·have:=World.cell?_spot (e a f 0 hC);simpa[Addr.add] using this
 ·have g:c < L:=by have:=(Er.1 d).1;rw[ints_length,b]at this;exact this
  rw[cX _ _ _ (by rw[b];exact g)]at d;cases d;rw[e a f c (by omega)];simp[DJ,g]
section
variable {H:Type} {enc:Ec × DG->H} {P:Ee} {w:DF} {base:Nat}
theorem qT {t e:Ec} (g:P.underlying t=some (.slice e)) (he:P.underlying e=some (.int .u8)) (f:P.cellsOf e=1) {v:DG} {d:DataW H} {p:List MemPlace}
  (o:H9 P w .any base t v) (h:DataW.Trod enc P w 0 (fun _=>true) true t v d p):∃l,Rd w .u8 v l/\bA l:=by
 obtain⟨a0,r,y,rfl⟩:=okWide_slice g o;obtain⟨fuel,m⟩:=h;rcases open_ints g he f m with ⟨b,_⟩ | ⟨a,len,cap,s,b,_,n,hm,i,_,k,hw⟩
 ·simp[Gw]at b;obtain⟨rfl,rfl,rfl⟩:=b;exact⟨[],Rd.nil _ _,bA.nil⟩
 ·simp[Gw]at b;obtain⟨rfl,rfl,rfl⟩:=b;simp only[if_true]at i;exact⟨s.take r,oZ n hm i (fun q=>by cases q) (fun u j c f=>by cases j;exact k c (by omega)),fun x hx=>sy (hw x (EN hx))⟩
end
theorem jV {H:Type} {enc:Ec × DG->H} {P:Ee} {W b:DF} (e:laidOutB P=true) (c:az W b) {sp:Nat->Bool}:
  ∀(a:List Ec) {vs:List DG} {ds:List (DataW H)} {ps:List MemPlace},DataW.TrodAll enc P W 0 (fun _=>true) true a vs ds ps->(∀t∈a,P.readableRec t=true/\t < P.types.size)->(∀x∈ps,x.block < W.heap.size)->(∀x∈ps,sp x.block=true)->DataW.TrodAll enc P b 0 sp true a vs ds ps
 | [],vs,ds,ps,h,_,_,_=>by
  obtain⟨rfl,rfl,rfl⟩:=trodAll_nil h;rfl
 | t :: a,vs,ds,ps,h,hr,hlt,hsp=>by
  obtain⟨v,g,d,f,p,q,rfl,rfl,rfl,h0,h1⟩:=trodAll_cons h;exact trodAll_cons_mk (WideElems.Trod_stays e (hr t (by simp)).1 (hr t (by simp)).2 h0 (fun x hx=>Below.same c (hlt x (by simp[hx]))) (fun x hx=>hsp x (by simp[hx])))
   (jV e c a h1 (fun u hu=>hr u (by simp[hu])) (fun x hx=>hlt x (by simp[hx])) (fun x hx=>hsp x (by simp[hx])))
theorem vt {H:Type} {enc:Ec × DG->H} {P:Ee} {f:Func} {s:ChangeSpec} {apart fresh handsOn again:Bool} {W d:DF} {args:Array DG} {ds gs:List (DataW H)} {before:List MemPlace} {l:Ec}
  (r:laidOutB P=true) (v:∀t∈f.params.toList,P.readableRec t=true/\t < P.types.size) (h:f.resultTypes=#[l]) (j:P.underlying l=some .bool) (k:s.vars=[])
  (g:az W d) (a:DataW.Whole enc P f.params.toList s.vars apart W args.toList ds gs before) (o:s.fn H ds= {results:=[.lit (.bool true)],args:=ds}):s.post enc P f apart fresh handsOn again W args (.bool true) d:=by
 have n:=a;have u:∀p∈before,p.block < W.heap.size:=fun p hp=>a.lt p hp
 obtain⟨p,q,m,e,rfl,y,z⟩:=a;rw[k]at e;obtain⟨rfl,rfl⟩:=trodVars_none e;have c:s.fn H (ds++[])= {results:=[.lit (.bool true)],args:=ds}:=by rw[List.append_nil];exact o
 refine vn (pa:=p) (pv:=[]) g n (fun b sp w=> ?_) (fun sp i=> ?_) (fun sp i=> ?_) rfl ?_
 ·rw[c,h];exact trodAll_cons_mk (shut_bool j _) trodAll_mk0
 ·rw[c];exact jV r g _ m v (fun x hx=>u x (by simp[hx])) (fun x hx=>i x (by simp[hx]))
 ·rw[c,k];rfl
 ·exact ok_one h rfl (okWide_bool_mk j _)
theorem iW {P:Ee} {L:List (String × DataW Unit)} {w:DF} {name:String} {k:IntKind} {a:List Int} {g:Nat} {t e:Ec} (h:laidMetH P L w)
  (f:(L.filter fun x=>x.1==name)=[(name,Lib.tabData k a)]) (b:P.globalNamed name=some g) (m:(P.globals[g]?).map (·.type)=some t) (l:P.underlying t=some (.array n e)) (he:P.underlying e=some (.int k)) (c:P.cellsOf e=1) (d:P.cellsOf t=n):
  ∀i,i < a.length->w.cell? ⟨g,i,none⟩=some (.int k (a.getD i 0)):=by
 have h1:=h.filter (fun x=>x.1==name);rw[f,Ii _ _ _ rfl]at h1;exact fun i j=>(Lib.tabIs_of_head b m l he c d h1).cell b i j
end
section
open Go.ChangeAt Go.ChangeShapes Go.Deep Go.WideShapes
section
variable {H:Type} {enc:Ec × DG->H} {P:Ee} {w:DF} {base:Nat}
end
end
section
open Go.ChangeAt Go.ChangeShapes Go.Deep Go.WideShapes
section
variable {H:Type} {enc:Ec × DG->H} {P:Ee} {w:DF} {base:Nat}
end
end
section
open Go.ChangeAt Go.ChangeShapes Go.Deep Go.WideShapes
section
variable {H:Type} {enc:Ec × DG->H} {P:Ee} {w:DF} {n:Nat} {t:Ec} {cs:List DG} {y:DataW H × List MemPlace}
theorem tz {a:Array Field} (e:P.underlying t=some (.struct a)) (h:DataW.trod enc P w 0 (fun _=>true) true n t cs=some y):
  cs.length=P.cellsOf t/\∃k,∀(i:Nat) (f:Field),a[i]? =some f->∃z,DataW.trod enc P w 0 (fun _=>true) true k f.type ((cs.drop f.offset).take (P.cellsOf f.type))=some z:=by
 obtain⟨xs,k,_,_,d,g,c⟩:=DataW.trod_struct e h;refine⟨d,k,fun i f b=> ?_⟩;have:=c i f b;rw[DL (by rw[g];exact(EM.1 b).1)]at this;exact⟨_,this⟩
end
end
section
open Go.ChangeAt Go.ChangeShapes Go.Deep Go.WideShapes
theorem o7 {H:Type} {enc:Ec × DG->H} {P:Ee} {w:DF} {t e q:Ec} (y:P.underlying t=some (.slice e)) (he:P.underlying e=some (.slice q)) (K:P.underlying q=some (.int .u8)) (ce:P.cellsOf e=1) (B:P.cellsOf q=1) {v:DG} {d:DataW H} {p:List MemPlace}
  (N:H9 P w .any base t v) (h:DataW.Trod enc P w 0 (fun _=>true) true t v d p):∃ps,bf w v ps/\∀l∈ps,bA l:=by
 obtain⟨a0,b,O,rfl⟩:=okWide_slice y N;obtain⟨fuel,I⟩:=h;rcases open_int_rows y he K ce B I with ⟨f,_⟩ | ⟨a,len,cap,A,L,C,Z,f,_,o,hm,_,g⟩
 ·simp[Gw]at f;obtain⟨rfl,rfl,rfl⟩:=f;exact⟨[],⟨[],bh.nil _,rfl,fun i n=>absurd n (Nat.not_lt_zero _)⟩,fun l o=>by cases o⟩
 ·simp[Gw]at f;obtain⟨rfl,rfl,rfl⟩:=f;refine⟨(Eh b).map fun r=>(Z r).take (L r),⟨(Eh b).map fun r=>.slice (A r) (L r) (C r),?_,by simp,fun i n=> ?_⟩,fun l J=> ?_⟩
  ·rw[List.length_map,List.length_range];refine nA o hm (by simp) (fun q=>by cases q) (fun s k=> ?_);cases k;refine⟨fun hC=> ?_,fun c v z=> ?_⟩
   ·have:=World.cell?_spot (g 0 hC).1;simpa[Addr.add] using this
   ·have m:c < b:=by have:=(Er.1 z).1;simpa using this
    have j:v=.slice (A c) (L c) (C c):=by simpa[m] using z.symm
    rw[j];exact(g c (by omega)).1
  ·have u:i < b:=by simpa using n
   obtain⟨_,h1,h2,E,_,F,G⟩:=g i (by omega);have j:((Eh b).map fun r=>FE (A r) (L r) (C r)).getD i undef=.slice (A i) (L i) (C i):=by simp[DJ,u]
   have D:((Eh b).map fun r=>(Z r).take (L r)).getD i []=(Z i).take (L i):=by simp[DJ,u]
   rw[j,D];exact oZ h1 h2 E F fun s k c m=>(G s k).2 c m
  ·obtain⟨r,M,rfl⟩:=F6.1 J;have Q:=List.mem_range.1 M;obtain⟨_,_,_,_,hw,_,_⟩:=g r (by omega);exact fun x hx=>sy (hw x (EN hx))
end
section
open Go.ChangeAt Go.ChangeShapes Go.WideShapes
theorem xM:laidOutB DE=true:=by kernel_rfl
end
section
variable {α :Type} {f: α ->List DG} {s:Nat}
def aw (f: α ->List DG) (L:List α):List DG:=L.flatMap f
theorem di (a b:List α):aw f (a++b)=aw f a++aw f b:=by simp[aw]
theorem gO (x: α):aw f [x]=f x:=by simp[aw]
theorem cm (x: α) (r:List α):aw f (x :: r)=f x++aw f r:=by simp[aw]
theorem bG:∀ {L:List α},(∀x∈L,(f x).length=s)->(aw f L).length=L.length*s
 | [],_=>by simp[aw]
 | x :: r,h=>by
  have h1:=h x (by simp);have h2:=bG (L:=r) (fun y hy=>h y (List.mem_cons_of_mem _ hy));rw[cm,DS,h1,h2,Eu,Nat.add_mul];omega
theorem eg {L:List α} (h:∀x∈L,∀c∈f x,c.oneCell'=true):∀c∈aw f L,c.oneCell'=true:=fun c a=>by
 obtain⟨x,hx,b⟩:=List.mem_flatMap.1 a;exact h x hx c b
theorem eQ {L:List α} (h:∀x∈L,(f x).length=s) (k:Nat):(aw f L).drop (k*s)=aw f (L.drop k):=by
 by_cases a:k<=L.length
 ·have e:L=L.take k++L.drop k:=(Fs k L).symm;conv=>lhs;rw[e,di]
  exact List.drop_left' (by rw[bG (s:=s) (fun x hx=>h x (EN hx)),DX,Fw a])
 ·rw[FQ (by rw[bG h];exact Fq _ (by omega)),FQ (by omega)];rfl
theorem iH {L:List α} (h:∀x∈L,(f x).length=s) (k:Nat):(aw f L).take (k*s)=aw f (L.take k):=by
 by_cases a:k<=L.length
 ·have e:L=L.take k++L.drop k:=(Fs k L).symm;conv=>lhs;rw[e,di]
  exact Iv (by rw[bG (s:=s) (fun x hx=>h x (EN hx)),DX,Fw a])
 ·rw[DW (by rw[bG h];exact Fq _ (by omega)),DW (by omega)]
theorem aH {L:List α} (d: α) {i:Nat} (a:i < L.length):L.getD i d∈L:=by
 rw[DJ,DL a];exact Fc a
theorem oc {w:DF} {b o:Nat} {L:List α} (d: α) (h:w.rangeAt b o (aw f L)) (c:∀x∈L,(f x).length=s) {i:Nat} (a:i < L.length):w.rangeAt b (o+i*s) (f (L.getD i d)):=by
 have h1:=ch h (i*s);rw[eQ c,List.drop_eq_getElem_cons a,cm]at h1;have h2:=cU h1 s;rw[Iv (c _ (Fc a))]at h2;rw[DJ,DL a];exact h2
end
theorem bh.pos {w:DF} {v:DG} {cs:List DG} (h:bh w v n cs) (f:0 < n) (e:cs≠[]):∃b o c,v=.slice (some ⟨b,o,none⟩) n c/\n<=c/\c<=DV/\b < w.heap.size/\w.rangeAt b o cs:=by
 rcases h with ⟨_,h,_⟩ | ⟨b,o,c,h1,h2,d,a⟩
 ·omega
 ·exact⟨b,o,c,h1,h2,d,bP a e,a⟩
structure av (w:DF) (X:Nat) (cs:List DG):Prop where
 rg:w.rangeAt X 0 cs
 th:w.there X 0 cs.length
 ne:cs≠[]
section
variable {w w':DF} {X:Nat} {cs:List DG}
theorem av.lt (h:av w X cs):X < w.heap.size:=bP h.rg h.ne
theorem av.same (h:av w X cs) (a:w'.heap[X]? =w.heap[X]?):av w' X cs:=
 ⟨fun j v b=>by rw[EH (w:=w) a];exact h.rg j v b,fun j b=>by rw[EH (w:=w) a,World.frozen?_of_block (w:=w) a];exact h.th j b,h.ne⟩
theorem av.ext (h:av w X cs) (a:az w w'):av w' X cs:=h.same (a.block X h.lt)
theorem av.grown {row:Option Nat} (h:av w X cs) (a:w.grownBy w' row) (b:row≠some X):av w' X cs:=h.same (a.block X h.lt (fun q=>b q.symm))
theorem av.cell (h:av w X cs) {i:Nat} {v:DG} (a:cs[i]? =some v):w.cell? ⟨X,i,none⟩=some v:=by
 have:=h.rg i v a;rwa[DY]at this
theorem av.loadVar {P:Ee} (h:av w X cs) {ty:Ec} {d:TypeDesc} (hu:P.underlying ty=some d) (a:d.isRow=true) (b:(P.info? ty).map (·.size)=some cs.length):(loadVar ty ⟨X,0,none⟩).run P w=.ok (.agg cs.toArray) w:=
 run_loadVar_mid (P:=P) w X 0 ty cs d h.rg hu a b
theorem av.load {P:Ee} (h:av w X cs) {ty:Ec} {d:TypeDesc} (hu:P.underlying ty=some d) (a:d.isRow=true) (b:(P.info? ty).map (·.size)=some cs.length):(Instr.loadAt ty (.pointer (some ⟨X,0,none⟩))).run P w=.ok (.agg cs.toArray) w:=
 run_loadAt_mid (P:=P) w X 0 ty cs d h.rg hu a b
theorem av.box (w:DF) (e:Ec) (b:cs≠[]):av (w.alloc (.cells cs.toArray e)) w.heap.size cs:=
 ⟨fun j v a=>by rw[DY,D6];simpa using a,iU w cs.toArray e _ (by simp),b⟩
theorem av.store {P:Ee} {cs':List DG} (h:av w X cs) (b:cs'.length=cs.length) (h1:∀c∈cs',c.oneCell'=true) {ty:Ec} (a:(P.info? ty).map (·.size)=some cs'.length):
  (Fb ty (.pointer (some ⟨X,0,none⟩)) (.agg cs'.toArray)).run P w=.ok () (w.setCells X 0 cs'):=by
 have h2:=Ir (P:=P) w X 0 ty cs'.toArray (by simpa[b] using h.th) (by simpa using a) (GM h1);simpa using h2
theorem av.set {cs':List DG} (h:av w X cs) (a:cs'.length=cs.length):av (w.setCells X 0 cs') X cs':=
 ⟨Eb w X 0 cs' (by rw[a];exact h.th),by rw[a];exact Fp h.th _ _ _,fun q=>h.ne (Ed.1 (by rw[<-a,q];rfl))⟩
theorem av.other (h:av w X cs) {Y:Nat} (a:X≠Y) (vs:List DG):av (w.setCells Y 0 vs) X cs:=h.same (dx vs 0 w (mX.refl Y w) X a)
theorem av.fresh (w:DF) (e:Ec) (z:Array DG) (c:z.size=cs.length) (b:cs≠[]):av ((w.alloc (.cells z e)).setCells w.heap.size 0 cs) w.heap.size cs/\az w ((w.alloc (.cells z e)).setCells w.heap.size 0 cs):=by
 have a:=iU w z e cs.length c;exact⟨⟨Eb _ _ _ cs a,Fp a _ _ _,b⟩,aE _ _ _ _ (ae _ _) (DH _)⟩
theorem aI {P:Ee} (w:DF) (e:Ec) (z:Array DG) (b:z.size=cs.length) (h1:∀c∈cs,c.oneCell'=true) {ty:Ec} (a:(P.info? ty).map (·.size)=some cs.length):
  (Fb ty (.pointer (some ⟨w.heap.size,0,none⟩)) (.agg cs.toArray)).run P (w.alloc (.cells z e))=.ok () ((w.alloc (.cells z e)).setCells w.heap.size 0 cs):=by
 have h2:=Ir (P:=P) (w.alloc (.cells z e)) w.heap.size 0 ty cs.toArray (by simpa using iU w z e cs.length b) (by simpa using a) (GM h1);simpa using h2
end
structure JN (ia ib ta tb s B b f D:Nat) (X:DG) (k:Nat) (xs nc:List DG) (w0:DF) (d:Nat->Bool) (u:Nat->DG) (w:DF):Prop where
 c:w.cell? ⟨b,f,none⟩=some X
 fr:w.frozen? ⟨b,f,none⟩=false
 box:av w D nc
 ne:X.ownBlock≠some b
 nd:X.ownBlock≠some D
 hb:B<=b
 hX:∀j,X.ownBlock=some j->B<=j
 ad:Af w0 w b X.ownBlock
 le:B<=w0.heap.size
 pk:d ia=false->Pk w 0 s X k xs
 bl:d ib=true->d ia=false->∃g,u tb=.slice (some ⟨g,0,none⟩) 1 1/\w.rangeAt g 0 nc
 nw:d ia=true->Pk w 0 s (u ta) (k+1) (xs++nc)/\(∀j,(u ta).ownBlock=some j->X.ownBlock=some j\/w0.heap.size<=j)
section
variable {ia ib ta tb s B b f D:Nat} {X:DG} {k:Nat} {xs nc:List DG} {w0:DF} {d:Nat->Bool} {u:Nat->DG} {w:DF}
theorem jy (w:DF) (cs:List DG) (e:Ec):(w.alloc (.cells cs.toArray e)).rangeAt w.heap.size 0 cs:=fun j v a=>by
 rw[DY,D6];simpa using a
end
section
variable {P:Ee} {Q:Exit->Act->DF->Prop} {ops:Array Oper} {rest:List Oper} {a:Act} {w:DF} {d:Option Tmp} {tt ty:Ec} {pp:String} {af:Array Edge}
end
abbrev Nt:=Nat × List Int
def cN (x:Nt):List DG:=.int .i64 (x.1:Int) :: ao .u8 x.2
def Bp (N:List Nt):Prop:=∀x∈N,x.2.length=32/\bA x.2
abbrev Cf (w:DF) (v:DG) (N:List Nt):Prop:=bh w v N.length (aw cN N)
abbrev n0:Nt:=(0,uZ)
structure Di (w:DF) (b:Nat) (v:DG) (N:List Nt):Prop where
 c0:w.cell? ⟨b,0,none⟩=some v
 f0:w.frozen? ⟨b,0,none⟩=false
 pk:Pk w 0 33 v N.length (aw cN N)
 DD:Bp N
 ne:v.ownBlock≠some b
section
variable {w w':DF} {b:Nat} {v:DG} {N:List Nt}
end
structure Dm (w:DF) (b:Nat) (v:DG) (N:List Nt):Prop where
 c0:w.cell? ⟨b,0,none⟩=some v
 f0:w.frozen? ⟨b,0,none⟩=false
 rd:lF w b v N.length (aw cN N)
 DD:Bp N
section
variable {w w':DF} {b:Nat} {v:DG} {N:List Nt}
end
def sA (N:List Nt):Nt:=N.getD (N.length - 1) n0
def Ao (N:List Nt) (size:Int) (root:List Int) (p:List (List Int)):Nat:=
 if size < 1\/512 < size then 1 else if N.length=0 then(if p.length=0 then 0 else 8)else if size < ((sA N).1:Int)then 19 else A6 (sA N).1 size (sA N).2 root p
def Bq (N:List Nt) (size:Int) (root:List Int) (p:List (List Int)):List Nt:=
 if Ao N size root p=0/\((sA N).1:Int) < size then N++[(size.toNat,root)]else N
structure Cg (N:List Nt):Prop where
 rg:∀x∈N,1<=x.1/\x.1<=512
 up:N.Pairwise (fun a b=>a.1 < b.1)
def BU (N:List Nt) (k:Int):Bool:=N.any fun x=>decide ((x.1:Int)=k)
def Ch (N:List Nt) (k:Int):List Int:=((N.find? fun x=>decide ((x.1:Int)=k)).map (·.2)).getD uZ
section
open Go.ChangeAt Go.ChangeShapes Go.Deep Go.WideShapes
abbrev Ac:=Int × List Int × DG × List (List Int)
def cA (x:Ac):List DG:=.int .i64 x.1 :: (ao .u8 x.2.1++[x.2.2.1])
abbrev Co:Ac:=(0,[],.slice none 0 0,[])
def BV (w:DF) (x:Ac):Prop:=x.2.1.length=32/\bA x.2.1/\eY w x.2.2.1 x.2.2.2/\dm x.2.2.2
structure Ci (w:DF) (v:DG) (L:List Ac):Prop where
 rd:bh w v L.length (aw cA L)
 ok:∀x∈L,BV w x
section
variable {H:Type} {enc:Ec × DG->H} {P:Ee} {w:DF} {base:Nat}
end
end
abbrev Sh:=Int × List Int × List (List Int)
abbrev Sv:=Int × (DG × List Int) × DG × List (List Int)
def cf (x:Sv):Sh:=(x.1,x.2.1.2,x.2.2.2)
def cS (x:Sv):List DG:=[.int .i64 x.1,x.2.1.1,x.2.2.1]
abbrev s0:Sv:=(0,(.slice none 0 0,[]),.slice none 0 0,[])
abbrev h0:Sh:=(0,[],[])
structure uL (w:DF) (x:Sv):Prop where
 st:Rd w .u8 x.2.1.1 x.2.1.2
 bs:bA x.2.1.2
 pa:eY w x.2.2.1 x.2.2.2
 dg:dm x.2.2.2
theorem uL.ext {w w':DF} {x:Sv} (h:uL w x) (k:az w w'):uL w' x:=⟨h.st.ext k,h.bs,bh.ext h.pa k,h.dg⟩
theorem bz (x:Sv):(cS x).length=3:=rfl
theorem pd (x:Sv):cS x≠[]:=fun h=>by cases h
theorem gP {w:DF} {x:Sv} (h:uL w x):∀c∈cS x,c.oneCell'=true:=fun c a=>by
 obtain⟨p1,e,b,_,_⟩:=h.st.form;obtain⟨p2,f,d,_,_⟩:=h.pa.form;unfold cS at a;rw[b,d]at a;simp only[Es,ED,or_false]at a;rcases a with rfl | rfl | rfl<;>rfl
structure oe (w:DF) (v:DG) (L:List Sv):Prop where
 rd:bh w v L.length (aw cS L)
 ok:∀x∈L,uL w x
theorem oe.ext {w w':DF} {v:DG} {L:List Sv} (h:oe w v L) (k:az w w'):oe w' v L:=⟨bh.ext h.rd k,fun x hx=>(h.ok x hx).ext k⟩
theorem oe.nil (w:DF):oe w (.slice none 0 0) []:=⟨bh.nil _,fun x hx=>by cases hx⟩
theorem dj (L:List Sv):(aw cS L).length=L.length*3:=bG fun x _=>bz x
theorem oe.pos {w:DF} {v:DG} {L:List Sv} (h:oe w v L) (g:0 < L.length):∃b o c,v=.slice (some ⟨b,o,none⟩) L.length c/\L.length<=c/\c<=DV/\b < w.heap.size/\∀i,i < L.length->w.rangeAt b (o+i*3) (cS (L.getD i s0)):=by
 obtain⟨b,o,c,h1,h2,a,d,e⟩:=bh.pos h.rd g (fun q=>by have:=dj L;rw[q]at this;simp at this;omega);exact⟨b,o,c,h1,h2,a,d,fun i f=>oc s0 e (fun x _=>bz x) f⟩
theorem cR (L:List Sv) (i:Nat):(L.map cf).getD i h0=cf (L.getD i s0):=by
 rw[DJ,DJ,Ev];cases L[i]? <;>rfl
structure Cp where
 kind:Int
 id:Int
 obj:Int
 places:List Int
 shown:List Sh
 Cq:Int
 Cs:Int
 blocks:List (List Int)
 code:Int
def Cp.CD (l:Cp):List Int:=[l.kind,l.id,l.obj,l.Cq,l.Cs,l.code]
theorem Cp.CG {a b:Cp}:a=b↔a.CD=b.CD/\a.places=b.places/\a.shown=b.shown/\a.blocks=b.blocks:=by
 constructor
 ·rintro rfl;exact⟨rfl,rfl,rfl,rfl⟩
 ·rintro⟨h1,h2,c,d⟩;cases a;cases b;simp only[Cp.CD,List.cons.injEq,and_true]at h1;obtain⟨rfl,rfl,rfl,rfl,rfl,rfl⟩:=h1;simp only at h2 c d;subst h2 c d;rfl
instance (a b:Cp):Decidable (a=b):=decidable_of_iff _ Cp.CG.symm
def cL (l:Cp) (vp vs vb:DG):List DG:=[.int .i64 l.kind,.int .i64 l.id,.int .i64 l.obj,vp,vs,.int .i64 l.Cq,.int .i64 l.Cs,vb,.int .i64 l.code]
structure kA (w:DF) (cs:List DG) (l:Cp) (vp vs vb:DG) (L:List Sv):Prop where
 eq:cs=cL l vp vs vb
 pl:Rd w .i64 vp l.places
 sh:oe w vs L
 sl:L.map cf=l.shown
 bl:bf w vb l.blocks
 Ct:∀b∈l.blocks,bA b
theorem kA.ext {w w':DF} {cs:List DG} {l:Cp} {vp vs vb:DG} {L:List Sv} (h:kA w cs l vp vs vb L) (k:az w w'):kA w' cs l vp vs vb L:=⟨h.eq,h.pl.ext k,h.sh.ext k,h.sl,h.bl.ext k,h.Ct⟩
theorem bf.form {w:DF} {v:DG} {ps:List (List Int)} (h:bf w v ps):∃p c,v=.slice p ps.length c/\ps.length<=c/\c<=DV:=by
 obtain⟨vs,h1,_⟩:=h;exact h1.form
theorem bf.nil (w:DF):bf w (.slice none 0 0) []:=⟨[],bh.nil _,rfl,fun i a=>by cases a⟩
def dH (w:DF) (v:DG) (l:Cp):Prop:=∃cs vp vs vb L,v=.agg (List.toArray cs)/\kA w cs l vp vs vb L
theorem dH.ext {w w':DF} {v:DG} {l:Cp} (h:dH w v l) (k:az w w'):dH w' v l:=by
 obtain⟨cs,vp,vs,vb,L,h1,h2⟩:=h;exact⟨cs,vp,vs,vb,L,h1,h2.ext k⟩
theorem cg (l:Cp) (vp vs vb:DG):cL l vp vs vb≠[]:=fun h=>by cases h
theorem kA.one {w:DF} {cs:List DG} {l:Cp} {vp vs vb:DG} {L:List Sv} (h:kA w cs l vp vs vb L):∀c∈cs,c.oneCell'=true:=fun c a=>by
 obtain⟨p1,f,b,_,_⟩:=h.pl.form;obtain⟨p2,g,d,_,_⟩:=h.sh.rd.form;obtain⟨j,i,e,_,_⟩:=h.bl.form;rw[h.eq]at a;unfold cL at a;rw[b,d,e]at a;simp only[Es,ED,or_false]at a;rcases a with rfl | rfl | rfl | rfl | rfl | rfl | rfl | rfl | rfl<;>rfl
def nB (a b:Cp):Bool:=decide (a=b)
structure fv (l:Cp):Prop where
 pl:l.places.length<=100
 sh:l.shown.length<=30
 bl:l.blocks.length<=600
 st:∀s∈l.shown,s.2.1.length<=100/\s.2.2.length<=40
 bs:∀b∈l.blocks,b.length<=100
def dI:Cp:=⟨0,0,0,[],[],0,0,[],0⟩
abbrev zL:Array DG:=#[.int .i64 0,.int .i64 0,.int .i64 0,.slice none 0 0,.slice none 0 0,.int .i64 0,.int .i64 0,.slice none 0 0,.int .i64 0]
abbrev fj:Array DG:=#[.int .i64 0,.slice none 0 0,.slice none 0 0]
theorem kA.zero (w:DF):kA w (cL dI (.slice none 0 0) (.slice none 0 0) (.slice none 0 0)) dI (.slice none 0 0) (.slice none 0 0) (.slice none 0 0) []:=⟨rfl,bh.nil _,oe.nil _,rfl,bf.nil _,fun b a=>by cases a⟩
section
variable {α :Type}
theorem aP (d: α) (l:List α) (k:Nat) (h:k < l.length):l.take (k+1)=l.take k++[l.getD k d]:=by
 rw[DJ,DL h,E1 h];rfl
end
section
variable {w w':DF}
theorem bh.kept {v:DG} {n:Nat} {cs:List DG} (h:bh w v n cs) (f:∀k,v.ownBlock=some k->k < w.heap.size->w'.heap[k]? =w.heap[k]?):bh w' v n cs:=by
 rcases h with h1 | ⟨b,o,c,h1,h2,e,a⟩
 ·exact .inl h1
 ·refine .inr ⟨b,o,c,h1,h2,e,?_⟩;by_cases d:cs=[]
  ·subst d;intro j x hx;simp at hx
  ·intro j x hx;rw[EH (w:=w) (f b (by rw[h1];rfl) (bP a d))];exact a j x hx
theorem av.put {X:Nat} {cs:List DG} (h:av w X cs) {i:Nat} (b:i < cs.length) (u:DG):av (w.setCell ⟨X,i,none⟩ u) X (cs.set i u):=by
 have c:∀j,j < cs.length->∃v,w.cell? ⟨X,j,none⟩=some v:=fun j a=>⟨_,h.cell (DL a)⟩
 refine⟨fun j v a=> ?_,fun j a=> ?_,fun q=>h.ne (by simpa using q)⟩
 ·rw[DY];by_cases e:j=i
  ·subst e;rw[E8 (by simpa using b)]at a;obtain⟨v0,h0⟩:=c j b;rw[Ij _ _ _ (by rw[h0];rfl)];exact a
  ·rw[List.getElem?_set_ne (fun q=>e q.symm)]at a;rw[El _ _ _ _ (by intro q;injection q with _ q;omega)];exact h.cell a
 ·rw[List.length_set]at a;obtain⟨h1,h2⟩:=h.th j a;rw[DY]at h1 h2⊢;refine⟨?_,by rw[Gc];exact h2⟩;by_cases e:j=i
  ·subst e;obtain⟨v0,h0⟩:=c j b;rw[Ij _ _ _ (by rw[h0];rfl)];rfl
  ·rw[El _ _ _ _ (by intro q;injection q with _ q;omega)];exact h1
theorem av.fz {X:Nat} {cs:List DG} (h:av w X cs) {i:Nat} (a:i < cs.length):w.frozen? ⟨X,i,none⟩=false:=by
 have:=(h.th i a).2;rwa[DY]at this
theorem sC (w:DF) (e:Ec) (cs:List DG):bh (w.alloc (.cells cs.toArray e)) (.slice (some ⟨w.heap.size,0,none⟩) 1 1) 1 cs:=by
 refine .inr ⟨w.heap.size,0,1,rfl,DH _,show 1<=DV from by decide,fun j v a=> ?_⟩;rw[DY,D6];simpa using a
end
def aS (F:Nat->Prop) (w:DF) (v:DG) (n:Nat) (cs:List DG):Prop:=
 ((∃p,v=.slice p 0 0)/\n=0/\cs=[])\/∃b o c,v=.slice (some ⟨b,o,none⟩) n c/\n<=c/\c<=DV/\w.rangeAt b o cs/\(cs≠[]->F b)
section
variable {F F':Nat->Prop} {w w':DF} {v:DG} {n:Nat} {cs:List DG}
theorem aS.AT (h:aS F w v n cs):bh w v n cs:=by
 rcases h with h | ⟨b,o,c,h1,h2,a,d,_⟩
 ·exact .inl h
 ·exact .inr ⟨b,o,c,h1,h2,a,d⟩
theorem aS.By (h:bh w v n cs) (e:∀b,v.ownBlock=some b->b < w.heap.size->F b):aS F w v n cs:=by
 rcases h with h | ⟨b,o,c,h1,h2,d,a⟩
 ·exact .inl h
 ·exact .inr ⟨b,o,c,h1,h2,d,a,fun f=>e b (by rw[h1];rfl) (bP a f)⟩
theorem aS.kept (h:aS F w v n cs) (g:∀b,F b->b < w.heap.size->F' b/\w'.heap[b]? =w.heap[b]?):aS F' w' v n cs:=by
 rcases h with h | ⟨b,o,c,h1,h2,d,e,f⟩
 ·exact .inl h
 ·by_cases a:cs=[]
  ·subst a;exact .inr ⟨b,o,c,h1,h2,d,fun j x hx=>by simp at hx,fun q=>absurd rfl q⟩
  ·obtain⟨i,k⟩:=g b (f a) (bP e a);refine .inr ⟨b,o,c,h1,h2,d,fun j x hx=> ?_,fun _=>i⟩;rw[EH (w:=w) k];exact e j x hx
theorem aS.nil (w:DF):aS F w (.slice none 0 0) 0 []:=.inl ⟨⟨_,rfl⟩,rfl,rfl⟩
end
structure ez (F:Nat->Prop) (w:DF) (x:Sv):Prop where
 st:aS F w x.2.1.1 x.2.1.2.length (ao .u8 x.2.1.2)
 bs:bA x.2.1.2
 pa:aS F w x.2.2.1 x.2.2.2.length (aN x.2.2.2)
 dg:dm x.2.2.2
theorem ez.ok {F:Nat->Prop} {w:DF} {x:Sv} (h:ez F w x):uL w x:=⟨h.st.AT,h.bs,h.pa.AT,h.dg⟩
def fG {α :Type} (Ok:(Nat->Prop)->DF-> α ->Prop):Prop:=∀(F F':Nat->Prop) (w w':DF) (x: α),Ok F w x->(∀b,F b->b < w.heap.size->F' b/\w'.heap[b]? =w.heap[b]?)->Ok F' w' x
theorem aU:fG ez:=fun _ _ _ _ _ h a=>⟨h.st.kept a,h.bs,h.pa.kept a,h.dg⟩
abbrev Bv:=DG × List Int
def cB (x:Bv):List DG:=[x.1]
def iI (F:Nat->Prop) (w:DF) (x:Bv):Prop:=aS F w x.1 x.2.length (ao .u8 x.2)/\bA x.2
theorem br:fG iI:=fun _ _ _ _ _ h a=>⟨aS.kept h.1 a,h.2⟩
def cI (x:Int):List DG:=[.int .i64 x]
theorem qU (l:List Int):aw cI l=ao .i64 l:=by
 unfold aw ao cI;induction l with
 | nil=>rfl
 | cons x r ih=>simp[List.flatMap_cons,ih]
def jb {α :Type} (_:Nat->Prop) (_:DF) (_: α):Prop:=True
theorem bX {α :Type}:fG (jb (α := α)):=fun _ _ _ _ _ _ _=>trivial
structure GR {α :Type} (f: α ->List DG) (s:Nat) (Ok:(Nat->Prop)->DF-> α ->Prop) (A:Nat->Prop) (B e:Nat) (w:DF) (X fi:Nat) (cs:List DG) (v:DG) (M:List α):Prop where
 box:av w X cs
 CC:cs[fi]? =some v
 own:w.ownsRow B e s v M.length (aw f M)
 ok:∀x∈M,Ok (fun b=>b≠X/\v.ownBlock≠some b/\A b) w x
 ne:v.ownBlock≠some X
section
variable {α :Type} {f: α ->List DG} {s:Nat} {Ok:(Nat->Prop)->DF-> α ->Prop} {A:Nat->Prop} {B e:Nat} {w w1 w2:DF} {X fi:Nat} {cs:List DG} {v v':DG} {M:List α} {y: α}
theorem GR.ext (c:fG Ok) (h:GR f s Ok A B e w X fi cs v M) (a:az w w1):GR f s Ok A B e w1 X fi cs v M:=
 ⟨h.box.ext a,h.CC,aR h.own a,fun x hx=>c _ _ _ _ _ (h.ok x hx) fun b d g=>⟨d,a.block b g⟩,h.ne⟩
theorem GR.start (a:av w X cs) (b:cs[fi]? =some (.slice none 0 0)):GR f s Ok A B e w X fi cs (.slice none 0 0) []:=
 ⟨a,b,EU _ _ _ _,fun x hx=>(by cases hx),fun q=>(by cases q)⟩
theorem GR.lt (h:GR f s Ok A B e w X fi cs v M):fi < cs.length:=(Er.1 h.CC).1
theorem GR.cell (h:GR f s Ok A B e w X fi cs v M):w.cell? ⟨X,fi,none⟩=some v:=h.box.cell h.CC
theorem GR.Cz (h:GR f s Ok A B e w1 X fi cs v M) (a:w1.grownBy w2 v.ownBlock):av w2 X cs:=h.box.grown a (fun q=>h.ne q)
theorem GR.C7 (h:GR f s Ok A B e w X fi cs v M) {n:Nat} (a:M.length=n):w.ownsRow B e s v n (aw f M):=by subst a;exact h.own
theorem GR.push (c:fG Ok) (h:GR f s Ok A B e w1 X fi cs v M) {n:Nat} (l:M.length=n) (m:w2.ownsRow B e s v' (n+1) (aw f M++f y)) (d:w1.grownBy w2 v.ownBlock) (g:∀k,v'.ownBlock=some k->v.ownBlock=some k\/w1.heap.size<=k) (hy:Ok (fun b=>b≠X/\v.ownBlock≠some b/\A b) w1 y):
  GR f s Ok A B e (w2.setCell ⟨X,fi,none⟩ v') X fi (cs.set fi v') v' (M++[y]):=by
 subst l;have i:v'.ownBlock≠some X:=fun q=>by
  rcases g X q with z | z
  ·exact h.ne z
  ·have:=h.box.lt;omega
 refine⟨(h.Cz d).put h.lt v',by rw[E8 h.lt],?_,fun x hx=> ?_,i⟩
 ·rw[DS,Ez,di,gO];exact fc m i fi v'
 ·have key:∀b,(b≠X/\v.ownBlock≠some b/\A b)->b < w1.heap.size->(b≠X/\v'.ownBlock≠some b/\A b)/\(w2.setCell ⟨X,fi,none⟩ v').heap[b]? =w1.heap[b]? :=fun b a j=>by
   refine⟨⟨a.1,fun q=> ?_,a.2.2⟩,?_⟩
   ·rcases g b q with z | z
    ·exact a.2.1 z
    ·omega
   ·rw[Below.heap_setCell w2 ⟨X,fi,none⟩ v' b a.1];exact d.block b j (fun q=>a.2.1 q.symm)
  rcases EL.1 hx with hx | hx
  ·exact c _ _ _ _ _ (h.ok x hx) key
  ·obtain rfl:x=y:=by simpa using hx
   exact c _ _ _ _ _ hy key
end
def pf (v:DG):Prop:=∃p n c,v=.slice p n c
theorem bh.CH {w:DF} {v:DG} {cs:List DG} (h:bh w v n cs):pf v:=by
 obtain⟨p,c,h1,_⟩:=h.form;exact⟨p,n,c,h1⟩
theorem bf.CH {w:DF} {v:DG} {ps:List (List Int)} (h:bf w v ps):pf v:=by
 obtain⟨p,c,h1,_⟩:=h.form;exact⟨p,_,c,h1⟩
theorem bk {l:Cp} {vp vs vb:DG} (h1:pf vp) (h2:pf vs) (b:pf vb):∀c∈cL l vp vs vb,c.oneCell'=true:=fun c a=>by
 obtain⟨p1,g,d,rfl⟩:=h1;obtain⟨p2,h,e,rfl⟩:=h2;obtain⟨j,i,f,rfl⟩:=b;unfold cL at a;simp only[Es,ED,or_false]at a;rcases a with rfl | rfl | rfl | rfl | rfl | rfl | rfl | rfl | rfl<;>rfl
theorem eu {p:Int} {u v:DG} (h1:pf u) (h2:pf v):∀c∈([.int .i64 p,u,v]:List DG),c.oneCell'=true:=fun c a=>by
 obtain⟨p1,e,b,rfl⟩:=h1;obtain⟨p2,f,d,rfl⟩:=h2;simp only[Es,ED,or_false]at a;rcases a with rfl | rfl | rfl<;>rfl
theorem jW:pf (.slice none 0 0):=⟨_,_,_,rfl⟩
theorem pg:jE DE 24 57 (.agg fj) 3 56:=⟨Tryz.underlying24,by kernel_rfl,rfl,by decide⟩
theorem iJ:jE DE 41 100 (.agg fj) 3 56:=⟨Tryz.underlying41,by kernel_rfl,rfl,by decide⟩
end Go.Proofs.Bl
