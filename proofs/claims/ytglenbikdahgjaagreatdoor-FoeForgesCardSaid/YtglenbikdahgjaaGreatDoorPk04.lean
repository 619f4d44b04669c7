/- Texts that stood apart, in one: FroA, Duo, GroQ, GroR, KeepS, Is. -/
import Derived.OwnWalkIn
import Derived.RangeFuncNested
import Derived.WalkKit
import Derived.LaidEql
import Derived.Stop.Asserts
import Derived.RowKitTokens
import Derived.Below
import Derived.ChangeSame
import Derived.ProofKit
import Derived.OpenShut
import Derived.LaidMore
import Derived.Stop.Joined
import GoSem.PinnedTables
import Derived.Carry
import Derived.ChangeSlices
import Derived.Deep.Matrix
import Derived.Lib.LaidTab
import Derived.LaidSub
import Derived.MakeChecks
import Derived.Deep.Slices
import Derived.Test.YtglenbikdahgjaaGreatDoorPk02
import Derived.Test.YtglenbikdahgjaaGreatDoorPk00
import Derived.Test.YtglenbikdahgjaaGreatDoorPk03
import Derived.Test.YtglenbikdahgjaaGreatDoorPk01
import Derived.Test.YtglenbikdahgjaaGreatDoorChecked
import Derived.Test.YtglenbikdahgjaaGreatDoorRows
set_option maxRecDepth 100000
set_option maxHeartbeats 16000000
namespace Go.Proofs.Bl
open Go Go.RowKit
section
variable {P:Program}
theorem run_append_pk {w:World} {t ty e:TypeId} {v z:Value} {base size bytes n m c b o:Nat} {xs news:List Value}
  (hT:SlT P t e z size bytes) (hown:Pk w base size v n xs) (hnews:w.rangeAt b o news) (hl:news.length=m*size) (h1:∀u∈news,u.oneCell'=true) (_hm:0 < m)
  (hlen:n+m<=maxLen) (hbytes:(n+m)*bytes<=140737488355328) (hbase:base<=w.heap.size):
  ∃v' w',(Builtin.append_ #[t,t] ty #[v,.slice (some ⟨b,o,none⟩) m c]).run P w= .ok v' w'/\Pk w' base size v' (n+m) (xs++news)/\w.grownBy w' v.ownBlock/\(∀k,v'.ownBlock=some k->v.ownBlock=some k\/w.heap.size<=k):=by
 obtain⟨i,hi,hz,hs1,hb1⟩:=info_parts hT.info
 have hc:∀j u,news[j]? =some u->w.cell? ((⟨b,o,none⟩:Addr).add j)=some u:=fun j u hj=>by rw [Addr.add_mid];exact hnews j u hj
 rcases hown with ⟨rfl,rfl,rfl⟩ | ⟨g,cap,rfl,hg,hp⟩
 ·obtain⟨v',w',hr,h2,h3,_⟩:=run_append_own (P:=P) w w.heap.size t ty e i z size bytes hT.ht hi hz hs1 hb1 hT.hz hT.pos (.slice none 0 0) 0 [] (World.ownsRow_nil w _ e size) ⟨b,o,none⟩ m c news hl hc h1 hlen hbytes (Nat.le_refl _)
  exact⟨v',w',hr,Pk.of_owns (owns_mono h2 hbase),h3,fun k hk=> .inr (h2.lt k hk).1⟩
 ·have hps:=hp.len
  by_cases hr:n+m<=cap
  ·have hroom:(n+m)*size<=cap*size:=Nat.mul_le_mul_right _ hr
   rw [Nat.add_mul]at hroom
   have hth:w.there g (0+n*size) news.length:=fun j hj=>by
    have:=hp.th (n*size+j) (by omega)
    rw [<-Nat.add_assoc]at this
    exact this
   have hB:=below_setCells news g (0+n*size) w (Below.refl 0 w) (Nat.zero_le _)
   subst hs1
   refine⟨_,_,run_append_room_cells (P:=P) w t ty e i hT.ht hi g 0 n cap ⟨b,o,none⟩ m c news hl hc h1 hr (fun j hj=>(hth j hj).1) (fun j hj=>(hth j hj).2),.inr ⟨g,cap,rfl,hg,hr,hp.mx,by rw [List.length_append,hp.len,hl,Nat.add_mul],?_,World.there_setCells hp.th _ _ _,Nat.lt_of_lt_of_le hp.lt hB.size⟩,⟨hB.os,hB.tape,hB.output,hB.size,fun k hk hne=>World.heap_setCells_other w g _ news hk (fun q=>hne (by rw [q];rfl))⟩,fun k hk=> .inl hk⟩
   intro j u hu
   by_cases hj:j < xs.length
   ·rw [List.getElem?_append_left hj]at hu
    exact World.rangeAt_setCells_apart hp.rg g (0+n*i.size) news (.inr (.inl (by rw [hp.len];omega))) j u hu
   ·rw [List.getElem?_append_right (by omega)]at hu
    have:=World.rangeAt_setCells_same w g (0+n*i.size) news hth (j - xs.length) u hu
    rw [show 0+n*i.size+(j - xs.length)=0+j by omega]at this
    exact this
  ·obtain⟨v',w',hrun,h2,h3⟩:=run_append_arg_grows (P:=P) w t ty e i z size bytes hT.ht hi hz hs1 hb1 hT.hz hT.pos ⟨g,0,none⟩ n cap xs hp.len (fun j u hj=>by rw [Addr.add_mid];exact hp.rg j u hj) ⟨b,o,none⟩ m c news hl hc (by omega) hlen hbytes
   exact⟨v',w',hrun,Pk.of_owns (owns_mono h2 hbase),⟨h3.os,h3.tape,h3.output,h3.size,fun k hk _=>h3.block k hk (by simp)⟩,fun k hk=> .inr (h2.lt k hk).1⟩
theorem goodX_append {R:World->World->Prop} {ev:Nat->Value} {w:World} {φ :Value->World->Prop} {d:Option Tmp} {tt t e:TypeId} {pp:String} {af:Array Edge} {g:Option (Nat × Bool)} {s x:Operand} {v z:Value} {base size bytes n m c b o:Nat} {xs news:List Value}
  (hT:SlT P t e z size bytes) (hown:Pk w base size v n xs) (hnews:w.rangeAt b o news) (hl:news.length=m*size) (h1:∀u∈news,u.oneCell'=true) (hm:0 < m)
  (hlen:n+m<=maxLen) (hbytes:(n+m)*bytes<=140737488355328) (hbase:base<=w.heap.size)
  (hs:evalE ev s=v) (hx:evalE ev x= .slice (some ⟨b,o,none⟩) m c)
  (hφ:∀v' w',Pk w' base size v' (n+m) (xs++news)->w.grownBy w' v.ownBlock->(∀k,v'.ownBlock=some k->v.ownBlock=some k\/w.heap.size<=k)->R w w'/\ φ v' w'):
  GoodX R P w φ ((execOp (evalE ev) ⟨d,.call {callee:= .builtin .append,args:=#[s,x],argTypes:=#[t,t]},tt,pp,af,g⟩).run P w):=by
 obtain⟨v',w',hrun,h2,h3,h4⟩:=run_append_pk (P:=P) (ty:=tt) (t:=t) hT hown hnews hl h1 hm hlen hbytes hbase (c:=c)
 simp [execOp,resolve,invoke,builtin,hs,hx,hrun,Result.andThen]
 exact hφ v' w' h2 h3 h4
end
structure JA (ia ib ta tb B b D:Nat) (X:Value) (n k:Nat) (xs:List Value) (dg:List Int) (w0:World) (d:Nat->Bool) (u:Nat->Value) (w:World):Prop where
 c0:w.cell? ⟨b,0,none⟩=some (.int .i64 n)
 c1:w.cell? ⟨b,1,none⟩=some X
 f0:w.frozen? ⟨b,0,none⟩=false
 f1:w.frozen? ⟨b,1,none⟩=false
 box:BoxD w D dg
 ne:X.ownBlock≠some b
 nd:X.ownBlock≠some D
 hb:B<=b
 hX:∀j,X.ownBlock=some j->B<=j
 ad:Adds w0 w b X.ownBlock
 le:B<=w0.heap.size
 pk:d ia=false->Pk w 0 32 X k xs
 bl:d ib=true->d ia=false->∃g,u tb= .slice (some ⟨g,0,none⟩) 1 1/\w.rangeAt g 0 (ints .u8 dg)
 nw:d ia=true->Pk w 0 32 (u ta) (k+1) (xs++ints .u8 dg)/\(∀j,(u ta).ownBlock=some j->X.ownBlock=some j\/w0.heap.size<=j)
section
variable {ia ib ta tb B b D:Nat} {X:Value} {n k:Nat} {xs:List Value} {dg:List Int} {w0:World} {d:Nat->Bool} {u:Nat->Value} {w:World}
end
theorem BoxD.new (w:World) (t:TypeId) (cs:Array Value) (hcs:cs.toList=List.replicate 32 (Value.int .u8 0)):BoxD (w.alloc (.cells cs t)) w.heap.size zs32:=
 ⟨fun j v hv=>by
  have hj:j < 32:=by have:=(List.getElem?_eq_some_iff.1 hv).1;rwa [ints_length]at this
  rw [ints_get .u8 zs32 j hj]at hv
  cases hv
  rw [Nat.zero_add,World.cell?_alloc_new,<-Array.getElem?_toList,hcs,List.getElem?_replicate,if_pos hj,<-zs32_get j hj],
  fun j hj=>by
  rw [Nat.zero_add,World.cell?_alloc_new,<-Array.getElem?_toList,hcs,List.getElem?_replicate,if_pos hj]
  exact⟨rfl,by simp⟩,rfl⟩
theorem BoxD.same {w w':World} {X:Nat} {d:List Int} (h:BoxD w X d) (hb:w'.heap[X]? =w.heap[X]?):BoxD w' X d:=
 ⟨fun j v hv=>by rw [World.cell?_of_block (w:=w) hb];exact h.rg j v hv,fun j hj=>by rw [World.cell?_of_block (w:=w) hb,World.frozen?_of_block (w:=w) hb];exact h.th j hj,h.len⟩
theorem BoxD.other {w:World} {X Y:Nat} {d:List Int} (h:BoxD w X d) (hne:X≠Y) (vs:List Value):BoxD (w.setCells Y 0 vs) X d:=h.same (exc_setCells vs 0 w (Exc.refl Y w) X hne)
theorem BoxD.store {P:Program} {w:World} {X:Nat} {d d':List Int} (h:BoxD w X d) (hl:d'.length=32) {ty:TypeId} (hi:(P.info? ty).map (·.size)=some 32):(Instr.storeAt ty (.pointer (some ⟨X,0,none⟩)) (.agg (ints .u8 d').toArray)).run P w= .ok () (w.setCells X 0 (ints .u8 d')):=
 store_ints (P:=P) (ty:=ty) (k:= .u8) (l:=d') (n:=32) h.th hi hl
theorem HJ.get {p:Nat} {A B:World->Prop} {d:Nat->Bool} {u:Nat->Value} {w:World} (h:HJ p A B d u w) (q:d p=false):A w:=h.2 q
theorem HJ.got {p:Nat} {A B:World->Prop} {d:Nat->Bool} {u:Nat->Value} {w:World} (h:HJ p A B d u w) (q:d p=true):B w:=h.1 q
structure Duo (w:World) (A B:Nat) (x y:List Int):Prop where
 a:BoxD w A x
 b:BoxD w B y
 ne:A≠B
theorem Duo.ext {w w':World} {A B:Nat} {x y:List Int} (h:Duo w A B x y) (hE:Ext w w'):Duo w' A B x y:=⟨h.a.ext hE,h.b.ext hE,h.ne⟩
theorem Duo.setA {w:World} {A B:Nat} {x y x':List Int} (h:Duo w A B x y) (hl:x'.length=32):Duo (w.setCells A 0 (ints .u8 x')) A B x' y:=⟨h.a.set hl,h.b.other (fun q=>h.ne q.symm) _,h.ne⟩
theorem Duo.setB {w:World} {A B:Nat} {x y y':List Int} (h:Duo w A B x y) (hl:y'.length=32):Duo (w.setCells B 0 (ints .u8 y')) A B x y':=⟨h.a.other h.ne _,h.b.set hl,h.ne⟩
theorem Duo.new (w:World) (t:TypeId) (cs:Array Value) (hcs:cs.toList=List.replicate 32 (Value.int .u8 0)):Duo ((w.alloc (.cells cs t)).alloc (.cells cs t)) w.heap.size (w.heap.size+1) zs32 zs32:=by
 have h1:=BoxD.new w t cs hcs
 have h2:=BoxD.new (w.alloc (.cells cs t)) t cs hcs
 rw [World.size_alloc]at h2
 exact⟨h1.ext (ext_alloc _ _),h2,by omega⟩
structure JTwo (iA iB iS tA tB base:Nat) (x:List Int) (d:Nat->Bool) (u:Nat->Value) (w:World):Prop where
 a:d iA=true->∃X,u tA= .pointer (some ⟨X,0,none⟩)/\base<=X/\(d iS=false->BoxD w X zs32)/\(d iS=true->BoxD w X x)
 b:d iB=true->∃Y,u tB= .pointer (some ⟨Y,0,none⟩)/\base<=Y/\BoxD w Y zs32
 ne:d iA=true->d iB=true->u tA≠u tB
 le:base<=w.heap.size
section
variable {iA iB iS tA tB base:Nat} {x:List Int} {d:Nat->Bool} {u:Nat->Value} {w:World}
end
def peaksD (ds:List (List Int)):List (List Int):=peaks ndD zD ds
def proveD (ds:List (List Int)) (m:Nat) (w:Bool):List (List Int):=prG ndD zD ds m w
def madeD (m n:Nat) (old:List Int) (w:Bool) (p:List (List Int)):List Int × List Int:=madeG ndD zD m n old w p
def thereG (m n:Int):Bool:=decide (1<=m)&&decide (m<=n)&&decide (n<=512)
def cntI (m n:Int):Int:=if thereG m n=true then(cntG m.toNat n.toNat true:Int)else -1
def chkG (m n:Int) (old now:List Int) (p:List (List Int)):Nat:=
 if thereG m n=true then(if p.length=cntG m.toNat n.toNat true then(if madeD m.toNat n.toNat old true p=(old,now)then 0 else 15)else 8)else 1
def wayN:Nat->Nat->Nat->List Nat
 | 0,_,_=>[]
 | f+1,m,n=>if m < n then n :: wayN f m (sp n)else []
def wayL (m n:Nat):List Nat:=wayN n m n
def allL (m n:Nat):Prop:=∀k∈wayL m n,m<=sp k
structure JAl (vs:List (Nat × Nat)) (base:Nat) (d:Nat->Bool) (u:Nat->Value) (w:World):Prop where
 al:∀p∈vs,d p.1=true->∃X,u p.2= .pointer (some ⟨X,0,none⟩)/\base<=X/\BoxD w X zs32
 ne:∀p∈vs,∀q∈vs,p.1≠q.1->d p.1=true->d q.1=true->u p.2≠u q.2
 le:base<=w.heap.size
section
variable {vs:List (Nat × Nat)} {base:Nat} {d:Nat->Bool} {u:Nat->Value} {w w':World}
end
structure Tri (w:World) (A B C:Nat) (x y z:List Int):Prop where
 a:BoxD w A x
 b:BoxD w B y
 c:BoxD w C z
 ab:A≠B
 ac:A≠C
 bc:B≠C
section
variable {F:Fence} {nf:Nat} {P:Program} {ops:Array Oper} {rest:List Oper} {a:Act} {w w':World} {Q:Exit->Act->World->Prop} {d:Option Tmp} {tt ty:TypeId} {pp:String} {af:Array Edge} {x y:Operand} {p v:Value}
end
def KeepS (Q:Nat->Prop) (n:Nat) (w w':World):Prop:=w.heap.size<=w'.heap.size/\∀k,k < n->¬Q k->w'.heap[k]? =w.heap[k]?
end Go.Proofs.Bl
namespace Go.Proofs.YtglenbikdahgjaaGreatDoor
open Go.RowKit Go.Extern.Stop Go.Stop Go.Extern Go.Proofs.Bl
def cmpE:Array Value->Sem Value:=Extern.ReflectliteType.method fun t=>do Extern.Rtype.noPackHeld "Comparable" t;pure (.bool (<-typeInfo t).comparable)
end Go.Proofs.YtglenbikdahgjaaGreatDoor
namespace Go.Proofs.Bl
open Go Go.ChangeShapes Go.WideShapes Go.ChangeAt Go.RowKit
theorem post_ext {H:Type} {enc:TypeId × Value->H} {P:Program} {f:Func} {s:ChangeSpec} {apart fresh handsOn again:Bool} {W W':World} {args:Array Value} {v:Value} {ds gs:List (DataW H)} {before pa pv:List MemPlace}
  (hb:Ext W W') (hW:DataW.Whole enc P f.params.toList s.vars apart W args.toList ds gs before)
  (hres:∀(b:Nat) (sp:Nat->Bool) (hd:Bool),DataW.TrodAll enc P W' b sp hd f.resultTypes.toList (v.resultList f.resultTypes.size) (s.fn H (ds++gs)).results [])
  (hargs:∀sp:Nat->Bool,(∀p∈before,sp p.block=true)->DataW.TrodAll enc P W' 0 sp true f.params.toList args.toList (s.fn H (ds++gs)).args pa)
  (hvars:∀sp:Nat->Bool,(∀p∈before,sp p.block=true)->DataW.TrodVars enc P W' sp s.vars (s.fn H (ds++gs)).vars pv)
  (hps:before=pa++pv)
  (hok:∀(j:Nat) (t:TypeId) (r:Value),f.resultTypes[j]? =some t->(v.resultList f.resultTypes.size)[j]? =some r->Value.okWide P W' .any 0 t r):
  s.post enc P f apart fresh handsOn again W args v W':=by
 have hlt:∀p∈before,p.block < W.heap.size:=fun p hp=>hW.lt p hp
 have hall:∀p∈before,decide (p.block < W.heap.size)=true:=fun p hp=>decide_eq_true (hlt p hp)
 have hk:W.keptBut W' (· ∈before):=hb.frame _
 have h1:=hargs (fun b=>decide (b < W.heap.size)) hall
 have h2:=hvars (fun b=>decide (b < W.heap.size)) hall
 refine⟨ds,gs,before,[],pa,pv,hW,hres _ _ _,h1,h2,World.keptBut_mono (fun p hp=>⟨hp,?_⟩) hk,fun _=> ?_⟩
 ·rw [hps]at hp
  exact Or.inr (List.mem_append.1 hp)
 ·obtain⟨_,_,_,_,_,hz,hn⟩:=hW
  have hmem:∀p,p∈([]++pa)++pv->p∈before:=fun p hp=>by rw [hps];simpa using hp
  refine⟨hok,_,_,([]++pa)++pv,⟨[]++pa,pv,trodAll_append (hargs _ (fun _ _=>rfl)) (hres _ _ _),hvars _ (fun _ _=>rfl),rfl,fun b off hp=> ?_,fun ha=> ?_⟩,fun p hp _=> ?_⟩
  ·rw [hb.frozen (hlt _ (hmem _ hp))]
   exact hz b off (hmem _ hp)
  ·have:=hn ha
   rw [hps]at this
   simpa using this
  ·rw [hps];simpa using hp
end Go.Proofs.Bl
namespace Go.Proofs.YtglenbikdahgjaaGreatDoor
open Go Go.ChangeShapes Go.WideShapes Go.ChangeAt Go.RowKit Go.Proofs.Bl
theorem own0:ownKnob Tryz.prog.godebug=none:=by kernel_rfl
end Go.Proofs.YtglenbikdahgjaaGreatDoor
namespace Go.Proofs.Bl
open Go Go.ChangeShapes Go.WideShapes Go.ChangeAt Go.RowKit Go.Deep
theorem rds_parts {w:World} {A:Option Addr} {L C:Nat} {cs:List Value} (h1:L<=C) (h2:C<=maxLen) (hcs:cs.length=L) (h4:A=none->C=0)
  (h5:∀a,A=some a->(0 < C->a.spot=none)/\∀c v,cs[c]? =some v->w.cell? (a.add c)=some v):Rds w (.slice A L C) L cs:=by
 by_cases hC:C=0
 ·subst hC
  obtain rfl:L=0:=by omega
  exact .inl ⟨⟨A,rfl⟩,rfl,List.length_eq_zero_iff.1 hcs⟩
 ·cases A with
  | none=>exact absurd (h4 rfl) hC
  | some a=>
   obtain⟨b,o,s⟩:=a
   obtain⟨hs,hc⟩:=h5 _ rfl
   obtain rfl:s=none:=hs (by omega)
   refine .inr ⟨b,o,C,rfl,h1,h2,fun j v hv=> ?_⟩
   have:=hc j v hv
   rw [Addr.add_mid]at this
   exact this
theorem wf_byte {n:Int} (h:(Lit.int .u8 n).wf=true):0<=n/\n<=255:=by
 simpa [Lit.wf,IntKind.min,IntKind.max,IntKind.signed,IntKind.bits] using h
theorem rd_parts {w:World} {A:Option Addr} {L C:Nat} {Z:List Int} (h1:L<=C) (h2:C<=maxLen) (h3:Z.length=C) (h4:A=none->C=0)
  (h5:∀a,A=some a->∀c,c < C->w.cell? (a.add c)=some (.int .u8 (Z.getD c 0))):Rd w .u8 (.slice A L C) (Z.take L):=by
 have hl:(Z.take L).length=L:=by rw [List.length_take];omega
 show Rds w (.slice A L C) (Z.take L).length _
 rw [hl]
 refine rds_parts h1 h2 (by rw [ints_length,hl]) h4 fun a ha=>⟨fun hC=> ?_,fun c v hv=> ?_⟩
 ·have:=World.cell?_spot (h5 a ha 0 hC)
  simpa [Addr.add] using this
 ·have hc:c < L:=by have:=(List.getElem?_eq_some_iff.1 hv).1;rw [ints_length,hl]at this;exact this
  rw [ints_get _ _ _ (by rw [hl];exact hc)]at hv
  cases hv
  rw [h5 a ha c (by omega)]
  simp [List.getD_eq_getElem?_getD,hc]
section
variable {H:Type} {enc:TypeId × Value->H} {P:Program} {w:World} {base:Nat}
theorem open_bytes {t e:TypeId} (ht:P.underlying t=some (.slice e)) (he:P.underlying e=some (.int .u8)) (hc:P.cellsOf e=1) {v:Value} {d:DataW H} {p:List MemPlace}
  (hval:Value.okWide P w .any base t v) (h:DataW.Trod enc P w 0 (fun _=>true) true t v d p):∃l,Rd w .u8 v l/\Byt l:=by
 obtain⟨a0,len0,cap0,rfl⟩:=okWide_slice ht hval
 obtain⟨fuel,hf⟩:=h
 rcases open_ints ht he hc hf with ⟨hcs,_⟩ | ⟨a,len,cap,zs,hcs,_,hl,hm,hz,_,hcell,hw⟩
 ·simp [Value.cells]at hcs
  obtain⟨rfl,rfl,rfl⟩:=hcs
  exact⟨[],Rd.nil _ _,Byt.nil⟩
 ·simp [Value.cells]at hcs
  obtain⟨rfl,rfl,rfl⟩:=hcs
  simp only [if_true]at hz
  exact⟨zs.take len0,rd_parts hl hm hz (fun q=>by cases q) (fun a' ha c hc=>by cases ha;exact hcell c (by omega)),fun x hx=>wf_byte (hw x (List.mem_of_mem_take hx))⟩
end
theorem trodAll_stay {H:Type} {enc:TypeId × Value->H} {P:Program} {W W':World} (hl:laidOutB P=true) (hb:Ext W W') {sp:Nat->Bool}:
  ∀(ts:List TypeId) {vs:List Value} {ds:List (DataW H)} {ps:List MemPlace},DataW.TrodAll enc P W 0 (fun _=>true) true ts vs ds ps->(∀t∈ts,P.readableRec t=true/\t < P.types.size)->(∀x∈ps,x.block < W.heap.size)->(∀x∈ps,sp x.block=true)->DataW.TrodAll enc P W' 0 sp true ts vs ds ps
 | [],vs,ds,ps,h,_,_,_=>by
  obtain⟨rfl,rfl,rfl⟩:=trodAll_nil h
  rfl
 | t :: ts,vs,ds,ps,h,hr,hlt,hsp=>by
  obtain⟨v,vs',d,ds',p,q,rfl,rfl,rfl,h0,h1⟩:=trodAll_cons h
  exact trodAll_cons_mk (WideElems.Trod_stays hl (hr t (by simp)).1 (hr t (by simp)).2 h0 (fun x hx=>Below.same hb (hlt x (by simp [hx]))) (fun x hx=>hsp x (by simp [hx])))
   (trodAll_stay hl hb ts h1 (fun u hu=>hr u (by simp [hu])) (fun x hx=>hlt x (by simp [hx])) (fun x hx=>hsp x (by simp [hx])))
theorem post_law {H:Type} {enc:TypeId × Value->H} {P:Program} {f:Func} {s:ChangeSpec} {apart fresh handsOn again:Bool} {W W':World} {args:Array Value} {ds gs:List (DataW H)} {before:List MemPlace} {tb:TypeId}
  (hl:laidOutB P=true) (hread:∀t∈f.params.toList,P.readableRec t=true/\t < P.types.size) (hrt:f.resultTypes=#[tb]) (htb:P.underlying tb=some .bool) (hv:s.vars=[])
  (hb:Ext W W') (hW:DataW.Whole enc P f.params.toList s.vars apart W args.toList ds gs before) (hfn:s.fn H ds= {results:=[.lit (.bool true)],args:=ds}):s.post enc P f apart fresh handsOn again W args (.bool true) W':=by
 have hW0:=hW
 have hlt:∀p∈before,p.block < W.heap.size:=fun p hp=>hW.lt p hp
 obtain⟨p,q,hA,hV,rfl,hfz,hnd⟩:=hW
 rw [hv]at hV
 obtain⟨rfl,rfl⟩:=trodVars_none hV
 have hfn':s.fn H (ds++[])= {results:=[.lit (.bool true)],args:=ds}:=by rw [List.append_nil];exact hfn
 refine post_ext (pa:=p) (pv:=[]) hb hW0 (fun b sp hd=> ?_) (fun sp hsp=> ?_) (fun sp hsp=> ?_) rfl ?_
 ·rw [hfn',hrt];exact trodAll_cons_mk (shut_bool htb _) trodAll_mk0
 ·rw [hfn'];exact trodAll_stay hl hb _ hA hread (fun x hx=>hlt x (by simp [hx])) (fun x hx=>hsp x (by simp [hx]))
 ·rw [hfn',hv];rfl
 ·exact ok_one hrt rfl (okWide_bool_mk htb _)
theorem laid_cell {P:Program} {L:List (String × DataW Unit)} {w:World} {name:String} {k:IntKind} {zs:List Int} {g:Nat} {t e:TypeId} {n:Nat} (h:laidMetH P L w)
  (hf:(L.filter fun x=>x.1==name)=[(name,Lib.tabData k zs)]) (hg:P.globalNamed name=some g) (hty:(P.globals[g]?).map (·.type)=some t) (ht:P.underlying t=some (.array n e)) (he:P.underlying e=some (.int k)) (hce:P.cellsOf e=1) (hct:P.cellsOf t=n):
  ∀i,i < zs.length->w.cell? ⟨g,i,none⟩=some (.int k (zs.getD i 0)):=by
 have h1:=h.filter (fun x=>x.1==name)
 rw [hf,MakeChecks.laidMetH_plain _ _ _ rfl]at h1
 exact fun i hi=>(Lib.tabIs_of_head hg hty ht he hce hct h1).cell hg i hi
section
variable {H:Type} {enc:TypeId × Value->H} {P:Program} {w:World} {base:Nat}
theorem open_cell {sp:Nat->Bool} {held:Bool} {e:TypeId} (he:P.underlying e=some (.int .u8)) {m:Nat} {c:Value} {y:DataW H × List MemPlace} (h:DataW.trod enc P w base sp held m e [c]=some y):∃z,c= .int .u8 z/\0<=z/\z<=255:=by
 cases m with
 | zero=>simp [DataW.trod]at h
 | succ m=>
  unfold DataW.trod at h
  rw [he]at h
  cases c<;>simp at h
  rename_i k z
  obtain⟨⟨rfl,hw⟩,_⟩:=h
  exact⟨z,rfl,wf_byte hw⟩
end
theorem rd_parts64 {w:World} {A:Option Addr} {L C:Nat} {Z:List Int} (h1:L<=C) (h2:C<=maxLen) (h3:Z.length=C) (h4:A=none->C=0)
  (h5:∀a,A=some a->∀c,c < C->w.cell? (a.add c)=some (.int .i64 (Z.getD c 0))):Rd w .i64 (.slice A L C) (Z.take L):=by
 have hl:(Z.take L).length=L:=by rw [List.length_take];omega
 show Rds w (.slice A L C) (Z.take L).length _
 rw [hl]
 refine rds_parts h1 h2 (by rw [ints_length,hl]) h4 fun a ha=>⟨fun hC=> ?_,fun c v hv=> ?_⟩
 ·have:=World.cell?_spot (h5 a ha 0 hC)
  simpa [Addr.add] using this
 ·have hc:c < L:=by have:=(List.getElem?_eq_some_iff.1 hv).1;rw [ints_length,hl]at this;exact this
  rw [ints_get _ _ _ (by rw [hl];exact hc)]at hv
  cases hv
  rw [h5 a ha c (by omega)]
  simp [List.getD_eq_getElem?_getD,hc]
section
variable {H:Type} {enc:TypeId × Value->H} {P:Program} {w:World} {base:Nat}
end
theorem range_cellsD {w:World} {g o:Nat} {L:List (List Int)} (h:∀i,i < L.length->w.rangeAt g (o+i*32) (ints .u8 (L.getD i []))) (hd:Dig L):w.rangeAt g o (cellsD L):=fun j v hv=>by
 have hj:j < L.length*32:=by
  have:=(List.getElem?_eq_some_iff.1 hv).1
  rwa [cellsD_length hd]at this
 have hi:j / 32 < L.length:=by omega
 have e:(cellsD L)[j]? =(ints .u8 (L.getD (j / 32) []))[j % 32]? :=by
  have h2:(cellsD L).drop (j / 32*32)=cellsD (L.drop (j / 32)):=cellsD_drop hd _
  have h3:(cellsD L)[j]? =((cellsD L).drop (j / 32*32))[j % 32]? :=by
   rw [List.getElem?_drop];congr 1;omega
  rw [h3,h2,List.drop_eq_getElem_cons hi]
  show(ints .u8 L[j / 32]++cellsD _)[j % 32]? =_
  rw [List.getElem?_append_left (by rw [ints_length,(hd _ (List.getElem_mem hi)).1];omega),List.getD_eq_getElem?_getD,List.getElem?_eq_getElem hi];rfl
 rw [e]at hv
 have:=h (j / 32) hi (j % 32) v hv
 rw [show o+j / 32*32+j % 32=o+j from by omega]at this
 exact this
theorem list_of {α :Type} (d: α) (R:Nat-> α ->Prop):∀n,(∀i,i < n->∃x,R i x)->∃l:List α,l.length=n/\∀i,i < n->R i (l.getD i d)
 | 0,_=>⟨[],rfl,fun i hi=>absurd hi (Nat.not_lt_zero _)⟩
 | n+1,h=>by
  obtain⟨l,hl,hr⟩:=list_of d R n (fun i hi=>h i (by omega))
  obtain⟨x,hx⟩:=h n (by omega)
  refine⟨l++[x],by simp [hl],fun i hi=> ?_⟩
  by_cases e:i < n
  ·rw [List.getD_eq_getElem?_getD,List.getElem?_append_left (by omega),<-List.getD_eq_getElem?_getD];exact hr i e
  ·obtain rfl:i=n:=by omega
   rw [List.getD_eq_getElem?_getD,List.getElem?_append_right (by omega)]
   simp only [hl,Nat.sub_self,List.getElem?_cons_zero,Option.getD_some]
   exact hx
section
variable {H:Type} {enc:TypeId × Value->H} {P:Program} {w:World} {n:Nat} {t:TypeId} {cs:List Value} {y:DataW H × List MemPlace}
theorem od_bytes {e:TypeId} (ht:P.underlying t=some (.slice e)) (he:P.underlying e=some (.int .u8)) (hc:P.cellsOf e=1) (h:DataW.trod enc P w 0 (fun _=>true) true n t cs=some y):∃v l,cs=[v]/\Rd w .u8 v l/\Byt l:=by
 rcases open_ints ht he hc h with ⟨hcs,_⟩ | ⟨a,len,cap,zs,hcs,_,hl,hm,hz,_,hcell,hw⟩
 ·exact⟨_,[],hcs,Rd.nil _ _,Byt.nil⟩
 ·simp only [if_true]at hz
  exact⟨_,zs.take len,hcs,rd_parts hl hm hz (fun q=>by cases q) (fun a' ha c hc=>by cases ha;exact hcell c (by omega)),fun x hx=>wf_byte (hw x (List.mem_of_mem_take hx))⟩
theorem od_arr {e:TypeId} {m:Nat} (ht:P.underlying t=some (.array m e)) (he:P.underlying e=some (.int .u8)) (hc:P.cellsOf e=1) (hct:P.cellsOf t=m) (h:DataW.trod enc P w 0 (fun _=>true) true n t cs=some y):∃l,cs=ints .u8 l/\l.length=m/\Byt l:=by
 obtain⟨xs,k,_,_,hl,hxl,hel⟩:=DataW.trod_array ht h
 rw [hct]at hl
 obtain⟨l,hll,hr⟩:=list_of (0:Int) (fun i z=>cs[i]? =some (.int .u8 z)/\0<=z/\z<=255) m (fun i hi=>by
  have h1:=hel i hi
  rw [hc,Nat.mul_one,List.getElem?_eq_getElem (by omega)]at h1
  have h2:(cs.drop i).take 1=[cs[i]'(by omega)]:=by
   rw [List.drop_eq_getElem_cons (by omega)];rfl
  rw [h2]at h1
  obtain⟨z,hz,h3,h4⟩:=open_cell he h1
  exact⟨z,by rw [List.getElem?_eq_getElem (by omega),hz],h3,h4⟩)
 refine⟨l,?_,hll,fun x hx=> ?_⟩
 ·apply List.ext_getElem?
  intro i
  by_cases hi:i < m
  ·rw [(hr i hi).1,ints_get .u8 l i (by omega)]
  ·rw [List.getElem?_eq_none (by omega),List.getElem?_eq_none (by rw [ints_length];omega)]
 ·obtain⟨i,hi,rfl⟩:=List.getElem_of_mem hx
  have:=(hr i (by omega)).2
  rwa [List.getD_eq_getElem?_getD,List.getElem?_eq_getElem hi]at this
theorem od_slice {e:TypeId} {s:Nat} (ht:P.underlying t=some (.slice e)) (hc:P.cellsOf e=s) (hs:0 < s) (h:DataW.trod enc P w 0 (fun _=>true) true n t cs=some y):
  ∃v m,cs=[v]/\((∃p,v= .slice p 0 0/\m=0)\/∃b o c,v= .slice (some ⟨b,o,none⟩) m c/\m<=c/\c<=maxLen)/\
   ∀b o,(∃c,v= .slice (some ⟨b,o,none⟩) m c/\0 < c)->∀i,i < m->∃cs' k y',cs'.length=s/\w.rangeAt b (o+i*s) cs'/\DataW.trod enc P w 0 (fun _=>true) true k e cs'=some y':=by
 rcases open_slice ht h with ⟨hcs,_⟩ | ⟨a,len,cap,m,k,D,Pl,hcs,_,hl,hm,hmm,_,hi⟩
 ·exact⟨_,0,hcs,.inl ⟨none,rfl,rfl⟩,fun b o ⟨c,hv,_⟩=>by cases hv⟩
 ·simp only [if_true]at hmm
  subst hmm
  by_cases hC:m=0
  ·subst hC
   obtain rfl:len=0:=by omega
   exact⟨_,0,hcs,.inl ⟨some a,rfl,rfl⟩,fun b o ⟨c,hv,h0⟩=>by injection hv with _ _ hv;omega⟩
  ·obtain⟨b,o,sp⟩:=a
   have hsp:sp=none:=by
    obtain⟨cs',hc',_⟩:=hi 0 (by omega)
    obtain⟨_,hcl,hat⟩:=World.cells?_some hc'
    rw [hc]at hcl hat
    have:=hat 0 hs
    rw [List.getElem?_eq_getElem (by omega)]at this
    have:=World.cell?_spot this
    simpa [Addr.add] using this
   subst hsp
   refine⟨_,len,hcs,.inr ⟨b,o,m,rfl,hl,hm⟩,fun b' o' ⟨c,hv,_⟩ i hil=> ?_⟩
   injection hv with hv _ _
   injection hv with hv
   injection hv with hb ho
   subst hb ho
   obtain⟨cs',hc',ht'⟩:=hi i (by omega)
   obtain⟨_,hcl,hat⟩:=World.cells?_some hc'
   rw [hc]at hcl hat
   refine⟨cs',k,_,hcl,fun j v hj=> ?_,ht'⟩
   have hjs:j < s:=by have:=(List.getElem?_eq_some_iff.1 hj).1;omega
   have:=hat j hjs
   rw [hj,Addr.add_mid,Addr.add_mid]at this
   exact this
theorem od_digs {e q:TypeId} (ht:P.underlying t=some (.slice e)) (he:P.underlying e=some (.array 32 q)) (hq:P.underlying q=some (.int .u8)) (cq:P.cellsOf q=1) (ce:P.cellsOf e=32) (h:DataW.trod enc P w 0 (fun _=>true) true n t cs=some y):∃v ds,cs=[v]/\RdD w v ds/\Dig ds:=by
 obtain⟨v,m,hcs,hv,hel⟩:=od_slice ht ce (by decide) h
 rcases hv with ⟨p,rfl,rfl⟩ | ⟨b,o,c,rfl,hc1,hc2⟩
 ·exact⟨_,[],hcs,.inl ⟨⟨p,rfl⟩,rfl,rfl⟩,Dig.nil⟩
 ·by_cases h0:m=0
  ·subst h0
   refine⟨_,[],hcs,.inr ⟨b,o,c,rfl,hc1,hc2,fun j v hj=>by simp [cellsD]at hj⟩,Dig.nil⟩
  ·obtain⟨ds,hdl,hr⟩:=list_of ([]:List Int) (fun i d=>w.rangeAt b (o+i*32) (ints .u8 d)/\d.length=32/\Byt d) m (fun i hi=>by
    obtain⟨cs',k,y',_,h2,h3⟩:=hel b o ⟨c,rfl,by omega⟩ i hi
    obtain⟨l,rfl,h4,h5⟩:=od_arr he hq cq ce h3
    exact⟨l,h2,h4,h5⟩)
   have hd:Dig ds:=fun d hd=>by
    obtain⟨i,hi,rfl⟩:=List.getElem_of_mem hd
    have:=(hr i (by omega)).2
    rwa [List.getD_eq_getElem?_getD,List.getElem?_eq_getElem hi]at this
   refine⟨_,ds,hcs,.inr ⟨b,o,c,by rw [hdl],by rw [hdl];exact hc1,hc2,range_cellsD (fun i hi=>(hr i (by omega)).1) hd⟩,hd⟩
theorem od_fields {fs:Array Field} (ht:P.underlying t=some (.struct fs)) (h:DataW.trod enc P w 0 (fun _=>true) true n t cs=some y):
  cs.length=P.cellsOf t/\∃k,∀(i:Nat) (f:Field),fs[i]? =some f->∃z,DataW.trod enc P w 0 (fun _=>true) true k f.type ((cs.drop f.offset).take (P.cellsOf f.type))=some z:=by
 obtain⟨xs,k,_,_,hl,hxl,hf⟩:=DataW.trod_struct ht h
 refine⟨hl,k,fun i f hif=> ?_⟩
 have:=hf i f hif
 rw [List.getElem?_eq_getElem (by rw [hxl];exact(Array.getElem?_eq_some_iff.1 hif).1)]at this
 exact⟨_,this⟩
end
theorem open_bytess {H:Type} {enc:TypeId × Value->H} {P:Program} {w:World} {base:Nat} {t e q:TypeId} (ht:P.underlying t=some (.slice e)) (he:P.underlying e=some (.slice q)) (hq:P.underlying q=some (.int .u8)) (ce:P.cellsOf e=1) (cq:P.cellsOf q=1) {v:Value} {d:DataW H} {p:List MemPlace}
  (hval:Value.okWide P w .any base t v) (h:DataW.Trod enc P w 0 (fun _=>true) true t v d p):∃ps,Rdss w v ps/\∀l∈ps,Byt l:=by
 obtain⟨a0,len0,cap0,rfl⟩:=okWide_slice ht hval
 obtain⟨fuel,hf⟩:=h
 rcases open_int_rows ht he hq ce cq hf with ⟨hcs,_⟩ | ⟨a,len,cap,A,L,C,Z,hcs,_,hl,hm,_,hrows⟩
 ·simp [Value.cells]at hcs
  obtain⟨rfl,rfl,rfl⟩:=hcs
  exact⟨[],⟨[],Rds.nil _,rfl,fun i hi=>absurd hi (Nat.not_lt_zero _)⟩,fun l hl=>by cases hl⟩
 ·simp [Value.cells]at hcs
  obtain⟨rfl,rfl,rfl⟩:=hcs
  refine⟨(List.range len0).map fun r=>(Z r).take (L r),⟨(List.range len0).map fun r=> .slice (A r) (L r) (C r),?_,by simp,fun i hi=> ?_⟩,fun l hl'=> ?_⟩
  ·rw [List.length_map,List.length_range]
   refine rds_parts hl hm (by simp) (fun q=>by cases q) (fun a' ha=> ?_)
   cases ha
   refine⟨fun hC=> ?_,fun c v hv=> ?_⟩
   ·have:=World.cell?_spot (hrows 0 hC).1
    simpa [Addr.add] using this
   ·have hc:c < len0:=by have:=(List.getElem?_eq_some_iff.1 hv).1;simpa using this
    have e1:v= .slice (A c) (L c) (C c):=by simpa [hc] using hv.symm
    rw [e1];exact(hrows c (by omega)).1
  ·have hi':i < len0:=by simpa using hi
   obtain⟨_,h1,h2,h3,_,h4,h5⟩:=hrows i (by omega)
   have e1:((List.range len0).map fun r=>Value.slice (A r) (L r) (C r)).getD i undef= .slice (A i) (L i) (C i):=by simp [List.getD_eq_getElem?_getD,hi']
   have e2:((List.range len0).map fun r=>(Z r).take (L r)).getD i []=(Z i).take (L i):=by simp [List.getD_eq_getElem?_getD,hi']
   rw [e1,e2]
   exact rd_parts h1 h2 h3 h4 fun a' ha c hc=>(h5 a' ha).2 c hc
  ·obtain⟨r,hr,rfl⟩:=List.mem_map.1 hl'
   have hr':=List.mem_range.1 hr
   obtain⟨_,_,_,_,hw,_,_⟩:=hrows r (by omega)
   exact fun x hx=>wf_byte (hw x (List.mem_of_mem_take hx))
end Go.Proofs.Bl
namespace Go.Proofs.YtglenbikdahgjaaGreatDoor
open Go Go.ChangeShapes Go.WideShapes Go.ChangeAt Go.RowKit Go.Proofs.Bl
theorem laidOut:laidOutB Tryz.prog=true:=by kernel_rfl
end Go.Proofs.YtglenbikdahgjaaGreatDoor
