/- Texts that stood apart, in one: MapI, Fro, Errs, Zs, Ones, TyD, Tys, TyR, ClB, EqB, W12a, PathC. -/
import Derived.MapKept
import Derived.Carry
import Derived.ArgAppend
import Derived.Deep.Upon
import Derived.LaidSub
import Derived.MakeChecks
import Derived.Stop.LaidErr
import Derived.Laws.BitsLemmas
import Derived.Lib.SliceRun
import Derived.WalkKit
import Derived.WalkLawsBesides
import Derived.WalkSpells
import Derived.Test.YtglenbikdahgjaaGreatDoorPk00
import Derived.Test.YtglenbikdahgjaaGreatDoorChecked
import Derived.Test.YtglenbikdahgjaaGreatDoorPk01
import Derived.Test.YtglenbikdahgjaaGreatDoorProg
import Derived.Test.YtglenbikdahgjaaGreatDoorShelf
set_option maxRecDepth 100000
set_option maxHeartbeats 16000000
namespace Go.Proofs.Bl
open Go Go.RowKit
def getM (mp:List (Int × Value)) (x:Int):Option Value:=(mp.find? fun p=>decide (p.1=x)).map (·.2)
def MapAt (w:World) (m:Nat) (mp:List (Int × Value)):Prop:=∃es c,w.heap[m]? =some (.map es c)/\es.toList.map (fun e=>(e.key,e.val))=mp.map fun x=>(Value.int .i64 x.1,x.2)
theorem MapAt.lt {w:World} {m:Nat} {mp:List (Int × Value)} (h:MapAt w m mp):m < w.heap.size:=by
 obtain⟨es,c,h1,_⟩:=h
 exact(Array.getElem?_eq_some_iff.1 h1).1
theorem MapAt.same {w w':World} {m:Nat} {mp:List (Int × Value)} (h:MapAt w m mp) (hb:w'.heap[m]? =w.heap[m]?):MapAt w' m mp:=by
 obtain⟨es,c,h1,h2⟩:=h
 exact⟨es,c,hb.trans h1,h2⟩
theorem MapAt.ext {w w':World} {m:Nat} {mp:List (Int × Value)} (h:MapAt w m mp) (hE:Ext w w'):MapAt w' m mp:=h.same (hE.block m h.lt)
theorem MapAt.new (w:World):MapAt (w.alloc (.map #[] 0)) w.heap.size []:=⟨#[],0,by show(w.heap.push _)[w.heap.size]? =_;rw [Array.getElem?_push_size],rfl⟩
theorem findNow_int (x:Int):∀(es:List MapEntry) (mp:List (Int × Value)) (i:Nat),es.map (fun e=>(e.key,e.val))=mp.map (fun x=>(Value.int .i64 x.1,x.2))->∃r,Instr.findNow (.int .i64) (.int .i64 x) es i=some r/\r.map (·.2)=getM mp x
 | [],[],i,_=>⟨none,rfl,rfl⟩
 | [],_ :: _,_,h=>by cases h
 | _ :: _,[],_,h=>by cases h
 | e :: es,p :: mp,i,h=>by
  simp only [List.map_cons,List.cons.injEq,Prod.mk.injEq]at h
  obtain⟨⟨h1,h2⟩,h3⟩:=h
  by_cases hx:p.1=x
  ·refine⟨some (i,e.val),?_,?_⟩
   ·simp [Instr.findNow,Instr.sameNow,h1,hx]
   ·simp [getM,hx,h2]
  ·obtain⟨r,hr,hr2⟩:=findNow_int x es mp (i+1) h3
   refine⟨r,?_,?_⟩
   ·have hx':(x==p.1)=false:=by simp;exact fun q=>hx q.symm
    simp [Instr.findNow,Instr.sameNow,h1,hx',hr]
   ·rw [hr2];simp [getM,hx]
theorem MapAt.lookup {P:Program} {t k e:TypeId} {w:World} {m:Nat} {mp:List (Int × Value)} (ht:P.underlying t=some (.map k e)) (hk:P.underlying k=some (.int .i64)) {z:Value} (hz:(zeroValue e).run P w= .ok z w) (h:MapAt w m mp) (x:Int):
  (Instr.lookup t (.map (some m)) (.int .i64 x) true).run P w= .ok (.tuple #[(getM mp x).getD z,.bool (getM mp x).isSome]) w:=by
 obtain⟨es,c,h1,h2⟩:=h
 obtain⟨r,hr,hr2⟩:=findNow_int x es.toList mp 0 h2
 have hc:(Instr.checkKey es.isEmpty 10000 k (.int .i64 x)).run P w= .ok () w:=MapKept.run_checkKey (k:= .int .i64 x) hk (by simp [MapKept.IsKey]) _ 9999
 rw [<-hr2]
 cases r with
 | none=>simp [Instr.lookup,run_underlying ht,MapKept.run_getObj_map h1,hc,MapKept.run_findKey hk hr,hz,Result.andThen]
 | some r=>simp [Instr.lookup,run_underlying ht,MapKept.run_getObj_map h1,hc,MapKept.run_findKey hk hr,Result.andThen]
structure PkB (w:World) (g size n cap:Nat) (xs:List Value):Prop where
 le:n<=cap
 mx:cap<=maxLen
 len:xs.length=n*size
 rg:w.rangeAt g 0 xs
 th:w.there g 0 (cap*size)
 lt:g < w.heap.size
def Pk (w:World) (base size:Nat) (v:Value) (n:Nat) (xs:List Value):Prop:=
 (v= .slice none 0 0/\n=0/\xs=[])\/∃g cap,v= .slice (some ⟨g,0,none⟩) n cap/\base<=g/\PkB w g size n cap xs
theorem Pk.nil (w:World) (base size:Nat):Pk w base size (.slice none 0 0) 0 []:= .inl ⟨rfl,rfl,rfl⟩
theorem Pk.of_owns {w:World} {base e size n:Nat} {v:Value} {xs:List Value} (h:w.ownsRow base e size v n xs):Pk w base size v n xs:=by
 have h2:=h
 obtain⟨h0,h1⟩:=h
 rcases h1 with ⟨rfl,h1⟩ | ⟨g,cap,cur,rfl,hg,hh,hc,hm,hs,hx⟩
 ·subst h1
  rw [Nat.zero_mul]at h0
  exact .inl ⟨rfl,rfl,List.length_eq_zero_iff.1 h0⟩
 ·refine .inr ⟨g,cap,rfl,hg,hc,hm,h0,fun j u hu=> ?_,fun j hj=> ?_,(h2.lt g rfl).2⟩
  ·have:=h2.cells (g:=g) rfl j u hu
   rw [Addr.add_mid]at this
   exact this
  ·have hj2:j < cur.size:=by rw [hs];exact hj
   simp [World.cell?,World.frozen?,hh,hj2]
theorem Pk.rds {w:World} {base size n:Nat} {v:Value} {xs:List Value} (h:Pk w base size v n xs):Rds w v n xs:=by
 rcases h with ⟨rfl,rfl,rfl⟩ | ⟨g,cap,rfl,_,hp⟩
 ·exact Rds.nil w
 ·exact .inr ⟨g,0,cap,rfl,hp.le,hp.mx,hp.rg⟩
theorem Pk.block {w:World} {base size n:Nat} {v:Value} {xs:List Value} (h:Pk w base size v n xs):∀k,v.ownBlock=some k->base<=k/\k < w.heap.size:=by
 rcases h with ⟨rfl,_,_⟩ | ⟨g,cap,rfl,hg,hp⟩
 ·intro k hk;cases hk
 ·intro k hk
  simp only [Value.ownBlock,Option.some.injEq]at hk
  subst hk
  exact⟨hg,hp.lt⟩
theorem Pk.kept {w w':World} {base size n:Nat} {v:Value} {xs:List Value} (h:Pk w base size v n xs) (hk:∀k,v.ownBlock=some k->w'.heap[k]? =w.heap[k]?) (hs:w.heap.size<=w'.heap.size):Pk w' base size v n xs:=by
 rcases h with h | ⟨g,cap,rfl,hg,hp⟩
 ·exact .inl h
 ·have hb:=hk g rfl
  refine .inr ⟨g,cap,rfl,hg,hp.le,hp.mx,hp.len,fun j u hu=> ?_,fun j hj=> ?_,Nat.lt_of_lt_of_le hp.lt hs⟩
  ·rw [World.cell?_of_block (w:=w) hb];exact hp.rg j u hu
  ·rw [World.cell?_of_block (w:=w) hb,World.frozen?_of_block (w:=w) hb];exact hp.th j hj
theorem Pk.ext {w w':World} {base size n:Nat} {v:Value} {xs:List Value} (h:Pk w base size v n xs) (hb:Ext w w'):Pk w' base size v n xs:=
 h.kept (fun k hk=>hb.block k (h.block k hk).2) hb.size
theorem Pk.mono {w:World} {base base' size n:Nat} {v:Value} {xs:List Value} (h:Pk w base size v n xs) (hb:base'<=base):Pk w base' size v n xs:=by
 rcases h with h | ⟨g,cap,rfl,hg,hp⟩
 ·exact .inl h
 ·exact .inr ⟨g,cap,rfl,Nat.le_trans hb hg,hp⟩
section
variable {P:Program}
theorem wpL_appPk {ops:Array Oper} {rest:List Oper} {a:Act} {w:World} {Q:Exit->Act->World->Prop} {d:Option Tmp} {tt t e:TypeId} {pp:String} {af:Array Edge} {s x:Operand} {v z:Value} {base size bytes n m c b o:Nat} {xs news:List Value}
  (hT:SlT P t e z size bytes) (hown:Pk w base size v n xs) (hnews:w.rangeAt b o news) (hl:news.length=m*size) (h1:∀u∈news,u.oneCell'=true) (hm:0 < m)
  (hlen:n+m<=maxLen) (hbytes:(n+m)*bytes<=140737488355328) (hbase:base<=w.heap.size)
  (hs:a.eval s=v) (hx:a.eval x= .slice (some ⟨b,o,none⟩) m c)
  (h:∀v' w',Pk w' base size v' (n+m) (xs++news)->w.grownBy w' v.ownBlock->(∀k,v'.ownBlock=some k->v.ownBlock=some k\/w.heap.size<=k)->wpList P ops Q rest (a.put d v') w'):
  wpList P ops Q (⟨d,.call {callee:= .builtin .append,args:=#[s,x],argTypes:=#[t,t]},tt,pp,af,none⟩ :: rest) a w:=by
 obtain⟨i,hi,hz,hs1,hb1⟩:=info_parts hT.info
 have hc:∀j u,news[j]? =some u->w.cell? ((⟨b,o,none⟩:Addr).add j)=some u:=fun j u hj=>by rw [Addr.add_mid];exact hnews j u hj
 rcases hown with ⟨rfl,rfl,rfl⟩ | ⟨g,cap,rfl,hg,hp⟩
 ·refine wpList_append_grows w rfl s x t rfl e i z size bytes hT.ht hi hz hs1 hb1 hT.hz hT.pos none 0 0 [] hs (fun _=>⟨rfl,rfl⟩) (by simp) (fun b hb=>by cases hb) ⟨b,o,none⟩ m c news hx hl hc h1 (by omega) hlen hbytes ?_
  intro v' w' h2 h3
  refine h v' w' (Pk.of_owns (owns_mono h2 hbase)) h3 fun k hk=> .inr (h2.lt k hk).1
 ·have hps:=hp.len
  refine wpList_append_arg w rfl s x t rfl e i z size bytes hT.ht hi hz hs1 hb1 hT.hz hT.pos g 0 n cap xs hs hp.len (fun j u hj=>hp.rg j u hj) ⟨b,o,none⟩ m c news hx hl hc h1 (fun hr j hj=> ?_) hlen hbytes (fun hr=> ?_) (fun hr v' w' h2 h3=> ?_)
  ·have hroom:(n+m)*size<=cap*size:=Nat.mul_le_mul_right _ hr
   rw [Nat.add_mul]at hroom
   have:=hp.th (n*size+j) (by omega)
   rw [<-Nat.add_assoc]at this
   exact this
  ·have hroom:(n+m)*size<=cap*size:=Nat.mul_le_mul_right _ hr
   rw [Nat.add_mul]at hroom
   have hth:w.there g (0+n*size) news.length:=fun j hj=>by
    have:=hp.th (n*size+j) (by omega)
    rw [<-Nat.add_assoc]at this
    exact this
   have hB:=below_setCells news g (0+n*size) w (Below.refl 0 w) (Nat.zero_le _)
   refine h _ _ (.inr ⟨g,cap,rfl,hg,hr,hp.mx,by rw [List.length_append,hp.len,hl,Nat.add_mul],?_,World.there_setCells hp.th _ _ _,Nat.lt_of_lt_of_le hp.lt hB.size⟩) ⟨hB.os,hB.tape,hB.output,hB.size,fun k hk hne=>World.heap_setCells_other w g _ news hk (fun q=>hne (by rw [q];rfl))⟩ (fun k hk=> .inl hk)
   intro j u hu
   by_cases hj:j < xs.length
   ·rw [List.getElem?_append_left hj]at hu
    exact World.rangeAt_setCells_apart hp.rg g (0+n*size) news (.inr (.inl (by rw [hp.len];omega))) j u hu
   ·rw [List.getElem?_append_right (by omega)]at hu
    have:=World.rangeAt_setCells_same w g (0+n*size) news hth (j - xs.length) u hu
    rw [show 0+n*size+(j - xs.length)=0+j by omega]at this
    exact this
  ·exact h v' w' (Pk.of_owns (owns_mono h2 hbase)) ⟨h3.os,h3.tape,h3.output,h3.size,fun k hk _=>h3.block k hk (by simp)⟩ fun k hk=> .inr (h2.lt k hk).1
end
structure Fr (w:World) (b:Nat) (v:Value) (n:Nat) (ds:List (List Int)):Prop where
 c0:w.cell? ⟨b,0,none⟩=some (.int .i64 n)
 c1:w.cell? ⟨b,1,none⟩=some v
 f0:w.frozen? ⟨b,0,none⟩=false
 f1:w.frozen? ⟨b,1,none⟩=false
 pk:Pk w 0 32 v ds.length (cellsD ds)
 dig:Dig ds
 ne:v.ownBlock≠some b
structure Adds (w w':World) (b:Nat) (r:Option Nat):Prop where
 os:w'.os=w.os
 tape:w'.tape=w.tape
 output:w'.output=w.output
 size:w.heap.size<=w'.heap.size
 block:∀k,k < w.heap.size->k≠b->some k≠r->w'.heap[k]? =w.heap[k]?
end Go.Proofs.Bl
namespace Go.Proofs.Bl
open Go Go.RowKit Go.ChangeShapes
abbrev errD (t:List UInt8):DataW Unit:= .iface "*errors.errorString" (.ptr (.agg [.lit (.string t)]))
theorem errD_handle (t:List UInt8):((errD t).handleName?).isNone=true:=by simp [DataW.handleName?]
structure ErrsP (g:Nat->Nat) (tp:TypeId) (S:List Nat) (a:Nat->Addr) (w:World):Prop where
 cell:∀i∈S,w.cell? ⟨g i,0,none⟩=some (.iface tp (.pointer (some (a i))))
 row:∀i∈S,∃c t,w.heap[(a i).block]? =some (.cells c t (0,0))
 ne:∀i∈S,∀j∈S,i≠j->a i≠a j
theorem ErrsP.ext {g:Nat->Nat} {tp:TypeId} {S:List Nat} {a:Nat->Addr} {w w':World} (h:ErrsP g tp S a w) (hE:Ext w w'):ErrsP g tp S a w':=
 ⟨fun i hi=>((bcell hE).1 _ _ (World.block_lt_of_cell? _ _ (h.cell i hi))).trans (h.cell i hi),fun i hi=>by
  obtain⟨c,t,hr⟩:=h.row i hi
  exact⟨c,t,(hE.block _ (Array.getElem?_eq_some_iff.1 hr).1).trans hr⟩,h.ne⟩
theorem errs_ind {P:Program} {w:World} {g:Nat->Nat} {nm:Nat->String} {ti tp te ts:TypeId} {ms:Array (String × TypeId)} {f:Field}
  (hi:P.underlying ti=some (.interface ms)) (hrow:∀u,P.typeName? 3 u=some "*errors.errorString" ->u=tp) (hp:P.underlying tp=some (.pointer te)) (he:P.underlying te=some (.struct #[f])) (hft:f.type=ts) (hfo:f.offset=0) (hs:P.underlying ts=some .string) (hc:P.cellsOf te=1) (hcs:P.cellsOf ts=1):
  ∀(xs:List (Nat × List UInt8)) (ps:List MemPlace),(∀x∈xs,P.globalNamed (nm x.1)=some (g x.1)/\(P.globals[g x.1]?).map (·.type)=some ti)->(xs.map (·.1)).Nodup->
   DataW.LaidVars P w (xs.map fun x=>(nm x.1,errD x.2)) ps->ps.Nodup->(∀b off,MemPlace.cell b off∈ps->(∃c t,w.heap[b]? =some (.cells c t (0,0)))/\∀u v,w.cell? ⟨b,off,none⟩=some (.iface u v)->Value.okWide P w .any 0 u v)->
   ∃a:Nat->Addr,ErrsP g tp (xs.map (·.1)) a w/\∀i∈xs.map (·.1),MemPlace.cell (a i).block (a i).off∈ps
 | [],_,_,_,_,_,_=>⟨fun _=>⟨0,0,none⟩,⟨fun _ h=>by simp at h,fun _ h=>by simp at h,fun _ h=>by simp at h⟩,fun _ h=>by simp at h⟩
 | (n,t) :: r,ps,hx,hnd,hv,hps,hrows=>by
  obtain⟨g0,t0,cs0,f0,p0,q0,hg0,ht0,hv0,hd0,hq,e⟩:=hv
  obtain⟨hg,ht⟩:=hx (n,t) (by simp)
  obtain rfl:=Option.some.inj (hg.symm.trans hg0)
  obtain rfl:=Option.some.inj (ht.symm.trans ht0)
  subst e
  obtain⟨l0⟩:=cs0
  have ok0:∀u v,l0=[.iface u v]->Value.okWide P w .any 0 u v:=fun u v e=>by
   subst e
   exact(hrows (g n) 0 (by simp [MemPlace.row])).2 u v (by simpa using World.var?_cell hg0 hv0 0)
  obtain⟨a0,s0,rfl,hc0,hs0,hz0,rfl⟩:=errorString_of_trod hi hrow hp he hft hfo hs hc hcs hd0 ok0
  have hn:n ∉ r.map (·.1):=(List.nodup_cons.1 hnd).1
  obtain⟨a,hA,hin⟩:=errs_ind hi hrow hp he hft hfo hs hc hcs r q0 (fun x h=>hx x (by simp [h])) (List.nodup_cons.1 hnd).2 hq (List.Nodup.sublist (List.sublist_append_right _ _) hps) (fun b off h=>hrows b off (List.mem_append_right _ h))
  have hdis:∀i∈r.map (·.1),a0≠a i:=fun i hi e=>by
   have h1:=hin i hi
   rw [<-e]at h1
   refine(List.nodup_append.1 hps).2.2 (MemPlace.cell a0.block a0.off) ?_ _ h1 rfl
   simp [MemPlace.row]
  have hcell0:w.cell? ⟨g n,0,none⟩=some (.iface tp (.pointer (some a0))):=by simpa using World.var?_cell hg0 hv0 0
  have hne:∀i∈r.map (·.1),i≠n:=fun i hi q=>hn (q▸hi)
  have hp:∀i,i=n->(if i=n then a0 else a i)=a0:=fun i e=>if_pos e
  have hq':∀i,i∈r.map (·.1)->(if i=n then a0 else a i)=a i:=fun i h=>if_neg (hne i h)
  refine⟨fun i=>if i=n then a0 else a i,⟨fun i hi=> ?_,fun i hi=> ?_,fun i hi j hj hij=> ?_⟩,fun i hi=> ?_⟩
  ·rcases List.mem_cons.1 hi with e | h1
   ·rw [hp i e,e];exact hcell0
   ·rw [hq' i h1];exact hA.cell i h1
  ·rcases List.mem_cons.1 hi with e | h1
   ·show ∃c t,w.heap[(if i=n then a0 else a i).block]? =_
    rw [hp i e];exact(hrows a0.block a0.off (by simp [MemPlace.row])).1
   ·show ∃c t,w.heap[(if i=n then a0 else a i).block]? =_
    rw [hq' i h1];exact hA.row i h1
  ·show(if i=n then a0 else a i)≠(if j=n then a0 else a j)
   rcases List.mem_cons.1 hi with e | h1
   ·rcases List.mem_cons.1 hj with e2 | h2
    ·exact absurd (e.trans e2.symm) hij
    ·rw [hp i e,hq' j h2];exact hdis j h2
   ·rcases List.mem_cons.1 hj with e2 | h2
    ·rw [hq' i h1,hp j e2];exact(hdis i h1).symm
    ·rw [hq' i h1,hq' j h2];exact hA.ne i h1 j h2 hij
  ·show MemPlace.cell (if i=n then a0 else a i).block (if i=n then a0 else a i).off∈_
   rcases List.mem_cons.1 hi with e | h1
   ·rw [hp i e];simp [MemPlace.row]
   ·rw [hq' i h1];exact List.mem_append_right _ (hin i h1)
theorem errs_of {P:Program} {w:World} {g:Nat->Nat} {nm:Nat->String} {ti tp te ts:TypeId} {ms:Array (String × TypeId)} {f:Field}
  (hi:P.underlying ti=some (.interface ms)) (hrow:∀u,P.typeName? 3 u=some "*errors.errorString" ->u=tp) (hp:P.underlying tp=some (.pointer te)) (he:P.underlying te=some (.struct #[f])) (hft:f.type=ts) (hfo:f.offset=0) (hs:P.underlying ts=some .string) (hc:P.cellsOf te=1) (hcs:P.cellsOf ts=1)
  {L:List (String × DataW Unit)} (h:laidMetH P L w) (keep:String × DataW Unit->Bool) (xs:List (Nat × List UInt8)) (hx:∀x∈xs,P.globalNamed (nm x.1)=some (g x.1)/\(P.globals[g x.1]?).map (·.type)=some ti) (hnd:(xs.map (·.1)).Nodup) (hf:L.filter keep=xs.map fun x=>(nm x.1,errD x.2)):
  ∃a:Nat->Addr,ErrsP g tp (xs.map (·.1)) a w:=by
 have h1:=h.filter keep
 rw [hf,MakeChecks.laidMetH_plain _ _ _ (List.all_eq_true.2 fun x hx=>by
  obtain⟨y,_,rfl⟩:=List.mem_map.1 hx
  exact errD_handle y.2)]at h1
 obtain⟨ps,hv,hn,hrows⟩:=h1
 obtain⟨a,hA,_⟩:=errs_ind hi hrow hp he hft hfo hs hc hcs xs ps hx hnd hv hn hrows
 exact⟨a,hA⟩
end Go.Proofs.Bl
namespace Go.Proofs.YtglenbikdahgjaaGreatDoor
open Go Go.RowKit Go.Proofs Go.Proofs.Bl
def gE (i:Nat):Nat:=[0,3,7,6,5,1000000,1000000,2,4,1000000,1000000,1000000,1000000,1000000,1000000,0,1000000,1000000,1000000,1000000,1000000].getD i 0
def nE (i:Nat):String:=["","bailee/api.ErrRange","bailee/api.ErrShort","bailee/api.ErrLong","bailee/api.ErrForm","bailee/api.ErrSum","bailee/api.ErrName","bailee/api.ErrKind","bailee/api.ErrSize","bailee/api.ErrKey","bailee/api.ErrDup","bailee/api.ErrNone","bailee/api.ErrFull","bailee/api.ErrState","bailee/api.ErrPower","bailee/api.ErrProof","bailee/api.ErrSpare","bailee/api.ErrLost","bailee/api.ErrBudget","bailee/api.ErrLate","bailee/api.ErrZero"].getD i ""
abbrev Errs (S:List Nat) (a:Nat->Addr) (w:World):Prop:=ErrsP gE 233 S a w
theorem gE_ok:∀i,1<=i->i<=20->gE i≠1000000->Tryz.prog.globalNamed (nE i)=some (gE i)/\(Tryz.prog.globals[gE i]?).map (·.type)=some 59:=fun i h1 h2 h3=>by
 have h:i=1\/i=2\/i=3\/i=4\/i=5\/i=6\/i=7\/i=8\/i=9\/i=10\/i=11\/i=12\/i=13\/i=14\/i=15\/i=16\/i=17\/i=18\/i=19\/i=20:=by omega
 rcases h with rfl | rfl | rfl | rfl | rfl | rfl | rfl | rfl | rfl | rfl | rfl | rfl | rfl | rfl | rfl | rfl | rfl | rfl | rfl | rfl<;>first | exact absurd rfl h3 | exact⟨by kernel_rfl,by kernel_rfl⟩
theorem e_star: "*" ++ "errors.errorString" = "*errors.errorString" :=by decide
theorem e_row (u:TypeId) (h:Tryz.prog.typeName? 3 u=some "*errors.errorString"):u=233:=
 typeName_ptr_named (nm:= "errors.errorString") (by rw [e_star];kernel_rfl) (by kernel_rfl) (by decide) u (by rw [e_star];exact h)
theorem errs_laid {L:List (String × DataW Unit)} {w:World} (h:laidMetH Tryz.prog L w) (keep:String × DataW Unit->Bool) (xs:List (Nat × List UInt8)) (hx:∀x∈xs,1<=x.1/\x.1<=20/\gE x.1≠1000000) (hnd:(xs.map (·.1)).Nodup) (hf:L.filter keep=xs.map fun x=>(nE x.1,errD x.2)):∃a,Errs (xs.map (·.1)) a w:=
 errs_of Tryz.underlying59 e_row Tryz.underlying233 Tryz.underlying250 rfl rfl Tryz.underlying9 (by kernel_rfl) (by kernel_rfl) h keep xs (fun x hm=>gE_ok _ (hx x hm).1 (hx x hm).2.1 (hx x hm).2.2) hnd hf
end Go.Proofs.YtglenbikdahgjaaGreatDoor
namespace Go.Proofs.Bl
open Go Go.RowKit
def zs32:List Int:=List.replicate 32 0
theorem Fam.list {w:World} {g:Nat} {k:IntKind} {n:Nat} {f:Nat->Int} (h:Fam w g k n f) {l:List Int} (hl:l.length=n) (hf:∀i,i < n->f i=l.getD i 0):w.rangeAt g 0 (ints k l):=fun j v hv=>by
 have hj:j < n:=by have:=(List.getElem?_eq_some_iff.1 hv).1;rw [ints_length,hl]at this;exact this
 rw [ints_get _ _ _ (by rw [hl];exact hj)]at hv
 cases hv
 rw [Nat.zero_add,h.1 j hj,hf j hj]
theorem zs32_get (i:Nat) (h:i < 32):(fun _:Nat=>(0:Int)) i=zs32.getD i 0:=by
 unfold zs32
 rw [List.getD_eq_getElem?_getD,List.getElem?_replicate,if_pos h];rfl
theorem fam_set32 {w:World} {g:Nat} {f:Nat->Int} (h:Fam w g .u8 32 f):Fam (w.setCells g 0 (ints .u8 zs32)) g .u8 32 (fun _=>0):=by
 have hin:=World.rangeAt_setCells_same w g 0 (ints .u8 zs32) (by rw [ints_length];exact h.there)
 refine⟨fun i hi=> ?_,fun i=> ?_⟩
 ·have:=hin i _ (ints_get .u8 zs32 i hi)
  rw [Nat.zero_add]at this
  rw [this,<-zs32_get i hi]
 ·rw [World.frozen?_setCells];exact h.2 i
theorem results_cell2 {P:Program} {fn:Func} {p q:Tmp} {ty:TypeId} {tmps:Array Value} {w:World} {b:Addr} {v u:Value} (h:fn.results=#[.cell p ty,.tmp q]) (hp:tmps.getD p undef= .pointer (some b)) (hl:(loadVar ty b).run P w= .ok v w) (hq:tmps.getD q undef=u):
  (results fn tmps).run P w= .ok (.tuple #[v,u]) w:=by
 have hp':tmps[p]?.getD undef= .pointer (some b):=by simpa using hp
 have hq':tmps[q]?.getD undef=u:=by simpa using hq
 simp [results,h,hp',hq',asAddr,hl]
theorem results_cell3 {P:Program} {fn:Func} {p q r:Tmp} {t1 t2 t3:TypeId} {tmps:Array Value} {w:World} {b1 b2 b3:Addr} {v1 v2 v3:Value} (h:fn.results=#[.cell p t1,.cell q t2,.cell r t3]) (hp:tmps.getD p undef= .pointer (some b1)) (hq:tmps.getD q undef= .pointer (some b2)) (hr:tmps.getD r undef= .pointer (some b3))
  (h1:(loadVar t1 b1).run P w= .ok v1 w) (h2:(loadVar t2 b2).run P w= .ok v2 w) (h3:(loadVar t3 b3).run P w= .ok v3 w):
  (results fn tmps).run P w= .ok (.tuple #[v1,v2,v3]) w:=by
 have hp':tmps[p]?.getD undef= .pointer (some b1):=by simpa using hp
 have hq':tmps[q]?.getD undef= .pointer (some b2):=by simpa using hq
 have hr':tmps[r]?.getD undef= .pointer (some b3):=by simpa using hr
 simp [results,h,hp',hq',hr',asAddr,h1,h2,h3]
section
variable {P:Program} {ops:Array Oper} {rest:List Oper} {a:Act} {w:World} {Q:Exit->Act->World->Prop} {d:Option Tmp} {tt ty:TypeId} {pp:String} {af:Array Edge} {x:Operand} {p v:Value} {g:Nat × Bool}
theorem stop_loadg (h:Stuck (wpList P ops Q (⟨d,.load ty x,tt,pp,af,some g⟩ :: rest) a w)):wpList P ops Q (⟨d,.load ty x,tt,pp,af,some g⟩ :: rest) a w:=h
theorem wpL_loadg (hw:Region.wanted ⟨d,.load ty x,tt,pp,af,some g⟩ (yielded ops a.tmps)=true) (hx:a.eval x=p) (hld:(Instr.loadAt ty p).run P w= .ok v w) (h:wpList P ops Q rest (a.put d v) w):
  wpList P ops Q (⟨d,.load ty x,tt,pp,af,some g⟩ :: rest) a w:=by
 unfold wpList
 rw [if_pos hw]
 left
 unfold Oper.wp execOp
 simp only [hx,Sem.run_bind,Sem.run_pure,Result.andThen_ok,hld]
 exact h
end
end Go.Proofs.Bl
namespace Go.Proofs.YtglenbikdahgjaaGreatDoor
open Go.RowKit Go.Proofs Go.Proofs.Bl
def errN (a:Nat->Addr) (m:Nat):Value:=if m=0 then .nilIface else .iface 233 (.pointer (some (a m)))
theorem errN_zero (a:Nat->Addr):errN a 0= .nilIface:=rfl
theorem errN_pos (a:Nat->Addr) (m:Nat) (h:m≠0):errN a m= .iface 233 (.pointer (some (a m))):=if_neg h
end Go.Proofs.YtglenbikdahgjaaGreatDoor
namespace Go.Proofs.Bl
open Go
def onesN:Nat->Nat->Nat
 | 0,_=>0
 | f+1,n=>n % 2+onesN f (n / 2)
def ones (n:Nat):Nat:=onesN n n
end Go.Proofs.Bl
namespace Go.Proofs.YtglenbikdahgjaaGreatDoor
open Go Go.RowKit Go.Proofs Go.Proofs.Bl
theorem tDig:SlT Tryz.prog 55 54 (.agg #[.int .u8 0,.int .u8 0,.int .u8 0,.int .u8 0,.int .u8 0,.int .u8 0,.int .u8 0,.int .u8 0,.int .u8 0,.int .u8 0,.int .u8 0,.int .u8 0,.int .u8 0,.int .u8 0,.int .u8 0,.int .u8 0,.int .u8 0,.int .u8 0,.int .u8 0,.int .u8 0,.int .u8 0,.int .u8 0,.int .u8 0,.int .u8 0,.int .u8 0,.int .u8 0,.int .u8 0,.int .u8 0,.int .u8 0,.int .u8 0,.int .u8 0,.int .u8 0]) 32 32:=⟨Tryz.underlying55,by kernel_rfl,rfl,by decide⟩
theorem tArr:SlT Tryz.prog 96 52 (.agg #[.int .u8 0,.int .u8 0,.int .u8 0,.int .u8 0,.int .u8 0,.int .u8 0,.int .u8 0,.int .u8 0,.int .u8 0,.int .u8 0,.int .u8 0,.int .u8 0,.int .u8 0,.int .u8 0,.int .u8 0,.int .u8 0,.int .u8 0,.int .u8 0,.int .u8 0,.int .u8 0,.int .u8 0,.int .u8 0,.int .u8 0,.int .u8 0,.int .u8 0,.int .u8 0,.int .u8 0,.int .u8 0,.int .u8 0,.int .u8 0,.int .u8 0,.int .u8 0]) 32 32:=⟨Tryz.underlying96,by kernel_rfl,rfl,by decide⟩
theorem tBytes:SlT Tryz.prog 27 5 (.int .u8 0) 1 1:=⟨Tryz.underlying27,by kernel_rfl,rfl,by decide⟩
theorem fam_alloc (w:World) (n:Nat) (k:IntKind) (t:TypeId) (cs:Array Value) (f:Nat->Int) (hcs:∀i,i < n->cs[i]? =some (.int k (f i))):Fam (w.alloc (.cells cs t)) w.heap.size k n f:=
 ⟨fun i hi=>by rw [World.cell?_alloc_new];exact hcs i hi,fun i=>by simp⟩
theorem fam_new (w:World) (n:Nat) (k:IntKind) (t:TypeId) (cs:Array Value) (hcs:cs.toList=List.replicate n (Value.int k 0)):Fam (w.alloc (.cells cs t)) w.heap.size k n (fun _=>0):=by
 refine⟨fun i hi=> ?_,fun i=>by simp⟩
 rw [World.cell?_alloc_new]
 rw [<-Array.getElem?_toList,hcs]
 simp [hi]
theorem tRw:SlT Tryz.prog 22 27 (.slice none 0 0) 1 24:=⟨Tryz.underlying22,by kernel_rfl,rfl,by decide⟩
theorem cloneB_some (ad:Addr) (c:Nat) (l:List Int) (w:World) (h2:Rd w .u8 (.slice (some ad) l.length c) l) (hl:l.length<=140737488355328):
  Calls Tryz.prog 45 #[.slice (some ad) l.length c] w fun e w'=>∃v',e= .returned v'/\w'.ownsRow w.heap.size 5 1 v' l.length (ints .u8 l)/\Ext w w':=by
 have e0:=Lib.run_eql_slice_nil (P:=Tryz.prog) w 27 5 (some ad) l.length c 0 0 Tryz.underlying27
 have hE:Ext w (w.alloc (.cells #[] 5)):=(Below.refl _ _).alloc (Nat.le_refl _) _
 have ho:(w.alloc (.cells #[] 5)).ownsRow w.heap.size 5 1 (.slice (some ⟨w.heap.size,0,none⟩) 0 0) 0 []:=owns_new w 5 #[] w.heap.size 0 1 (Nat.le_refl _) (by decide) rfl
 have Ho:=Bl.hid ho
 have H2:=Bl.hid (h2.ext hE)
 have Hl:=Bl.hid hl
 clear ho h2 hE hl
 go_enter Tryz.func45,Tryz.ntmps45
 go_wp2_with ((with_reducible refine wpL_append tBytes Ho.out H2.out (by simp) (ints_one _ _) (by have:=Hl.out;unfold maxLen;omega) (by have:=Hl.out;omega) (by simp) ?_ ?_ ?_);rfl;rfl;intro v' w' hown hg hB hK)
 go_ret
 rw [Nat.zero_add,List.nil_append]at hown
 exact⟨_,rfl,hown,((Below.refl _ _).alloc (Nat.le_refl _) _).trans hB⟩
theorem cloneB_any (v:Value) (l:List Int) (w:World) (h:Rd w .u8 v l) (hl:l.length<=140737488355328):
  Calls Tryz.prog 45 #[v] w fun e w'=>∃v',e= .returned v'/\w'.ownsRow w.heap.size 5 1 v' l.length (ints .u8 l)/\Ext w w':=by
 have h2:=h
 rcases h with ⟨⟨p,rfl⟩,hn,hc⟩ | ⟨b,o,c,rfl,hnc,hcm,hr⟩
 ·obtain rfl:l=[]:=List.length_eq_zero_iff.1 hn
  cases p with
  | some ad=>exact cloneB_some ad 0 [] w h2 hl
  | none=>
   have e0:=Lib.run_eql_slice_nil (P:=Tryz.prog) w 27 5 none 0 0 0 0 Tryz.underlying27
   clear hn hc h2
   go_enter Tryz.func45,Tryz.ntmps45
   go_wp2
   go_ret
   exact⟨_,rfl,World.ownsRow_nil _ _ _ _,Below.refl _ _⟩
 ·exact cloneB_some _ c l w h2 hl
theorem equalB_any (va vb:Value) (xs ys:List Int) (w:World) (hx:Rd w .u8 va xs) (hy:Rd w .u8 vb ys) (bx:Byt xs) (bY:Byt ys):
  Calls Tryz.prog 51 #[va,vb] w fun e w'=>e= .returned (.bool (decide (xs=ys)))/\w=w':=by
 have hc1:=conv_bytes (P:=Tryz.prog) hx Tryz.underlying27 Tryz.underlying5 Tryz.underlying9
 have hc2:=conv_bytes (P:=Tryz.prog) hy Tryz.underlying27 Tryz.underlying5 Tryz.underlying9
 have hq:=bstr_beq bx bY
 have Hq:Hid (decide (bstr xs=bstr ys)=decide (xs=ys)):=Bl.hid (by rw [Bool.eq_iff_iff];simp [bstr_eq_iff bx bY])
 clear hx hy bx bY
 go_enter Tryz.func51,Tryz.ntmps51
 go_wp2
 go_ret
 first
 | exact⟨rfl,rfl⟩
 | exact⟨by rw [<-hq];rfl,rfl⟩
 | exact⟨by rw [<-Hq.out];rfl,rfl⟩
end Go.Proofs.YtglenbikdahgjaaGreatDoor
namespace Go.Proofs.YtglenbikdahgjaaGreatDoor
open Go.RowKit Go.Proofs Go.Proofs.Bl
theorem ret_i {a b:Int} (h:a=b):Ending.returned (.int .i64 a)= .returned (.int .i64 b):=by rw [h]
theorem split_lo (n:Int) (w:World) (h:n < 2):
  Calls Tryz.prog 129 #[.int .i64 n] w fun e w'=>e= .returned (.int .i64 0)/\w=w':=by
 go_enter Tryz.func129,Tryz.ntmps129
 go_wp2
 go_ret
 exact⟨rfl,rfl⟩
theorem split_hi (n:Int) (b:Nat) (w:World) (h:2<=n) (h2:n<=9223372036854775807) (hb:Hid (Lib.bitLen (n-1).toNat=b)) (hb1:1<=b) (hb2:b<=63):
  Calls Tryz.prog 129 #[.int .i64 n] w fun e w'=>e= .returned (.int .i64 (wrap64 (2^(b - 1))))/\w=w':=by
 have Hc:∀w,Calls Tryz.prog 145 #[.int .u64 (n-1)] w fun e w'=>e= .returned (.int .i64 (b:Int))/\w=w':=fun w=>(Tryz.bits_Len _ w (by omega) (by omega)).mono fun e w' ⟨h1,h2⟩=>⟨by rw [h1,hb.out],h2.symm⟩
 clear hb
 go_enter Tryz.func129,Tryz.ntmps129
 go_wp2_with (go_at_call 145;refine(Hc _).mono ?_;rintro e w' ⟨rfl,rfl⟩)
 go_ret
 exact⟨rfl,rfl⟩
theorem wrap_pow (b:Nat) (h:b<=62):wrap64 (2^b)=2^b:=by
 have:=pow_le_of b 62 h
 refine IntWalk.wrap64_in _ ⟨?_,?_⟩
 ·have:(0:Int)<=2^b:=Int.pow_nonneg (by decide)
  omega
 ·have h2:((2^b:Nat):Int)=(2:Int)^b:=by simp
  omega
theorem split_any (n:Int) (w:World) (h2:n<=9223372036854775807):
  Calls Tryz.prog 129 #[.int .i64 n] w fun e w'=>e= .returned (.int .i64 (Bl.sp n.toNat))/\w=w':=by
 by_cases h:n < 2
 ·refine(split_lo n w h).mono fun e w' ⟨he,hw⟩=>⟨?_,hw⟩
  rw [he,sp_lo _ (by omega)];rfl
 ·have e1:(n - 1).toNat=n.toNat - 1:=by omega
  obtain⟨a,b,c⟩:=bitLen_bounds (n.toNat - 1) (by omega) (by omega)
  have d:=bitLen_lim n.toNat (by omega) (by omega)
  refine(split_hi n _ w (by omega) h2 rfl (by rw [e1];exact a) (by rw [e1];exact d)).mono fun e w' ⟨he,hw⟩=>⟨?_,hw⟩
  rw [he,e1,wrap_pow _ (by omega)]
  unfold Bl.sp
  rw [if_neg (by omega)]
  simp
theorem refsplit_any (n:Int) (w:World) (h:2<=n) (h2:n<=9223372036854775807):
  Calls Tryz.prog 78 #[.int .i64 n] w fun e w'=>e= .returned (.int .i64 (Bl.sp n.toNat))/\w=w':=by
 go_enter Tryz.func78,Tryz.ntmps78
 go_wp2
 go_loop [3] (fun k=>∃q j:Nat,k= .int .i64 q/\q < n/\1<=q/\Hid (q=2^j)) (fun k=>(n - intOf k).toNat)
 case atStart=>exact⟨1,0,rfl,by omega,by omega,rfl⟩
 case round=>
  obtain⟨q,j,rfl,hq,hq1,hj⟩:=hrel
  by_cases hlt:(q:Int) < n - q
  ·go_wp2
   go_round
   case rel=>exact⟨q*2,j+1,by go_num,by omega,by omega,by rw [hj.out];exact(Nat.pow_succ 2 j).symm⟩
   case measure=>simp [intOf];omega
  ·go_wp2
   go_ret
   refine⟨ret_i ?_,rfl⟩
   have hj':=hj.out
   show(q:Int)=_
   rw [sp_of_pow n.toNat j (by omega) (by omega) (by omega),hj']
end Go.Proofs.YtglenbikdahgjaaGreatDoor
namespace Go.Proofs.Bl
open Go
section
variable (H:List Int->List Int)
def inB (l r:List Int):List Int:=1 :: (l++r)
theorem inB_inj {l r l' r':List Int} (h:inB l r=inB l' r') (hl:l.length=l'.length):l=l'/\r=r':=by
 injection h with _ h
 exact List.append_inj h hl
def stB (d:List Int) (t:Bool) (s:List Int):List Int:=if t=true then inB d s else inB s d
def seqB:List Int->List (Bool × List Int)->List (List Int)
 | x,[]=>[x]
 | x,(t,s) :: r=>x :: seqB (stB (H x) t s) r
theorem seqB_len:∀(l:List (Bool × List Int)) (x:List Int),(seqB H x l).length=l.length+1
 | [],_=>rfl
 | (t,s) :: r,x=>by simp [seqB,seqB_len r]
theorem seqB_zero (l:List (Bool × List Int)) (x:List Int):(seqB H x l).getD 0 []=x:=by
 cases l with
 | nil=>rfl
 | cons a r=>rfl
def climbB (d:List Int):List (Bool × List Int)->List Int
 | []=>d
 | (t,s) :: r=>climbB (H (stB d t s)) r
theorem seqB_last:∀(l:List (Bool × List Int)) (x:List Int),H ((seqB H x l).getD l.length [])=climbB H (H x) l
 | [],_=>rfl
 | (t,s) :: r,x=>by
  simp only [seqB,climbB,List.length_cons,List.getD_cons_succ]
  exact seqB_last r _
theorem seqB_succ:∀(l:List (Bool × List Int)) (x:List Int) (k:Nat) (h:k < l.length),(seqB H x l).getD (k+1) []=stB (H ((seqB H x l).getD k [])) (l[k]'h).1 (l[k]'h).2
 | (t,s) :: r,x,0,_=>by
  simp only [seqB,List.getD_cons_succ,List.getD_cons_zero,List.getElem_cons_zero]
  exact seqB_zero H r _
 | (t,s) :: r,x,k+1,h=>by
  simp only [seqB,List.getD_cons_succ,List.getElem_cons_succ]
  exact seqB_succ r _ k (by simpa using h)
variable (hH:∀x,(H x).length=32)
include hH
end
end Go.Proofs.Bl
