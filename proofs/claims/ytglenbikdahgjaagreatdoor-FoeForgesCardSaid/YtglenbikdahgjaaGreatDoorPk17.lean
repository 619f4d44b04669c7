/- What a shelf holds, and what it answers, plainly; the ids that came, as a window. No program. -/
import Derived.Laws.BitsLemmas
import Derived.BigQuiet
import Derived.Laws.IdiomCopy
import Derived.Test.YtglenbikdahgjaaGreatDoorPk11
import Derived.Test.YtglenbikdahgjaaGreatDoorPk16
import Derived.Test.YtglenbikdahgjaaGreatDoorPk02
import Derived.Test.YtglenbikdahgjaaGreatDoorPk06
import Derived.Test.YtglenbikdahgjaaGreatDoorPk00
set_option maxRecDepth 100000
set_option maxHeartbeats 16000000
namespace Go.Proofs.Bl
open Go Go.RowKit
def gmx:Int->List Int->Int
 | g,[]=>g
 | g,x :: r=>gmx (if g < x then x else g) r
theorem gmx_app:∀(l:List Int) (g x:Int),gmx g (l++[x])=if gmx g l < x then x else gmx g l
 | [],_,_=>rfl
 | y :: r,g,x=>gmx_app r (if g < y then y else g) x
theorem gmx_ge:∀(l:List Int) (g:Int),g<=gmx g l/\∀x∈l,x<=gmx g l
 | [],g=>⟨Int.le_refl g,fun x hx=>(by cases hx)⟩
 | y :: r,g=>by
  obtain⟨h1,h2⟩:=gmx_ge r (if g < y then y else g)
  have h3:g<=gmx g (y :: r)/\y<=gmx g (y :: r):=by
   show g<=gmx (if g < y then y else g) r/\y<=gmx (if g < y then y else g) r
   by_cases hq:g < y
   ·rw [if_pos hq]at h1⊢;omega
   ·rw [if_neg hq]at h1⊢;omega
  refine⟨h3.1,fun x hx=> ?_⟩
  rcases List.mem_cons.1 hx with rfl | hx
  ·exact h3.2
  ·exact h2 x hx
theorem gmx_mem:∀(l:List Int) (g:Int),gmx g l=g\/gmx g l∈l
 | [],g=> .inl rfl
 | y :: r,g=>by
  show gmx (if g < y then y else g) r=g\/gmx (if g < y then y else g) r∈y :: r
  rcases gmx_mem r (if g < y then y else g)with h | h
  ·rw [h]
   split
   ·exact .inr (by simp)
   ·exact .inl rfl
  ·exact .inr (List.mem_cons_of_mem _ h)
def oldI (ids:List Int) (x:Int):Bool:= !ids.isEmpty&&decide (x<=gmx 0 ids - 64)
def hasI (ids:List Int) (x:Int):Bool:=decide (x∈ids)&& !oldI ids x
def freI (ids:List Int) (x:Int):Bool:=wi x 0 1099511627776&& !oldI ids x&& !hasI ids x
structure SeenOk (any:Bool) (g:Int) (c:Nat) (ids:List Int):Prop where
 an:any= !ids.isEmpty
 gr:g=gmx 0 ids
 lt:c < 2^64
 rn:∀x∈ids,0<=x/\x<=1099511627776
 bt:∀k:Nat,k < 64->c.testBit k=decide ((g - (k:Int))∈ids)
theorem SeenOk.zero:SeenOk false 0 0 []:=⟨rfl,rfl,by decide,fun x h=>(by cases h),fun k _=>by simp⟩
section
variable {any:Bool} {g:Int} {c:Nat} {ids:List Int}
theorem SeenOk.rng (h:SeenOk any g c ids):0<=g/\g<=1099511627776:=by
 have h1:=(gmx_ge ids 0).1
 rw [h.gr]
 refine⟨h1,?_⟩
 rcases gmx_mem ids 0 with q | q
 ·omega
 ·exact(h.rn _ q).2
theorem SeenOk.top (h:SeenOk any g c ids) {x:Int} (hx:x∈ids):x<=g:=by rw [h.gr];exact(gmx_ge ids 0).2 x hx
theorem SeenOk.emp (h:SeenOk any g c ids) (ha:any=false):ids=[]:=by
 have:=h.an
 rw [ha]at this
 simpa using this.symm
theorem SeenOk.old (h:SeenOk any g c ids) (x:Int):oldI ids x=(any&&decide (x<=g - 64)):=by unfold oldI;rw [h.an,h.gr]
theorem SeenOk.has (h:SeenOk any g c ids) {x:Int} (ho:oldI ids x=false) (ha:any=true) (hg:x<=g):hasI ids x=c.testBit (g - x).toNat:=by
 rw [h.old,ha]at ho
 have h2:¬x<=g - 64:=by simpa using ho
 rw [h.bt (g - x).toNat (by omega),show g - ((g - x).toNat:Int)=x by omega]
 unfold hasI
 rw [h.old,ha]
 simp [h2]
theorem SeenOk.hasno (h:SeenOk any g c ids) {x:Int} (hn:any=false\/wi x 0 1099511627776=false\/oldI ids x=true\/g < x):hasI ids x=false:=by
 unfold hasI
 rcases hn with q | q | q | q
 ·rw [h.emp q];simp
 ·have hx:x ∉ ids:=fun hm=>by
   have:=h.rn x hm
   have:=wi_no.1 q
   omega
  simp [hx]
 ·rw [q];simp
 ·have hx:x ∉ ids:=fun hm=>by
   have:=h.top hm
   omega
  simp [hx]
theorem fre_no {x:Int} (h:wi x 0 1099511627776=false\/oldI ids x=true\/hasI ids x=true):freI ids x=false:=by
 unfold freI
 rcases h with q | q | q<;>rw [q]<;>simp
theorem fre_yes {x:Int} (h1:wi x 0 1099511627776=true) (h2:oldI ids x=false) (h3:hasI ids x=false):freI ids x=true:=by
 unfold freI;rw [h1,h2,h3];rfl
theorem isEmpty_app (ids:List Int) (x:Int):(ids++[x]).isEmpty=false:=by simp
theorem bit_one (k:Nat):(1:Nat).testBit k=decide (k=0):=by
 cases k with
 | zero=>rfl
 | succ k=>rw [Nat.testBit_succ];simp
theorem bit_up (c d k:Nat) (hk:k < 64):(((c*2^d) % 2^64)||| 1).testBit k=(decide (k=0)||(decide (d<=k)&&c.testBit (k - d))):=by
 rw [Nat.testBit_or,Nat.testBit_mod_two_pow,bit_one,Nat.testBit_mul_two_pow]
 simp only [hk,decide_true,Bool.true_and]
 rw [Bool.or_comm]
theorem SeenOk.up (h:SeenOk any g c ids) {x:Int} {d:Nat} (hx:0<=x/\x<=1099511627776) (hn:any=false\/g < x) (hd:d=min (x - g).toNat 64):SeenOk true x (((c*2^d) % 2^64)||| 1) (ids++[x]):=by
 have hgx:gmx 0 ids<=x:=by
  rcases hn with q | q
  ·rw [h.emp q];exact hx.1
  ·rw [<-h.gr];omega
 have hnot:∀k:Nat,x - (k:Int)=x↔k=0:=fun k=>by omega
 refine⟨by rw [isEmpty_app];rfl,?_,?_,fun y hy=> ?_,fun k hk=> ?_⟩
 ·rw [gmx_app];split<;>omega
 ·exact Nat.or_lt_two_pow (Nat.mod_lt _ (by decide)) (by decide)
 ·rcases List.mem_append.1 hy with hy | hy
  ·exact h.rn y hy
  ·obtain rfl:y=x:=by simpa using hy
   exact hx
 ·rw [bit_up _ _ _ hk]
  have hm:decide ((x - (k:Int))∈ids++[x])=(decide (k=0)||decide ((x - (k:Int))∈ids)):=by
   simp only [List.mem_append,List.mem_singleton,hnot,Bool.decide_or]
   rw [Bool.or_comm]
  rw [hm]
  congr 1
  rcases hn with q | q
  ·have he:=h.emp q
   have hz:∀j:Nat,j < 64->c.testBit j=false:=fun j hj=>by rw [h.bt j hj,he];simp
   rw [hz (k - d) (by omega),he];simp
  ·by_cases hdk:d<=k
   ·have hd':d=(x - g).toNat:=by omega
    rw [h.bt (k - d) (by omega)]
    have e:g - ((k - d:Nat):Int)=x - (k:Int):=by omega
    rw [e];simp [hdk]
   ·have hno:(x - (k:Int)) ∉ ids:=fun hm=>by
     have:=h.top hm
     omega
    simp [hdk,hno]
theorem SeenOk.add (h:SeenOk any g c ids) {x:Int} (hx:0<=x/\x<=1099511627776) (ha:any=true) (ho:oldI ids x=false) (hg:x<=g):SeenOk true g (c||| 2^(g - x).toNat) (ids++[x]):=by
 rw [h.old,ha]at ho
 have h2:¬x<=g - 64:=by simpa using ho
 refine⟨by rw [isEmpty_app];rfl,?_,?_,fun y hy=> ?_,fun k hk=> ?_⟩
 ·rw [gmx_app,<-h.gr,if_neg (by omega)]
 ·exact Nat.or_lt_two_pow h.lt (Nat.pow_lt_pow_right (by decide) (by omega))
 ·rcases List.mem_append.1 hy with hy | hy
  ·exact h.rn y hy
  ·obtain rfl:y=x:=by simpa using hy
   exact hx
 ·rw [Nat.testBit_or,Nat.testBit_two_pow,h.bt k hk]
  have hq:g - (k:Int)=x↔(g - x).toNat=k:=by omega
  simp only [List.mem_append,List.mem_singleton,Bool.decide_or,hq]
end
theorem bit_test (c:Nat) (hc:c < 2^64) (k:Nat):bits .and .u64 ((c:Int) / 2^k) 1=if c.testBit k then 1 else 0:=by
 have h1:((c:Int) / 2^k)=((c / 2^k:Nat):Int):=by simp
 have hl:c / 2^k < 2^64:=Nat.lt_of_le_of_lt (Nat.div_le_self _ _) hc
 have hw:∀n:Int,0<=n->n < 2^64->IntKind.u64.wrap n=n:=fun n h0 h1=>by
  simp only [IntKind.wrap,IntKind.bits,IntKind.signed]
  simp
  omega
 rw [h1]
 show bits .and .u64 ((c / 2^k:Nat):Int) ((1:Nat):Int)=_
 rw [(bits_nat .u64 64 (by decide) hw (c / 2^k) 1 hl (by decide)).1,Nat.testBit_eq_decide_div_mod_eq]
 have e:c / 2^k&&& 1=c / 2^k % 2:=Nat.and_two_pow_sub_one_eq_mod (c / 2^k) 1
 rw [e]
 have:=Nat.mod_lt (c / 2^k) (y:=2) (by decide)
 by_cases q:c / 2^k % 2=1
 ·rw [q];simp
 ·have:c / 2^k % 2=0:=by omega
  rw [this];simp
theorem wrap_u64 (n:Int) (h0:0<=n) (h1:n < 2^64):IntKind.u64.wrap n=n:=by
 simp only [IntKind.wrap,IntKind.bits,IntKind.signed]
 simp
 omega
theorem or_nat (a b:Nat) (ha:a < 2^64) (hb:b < 2^64):bits .or .u64 (a:Int) (b:Int)=((a||| b:Nat):Int):=
 (bits_nat .u64 64 (by decide) wrap_u64 a b ha hb).2
theorem shr_nat (c k:Nat) (hk:k < 64):Op.shift .shr .u64 (c:Int) .i64 (k:Int)=pure (.int .u64 ((c:Int) / 2^k)):=by
 unfold Op.shift
 rw [if_neg (by omega)]
 have h1:min (k:Int).toNat IntKind.u64.bits=k:=by
  rw [Int.toNat_natCast];exact Nat.min_eq_left (Nat.le_of_lt hk)
 simp only [h1]
 rw [Int.fdiv_eq_ediv_of_nonneg _ (Int.le_of_lt (Int.pow_pos (by decide)))]
theorem shl_wrap (c d:Nat):IntKind.u64.wrap ((c:Int)*2^d)=(((c*2^d) % 2^64:Nat):Int):=by
 simp only [IntKind.wrap,IntKind.bits,IntKind.signed]
 simp
structure ShT where
 objs:List (Int × List (List Int))
 ids:List Int
def getO (s:ShT) (n:Int):Option (List (List Int)):=(s.objs.find? fun p=>decide (p.1=n)).map (·.2)
def StOk (st:List (List Int)):Prop:=1<=st.length/\st.length<=512/\∀b∈st,b.length=16/\Byt b
structure ShOk (s:ShT):Prop where
 nd:(s.objs.map (·.1)).Nodup
 ob:∀p∈s.objs,StOk p.2
 ln:s.objs.length<=4
def sh0:ShT:=⟨[],[]⟩
theorem ShOk.zero:ShOk sh0:=⟨by simp [sh0],fun p hp=>(by cases hp),by decide⟩
theorem getO_mem {s:ShT} {n:Int} {st:List (List Int)} (h:getO s n=some st):(n,st)∈s.objs:=by
 unfold getO at h
 cases hf:s.objs.find? (fun p=>decide (p.1=n))with
 | none=>rw [hf]at h;cases h
 | some p=>
  rw [hf]at h
  have h1:=List.find?_some hf
  have h2:=List.mem_of_find?_eq_some hf
  have e1:p.1=n:=by simpa using h1
  have e2:p.2=st:=by simpa using h
  rw [<-e1,<-e2];exact h2
theorem ShOk.get {s:ShT} (h:ShOk s) {n:Int} {st:List (List Int)} (hg:getO s n=some st):StOk st:=h.ob _ (getO_mem hg)
def ansR (code:Int) (l:LT):LT:=⟨7,l.id,l.obj,[],[],0,0,[],code⟩
def ackL (l:LT):LT:=⟨2,l.id,l.obj,[],[],0,0,[],0⟩
def ansS (all:List (List Int)) (ps:List Int):List Sh:=ps.map fun p=>(p,all.getD p.toNat [],pathD all p.toNat)
def ansL (l:LT) (all:List (List Int)):LT:=⟨4,l.id,l.obj,[],ansS all l.places,0,0,[],0⟩
def givL (l:LT) (all:List (List Int)):LT:=⟨6,l.id,l.obj,[],[],l.frm,0,(all.drop l.frm.toNat).take l.cnt.toNat,0⟩
def idsL (s:ShT) (l:LT):List Int:=if freI s.ids l.id=true then s.ids++[l.id]else s.ids
def putS (s:ShT) (l:LT):ShT:=match getO s l.obj with
 | some _=>⟨s.objs,idsL s l⟩
 | none=>if 4<=s.objs.length then⟨s.objs,idsL s l⟩else⟨s.objs++[(l.obj,l.blocks)],idsL s l⟩
def putL (s:ShT) (l:LT):LT:=match getO s l.obj with
 | some st=>if freI s.ids l.id=false\/st=l.blocks then ackL l else ansR 10 l
 | none=>if 4<=s.objs.length then ansR 12 l else ackL l
def askL (s:ShT) (l:LT):LT:=match getO s l.obj with
 | none=>ansR 11 l
 | some all=>if ∀p∈l.places,p < (all.length:Int)then ansL l all else ansR 1 l
def fetL (s:ShT) (l:LT):LT:=match getO s l.obj with
 | none=>ansR 11 l
 | some all=>if (all.length:Int)<=l.frm then ansR 1 l else if chkL (givL l all)=0 then givL l all else ansR 3 l
def hanS (s:ShT) (l:LT):ShT:=if chkL l=0/\l.kind=1 then putS s l else s
def hanL (s:ShT) (l:LT):LT × Bool:=
 if chkL l=0 then(if l.kind=1 then(putL s l,true)else if l.kind=3 then(askL s l,true)else if l.kind=5 then(fetL s l,true)else(lt0,false))else(lt0,false)
theorem getO_app {s:ShT} {n:Int} {st:List (List Int)} {ids:List Int} (hn:getO s n=none) (x:Int):getO ⟨s.objs++[(n,st)],ids⟩ x=if x=n then some st else getO s x:=by
 unfold getO
 simp only [List.find?_append,Option.map_or]
 by_cases hx:x=n
 ·subst hx
  unfold getO at hn
  cases hf:s.objs.find? (fun p=>decide (p.1=x))with
  | some p=>rw [hf]at hn;cases hn
  | none=>simp
 ·rw [if_neg hx]
  have:¬n=x:=fun q=>hx q.symm
  cases hf:s.objs.find? (fun p=>decide (p.1=x))with
  | some p=>simp
  | none=>simp [this]
theorem getO_none {s:ShT} {n:Int} (h:getO s n=none):n ∉ s.objs.map (·.1):=fun hm=>by
 obtain⟨p,hp,rfl⟩:=List.mem_map.1 hm
 unfold getO at h
 cases hf:s.objs.find? (fun q=>decide (q.1=p.1))with
 | some q=>rw [hf]at h;cases h
 | none=>have:=List.find?_eq_none.1 hf p hp;simp at this
theorem put_st {l:LT} (h:chkL l=0) (hk:l.kind=1) (hb:∀b∈l.blocks,Byt b):StOk l.blocks:=by
 obtain⟨_,_,hs,_,_⟩:=chk_parts h
 unfold sizOk at hs
 rw [if_pos (.inl hk),Bool.and_eq_true]at hs
 have hw:=wi_iff.1 hs.1
 have h16:∀x∈l.blocks,badB x=false:=any_false hs.2
 exact⟨by omega,by omega,fun b hm=>⟨badB_not (h16 b hm),hb b hm⟩⟩
theorem ShOk.put {s:ShT} (h:ShOk s) {l:LT} (hc:chkL l=0) (hk:l.kind=1) (hb:∀b∈l.blocks,Byt b):ShOk (putS s l):=by
 unfold putS
 cases hg:getO s l.obj with
 | some st=>exact⟨h.nd,h.ob,h.ln⟩
 | none=>
  simp only
  by_cases h4:4<=s.objs.length
  ·rw [if_pos h4];exact⟨h.nd,h.ob,h.ln⟩
  ·rw [if_neg h4]
   refine⟨?_,fun p hp=> ?_,by simp;omega⟩
   ·simp only [List.map_append,List.map_cons,List.map_nil]
    refine List.nodup_append.2 ⟨h.nd,by simp,fun a ha b hb=> ?_⟩
    simp only [List.mem_singleton]at hb
    subst hb
    exact fun q=>getO_none hg (q▸ha)
   ·rcases List.mem_append.1 hp with hp | hp
    ·exact h.ob p hp
    ·obtain rfl:p=(l.obj,l.blocks):=by simpa using hp
     exact put_st hc hk hb
theorem ShOk.han {s:ShT} (h:ShOk s) {l:LT} (hb:∀b∈l.blocks,Byt b):ShOk (hanS s l):=by
 unfold hanS
 split
 ·next q=>exact h.put q.1 q.2 hb
 ·exact h
theorem ask_pl {l:LT} (h:chkL l=0) (hk:l.kind=3):1<=l.places.length/\l.places.length<=12/\∀p∈l.places,0<=p/\p<=511:=by
 obtain⟨_,hn,hs,_,_⟩:=chk_parts h
 obtain⟨_,_,hnt⟩:=numOk_id hn
 unfold sizOk at hs
 rw [if_neg (by omega),if_pos hk]at hs
 unfold numT at hnt
 rw [if_pos hk]at hnt
 have hw:=wi_iff.1 hs
 exact⟨by omega,by omega,fun p hp=>badP_not (any_false hnt p hp)⟩
end Go.Proofs.Bl
namespace Go.Proofs.YtglenbikdahgjaaGreatDoor
open Go Go.RowKit Go.Proofs Go.Proofs.Bl
theorem tBB:SlT Tryz.prog 22 27 (.slice none 0 0) 1 24:=⟨Tryz.underlying22,by kernel_rfl,rfl,by decide⟩
theorem tII:SlT Tryz.prog 23 3 (.int .i64 0) 1 8:=⟨Tryz.underlying23,by kernel_rfl,rfl,by decide⟩
end Go.Proofs.YtglenbikdahgjaaGreatDoor
namespace Go.Proofs.Bl
open Go Go.RowKit
def P0 (B X D:Nat) (cs:List Value) (vr:Value) (M:List (List Int)) (s:Rst) (g o:Nat) (y:List Int) (w:World):Prop:=C0 (ints .u8) 32 OkT B X D 2 cs vr M s w/\w.rangeAt g o (ints .u8 y)
structure JS (z:List Value) (X W:Nat) (s s1 s2:Rst) (p:Int) (st:List Int) (d:Nat->Bool) (u:Nat->Value) (w:World):Prop where
 le:W<=w.heap.size
 hX:X < W
 a:d 1=false->Rdr w X s
 b:d 1=true->u 5= .int .i64 p
 c:d 1=true->d 3=false->Rdr w X s1
 e:d 3=true->Rdr w X s2/\SlB w (u 7) st/\∀k,(u 7).ownBlock=some k->W<=k/\k < w.heap.size
 f:d 5=true->∃D,u 3= .pointer (some ⟨D,0,none⟩)/\BoxC w D z/\W<=D/\(d 3=true->(u 7).ownBlock≠some D)
 g:d 4=true->d 3=true/\u 8= .agg #[.int .i64 p,u 7,.slice none 0 0]
section
variable {z:List Value} {X W:Nat} {s s1 s2:Rst} {p:Int} {st:List Int} {d:Nat->Bool} {u:Nat->Value} {w w':World}
end
end Go.Proofs.Bl
namespace Go.Proofs.YtglenbikdahgjaaGreatDoor
open Go Go.RowKit Go.Proofs Go.Proofs.Bl
end Go.Proofs.YtglenbikdahgjaaGreatDoor
namespace Go.Proofs.Bl
open Go Go.RowKit
theorem cellsB (M:List Bv):cellsR cB M=M.map (·.1):=by
 unfold cellsR cB
 induction M with
 | nil=>rfl
 | cons x r ih=>rw [List.flatMap_cons,ih];rfl
structure LtF (F:Nat->Prop) (w:World) (l:LT) (vp vs vb:Value) (L:List Sv):Prop where
 pl:RdsF F w vp l.places.length (ints .i64 l.places)
 sh:RdsF F w vs L.length (cellsR cS L)
 so:∀x∈L,OkF F w x
 sl:L.map plS=l.shown
 bl:∃M:List Bv,RdsF F w vb M.length (cellsR cB M)/\(∀y∈M,OkB F w y)/\M.map (·.2)=l.blocks
theorem LtF.kept {F F':Nat->Prop} {w w':World} {l:LT} {vp vs vb:Value} {L:List Sv} (h:LtF F w l vp vs vb L) (hk:∀b,F b->b < w.heap.size->F' b/\w'.heap[b]? =w.heap[b]?):LtF F' w' l vp vs vb L:=by
 obtain⟨M,h1,h2,h3⟩:=h.bl
 exact⟨h.pl.kept hk,h.sh.kept hk,fun x hx=>stab_okF _ _ _ _ _ (h.so x hx) hk,h.sl,M,h1.kept hk,fun y hy=>stab_okB _ _ _ _ _ (h2 y hy) hk,h3⟩
theorem LtF.nil (F:Nat->Prop) (w:World) (k i o f c d:Int):LtF F w ⟨k,i,o,[],[],f,c,[],d⟩ (.slice none 0 0) (.slice none 0 0) (.slice none 0 0) []:=
 ⟨RdsF.nil w,RdsF.nil w,fun x hx=>(by cases hx),rfl,[],RdsF.nil w,fun x hx=>(by cases hx),rfl⟩
theorem LtF.ltc {F:Nat->Prop} {w:World} {l:LT} {vp vs vb:Value} {L:List Sv} (h:LtF F w l vp vs vb L):LtC w (cL l vp vs vb) l vp vs vb L:=by
 obtain⟨M,h1,h2,h3⟩:=h.bl
 refine⟨rfl,h.pl.rds,⟨h.sh.rds,fun x hx=>(h.so x hx).ok⟩,h.sl,?_,?_⟩
 ·refine⟨M.map (·.1),?_,by rw [<-h3,List.length_map,List.length_map],fun i hi=> ?_⟩
  ·have h4:=h1.rds
   rw [cellsB]at h4
   rw [<-h3,List.length_map];exact h4
  ·rw [<-h3,List.length_map]at hi
   have h5:=(h2 _ (List.getElem_mem hi)).1.rds
   rw [<-h3,List.getD_eq_getElem?_getD,List.getD_eq_getElem?_getD,List.getElem?_map,List.getElem?_map,List.getElem?_eq_getElem hi]
   exact h5
 ·intro b hb
  rw [<-h3]at hb
  obtain⟨y,hy,rfl⟩:=List.mem_map.1 hb
  exact(h2 y hy).2
def LtY (w:World) (Y B:Nat) (l:LT):Prop:=∃vp vs vb L,BoxC w Y (cL l vp vs vb)/\LtF (fun b=>B<=b) w l vp vs vb L
end Go.Proofs.Bl
namespace Go.Proofs.YtglenbikdahgjaaGreatDoor
open Go Go.RowKit Go.Proofs Go.Proofs.Bl
end Go.Proofs.YtglenbikdahgjaaGreatDoor
namespace Go.Proofs.Bl
open Go Go.RowKit
def tkF (n:Nat) (s:Rst):List Int × Rst:=if s.1=false/\n<=s.2.length then(s.2.take n,(false,s.2.drop n))else(List.replicate n 0,(true,s.2))
def nuF (n:Nat) (s:Rst):Int × Rst:=(numR (tkF n s).1,(tkF n s).2)
def blF (s:Rst):List (List Int) × Rst:=([(tkF 16 s).1],(tkF 16 s).2)
def plF (s:Rst):List Int × Rst:=([(nuF 2 s).1],(nuF 2 s).2)
def paF (s:Rst):List (List Int) × Rst:=([(tkF 32 s).1],(tkF 32 s).2)
def shF (s:Rst):Sh × Rst:=
 (((nuF 2 s).1,(tkF 16 (nuF 2 s).2).1,(eaT paF (nuF 1 (tkF 16 (nuF 2 s).2).2).1.toNat (nuF 1 (tkF 16 (nuF 2 s).2).2).2).1),(eaT paF (nuF 1 (tkF 16 (nuF 2 s).2).2).1.toNat (nuF 1 (tkF 16 (nuF 2 s).2).2).2).2)
def ssF (s:Rst):List Sh × Rst:=([(shF s).1],(shF s).2)
def rsF (k i o:Int) (s:Rst):LT × Rst:=
 if k=6 then(⟨k,i,o,[],[],(nuF 2 s).1,0,(eaT blF (nuF 2 (nuF 2 s).2).1.toNat (nuF 2 (nuF 2 s).2).2).1,0⟩,(eaT blF (nuF 2 (nuF 2 s).2).1.toNat (nuF 2 (nuF 2 s).2).2).2)
 else if k=1 then(⟨k,i,o,[],[],0,0,(eaT blF (nuF 2 s).1.toNat (nuF 2 s).2).1,0⟩,(eaT blF (nuF 2 s).1.toNat (nuF 2 s).2).2)
 else if k=3 then(⟨k,i,o,(eaT plF (nuF 1 s).1.toNat (nuF 1 s).2).1,[],0,0,[],0⟩,(eaT plF (nuF 1 s).1.toNat (nuF 1 s).2).2)
 else if k=4 then(⟨k,i,o,[],(eaT ssF (nuF 1 s).1.toNat (nuF 1 s).2).1,0,0,[],0⟩,(eaT ssF (nuF 1 s).1.toNat (nuF 1 s).2).2)
 else if k=5 then(⟨k,i,o,[],[],(nuF 2 s).1,(nuF 2 (nuF 2 s).2).1,[],0⟩,(nuF 2 (nuF 2 s).2).2)
 else if k=7 then(⟨k,i,o,[],[],0,0,[],(nuF 1 s).1⟩,(nuF 1 s).2)
 else(⟨k,i,o,[],[],0,0,[],0⟩,s)
structure Cur (L:Nat) (w:World) (X:Nat) (s:Rst):Prop where
 ex:∃p c at' b,BoxC w X [.slice p L c,.int .i64 (at':Nat),.bool s.1]/\b.length=L/\at'<=L/\s.2=b.drop at'/\RdsF (fun k=>k < X) w (.slice p L c) L (ints .u8 b)/\L<=c/\c<=maxLen
 by':Byt s.2
 le:L<=9000
section
variable (Len:Nat) {α :Type} (f: α ->List Value) (s:Nat) (Ok:(Nat->Prop)->World-> α ->Prop) (B X Y fi:Nat) (cs:List Value) (vr:Value) (M:List α) (Pr: α ->Prop) (sa sb:Rst)
def F0 (w:World):Prop:=Cur Len w X sa/\GP f s Ok B w Y fi cs vr M/\B<=w.heap.size
def F1 (v:Value) (w:World):Prop:=∃y,Pr y/\v.cells=(f y).toArray/\(f y).length=s/\(∀c∈f y,c.oneCell'=true)/\Ok (fun b=>b≠Y/\vr.ownBlock≠some b/\B<=b) w y/\Cur Len w X sb/\GP f s Ok B w Y fi cs vr M/\B<=w.heap.size
def F2 (v:Value) (w:World):Prop:=∃y g,v= .slice (some ⟨g,0,none⟩) 1 1/\w.rangeAt g 0 (f y)/\Pr y/\(f y).length=s/\(∀c∈f y,c.oneCell'=true)/\Ok (fun b=>b≠Y/\vr.ownBlock≠some b/\B<=b) w y/\Cur Len w X sb/\GP f s Ok B w Y fi cs vr M/\B<=w.heap.size
def F3 (v:Value) (w:World):Prop:=∃y p c,v= .slice p (M.length+1) c/\Pr y/\w.cell? ⟨Y,fi,none⟩=some vr/\w.frozen? ⟨Y,fi,none⟩=false/\GP f s Ok B (w.setCell ⟨Y,fi,none⟩ v) Y fi (cs.set fi v) v (M++[y])/\Cur Len (w.setCell ⟨Y,fi,none⟩ v) X sb
end
section
variable {Len:Nat} {α :Type} {f: α ->List Value} {s:Nat} {Ok:(Nat->Prop)->World-> α ->Prop} {B X Y fi:Nat} {cs:List Value} {vr:Value} {M:List α} {Pr: α ->Prop} {sa sb:Rst} {w w':World}
end
section
variable {Len:Nat} {P:Program} {R:World->World->Prop} {α :Type} {f: α ->List Value} {s:Nat} {Ok:(Nat->Prop)->World-> α ->Prop} {B X Y fi:Nat} {cs:List Value} {vr:Value} {M:List α} {Pr: α ->Prop} {sb:Rst} {w:World} {ev:Nat->Value} {φ :Value->World->Prop} {d:Option Tmp} {tt t e:TypeId} {z:Value} {bytes n:Nat} {pp:String} {af:Array Edge} {g:Option (Nat × Bool)} {x y:Operand}
end
end Go.Proofs.Bl
namespace Go.Proofs.YtglenbikdahgjaaGreatDoor
open Go Go.RowKit Go.Proofs Go.Proofs.Bl
end Go.Proofs.YtglenbikdahgjaaGreatDoor
namespace Go.Proofs.Bl
open Go Go.RowKit
def LtG (B:Nat) (w:World) (v:Value) (l:LT):Prop:=∃vp vs vb L,v= .agg (cL l vp vs vb).toArray/\LtF (fun k=>B<=k) w l vp vs vb L
def ParD (pr:Nat × LT) (w:World) (e:Ending) (w':World):Prop:=∃v',e= .returned (.tuple #[v',.int .i64 (pr.1:Nat)])/\LtG w.heap.size w' v' pr.2/\Ext w w'
theorem LtV.zero (w:World):LtV w (.agg zL) lt0:=⟨_,_,_,_,[],rfl,LtC.zero w⟩
structure JB (Len B X Y fi:Nat) (cs:List Value) (vr:Value) (M:List Bv) (sa sb:Rst) (st:List Int) (W0:World) (d:Nat->Bool) (u:Nat->Value) (w:World):Prop where
 kk:d 7=false->Kq (fun k=>k=X\/W0.heap.size<=k) W0 w
 a:d 4=false->Cur Len w X sa
 b:d 4=true->d 7=false->Cur Len w X sb
 c:d 2=true->d 5=false->Pk w W0.heap.size 1 (u 77) 0 []
 e:d 4=true->d 5=false->Rd w .u8 (u 79) st
 f:d 5=true->d 6=false->Pk w W0.heap.size 1 (u 80) st.length (ints .u8 st)
 g:d 6=true->d 7=false->F2 Len cB 1 OkB B X Y fi cs vr M (fun y=>y.2=st) sb (u 81) w
 h:d 7=true->F3 Len cB 1 OkB B X Y fi cs vr M (fun y=>y.2=st) sb (u 82) w
section
variable {Len B X Y fi:Nat} {cs:List Value} {vr:Value} {M:List Bv} {sa sb:Rst} {st:List Int} {W0:World} {d:Nat->Bool} {u:Nat->Value} {w w':World}
end
structure JI (Len B X Y fi:Nat) (cs:List Value) (vr:Value) (M:List Int) (sa sb:Rst) (st:List Int) (n:Int) (d:Nat->Bool) (u:Nat->Value) (w:World):Prop where
 a:d 3=false->F0 Len cI 1 OkT B X Y fi cs vr M sa w
 b:d 3=true->d 4=false->Rd w .u8 (u 104) st/\F0 Len cI 1 OkT B X Y fi cs vr M sb w
 c:d 4=true->d 5=false->F1 Len cI 1 OkT B X Y fi cs vr M (fun y=>y=n) sb (u 105) w
 e:d 5=true->d 6=false->F2 Len cI 1 OkT B X Y fi cs vr M (fun y=>y=n) sb (u 106) w
 f:d 6=true->F3 Len cI 1 OkT B X Y fi cs vr M (fun y=>y=n) sb (u 107) w
section
variable {Len B X Y fi:Nat} {cs:List Value} {vr:Value} {M:List Int} {sa sb:Rst} {st:List Int} {n:Int} {d:Nat->Bool} {u:Nat->Value} {w w':World}
end
structure JTk (Len X:Nat) (sa sb:Rst) (st:List Int) (d:Nat->Bool) (u:Nat->Value) (w:World):Prop where
 a:d 2=false->Cur Len w X sa
 b:d 2=true->Cur Len w X sb/\Rd w .u8 (u 151) st
section
variable {Len X:Nat} {sa sb:Rst} {st:List Int} {d:Nat->Bool} {u:Nat->Value} {w w':World}
end
section
variable {P:Program} {ops:Array Oper} {rest:List Oper} {a:Act} {w w':World} {Q:Exit->Act->World->Prop} {d:Option Tmp} {tt t t2:TypeId} {pp:String} {af:Array Edge} {s x:Operand} {v u r:Value}
end
end Go.Proofs.Bl
namespace Go.Proofs.YtglenbikdahgjaaGreatDoor
open Go Go.RowKit Go.Proofs Go.Proofs.Bl
def DTake (L X nb:Nat) (s:Rst) (y:List Int) (s':Rst):Prop:=∀w2,Cur L w2 X s->Calls Tryz.prog 97 #[.pointer (some ⟨X,0,none⟩),.int .i64 nb] w2 fun e w'=>∃v',e= .returned v'/\Rd w' .u8 v' y/\Cur L w' X s'/\Kq (fun k=>k=X) w2 w'
def DNum (y:List Int) (z:Int):Prop:=∀v w2,Rd w2 .u8 v y->Calls Tryz.prog 96 #[v] w2 fun e w'=>e= .returned (.int .i64 z)/\w'=w2
end Go.Proofs.YtglenbikdahgjaaGreatDoor
