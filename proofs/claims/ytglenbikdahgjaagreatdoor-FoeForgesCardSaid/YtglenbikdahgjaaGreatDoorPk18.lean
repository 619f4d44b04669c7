/- Texts that stood apart, in one: Foe0, Foe1, Foe2, Foe3. -/
import Derived.Laws.Closers25b
import Derived.Test.YtglenbikdahgjaaGreatDoorPk17
import Derived.Test.YtglenbikdahgjaaGreatDoorPk06
import Derived.Test.YtglenbikdahgjaaGreatDoorPk02
set_option maxRecDepth 100000
set_option maxHeartbeats 16000000
namespace Go.Proofs.Bl
open Go Go.RowKit
def flB (x:Int):Int:=bits .xor .u8 x 1
def flL (b:List Int) (y:Int):List Int:=if 0 < b.length then b.set (y % (b.length:Int)).toNat (flB (b.getD (y % (b.length:Int)).toNat 0))else b
def flS (s:Sh) (y:Int):Sh:=(s.1,flL s.2.1 y,s.2.2)
def flP (s:Sh) (y:Int):Sh:=if 0 < s.2.2.length then(s.1,s.2.1,s.2.2.set 0 (flL (s.2.2.getD 0 []) y))else s
def swS (L:List Sh) (i:Nat):List Sh:=(L.set 0 ((L.getD 0 h0).1,(L.getD i h0).2)).set i ((L.getD i h0).1,(L.getD 0 h0).2)
def bendS (k:Int) (i:Nat) (y:Int) (L:List Sh):List Sh:=
 if k=1 then L.set i (flS (L.getD i h0) y)else if k=2 then L.set i (flP (L.getD i h0) y)else if k=3 then swS L i
 else if k=4 then(if 1 < L.length then L.eraseIdx i else L)else if k=5 then L.set i (y % 512,(L.getD i h0).2)else L
def bendA (k at' y:Int) (l:LT):LT:=if l.kind=4/\0 < l.shown.length then {l with shown:=bendS k (at' % (l.shown.length:Int)).toNat y l.shown} else l
def bendL (k at' y:Int) (l:LT):LT × Bool:=
 if k=9 then(lt0,false)else if k=6 then(⟨7,l.id,l.obj,[],[],0,0,[],1⟩,true)else if k=7 then({l with id:=(l.id+1) % 1099511627777},true)
 else if k=8 then({l with obj:=at'},true)
 else if k=1/\l.kind=6/\0 < l.blocks.length then({l with blocks:=l.blocks.set (at' % (l.blocks.length:Int)).toNat (flL (l.blocks.getD (at' % (l.blocks.length:Int)).toNat []) y)},true)
 else(bendA k at' y l,true)
def BeR (k at' y:Int) (l:LT) (w:World) (e:Ending) (w':World):Prop:=∃v',e= .returned (.tuple #[v',.bool (bendL k at' y l).2])/\LtV w' v' (bendL k at' y l).1/\Ext w w'
def Pq (lo hi:Nat) (w:World) (size:Nat) (v:Value) (n:Nat) (cs:List Value):Prop:=Pk w lo size v n cs/\∀b,v.ownBlock=some b->b < hi
theorem Pq.kept {lo hi lo' hi' size n:Nat} {w w':World} {v:Value} {cs:List Value} (h:Pq lo hi w size v n cs) (hl:lo'<=lo) (hh:hi<=hi') (hk:∀b,lo<=b->b < hi->w'.heap[b]? =w.heap[b]?) (hs:w.heap.size<=w'.heap.size):Pq lo' hi' w' size v n cs:=
 ⟨(h.1.kept (fun k hk'=>hk k (h.1.block k hk').1 (h.2 k hk')) hs).mono hl,fun b hb=>Nat.lt_of_lt_of_le (h.2 b hb) hh⟩
theorem Pq.of_owns {e size n B:Nat} {w:World} {v:Value} {cs:List Value} (h:w.ownsRow B e size v n cs):Pq B w.heap.size w size v n cs:=⟨Pk.of_owns h,fun b hb=>(h.lt b hb).2⟩
theorem Pq.rdsF {lo hi size n:Nat} {w:World} {v:Value} {cs:List Value} (h:Pq lo hi w size v n cs) {F:Nat->Prop} (hF:∀b,lo<=b->b < hi->F b):RdsF F w v n cs:=RdsF.of_rds h.1.rds fun b hb _=>hF b (h.1.block b hb).1 (h.2 b hb)
structure EP (lo hi:Nat) (w:World) (x:Sv):Prop where
 st:Pq lo hi w 1 x.2.1.1 x.2.1.2.length (ints .u8 x.2.1.2)
 pa:Pq lo hi w 32 x.2.2.1 x.2.2.2.length (cellsD x.2.2.2)
 ne:∀b,x.2.1.1.ownBlock=some b->x.2.2.1.ownBlock≠some b
 bs:Byt x.2.1.2
 dg:Dig x.2.2.2
def EB (lo hi:Nat) (w:World) (x:Bv):Prop:=Pq lo hi w 1 x.1 x.2.length (ints .u8 x.2)/\Byt x.2
def StE {α :Type} (E:Nat->Nat->World-> α ->Prop):Prop:=∀lo hi lo' hi' w w' x,E lo hi w x->lo'<=lo->hi<=hi'->(∀b,lo<=b->b < hi->w'.heap[b]? =w.heap[b]?)->w.heap.size<=w'.heap.size->E lo' hi' w' x
theorem stE_p:StE EP:=fun _ _ _ _ _ _ _ h hl hh hk hs=>⟨h.st.kept hl hh hk hs,h.pa.kept hl hh hk hs,h.ne,h.bs,h.dg⟩
theorem stE_b:StE EB:=fun _ _ _ _ _ _ _ h hl hh hk hs=>⟨Pq.kept h.1 hl hh hk hs,h.2⟩
theorem EP.okF {lo hi:Nat} {w:World} {x:Sv} (h:EP lo hi w x) {F:Nat->Prop} (hF:∀b,lo<=b->b < hi->F b):OkF F w x:=⟨h.st.rdsF hF,h.bs,h.pa.rdsF hF,h.dg⟩
def Sq {α :Type} (E:Nat->Nat->World-> α ->Prop) (hi:Nat) (w:World):List α ->Nat->Prop
 | [],lo=>lo<=hi
 | x :: r,lo=>∃m,lo<=m/\E lo m w x/\Sq E hi w r m
section
variable {α :Type} {E:Nat->Nat->World-> α ->Prop} {hi:Nat} {w w':World}
theorem Sq.le:∀ {L:List α} {lo:Nat},Sq E hi w L lo->lo<=hi
 | [],_,h=>h
 | _ :: _,_,⟨_,h1,_,h2⟩=>Nat.le_trans h1 h2.le
theorem Sq.kept (hE:StE E) (hs:w.heap.size<=w'.heap.size):∀ {L:List α} {lo:Nat},Sq E hi w L lo->(∀b,lo<=b->b < hi->w'.heap[b]? =w.heap[b]?)->Sq E hi w' L lo
 | [],_,h,_=>h
 | _ :: _,_,⟨m,h1,h2,h3⟩,hk=>⟨m,h1,hE _ _ _ _ _ _ _ h2 (Nat.le_refl _) (Nat.le_refl _) (fun b hb hb'=>hk b hb (Nat.lt_of_lt_of_le hb' h3.le)) hs,h3.kept hE hs fun b hb hb'=>hk b (Nat.le_trans h1 hb) hb'⟩
theorem Sq.snoc (hE:StE E) {m:Nat} {x: α} (hm:m<=hi) (hx:E m hi w x):∀ {L:List α} {lo:Nat},Sq E m w L lo->Sq E hi w (L++[x]) lo
 | [],lo,h=>⟨hi,Nat.le_trans h hm,hE m hi lo hi w w x hx h (Nat.le_refl _) (fun _ _ _=>rfl) (Nat.le_refl _),Nat.le_refl _⟩
 | _ :: _,_,⟨m',h1,h2,h3⟩=>⟨m',h1,h2,h3.snoc hE hm hx⟩
theorem Sq.all:∀ {L:List α} {lo:Nat},Sq E hi w L lo->∀x∈L,∃a b,lo<=a/\b<=hi/\E a b w x
 | [],_,_,x,hx=>by cases hx
 | y :: r,lo,⟨m,h1,h2,h3⟩,x,hx=>by
  rcases List.mem_cons.1 hx with rfl | hx
  ·exact⟨lo,m,Nat.le_refl _,h3.le,h2⟩
  ·obtain⟨a,b,k1,k2,k3⟩:=h3.all x hx
   exact⟨a,b,Nat.le_trans h1 k1,k2,k3⟩
theorem list_at (d: α) (L:List α) (i:Nat) (h:i < L.length):L=L.take i++L.getD i d :: L.drop (i+1):=by
 rw [List.getD_eq_getElem?_getD,List.getElem?_eq_getElem h,Option.getD_some,<-List.drop_eq_getElem_cons h,List.take_append_drop]
theorem set_at (L:List α) (i:Nat) (y: α) (h:i < L.length):L.set i y=L.take i++y :: L.drop (i+1):=by
 rw [List.set_eq_take_append_cons_drop,if_pos h]
end
theorem Pk.put {w:World} {base size n g cap:Nat} {xs:List Value} (h:Pk w base size (.slice (some ⟨g,0,none⟩) n cap) n xs) {j:Nat} (hj:j < xs.length) (u:Value):Pk (w.setCell ⟨g,j,none⟩ u) base size (.slice (some ⟨g,0,none⟩) n cap) n (xs.set j u):=by
 rcases h with ⟨q,_,_⟩ | ⟨g',cap',hv,hg,hp⟩
 ·cases q
 injection hv with hv _ hc
 injection hv with hv
 injection hv with hv
 subst hv hc
 have hsz:=((Below.refl 0 w).setCell (p:=⟨g,j,none⟩) (Nat.zero_le _) u).size
 refine .inr ⟨g,cap,rfl,hg,hp.le,hp.mx,by rw [List.length_set];exact hp.len,fun k v hk=> ?_,World.there_setCells hp.th g j [u],Nat.lt_of_lt_of_le hp.lt hsz⟩
 rw [Nat.zero_add]
 have hc:∀i v,xs[i]? =some v->w.cell? ⟨g,i,none⟩=some v:=fun i v hi=>by have:=hp.rg i v hi;rwa [Nat.zero_add]at this
 by_cases e:k=j
 ·subst e
  rw [List.getElem?_set_self hj]at hk
  rw [World.cell?_setCell_same' _ _ _ (by rw [hc k _ (List.getElem?_eq_getElem hj)];rfl)]
  exact hk
 ·rw [List.getElem?_set_ne (fun q=>e q.symm)]at hk
  exact cell_set_ne (hc k v hk) (fun q=>e q.symm)
theorem Pk.fz {w:World} {base size n g cap:Nat} {xs:List Value} (h:Pk w base size (.slice (some ⟨g,0,none⟩) n cap) n xs) {j:Nat} (hj:j < xs.length):w.frozen? ⟨g,j,none⟩=false:=by
 rcases h with ⟨q,_,_⟩ | ⟨g',cap',hv,hg,hp⟩
 ·cases q
 injection hv with hv _ hc
 injection hv with hv
 injection hv with hv
 subst hv hc
 have hl:=hp.len
 have:=(hp.th j (by have:=Nat.mul_le_mul_right size hp.le;omega)).2
 rwa [Nat.zero_add]at this
theorem Pk.cell {w:World} {base size n g cap:Nat} {xs:List Value} (h:Pk w base size (.slice (some ⟨g,0,none⟩) n cap) n xs) {j:Nat} {v:Value} (hj:xs[j]? =some v):w.cell? ⟨g,j,none⟩=some v:=by
 rcases h with ⟨q,_,_⟩ | ⟨g',cap',hv,hg,hp⟩
 ·cases q
 injection hv with hv _ hc
 injection hv with hv
 injection hv with hv
 subst hv hc
 have:=hp.rg j v hj
 rwa [Nat.zero_add]at this
theorem Pk.form {w:World} {base size n:Nat} {v:Value} {xs:List Value} (h:Pk w base size v n xs) (hn:0 < n):∃g cap,v= .slice (some ⟨g,0,none⟩) n cap/\base<=g/\g < w.heap.size/\n<=cap/\cap<=maxLen/\w.rangeAt g 0 xs:=by
 rcases h with ⟨_,q,_⟩ | ⟨g,cap,hv,hg,hp⟩
 ·omega
 ·exact⟨g,cap,hv,hg,hp.lt,hp.le,hp.mx,hp.rg⟩
section
variable {α :Type} {f: α ->List Value} {s:Nat}
theorem cellsR_set (hf:∀x,(f x).length=s) (d y: α) (v:Value) (j:Nat) (hj:j < s):∀(L:List α) (i:Nat),i < L.length->f y=(f (L.getD i d)).set j v->(cellsR f L).set (i*s+j) v=cellsR f (L.set i y)
 | [],i,hi,_=>by cases hi
 | x :: r,0,_,hy=>by
  rw [List.set_cons_zero,cellsR_cons,cellsR_cons,Nat.zero_mul,Nat.zero_add,List.set_append_left _ _ (by rw [hf];exact hj)]
  have hy:f y=(f x).set j v:=hy
  rw [hy]
 | x :: r,i+1,hi,hy=>by
  rw [List.set_cons_succ,cellsR_cons,cellsR_cons,Nat.succ_mul,List.set_append_right _ _ (by rw [hf];omega),hf]
  rw [show i*s+s+j - s=i*s+j by omega,cellsR_set hf d y v j hj r i (by simpa using hi) hy]
theorem cellsR_get (hf:∀x,(f x).length=s) (d: α) (j:Nat) (hj:j < s):∀(L:List α) (i:Nat),i < L.length->(cellsR f L)[i*s+j]? =(f (L.getD i d))[j]?
 | [],i,hi=>by cases hi
 | x :: r,0,_=>by
  rw [cellsR_cons,Nat.zero_mul,Nat.zero_add,List.getElem?_append_left (by rw [hf];exact hj)]
  rfl
 | x :: r,i+1,hi=>by
  rw [cellsR_cons,Nat.succ_mul,List.getElem?_append_right (by rw [hf];omega),hf,show i*s+s+j - s=i*s+j by omega,cellsR_get hf d j hj r i (by simpa using hi)]
  rfl
end
structure ApV (w:World) (B N1 N2 N3 N4 N5:Nat) (l:LT) (vp vs vb:Value) (L:List Sv) (M:List Bv):Prop where
 pl:Pq B N1 w 1 vp l.places.length (ints .i64 l.places)
 sh:Pq N1 N2 w 3 vs L.length (cellsR cS L)
 se:Sq EP N3 w L N2
 sl:L.map plS=l.shown
 bl:Pq N3 N4 w 1 vb M.length (cellsR cB M)
 be:Sq EB N5 w M N4
 bm:M.map (·.2)=l.blocks
 le:N5<=w.heap.size
 o1:B<=N1
 o2:N1<=N2
 o4:N3<=N4
section
variable {w w':World} {B N1 N2 N3 N4 N5:Nat} {l:LT} {vp vs vb:Value} {L:List Sv} {M:List Bv}
theorem ApV.ords (h:ApV w B N1 N2 N3 N4 N5 l vp vs vb L M):B<=N1/\N1<=N2/\N2<=N3/\N3<=N4/\N4<=N5/\N5<=w.heap.size:=⟨h.o1,h.o2,h.se.le,h.o4,h.be.le,h.le⟩
theorem ApV.okF (h:ApV w B N1 N2 N3 N4 N5 l vp vs vb L M):∀x∈L,OkF (fun b=>N2<=b/\b < N3) w x:=fun x hx=>by
 obtain⟨a,b,h1,h2,h3⟩:=h.se.all x hx
 exact h3.okF fun c hc hc'=>⟨by omega,by omega⟩
theorem ApV.okB (h:ApV w B N1 N2 N3 N4 N5 l vp vs vb L M):∀x∈M,OkB (fun b=>N4<=b/\b < N5) w x:=fun x hx=>by
 obtain⟨a,b,h1,h2,h3⟩:=h.be.all x hx
 exact⟨Pq.rdsF h3.1 fun c hc hc'=>⟨by omega,by omega⟩,h3.2⟩
theorem ApV.fin (h:ApV w B N1 N2 N3 N4 N5 l vp vs vb L M) (hk:∀b,B<=b->(b < N1\/N3<=b)->b < w.heap.size->w'.heap[b]? =w.heap[b]?) {vs2:Value} {L2:List Sv} (row:RdsF (fun b=>B<=b) w' vs2 L2.length (cellsR cS L2)) (ok:∀x∈L2,OkF (fun b=>B<=b) w' x) {sh2:List Sh} (hsl:L2.map plS=sh2):LtF (fun b=>B<=b) w' {l with shown:=sh2} vp vs2 vb L2:=by
 obtain⟨o1,o2,o3,o4,o5,o6⟩:=h.ords
 refine⟨?_,row,ok,hsl,M,?_,fun x hx=> ?_,h.bm⟩
 ·exact(h.pl.rdsF (F:=fun b=>B<=b/\b < N1) fun b hb hb'=>⟨hb,hb'⟩).kept fun b hb hl=>⟨hb.1,hk b hb.1 (.inl hb.2) hl⟩
 ·exact(h.bl.rdsF (F:=fun b=>N3<=b) fun b hb _=>hb).kept fun b hb hl=>⟨by omega,hk b (by omega) (.inr hb) hl⟩
 ·exact stab_okB _ _ _ _ _ (h.okB x hx) fun b hb hl=>⟨by omega,hk b (by omega) (.inr (by omega)) hl⟩
theorem ApV.ltf (h:ApV w B N1 N2 N3 N4 N5 l vp vs vb L M):LtF (fun b=>B<=b) w l vp vs vb L:=by
 obtain⟨o1,o2,o3,o4,o5,o6⟩:=h.ords
 exact h.fin (w':=w) (fun _ _ _ _=>rfl) (h.sh.rdsF fun b hb _=>by omega) (fun x hx=>stab_okF _ _ _ _ _ (h.okF x hx) fun b hb _=>⟨by omega,rfl⟩) h.sl
end
theorem tmod_rest (n b:Int) (hb:0 < b):n.tmod b % b=n % b/\ -b < n.tmod b/\n.tmod b < b:=by
 refine⟨?_,?_,Int.tmod_lt_of_pos n hb⟩
 ·have h:=Int.tmod_add_mul_tdiv n b
  have h2:(n.tmod b+b*n.tdiv b) % b=n.tmod b % b:=Int.add_mul_emod_self_left _ _ _
  rw [<-h2,h]
 ·by_cases h0:0<=n
  ·have:=Int.tmod_nonneg b h0
   omega
  ·have h1:=Int.tmod_lt_of_pos (-n) hb
   rw [Int.neg_tmod]at h1
   omega
end Go.Proofs.Bl
namespace Go.Proofs.YtglenbikdahgjaaGreatDoor
open Go Go.RowKit Go.Proofs Go.Proofs.Bl
theorem rest_any (n b:Int) (w:World) (hb:0 < b) (hb2:b<=2199023255552):
  Calls Tryz.prog 65 #[.int .i64 n,.int .i64 b] w fun e w'=>e= .returned (.int .i64 (n % b))/\w=w':=by
 have hz:¬(b=0):=by omega
 obtain⟨h0,h2,h1⟩:=tmod_rest n b hb
 have HV:Hid ((n.tmod b+b) % b=n % b):=Bl.hid (by rw [Int.add_emod_right];exact h0)
 clear h0
 go_enter Tryz.func65,Tryz.ntmps65
 go_wp2_with fail
 go_ret
 rw [HV.out]
 exact⟨rfl,rfl⟩
theorem cloneI_some (ad:Addr) (c:Nat) (l:List Int) (w:World) (h2:Rds w (.slice (some ad) l.length c) l.length (ints .i64 l)) (hl:l.length<=1048576):
  Calls Tryz.prog 109 #[.slice (some ad) l.length c] w fun e w'=>∃v',e= .returned v'/\w'.ownsRow w.heap.size 3 1 v' l.length (ints .i64 l)/\Ext w w':=by
 have e0:=Lib.run_eql_slice_nil (P:=Tryz.prog) w 23 3 (some ad) l.length c 0 0 Tryz.underlying23
 have hE:Ext w (w.alloc (.cells #[] 3)):=ext_alloc _ _
 have Ho:Hid ((w.alloc (.cells #[] 3)).ownsRow w.heap.size 3 1 (.slice (some ⟨w.heap.size,0,none⟩) 0 0) 0 []):=Bl.hid (owns_new w 3 #[] w.heap.size 0 1 (Nat.le_refl _) (by decide) rfl)
 have H2:=Bl.hid (Rds.ext h2 hE)
 have Hl:=Bl.hid hl
 have Hc:Hid (∀u∈ints .i64 l,u.oneCell'=true):=Bl.hid (ints_one _ _)
 have Hn:Hid ((ints .i64 l).length=l.length*1):=Bl.hid (by rw [ints_length,Nat.mul_one])
 clear h2 hE hl
 go_enter Tryz.func109,Tryz.ntmps109
 go_wp2_with ((with_reducible refine wpL_append tII Ho.out H2.out Hn.out Hc.out (by have:=Hl.out;unfold maxLen;omega) (by have:=Hl.out;omega) (by simp) ?_ ?_ ?_);rfl;rfl;intro v' w' hown hg hB hK)
 go_ret
 rw [Nat.zero_add,List.nil_append]at hown
 exact⟨_,rfl,hown,((Below.refl _ _).alloc (Nat.le_refl _) _).trans hB⟩
theorem cloneI_any (v:Value) (l:List Int) (w:World) (h:Rds w v l.length (ints .i64 l)) (hl:l.length<=1048576):
  Calls Tryz.prog 109 #[v] w fun e w'=>∃v',e= .returned v'/\w'.ownsRow w.heap.size 3 1 v' l.length (ints .i64 l)/\Ext w w':=by
 have h2:=h
 rcases h with ⟨⟨p,rfl⟩,hn,hc⟩ | ⟨b,o,c,rfl,hnc,hcm,hr⟩
 ·obtain rfl:l=[]:=List.length_eq_zero_iff.1 hn
  cases p with
  | some ad=>exact cloneI_some ad 0 [] w h2 hl
  | none=>
   have e0:=Lib.run_eql_slice_nil (P:=Tryz.prog) w 23 3 none 0 0 0 0 Tryz.underlying23
   clear hn hc h2
   go_enter Tryz.func109,Tryz.ntmps109
   go_wp2
   go_ret
   exact⟨_,rfl,World.ownsRow_nil _ _ _ _,Below.refl _ _⟩
 ·exact cloneI_some _ c l w h2 hl
theorem cloneS_some (ad:Addr) (c:Nat) (l:List Sv) (w:World) (h2:Rds w (.slice (some ad) l.length c) l.length (cellsR cS l)) (ho:∀x∈l,OkS w x) (hl:l.length<=1048576):
  Calls Tryz.prog 110 #[.slice (some ad) l.length c] w fun e w'=>∃v',e= .returned v'/\w'.ownsRow w.heap.size 57 3 v' l.length (cellsR cS l)/\Ext w w':=by
 have e0:=Lib.run_eql_slice_nil (P:=Tryz.prog) w 24 57 (some ad) l.length c 0 0 Tryz.underlying24
 have hE:Ext w (w.alloc (.cells #[] 57)):=ext_alloc _ _
 have Ho:Hid ((w.alloc (.cells #[] 57)).ownsRow w.heap.size 57 3 (.slice (some ⟨w.heap.size,0,none⟩) 0 0) 0 []):=Bl.hid (owns_new w 57 #[] w.heap.size 0 3 (Nat.le_refl _) (by decide) rfl)
 have H2:=Bl.hid (Rds.ext h2 hE)
 have Hl:=Bl.hid hl
 have Hc:Hid (∀u∈cellsR cS l,u.oneCell'=true):=Bl.hid (cellsR_cell fun x hx=>cS_one (ho x hx))
 have Hn:Hid ((cellsR cS l).length=l.length*3):=Bl.hid (cellsS_len l)
 clear h2 hE hl ho
 go_enter Tryz.func110,Tryz.ntmps110
 go_wp2_with ((with_reducible refine wpL_append tShL Ho.out H2.out Hn.out Hc.out (by have:=Hl.out;unfold maxLen;omega) (by have:=Hl.out;omega) (by simp) ?_ ?_ ?_);rfl;rfl;intro v' w' hown hg hB hK)
 go_ret
 rw [Nat.zero_add,List.nil_append]at hown
 exact⟨_,rfl,hown,((Below.refl _ _).alloc (Nat.le_refl _) _).trans hB⟩
theorem cloneS_any (v:Value) (l:List Sv) (w:World) (h:Rds w v l.length (cellsR cS l)) (ho:∀x∈l,OkS w x) (hl:l.length<=1048576):
  Calls Tryz.prog 110 #[v] w fun e w'=>∃v',e= .returned v'/\w'.ownsRow w.heap.size 57 3 v' l.length (cellsR cS l)/\Ext w w':=by
 have h2:=h
 rcases h with ⟨⟨p,rfl⟩,hn,hc⟩ | ⟨b,o,c,rfl,hnc,hcm,hr⟩
 ·obtain rfl:l=[]:=List.length_eq_zero_iff.1 hn
  cases p with
  | some ad=>exact cloneS_some ad 0 [] w h2 ho hl
  | none=>
   have e0:=Lib.run_eql_slice_nil (P:=Tryz.prog) w 24 57 none 0 0 0 0 Tryz.underlying24
   clear hn hc h2 ho
   go_enter Tryz.func110,Tryz.ntmps110
   go_wp2
   go_ret
   exact⟨_,rfl,World.ownsRow_nil _ _ _ _,Below.refl _ _⟩
 ·exact cloneS_some _ c l w h2 ho hl
theorem cloneV_some (ad:Addr) (c:Nat) (l:List Bv) (w:World) (h2:Rds w (.slice (some ad) l.length c) l.length (cellsR cB l)) (ho:∀x∈l,∃p n c,x.1= .slice p n c) (hl:l.length<=1048576):
  Calls Tryz.prog 112 #[.slice (some ad) l.length c] w fun e w'=>∃v',e= .returned v'/\w'.ownsRow w.heap.size 27 1 v' l.length (cellsR cB l)/\Ext w w':=by
 have e0:=Lib.run_eql_slice_nil (P:=Tryz.prog) w 22 27 (some ad) l.length c 0 0 Tryz.underlying22
 have hE:Ext w (w.alloc (.cells #[] 27)):=ext_alloc _ _
 have Ho:Hid ((w.alloc (.cells #[] 27)).ownsRow w.heap.size 27 1 (.slice (some ⟨w.heap.size,0,none⟩) 0 0) 0 []):=Bl.hid (owns_new w 27 #[] w.heap.size 0 1 (Nat.le_refl _) (by decide) rfl)
 have H2:=Bl.hid (Rds.ext h2 hE)
 have Hl:=Bl.hid hl
 have Hc:Hid (∀u∈cellsR cB l,u.oneCell'=true):=Bl.hid (cellsR_cell fun x hx u hu=>by obtain⟨p,n,c,hp⟩:=ho x hx;unfold cB at hu;rw [List.mem_singleton]at hu;rw [hu,hp];rfl)
 have Hn:Hid ((cellsR cB l).length=l.length*1):=Bl.hid (by rw [cellsR_length (s:=1) (fun _ _=>rfl)])
 clear h2 hE hl ho
 go_enter Tryz.func112,Tryz.ntmps112
 go_wp2_with ((with_reducible refine wpL_append tBB Ho.out H2.out Hn.out Hc.out (by have:=Hl.out;unfold maxLen;omega) (by have:=Hl.out;omega) (by simp) ?_ ?_ ?_);rfl;rfl;intro v' w' hown hg hB hK)
 go_ret
 rw [Nat.zero_add,List.nil_append]at hown
 exact⟨_,rfl,hown,((Below.refl _ _).alloc (Nat.le_refl _) _).trans hB⟩
theorem cloneV_any (v:Value) (l:List Bv) (w:World) (h:Rds w v l.length (cellsR cB l)) (ho:∀x∈l,∃p n c,x.1= .slice p n c) (hl:l.length<=1048576):
  Calls Tryz.prog 112 #[v] w fun e w'=>∃v',e= .returned v'/\w'.ownsRow w.heap.size 27 1 v' l.length (cellsR cB l)/\Ext w w':=by
 have h2:=h
 rcases h with ⟨⟨p,rfl⟩,hn,hc⟩ | ⟨b,o,c,rfl,hnc,hcm,hr⟩
 ·obtain rfl:l=[]:=List.length_eq_zero_iff.1 hn
  cases p with
  | some ad=>exact cloneV_some ad 0 [] w h2 ho hl
  | none=>
   have e0:=Lib.run_eql_slice_nil (P:=Tryz.prog) w 22 27 none 0 0 0 0 Tryz.underlying22
   clear hn hc h2 ho
   go_enter Tryz.func112,Tryz.ntmps112
   go_wp2
   go_ret
   exact⟨_,rfl,World.ownsRow_nil _ _ _ _,Below.refl _ _⟩
 ·exact cloneV_some _ c l w h2 ho hl
theorem cloneH_some (ad:Addr) (c:Nat) (l:List (List Int)) (w:World) (h2:Rds w (.slice (some ad) l.length c) l.length (cellsD l)) (ho:Dig l) (hl:l.length<=1048576):
  Calls Tryz.prog 111 #[.slice (some ad) l.length c] w fun e w'=>∃v',e= .returned v'/\w'.ownsRow w.heap.size 54 32 v' l.length (cellsD l)/\Ext w w':=by
 have e0:=Lib.run_eql_slice_nil (P:=Tryz.prog) w 55 54 (some ad) l.length c 0 0 Tryz.underlying55
 have hE:Ext w (w.alloc (.cells #[] 54)):=ext_alloc _ _
 have Ho:Hid ((w.alloc (.cells #[] 54)).ownsRow w.heap.size 54 32 (.slice (some ⟨w.heap.size,0,none⟩) 0 0) 0 []):=Bl.hid (owns_new w 54 #[] w.heap.size 0 32 (Nat.le_refl _) (by decide) rfl)
 have H2:=Bl.hid (Rds.ext h2 hE)
 have Hl:=Bl.hid hl
 have Hc:Hid (∀u∈cellsD l,u.oneCell'=true):=Bl.hid (cellsD_one' _)
 have Hn:Hid ((cellsD l).length=l.length*32):=Bl.hid (cellsD_length ho)
 clear h2 hE hl ho
 go_enter Tryz.func111,Tryz.ntmps111
 go_wp2_with ((with_reducible refine wpL_append tDig Ho.out H2.out Hn.out Hc.out (by have:=Hl.out;unfold maxLen;omega) (by have:=Hl.out;omega) (by simp) ?_ ?_ ?_);rfl;rfl;intro v' w' hown hg hB hK)
 go_ret
 rw [Nat.zero_add,List.nil_append]at hown
 exact⟨_,rfl,hown,((Below.refl _ _).alloc (Nat.le_refl _) _).trans hB⟩
theorem cloneH_any (v:Value) (l:List (List Int)) (w:World) (h:Rds w v l.length (cellsD l)) (ho:Dig l) (hl:l.length<=1048576):
  Calls Tryz.prog 111 #[v] w fun e w'=>∃v',e= .returned v'/\w'.ownsRow w.heap.size 54 32 v' l.length (cellsD l)/\Ext w w':=by
 have h2:=h
 rcases h with ⟨⟨p,rfl⟩,hn,hc⟩ | ⟨b,o,c,rfl,hnc,hcm,hr⟩
 ·obtain rfl:l=[]:=List.length_eq_zero_iff.1 hn
  cases p with
  | some ad=>exact cloneH_some ad 0 [] w h2 ho hl
  | none=>
   have e0:=Lib.run_eql_slice_nil (P:=Tryz.prog) w 55 54 none 0 0 0 0 Tryz.underlying55
   clear hn hc h2 ho
   go_enter Tryz.func111,Tryz.ntmps111
   go_wp2
   go_ret
   exact⟨_,rfl,World.ownsRow_nil _ _ _ _,Below.refl _ _⟩
 ·exact cloneH_some _ c l w h2 ho hl
end Go.Proofs.YtglenbikdahgjaaGreatDoor
namespace Go.Proofs.Bl
open Go Go.RowKit
theorem Ext.trans' {N:Nat} {a b c:World} (h:Ext a b) (k:Kq (fun k=>N<=k) b c) (hN:a.heap.size<=N):Ext a c:=Below.trans h (k.below (B:=a.heap.size) h.size fun _k q=>Nat.le_trans hN q)
theorem drop_getD {α :Type} {A B:List α} {i:Nat} (d: α) (h:A.drop i=B.drop i):A.getD i d=B.getD i d:=by
 have h2:(A.drop i)[0]? =(B.drop i)[0]? :=by rw [h]
 rw [List.getElem?_drop,List.getElem?_drop,Nat.add_zero]at h2
 rw [List.getD_eq_getElem?_getD,List.getD_eq_getElem?_getD,h2]
theorem drop_next {α :Type} {A B:List α} {i:Nat} (h:A.drop i=B.drop i):A.drop (i+1)=B.drop (i+1):=by
 have h2:=congrArg (List.drop 1) h
 simpa [List.drop_drop] using h2
theorem set_drop {α :Type} (L:List α) (i:Nat) (y: α) (_h:i < L.length):(L.set i y).drop (i+1)=L.drop (i+1):=by
 rw [List.drop_set_of_lt (by omega)]
theorem set_take {α :Type} (L:List α) (i:Nat) (y: α) (h:i < L.length):(L.set i y).take (i+1)=L.take i++[y]:=by
 rw [set_at L i y h,List.take_append,List.length_take,Nat.min_eq_left (Nat.le_of_lt h),Nat.add_sub_cancel_left,List.take_take,Nat.min_eq_right (Nat.le_succ i)]
 rfl
theorem map_same {α β :Type} (f: α -> β) (d y: α) (L:List α) (i:Nat) (h:i < L.length) (hf:f y=f (L.getD i d)):(L.set i y).map f=L.map f:=by
 conv=>rhs;rw [list_at d L i h]
 rw [set_at L i y h,List.map_append,List.map_append,List.map_cons,List.map_cons,hf]
theorem rdss_bv {w:World} {v:Value} {ps:List (List Int)} (h:Rdss w v ps):∃M:List Bv,Rds w v M.length (cellsR cB M)/\M.map (·.2)=ps/\∀x∈M,Rd w .u8 x.1 x.2:=by
 obtain⟨vs,h1,h2,h3⟩:=h
 refine⟨vs.zip ps,?_,?_,fun x hx=> ?_⟩
 ·rw [cellsB,List.map_fst_zip (by omega),List.length_zip,h2,Nat.min_self]
  exact h1
 ·exact List.map_snd_zip (by omega)
 ·obtain⟨i,hi,rfl⟩:=List.getElem_of_mem hx
  have hi2:i < vs.length/\i < ps.length:=by rw [List.length_zip]at hi;omega
  have h4:=h3 i hi2.2
  rw [List.getD_eq_getElem?_getD,List.getD_eq_getElem?_getD,List.getElem?_eq_getElem hi2.1,List.getElem?_eq_getElem hi2.2]at h4
  rw [List.getElem_zip]
  exact h4
theorem getDF_set {α :Type} (d y: α) (L:List α) (i:Nat) (h:i < L.length):(L.set i y).getD i d=y:=by
 rw [List.getD_eq_getElem?_getD,List.getElem?_set_self h];rfl
theorem ApV.kept {w w':World} {B N1 N2 N3 N4 N5:Nat} {l:LT} {vp vs vb:Value} {L:List Sv} {M:List Bv} (h:ApV w B N1 N2 N3 N4 N5 l vp vs vb L M) (hk:∀b,B<=b->b < w.heap.size->w'.heap[b]? =w.heap[b]?) (hs:w.heap.size<=w'.heap.size) {B':Nat} (hB:B'<=B):ApV w' B' N1 N2 N3 N4 N5 l vp vs vb L M:=by
 obtain⟨o1,o2,o3,o4,o5,o6⟩:=h.ords
 exact⟨h.pl.kept hB (Nat.le_refl _) (fun b h1 h2=>hk b h1 (by omega)) hs,h.sh.kept (Nat.le_refl _) (Nat.le_refl _) (fun b h1 h2=>hk b (by omega) (by omega)) hs,h.se.kept stE_p hs (fun b h1 h2=>hk b (by omega) (by omega)),h.sl,h.bl.kept (Nat.le_refl _) (Nat.le_refl _) (fun b h1 h2=>hk b (by omega) (by omega)) hs,h.be.kept stE_b hs (fun b h1 h2=>hk b (by omega) (by omega)),h.bm,by omega,by omega,o2,o4⟩
structure JA6 (N1 n cap g i:Nat) (st:List Int) (pa:List (List Int)) (xs:List Value) (W0:World) (d:Nat->Bool) (u:Nat->Value) (w:World):Prop where
 k:d 14=false->Ext W0 w
 b:d 8=true->Pq W0.heap.size w.heap.size w 1 (u 31) st.length (ints .u8 st)
 c:d 11=true->Pq W0.heap.size w.heap.size w 32 (u 34) pa.length (cellsD pa)/\(∀b,(u 31).ownBlock=some b->(u 34).ownBlock≠some b)
 r:d 14=false->Pk w N1 3 (.slice (some ⟨g,0,none⟩) n cap) n xs
 r2:d 14=true->Pk w N1 3 (.slice (some ⟨g,0,none⟩) n cap) n (xs.set (i*3+1) (u 31))
section
variable {N1 n cap g i:Nat} {st:List Int} {pa:List (List Int)} {xs:List Value} {W0:World} {d:Nat->Bool} {u:Nat->Value} {w w':World}
theorem JA6.start (k:Ext W0 w) (h:Pk w N1 3 (.slice (some ⟨g,0,none⟩) n cap) n xs):JA6 N1 n cap g i st pa xs W0 (fun _=>false) u w:=⟨fun _=>k,fun q=>(by cases q),fun q=>(by cases q),fun _=>h,fun q=>(by cases q)⟩
theorem JA6.same {j t:Nat} {v:Value} (h:JA6 N1 n cap g i st pa xs W0 d u w) (hi:(decide (j=8)||decide (j=11)||decide (j=14)||decide (t=31)||decide (t=34))=false):JA6 N1 n cap g i st pa xs W0 (upd d j) (updv (some t) u v) w:=by
 simp only [Bool.or_eq_false_iff,decide_eq_false_iff_not]at hi
 obtain⟨⟨⟨⟨h1,h2⟩,h3⟩,h4⟩,h5⟩:=hi
 have a1:upd d j 8=d 8:=if_neg (fun e=>h1 e.symm)
 have a2:upd d j 11=d 11:=if_neg (fun e=>h2 e.symm)
 have a3:upd d j 14=d 14:=if_neg (fun e=>h3 e.symm)
 have b1:updv (some t) u v 31=u 31:=if_neg (fun e=>h4 e.symm)
 have b2:updv (some t) u v 34=u 34:=if_neg (fun e=>h5 e.symm)
 exact⟨by rw [a3];exact h.k,by rw [a1,b1];exact h.b,by rw [a2,b1,b2];exact h.c,by rw [a3];exact h.r,by rw [a3,b1];exact h.r2⟩
theorem JA6.one (h:JA6 N1 n cap g i st pa xs W0 d u w) (h11:d 11=false) (h14:d 14=false) {e:TypeId} {v':Value} (ho:w'.ownsRow w.heap.size e 1 v' st.length (ints .u8 st)) (k:Ext w w'):JA6 N1 n cap g i st pa xs W0 (upd d 8) (updv (some 31) u v') w':=
 ⟨fun _=>(h.k h14).trans k,fun _=>(Pq.of_owns ho).kept (h.k h14).size (Nat.le_refl _) (fun _ _ _=>rfl) (Nat.le_refl _),fun q=>(by have q:d 11=true:=q;rw [h11]at q;cases q),fun q=>(h.r q).ext k,fun q=>(by have q:d 14=true:=q;rw [h14]at q;cases q)⟩
theorem JA6.two (h:JA6 N1 n cap g i st pa xs W0 d u w) (h8:d 8=true) (h14:d 14=false) {e:TypeId} {v':Value} (ho:w'.ownsRow w.heap.size e 32 v' pa.length (cellsD pa)) (k:Ext w w'):JA6 N1 n cap g i st pa xs W0 (upd d 11) (updv (some 34) u v') w':=
 ⟨fun _=>(h.k h14).trans k,fun q=>(h.b q).kept (Nat.le_refl _) k.size (fun b _ hb=>k.block b hb) k.size,fun _=>⟨(Pq.of_owns ho).kept (h.k h14).size (Nat.le_refl _) (fun _ _ _=>rfl) (Nat.le_refl _),fun b hb q=>by
  have h1:=(h.b h8).2 b hb
  have h2:=(ho.lt b q).1
  omega⟩,fun q=>(h.r q).ext k,fun q=>(by have q:d 14=true:=q;rw [h14]at q;cases q)⟩
theorem JA6.sto (h:JA6 N1 n cap g i st pa xs W0 d u w) (_h8:d 8=true) (_h11:d 11=true) (h14:d 14=false) (hg:g < W0.heap.size) (hj:i*3+1 < xs.length) {v:Value} (hv:u 31=v):JA6 N1 n cap g i st pa xs W0 (upd d 14) u (w.setCell ⟨g,i*3+1,none⟩ v):=by
 subst hv
 have hh:∀j,j≠g->(w.setCell ⟨g,i*3+1,none⟩ (u 31)).heap[j]? =w.heap[j]? :=fun j hj=>Below.heap_setCell w ⟨g,i*3+1,none⟩ _ j hj
 have hsz:w.heap.size<=(w.setCell ⟨g,i*3+1,none⟩ (u 31)).heap.size:=((Below.refl 0 w).setCell (Nat.zero_le _) _).size
 exact⟨fun q=>(by cases q),fun q=>(h.b q).kept (Nat.le_refl _) hsz (fun b hb _=>hh b (by omega)) hsz,fun q=>⟨(h.c q).1.kept (Nat.le_refl _) hsz (fun b hb _=>hh b (by omega)) hsz,(h.c q).2⟩,fun q=>(by cases q),fun _=>(h.r h14).put hj _⟩
end
structure JA12 (st:List Int) (W0:World) (d:Nat->Bool) (u:Nat->Value) (w:World):Prop where
 k:Ext W0 w
 b:d 4=true->Pq W0.heap.size w.heap.size w 1 (u 56) st.length (ints .u8 st)
section
variable {st:List Int} {W0:World} {d:Nat->Bool} {u:Nat->Value} {w w':World}
theorem JA12.start (k:Ext W0 w):JA12 st W0 (fun _=>false) u w:=⟨k,fun q=>(by cases q)⟩
theorem JA12.same {j t:Nat} {v:Value} (h:JA12 st W0 d u w) (hi:(decide (j=4)||decide (t=56))=false):JA12 st W0 (upd d j) (updv (some t) u v) w:=by
 simp only [Bool.or_eq_false_iff,decide_eq_false_iff_not]at hi
 have a1:upd d j 4=d 4:=if_neg (fun e=>hi.1 e.symm)
 have b1:updv (some t) u v 56=u 56:=if_neg (fun e=>hi.2 e.symm)
 exact⟨h.k,by rw [a1,b1];exact h.b⟩
theorem JA12.one (h:JA12 st W0 d u w) {e:TypeId} {v':Value} (ho:w'.ownsRow w.heap.size e 1 v' st.length (ints .u8 st)) (k:Ext w w'):JA12 st W0 (upd d 4) (updv (some 56) u v') w':=
 ⟨h.k.trans k,fun _=>(Pq.of_owns ho).kept h.k.size (Nat.le_refl _) (fun _ _ _=>rfl) (Nat.le_refl _)⟩
end
end Go.Proofs.Bl
