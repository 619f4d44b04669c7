/- Walks of the document's Fresh and Stored. -/
import Derived.ArgAppend
import Derived.Test.YtglenbikdahgjaaGreatDoorPk19
import Derived.Test.YtglenbikdahgjaaGreatDoorPk17
import Derived.Test.YtglenbikdahgjaaGreatDoorPk11
import Derived.Test.YtglenbikdahgjaaGreatDoorPk18
import Derived.Test.YtglenbikdahgjaaGreatDoorPk04
set_option maxRecDepth 100000
set_option maxHeartbeats 16000000
namespace Go.Proofs.Bl
open Go Go.RowKit
def MfR (F:Nat->Prop) (w w':World) (b:Nat) (vo:Value) (D:List Ob) (s:ShT) (ids:List Int):Prop:=(∃va',DvR (fun i=>F i\/w.heap.size<=i) w' b vo va' D ⟨s.objs,ids⟩)/\Kq (fun i=>i=b) w w'/\KC2 b w w'
def MfP (F:Nat->Prop) (b:Nat) (vo:Value) (D:List Ob) (s:ShT) (x:Int) (w:World) (e:Ending) (w':World):Prop:=e= .returned (.bool (freI s.ids x))/\MfR F w w' b vo D s (if freI s.ids x=true then s.ids++[x]else s.ids)
theorem DvR.wide {F:Nat->Prop} {w w':World} {b:Nat} {vo va:Value} {D:List Ob} {s:ShT} (h:DvR F w b vo va D s) (hE:Ext w w'):DvR (fun i=>F i\/w.heap.size<=i) w' b vo va D s:=
 h.kept (Q:=fun _=>False) (Kq.of_ext hE) (fun _ q=>q.elim) (fun _ q _=> .inl q) fun q=>q.elim h.nb fun q=>by have:=h.bx.lt;omega
end Go.Proofs.Bl
namespace Go.Proofs.YtglenbikdahgjaaGreatDoor
open Go Go.RowKit Go.Proofs Go.Proofs.Bl
theorem mfresh_any (F:Nat->Prop) (b:Nat) (vo va:Value) (D:List Ob) (s:ShT) (x:Int) (w:World) (h:DvR F w b vo va D s) (hl:s.ids.length<=1048576):
  Calls Tryz.prog 42 #[.pointer (some ⟨b,1,none⟩),.int .i64 x] w fun e w'=>MfP F b vo D s x w e w':=by
 have H:=Bl.hid h
 have Hno:Hid (∀w2,Ext w w2->freI s.ids x=false->MfR F w w2 b vo D s (if freI s.ids x=true then s.ids++[x]else s.ids)):=Bl.hid fun w2 h2 hf=>by
  rw [hf];exact⟨⟨va,h.wide h2⟩,Kq.of_ext h2,KC2.of_ext h2⟩
 have hc:∀w2,Ext w w2->w2.cell? ⟨b,1,none⟩=some va:=fun w2 h2=>(h.bx.ext h2).cell (i:=1) rfl
 have HOl:Hid (∀w2,Ext w w2->Calls Tryz.prog 76 #[.pointer (some ⟨b,1,none⟩),.int .i64 x] w2 fun e w'=>e= .returned (.bool (oldI s.ids x))/\Ext w2 w'):=Bl.hid fun w2 h2=>mold_any b _ _ x w2 (hc w2 h2) (h.ra.rds.ext h2) h.rn
 have HHs:Hid (∀w2,Ext w w2->Calls Tryz.prog 77 #[.pointer (some ⟨b,1,none⟩),.int .i64 x] w2 fun e w'=>e= .returned (.bool (hasI s.ids x))/\Ext w2 w'):=Bl.hid fun w2 h2=>mhas_any b _ _ x w2 (hc w2 h2) (h.ra.rds.ext h2) h.rn
 have Hc:=Bl.hid hc
 have Hl:=Bl.hid hl
 clear h hc hl
 go_enter Tryz.func42,Tryz.ntmps42
 by_cases hx0:x < 0
 ·have hf:freI s.ids x=false:=fre_no (.inl (wi_no.2 (.inl hx0)))
  have Hf:=Bl.hid hf
  clear hf
  go_wp2_with fail
  go_ret
  unfold MfP
  exact⟨by rw [Hf.out]<;>rfl,Hno.out _ (Below.refl _ _) Hf.out⟩
 by_cases hx1:(1099511627776:Int) < x
 ·have hf:freI s.ids x=false:=fre_no (.inl (wi_no.2 (.inr hx1)))
  have Hf:=Bl.hid hf
  clear hf
  go_wp2_with fail
  go_ret
  unfold MfP
  exact⟨by rw [Hf.out]<;>rfl,Hno.out _ (Below.refl _ _) Hf.out⟩
 go_wp2_with fail
 refine(HOl.out w (Below.refl _ _)).mono ?_
 rintro e w1 ⟨rfl,hE1⟩
 have HE1:=Bl.hid hE1
 clear hE1 HOl
 cases ho:oldI s.ids x
 case true=>
  have hf:freI s.ids x=false:=fre_no (.inr (.inl ho))
  have Hf:=Bl.hid hf
  clear hf ho
  go_wp2_with fail
  go_ret
  unfold MfP
  exact⟨by rw [Hf.out]<;>rfl,Hno.out _ HE1.out Hf.out⟩
 have Ho:=Bl.hid ho
 clear ho
 go_wp2_with fail
 refine(HHs.out w1 HE1.out).mono ?_
 rintro e w2 ⟨rfl,hE2⟩
 have HE2:=Bl.hid (HE1.out.trans hE2)
 clear hE2 HHs HE1
 cases hh:hasI s.ids x
 case true=>
  have hf:freI s.ids x=false:=fre_no (.inr (.inr hh))
  have Hf:=Bl.hid hf
  clear hf hh
  go_wp2_with fail
  go_ret
  unfold MfP
  exact⟨by rw [Hf.out]<;>rfl,Hno.out _ HE2.out Hf.out⟩
 have hf:freI s.ids x=true:=fre_yes (wi_iff.2 ⟨by omega,by omega⟩) Ho.out hh
 have Hf:=Bl.hid hf
 have Hrn:Hid (∀y∈s.ids++[x],0<=y/\y<=1099511627776):=Bl.hid fun y hy=>by
  rcases List.mem_append.1 hy with hy | hy
  ·exact H.out.rn y hy
  ·obtain rfl:=List.mem_singleton.1 hy
   omega
 clear hf hh Ho Hno
 obtain⟨p,c,hva,hn,hm⟩:=H.out.ra.rds.form
 subst hva
 have hc2:=Hc.out w2 HE2.out
 have HRd:Hid (Rd w2 .i64 (.slice p s.ids.length c) s.ids):=Bl.hid (H.out.ra.rds.ext HE2.out)
 have HB2:=Bl.hid (H.out.bx.ext HE2.out)
 have hbl:b < w2.heap.size:=HB2.out.lt
 have Hbl:=Bl.hid hbl
 have HN:=Bl.hid (owns_nil_lit w2 3 w2.heap.size (Nat.le_refl _) 1)
 have HE3a:=Bl.hid (ext_alloc w2 (.cells #[] 3))
 have hc3:(w2.alloc (.cells #[] 3)).cell? ⟨b,1,none⟩=some (.slice p s.ids.length c):=((bcell HE3a.out).1 _ 1 hbl).trans hc2
 obtain⟨n,hnn⟩:∃n,n=s.ids.length:=⟨_,rfl⟩
 have Hn:=Bl.hid hnn
 rw [<-hnn]at hc2 hc3
 have HRd:Hid (Rds w2 (.slice p n c) n (ints .i64 s.ids)):=Bl.hid (by rw [hnn];exact HRd.out)
 have Hl:Hid (n<=1048576):=Bl.hid (by rw [hnn];exact Hl.out)
 clear hnn hn hm
 go_wp2_with (with_reducible refine stop_append ?_)
 clear hc2 hc3
 refine go_on ?_
 refine wpL_app tII HN.out (HRd.out.ext HE3a.out) rfl rfl (by rw [ints_length,Hn.out];omega) (ints_one _ _) (by have:=Hl.out;unfold maxLen;omega) (by have:=Hl.out;omega) HE3a.out.size ?_
 intro p4 c4 w4 hown4 hg4 hB4 hK4 hn4 hc4
 rw [Nat.zero_add,List.nil_append]at hown4
 rw [Nat.zero_add]
 have h24:Ext w2 w4:=Below.trans HE3a.out hB4
 have Hown:=Bl.hid (owns_ext hown4 (ext_alloc w4 (.cells #[.int .i64 x] 3)))
 have HRx:=Bl.hid (rds_one w4 3 .i64 x)
 have HE4:Hid (Ext w2 (w4.alloc (.cells #[.int .i64 x] 3))):=Bl.hid (h24.trans (ext_alloc _ _))
 clear h24 hown4 hg4 hB4 hK4 hn4 hc4
 go_wp2_with (with_reducible refine stop_append ?_)
 obtain⟨W5,hW5⟩:∃W5,W5=w4.alloc (.cells #[.int .i64 x] 3):=⟨_,rfl⟩
 rw [<-hW5]at Hown HRx HE4⊢
 clear hW5
 refine go_on ?_
 refine wpL_app tII Hown.out HRx.out rfl rfl rfl (ints_one _ _) (by have:=Hl.out;unfold maxLen;omega) (by have:=Hl.out;omega) HE4.out.size ?_
 intro p6 c6 w6 hown6 hg6 hB6 hK6 hn6 hc6
 rw [<-ints_append]at hown6
 have HE6:Hid (Ext w2 w6):=Bl.hid (Below.trans HE4.out hB6)
 have Hown6:=Bl.hid hown6
 have HB6:=Bl.hid (HB2.out.ext HE6.out)
 have hq6:=HB6.out.cell (i:=1) (v:= .slice p n c) (by rw [Hn.out];rfl)
 have hfz:=HB6.out.fz (i:=1) (show 1 < 2 by decide)
 clear hown6 hg6 hB6 hK6 hn6 hc6 Hown HRx HE4
 go_wp2_with fail
 go_ret
 unfold MfP
 refine⟨by rw [Hf.out]<;>rfl,?_⟩
 rw [Hf.out,if_pos rfl]
 have hk:Kq (fun i=>i=b) w (w6.setCell ⟨b,1,none⟩ (.slice p6 (n+1) c6)):=(Kq.of_ext (HE2.out.trans HE6.out)).setCell (Q:=fun i=>i=b) ⟨b,1,none⟩ rfl _
 refine⟨⟨.slice p6 (n+1) c6,?_⟩,hk,(KC2.of_ext (HE2.out.trans HE6.out)).set (i:=1) (by decide) _⟩
 have hne:¬(fun i=>F i\/w.heap.size<=i) b:=fun q=>q.elim H.out.nb fun q=>by have:=H.out.bx.lt;omega
 have hKs:∀i,F i->i < w.heap.size->(F i\/w.heap.size<=i)/\(w6.setCell ⟨b,1,none⟩ (.slice p6 (n+1) c6)).heap[i]? =w.heap[i]? :=fun i hi hlt=>⟨.inl hi,hk.block i hlt fun q=>H.out.nb (q▸hi)⟩
 refine⟨?_,H.out.ro.kept hKs,fun y hy=>(H.out.ok y hy).kept hKs,H.out.eq,?_,Hrn.out,hne⟩
 ·exact HB6.out.put (i:=1) (show 1 < 2 by decide) _
 ·have h6:RdsF (fun i=>w2.heap.size<=i) w6 (.slice p6 (n+1) c6) (n+1) (ints .i64 (s.ids++[x])):=RdsF.of_rds (Rds.of_owns Hown6.out) fun k hk _=>(Hown6.out.lt k hk).1
  have hlen:(s.ids++[x]).length=n+1:=by rw [List.length_append,Hn.out];rfl
  show RdsF _ _ _ (s.ids++[x]).length _
  rw [hlen]
  exact h6.kept fun i hi hlt=>⟨.inr (Nat.le_trans HE2.out.size hi),Below.heap_setCell w6 ⟨b,1,none⟩ _ i (by have:=Hbl.out;show i≠b;omega)⟩
theorem mstored_any (F:Nat->Prop) (b:Nat) (s:ShT) (x:Int) (w:World) (h:DvX F w b s):
  Calls Tryz.prog 30 #[.pointer (some ⟨b,0,none⟩),.int .i64 x] w fun e w'=>(∃v st,e= .returned (.tuple #[v,.bool (getO s x).isSome])/\RowF F w' v st/\(getO s x).getD []=st)/\Ext w w':=by
 obtain⟨vo,va,D,h⟩:=h
 have HF:=Bl.hid (mfind_any F b vo va D s x w h)
 have H:=Bl.hid h
 clear h
 go_enter Tryz.func30,Tryz.ntmps30
 go_wp2_with fail
 refine HF.out.mono ?_
 rintro e w1 ⟨⟨r,rfl,hr⟩,hE⟩
 have HE:=Bl.hid hE
 clear hE HF
 rcases hr with ⟨i,hi,rfl,h1,h2⟩ | ⟨rfl,h2⟩
 ·have hg:=H.out.some hi h1 h2
  have Hg:=Bl.hid hg
  obtain⟨g,o,c,hvo,_,_,hgl,hel⟩:=(H.out.ext HE.out).pos (Nat.lt_of_le_of_lt (Nat.zero_le _) hi)
  subst hvo
  have hc0:=(H.out.bx.ext HE.out).cell (i:=0) (v:= .slice (some ⟨g,o,none⟩) D.length c) rfl
  have hrg:=hel i hi
  have Hok:=Bl.hid (H.out.ok _ (getD_mem o0 hi))
  obtain⟨q1,c1,hf1,_,_⟩:=Hok.out.rdss.form
  have hc1:w1.cell? ⟨g,o+i*2+1,none⟩=some (.slice q1 (D.getD i o0).2.2.length c1):=by rw [hrg 1 _ rfl,hf1]
  have Hf1:=Bl.hid hf1
  obtain⟨m,hm⟩:∃m,m=(D.getD i o0).2.2.length:=⟨_,rfl⟩
  obtain⟨N,hN⟩:∃N,N=D.length:=⟨_,rfl⟩
  rw [<-hm]at hc1 Hf1
  rw [<-hN]at hc0 hi
  have hi0:¬(i:Int) < 0:=by omega
  have hi1:(0:Int)<=(i:Int):=by omega
  have hi2:(i:Int) < (N:Int):=by omega
  clear hg h1 h2 hel hrg hf1 hm hN
  go_wp2_with fail
  go_ret2
  refine⟨⟨_,_,by rw [Hg.out]<;>rfl,?_,by rw [Hg.out]<;>rfl⟩,HE.out⟩
  rw [<-Hf1.out]
  exact Hok.out.kept fun k hk hlt=>⟨hk,HE.out.block k hlt⟩
 ·have hg:=H.out.none h2
  have Hg:=Bl.hid hg
  clear hg h2
  go_wp2_with fail
  go_ret2
  refine⟨⟨_,_,by rw [Hg.out]<;>rfl,?_,by rw [Hg.out]<;>rfl⟩,HE.out⟩
  exact⟨[],RdsF.nil _,fun y hy=>(by cases hy),rfl⟩
end Go.Proofs.YtglenbikdahgjaaGreatDoor
namespace Go.Proofs.Bl
open Go Go.RowKit
abbrev Stg:=Nat × Nat × (Value->World->Prop)
def ChN:(World->Prop)->List Stg->(Nat->Bool)->(Nat->Value)->World->Prop
 | S,[],_,_,w=>S w
 | S,x :: r,d,u,w=>(d x.1=false->S w)/\(d x.1=true->ChN (x.2.2 (u x.2.1)) r d u w)
def ChD (d:Nat->Bool):List Stg->Prop
 | []=>True
 | x :: r=>d x.1=true/\ChD d r
def ChU (d:Nat->Bool):List Stg->Prop
 | []=>True
 | x :: _=>d x.1=false
theorem ChN.start:∀ {S:World->Prop} {l:List Stg} {u:Nat->Value} {w:World},S w->ChN S l (fun _=>false) u w
 | _,[],_,_,h=>h
 | _,_ :: _,_,_,h=>⟨fun _=>h,fun q=>(by cases q)⟩
theorem ChN.same {i t:Nat} {v:Value}:∀ {S:World->Prop} {l:List Stg} {d:Nat->Bool} {u:Nat->Value} {w:World},ChN S l d u w->(l.all fun x=>decide (x.1≠i)&&decide (x.2.1≠t))=true->ChN S l (upd d i) (updv (some t) u v) w
 | _,[],_,_,_,h,_=>h
 | S,x :: r,d,u,w,h,hi=>by
  simp only [List.all_cons,Bool.and_eq_true,decide_eq_true_eq]at hi
  obtain⟨⟨h1,h2⟩,h3⟩:=hi
  have a1:upd d i x.1=d x.1:=if_neg h1
  have b1:updv (some t) u v x.2.1=u x.2.1:=if_neg h2
  show(upd d i x.1=false->S w)/\(upd d i x.1=true->ChN (x.2.2 (updv (some t) u v x.2.1)) r (upd d i) (updv (some t) u v) w)
  rw [a1,b1]
  exact⟨h.1,fun q=>ChN.same (h.2 q) h3⟩
theorem ChN.set {i t:Nat} {P:Value->World->Prop} {b:List Stg} {v:Value} {d:Nat->Bool} {u:Nat->Value} {w:World} (hb:ChU d b) (hbi:(b.all fun x=>decide (x.1≠i))=true) (hP:P v w):∀ {S:World->Prop} {a:List Stg},ChD d a->(a.all fun x=>decide (x.1≠i)&&decide (x.2.1≠t))=true->ChN S (a++(i,t,P) :: b) (upd d i) (updv (some t) u v) w
 | S,[],_,_=>by
  have a1:upd d i i=true:=if_pos rfl
  have b1:updv (some t) u v t=v:=if_pos rfl
  show(upd d i i=false->S w)/\(upd d i i=true->ChN (P (updv (some t) u v t)) b (upd d i) (updv (some t) u v) w)
  rw [a1,b1]
  refine⟨fun q=>(by cases q),fun _=> ?_⟩
  match b,hb,hbi with
  | [],_,_=>exact hP
  | x :: r,hb,hbi=>
   simp only [List.all_cons,Bool.and_eq_true,decide_eq_true_eq]at hbi
   have a2:upd d i x.1=d x.1:=if_neg hbi.1
   show(upd d i x.1=false->P v w)/\(upd d i x.1=true->_)
   rw [a2,show d x.1=false from hb]
   exact⟨fun _=>hP,fun q=>(by cases q)⟩
 | S,x :: r,ha,hi=>by
  simp only [List.all_cons,Bool.and_eq_true,decide_eq_true_eq]at hi
  obtain⟨⟨h1,h2⟩,h3⟩:=hi
  have a1:upd d i x.1=d x.1:=if_neg h1
  show(upd d i x.1=false->S w)/\(upd d i x.1=true->ChN (x.2.2 (updv (some t) u v x.2.1)) (r++(i,t,P) :: b) (upd d i) (updv (some t) u v) w)
  rw [a1,ha.1]
  exact⟨fun q=>(by cases q),fun _=>ChN.set hb hbi hP ha.2 h3⟩
section
variable {S:World->Prop} {i t:Nat} {P:Value->World->Prop} {x1 x2 x3 x4:Stg} {r:List Stg} {d:Nat->Bool} {u:Nat->Value} {v:Value} {w:World}
theorem ChN.s1 (hP:P v w) (hU:ChU d r) (hr:(r.all fun x=>decide (x.1≠i))=true):ChN S ((i,t,P) :: r) (upd d i) (updv (some t) u v) w:=ChN.set (a:=[]) hU hr hP trivial rfl
theorem ChN.s2 (hP:P v w) (h1:d x1.1=true) (hU:ChU d r) (hr:(r.all fun x=>decide (x.1≠i))=true) (n1:([x1].all fun x=>decide (x.1≠i)&&decide (x.2.1≠t))=true):ChN S (x1 :: (i,t,P) :: r) (upd d i) (updv (some t) u v) w:=ChN.set (a:=[x1]) hU hr hP ⟨h1,trivial⟩ n1
theorem ChN.s3 (hP:P v w) (h1:d x1.1=true) (h2:d x2.1=true) (hU:ChU d r) (hr:(r.all fun x=>decide (x.1≠i))=true) (n1:([x1,x2].all fun x=>decide (x.1≠i)&&decide (x.2.1≠t))=true):ChN S (x1 :: x2 :: (i,t,P) :: r) (upd d i) (updv (some t) u v) w:=ChN.set (a:=[x1,x2]) hU hr hP ⟨h1,h2,trivial⟩ n1
theorem ChN.s4 (hP:P v w) (h1:d x1.1=true) (h2:d x2.1=true) (h3:d x3.1=true) (hU:ChU d r) (hr:(r.all fun x=>decide (x.1≠i))=true) (n1:([x1,x2,x3].all fun x=>decide (x.1≠i)&&decide (x.2.1≠t))=true):ChN S (x1 :: x2 :: x3 :: (i,t,P) :: r) (upd d i) (updv (some t) u v) w:=ChN.set (a:=[x1,x2,x3]) hU hr hP ⟨h1,h2,h3,trivial⟩ n1
theorem ChN.s5 (hP:P v w) (h1:d x1.1=true) (h2:d x2.1=true) (h3:d x3.1=true) (h4:d x4.1=true) (hU:ChU d r) (hr:(r.all fun x=>decide (x.1≠i))=true) (n1:([x1,x2,x3,x4].all fun x=>decide (x.1≠i)&&decide (x.2.1≠t))=true):ChN S (x1 :: x2 :: x3 :: x4 :: (i,t,P) :: r) (upd d i) (updv (some t) u v) w:=ChN.set (a:=[x1,x2,x3,x4]) hU hr hP ⟨h1,h2,h3,h4,trivial⟩ n1
end
structure GQ {α :Type} (f: α ->List Value) (s:Nat) (Ok:(Nat->Prop)->World-> α ->Prop) (A:Nat->Prop) (B:Nat) (w:World) (X fi:Nat) (cs:List Value) (v:Value) (M:List α):Prop where
 box:BoxC w X cs
 fld:cs[fi]? =some v
 own:Pk w B s v M.length (cellsR f M)
 ok:∀x∈M,Ok (fun b=>b≠X/\v.ownBlock≠some b/\A b) w x
 ne:v.ownBlock≠some X
section
variable {α :Type} {f: α ->List Value} {s:Nat} {Ok:(Nat->Prop)->World-> α ->Prop} {A:Nat->Prop} {B:Nat} {w w1 w2:World} {X fi:Nat} {cs:List Value} {v v':Value} {M:List α} {y: α}
theorem GQ.ext (hS:Stab Ok) (h:GQ f s Ok A B w X fi cs v M) (hE:Ext w w1):GQ f s Ok A B w1 X fi cs v M:=
 ⟨h.box.ext hE,h.fld,h.own.ext hE,fun x hx=>hS _ _ _ _ _ (h.ok x hx) fun b hb hlt=>⟨hb,hE.block b hlt⟩,h.ne⟩
theorem GQ.start (hB:BoxC w X cs) (hf:cs[fi]? =some (.slice none 0 0)):GQ f s Ok A B w X fi cs (.slice none 0 0) []:=
 ⟨hB,hf,Pk.nil _ _ _,fun x hx=>(by cases hx),fun q=>(by cases q)⟩
theorem GQ.lt (h:GQ f s Ok A B w X fi cs v M):fi < cs.length:=(List.getElem?_eq_some_iff.1 h.fld).1
theorem GQ.cell (h:GQ f s Ok A B w X fi cs v M):w.cell? ⟨X,fi,none⟩=some v:=h.box.cell h.fld
theorem GQ.mid (h:GQ f s Ok A B w1 X fi cs v M) (hg:w1.grownBy w2 v.ownBlock):BoxC w2 X cs:=h.box.grown hg (fun q=>h.ne q)
theorem GQ.form (h:GQ f s Ok A B w X fi cs v M):∃p c,v= .slice p M.length c:=by
 obtain⟨p,c,h1,_⟩:=h.own.rds.form;exact⟨p,c,h1⟩
theorem GQ.push (hS:Stab Ok) (h:GQ f s Ok A B w1 X fi cs v M) (hown:Pk w2 B s v' (M.length+1) (cellsR f M++f y)) (hg:w1.grownBy w2 v.ownBlock) (hk:∀k,v'.ownBlock=some k->v.ownBlock=some k\/w1.heap.size<=k) (hy:Ok (fun b=>b≠X/\v.ownBlock≠some b/\A b) w1 y):
  GQ f s Ok A B (w2.setCell ⟨X,fi,none⟩ v') X fi (cs.set fi v') v' (M++[y]):=by
 have hne:v'.ownBlock≠some X:=fun q=>by
  rcases hk X q with z | z
  ·exact h.ne z
  ·have:=h.box.lt;omega
 have hh:∀j,j≠X->(w2.setCell ⟨X,fi,none⟩ v').heap[j]? =w2.heap[j]? :=fun j hj=>Below.heap_setCell w2 ⟨X,fi,none⟩ _ j hj
 have hsz:w2.heap.size<=(w2.setCell ⟨X,fi,none⟩ v').heap.size:=((Below.refl 0 w2).setCell (Nat.zero_le _) _).size
 refine⟨(h.mid hg).put h.lt v',by rw [List.getElem?_set_self h.lt],?_,fun x hx=> ?_,hne⟩
 ·rw [List.length_append,List.length_singleton,cellsR_append,cellsR_one]
  exact hown.kept (fun j hj=>hh j (fun q=>hne (by rw [hj,q]))) hsz
 ·have key:∀b,(b≠X/\v.ownBlock≠some b/\A b)->b < w1.heap.size->(b≠X/\v'.ownBlock≠some b/\A b)/\(w2.setCell ⟨X,fi,none⟩ v').heap[b]? =w1.heap[b]? :=fun b hb hlt=>by
   refine⟨⟨hb.1,fun q=> ?_,hb.2.2⟩,?_⟩
   ·rcases hk b q with z | z
    ·exact hb.2.1 z
    ·omega
   ·rw [hh b hb.1]
    exact hg.block b hlt (fun q=>hb.2.1 q.symm)
  rcases List.mem_append.1 hx with hx | hx
  ·exact hS _ _ _ _ _ (h.ok x hx) key
  ·obtain rfl:x=y:=by simpa using hx
   exact hS _ _ _ _ _ hy key
end
section
variable {α :Type} (f: α ->List Value) (s:Nat) (Ok:(Nat->Prop)->World-> α ->Prop) (A:Nat->Prop) (B Y fi:Nat) (cs:List Value) (vr:Value) (M:List α) (Pr: α ->Prop)
def A0 (w:World):Prop:=GQ f s Ok A B w Y fi cs vr M/\B<=w.heap.size
def A1 (v:Value) (w:World):Prop:=∃y,Pr y/\v.cells=(f y).toArray/\(f y).length=s/\(∀c∈f y,c.oneCell'=true)/\Ok (fun b=>b≠Y/\vr.ownBlock≠some b/\A b) w y/\A0 f s Ok A B Y fi cs vr M w
def A2 (v:Value) (w:World):Prop:=∃y g,v= .slice (some ⟨g,0,none⟩) 1 1/\w.rangeAt g 0 (f y)/\Pr y/\(f y).length=s/\(∀c∈f y,c.oneCell'=true)/\Ok (fun b=>b≠Y/\vr.ownBlock≠some b/\A b) w y/\A0 f s Ok A B Y fi cs vr M w
def A3 (v:Value) (w:World):Prop:=∃y p c,v= .slice p (M.length+1) c/\Pr y/\w.cell? ⟨Y,fi,none⟩=some vr/\w.frozen? ⟨Y,fi,none⟩=false/\GQ f s Ok A B (w.setCell ⟨Y,fi,none⟩ v) Y fi (cs.set fi v) v (M++[y])
end
section
variable {α :Type} {f: α ->List Value} {s:Nat} {Ok:(Nat->Prop)->World-> α ->Prop} {A:Nat->Prop} {B Y fi:Nat} {cs:List Value} {vr:Value} {M:List α} {Pr: α ->Prop} {w w':World}
theorem A0.ext (hS:Stab Ok) (h:A0 f s Ok A B Y fi cs vr M w) (hE:Ext w w'):A0 f s Ok A B Y fi cs vr M w':=⟨h.1.ext hS hE,Nat.le_trans h.2 hE.size⟩
theorem A1.size {v:Value} (h:A1 f s Ok A B Y fi cs vr M Pr v w):v.cells.size=s:=by
 obtain⟨y,_,h2,h3,_⟩:=h;rw [h2];simpa using h3
theorem A1.a2 (hS:Stab Ok) {v:Value} (h:A1 f s Ok A B Y fi cs vr M Pr v w) (e:TypeId):A2 f s Ok A B Y fi cs vr M Pr (.slice (some ⟨w.heap.size,0,none⟩) 1 1) (w.alloc (.cells v.cells e)):=by
 obtain⟨y,h1,h2,h3,h4,h5,h6⟩:=h
 have hE:=ext_alloc w (.cells v.cells e)
 refine⟨y,w.heap.size,rfl,fun j u hu=> ?_,h1,h3,h4,hS _ _ _ _ _ h5 fun b hb hl=>⟨hb,hE.block b hl⟩,h6.ext hS hE⟩
 rw [Nat.zero_add,World.cell?_alloc_new,h2];simpa using hu
end
section
variable {P:Program} {R:World->World->Prop} {α :Type} {f: α ->List Value} {s:Nat} {Ok:(Nat->Prop)->World-> α ->Prop} {A:Nat->Prop} {B Y fi:Nat} {cs:List Value} {vr:Value} {M:List α} {Pr: α ->Prop} {w:World} {ev:Nat->Value} {φ :Value->World->Prop} {d:Option Tmp} {tt t e:TypeId} {z:Value} {bytes n:Nat} {pp:String} {af:Array Edge} {g:Option (Nat × Bool)} {x y:Operand}
theorem goodX_a3 (hT:SlT P t e z s bytes) (hS:Stab Ok) {v2:Value} (hc:A2 f s Ok A B Y fi cs vr M Pr v2 w) (hy:evalE ev y=v2) (hx:evalE ev x=vr) (hlen:M.length+1<=maxLen) (hbytes:(M.length+1)*bytes<=140737488355328)
  (hφ:∀v' w',Kq (fun k=>B<=k) w w'->A3 f s Ok A B Y fi cs vr M Pr v' w'->R w w'/\ φ v' w'):
  GoodX R P w φ ((execOp (evalE ev) ⟨d,.call {callee:= .builtin .append,args:=#[x,y],argTypes:=#[t,t]},tt,pp,af,g⟩).run P w):=by
 obtain⟨a,b,h1,h2,h3,h4,h5,h6,h8,h9⟩:=hc
 refine goodX_append hT h8.own h2 (by rw [h4,Nat.one_mul]) h5 (by decide) hlen hbytes h9 hx (hy.trans h1) fun v' w' q1 q2 q3=> ?_
 have hK:Kq (fun k=>B<=k) w w':=Kq.grown q2 fun k hk=>(h8.own.block k hk).1
 obtain⟨p,c,hf,_⟩:=q1.rds.form
 have hb:=h8.mid q2
 exact hφ v' w' hK ⟨a,p,c,hf,h3,hb.cell h8.fld,hb.fz h8.lt,h8.push hS q1 q2 q3 h6⟩
theorem goodX_bld3 {i j k:Nat} {u:Operand} {vx vy vu v:Value} {ty:TypeId} (hr:∀w,R w w) (hx:evalE ev x=vx) (hy:evalE ev y=vy) (hu:evalE ev u=vu) (hb:(Instr.build ty #[(i,vx),(j,vy),(k,vu)]).run P w= .ok v w) (hφ: φ v w):
  GoodX R P w φ ((execOp (evalE ev) ⟨d,.build ty #[(i,x),(j,y),(k,u)],tt,pp,af,g⟩).run P w):=by
 unfold execOp
 simp only [hx,hy,hu,List.map_toArray,List.map_cons,List.map_nil,Sem.run_bind,Sem.run_pure,hb,Result.andThen_ok]
 exact⟨hr _,hφ⟩
def P0a {α :Type} (f: α ->List Value) (s:Nat) (Ok:(Nat->Prop)->World-> α ->Prop) (A:Nat->Prop) (B Y fi:Nat) (cs:List Value) (vr:Value) (M:List α) (vw:Value) (pth:List (List Int)) (w:World):Prop:=A0 f s Ok A B Y fi cs vr M w/\RdsF (fun b=>b≠Y/\vr.ownBlock≠some b/\A b) w vw pth.length (cellsD pth)
def P1a {α :Type} (f: α ->List Value) (s:Nat) (Ok:(Nat->Prop)->World-> α ->Prop) (A:Nat->Prop) (B Y fi:Nat) (cs:List Value) (vr:Value) (M:List α) (vw:Value) (pth:List (List Int)) (st:List Int) (v:Value) (w:World):Prop:=RdsF (fun b=>b≠Y/\vr.ownBlock≠some b/\A b) w v st.length (ints .u8 st)/\P0a f s Ok A B Y fi cs vr M vw pth w
theorem P0a.ext {α :Type} {f: α ->List Value} {s:Nat} {Ok:(Nat->Prop)->World-> α ->Prop} {A:Nat->Prop} {B Y fi:Nat} {cs:List Value} {vr:Value} {M:List α} {vw:Value} {pth:List (List Int)} {w w':World} (hS:Stab Ok) (h:P0a f s Ok A B Y fi cs vr M vw pth w) (hE:Ext w w'):P0a f s Ok A B Y fi cs vr M vw pth w':=⟨h.1.ext hS hE,h.2.kept fun b hb hl=>⟨hb,hE.block b hl⟩⟩
theorem P1a.a1 {A:Nat->Prop} {B Y fi:Nat} {cs:List Value} {vr:Value} {M:List Sv} {p:Int} {pw pb:Option Addr} {cw cb:Nat} {pth:List (List Int)} {st:List Int} {w:World} (h:P1a cS 3 OkF A B Y fi cs vr M (.slice pw pth.length cw) pth st (.slice pb st.length cb) w) (hb:Byt st) (hd:Dig pth):A1 cS 3 OkF A B Y fi cs vr M (fun y=>plS y=(p,st,pth)) (.agg #[.int .i64 p,.slice pb st.length cb,.slice pw pth.length cw]) w:=
 ⟨(p,(.slice pb st.length cb,st),.slice pw pth.length cw,pth),rfl,rfl,rfl,fun c hc=>by
  unfold cS at hc
  simp only [List.mem_cons,List.not_mem_nil,or_false]at hc
  rcases hc with rfl | rfl | rfl<;>rfl,⟨h.1,hb,h.2.2,hd⟩,h.2.1⟩
theorem P1a.a1' {A:Nat->Prop} {B Y fi:Nat} {cs:List Value} {vr:Value} {M:List Sv} {p:Int} {pw pb:Option Addr} {cw cb:Nat} {pth:List (List Int)} {st:List Int} {v:Value} {w:World} (h:P1a cS 3 OkF A B Y fi cs vr M (.slice pw pth.length cw) pth st v w) (hv:v= .slice pb st.length cb) (hb:Byt st) (hd:Dig pth):A1 cS 3 OkF A B Y fi cs vr M (fun y=>plS y=(p,st,pth)) (.agg #[.int .i64 p,.slice pb st.length cb,.slice pw pth.length cw]) w:=by
 subst hv;exact h.a1 hb hd
end
section
variable {P:Program} {ops:Array Oper} {rest:List Oper} {a:Act} {w w':World} {Q:Exit->Act->World->Prop} {d:Option Tmp} {tt t t2:TypeId} {pp:String} {af:Array Edge} {s x:Operand} {v u r:Value}
end
end Go.Proofs.Bl
namespace Go.Proofs.YtglenbikdahgjaaGreatDoor
open Go Go.RowKit Go.Proofs Go.Proofs.Bl
end Go.Proofs.YtglenbikdahgjaaGreatDoor
namespace Go.Proofs.Bl
open Go Go.RowKit
def ShR (k at' y:Int) (l:LT) (vp vb:Value) (P B:Nat) (w:World) (e:Ending) (w':World):Prop:=e= .returned (.tuple #[])/\∃vs2 L2,BoxC w' P (cL (bendA k at' y l) vp vs2 vb)/\LtF (fun b=>B<=b) w' (bendA k at' y l) vp vs2 vb L2/\Kq (fun k=>k=P\/B<=k) w w'
def swL (L:List Sv) (i:Nat):List Sv:=(L.set i ((L.getD i s0).1,(L.getD 0 s0).2)).set 0 (((L.set i ((L.getD i s0).1,(L.getD 0 s0).2)).getD 0 s0).1,(L.getD i s0).2)
theorem LtF.of_ltc {w:World} {cs:List Value} {l:LT} {vp vs vb:Value} {L:List Sv} (h:LtC w cs l vp vs vb L):LtF (fun b=>b < w.heap.size) w l vp vs vb L:=by
 obtain⟨M,h1,h2,h3⟩:=rdss_bv h.bl
 refine⟨RdsF.of_rds h.pl fun b _ q=>q,RdsF.of_rds h.sh.rd fun b _ q=>q,fun x hx=>⟨RdsF.of_rds (h.sh.ok x hx).st fun b _ q=>q,(h.sh.ok x hx).bs,RdsF.of_rds (h.sh.ok x hx).pa fun b _ q=>q,(h.sh.ok x hx).dg⟩,h.sl,M,RdsF.of_rds h1 fun b _ q=>q,fun y hy=>⟨RdsF.of_rds (h3 y hy) fun b _ q=>q,h.by' _ (by rw [<-h2];exact List.mem_map_of_mem hy)⟩,h2⟩
def LtVD (D:Nat) (w:World) (v:Value) (l:LT):Prop:=∃vp vs vb L,v= .agg (cL l vp vs vb).toArray/\LtF (fun b=>b < w.heap.size/\b≠D) w l vp vs vb L
def BeD (D:Nat) (k at' y:Int) (l:LT) (w:World) (e:Ending) (w':World):Prop:=∃v',e= .returned (.tuple #[v',.bool (bendL k at' y l).2])/\(∃vp vs vb L,v'= .agg (cL (bendL k at' y l).1 vp vs vb).toArray/\LtF (fun b=>b≠D\/w.heap.size<=b) w' (bendL k at' y l).1 vp vs vb L)/\Ext w w'
def swR (L:List Sv) (i:Nat):List Sv:=(L.set 0 ((L.getD 0 s0).1,(L.getD i s0).2)).set i (((L.set 0 ((L.getD 0 s0).1,(L.getD i s0).2)).getD i s0).1,(L.getD 0 s0).2)
section
variable {P:Program}
end
structure JC (B i m:Nat) (A C:List Value) (d:Nat->Bool) (u:Nat->Value) (w:World):Prop where
 le:B<=w.heap.size
 a:d 0=true->d 4=false->Pk w B 3 (u 186) 0 []
 b:d 4=true->d 9=false->Pk w B 3 (u 190) i A
 c:d 9=true->Pk w B 3 (u 195) (i+m) (A++C)
section
variable {B i m:Nat} {A C:List Value} {d:Nat->Bool} {u:Nat->Value} {w w':World}
end
def b0:Bv:=(.slice none 0 0,[])
theorem cellsB_one {F:Nat->Prop} {w:World} {M:List Bv} (h:∀x∈M,RdsF F w x.1 x.2.length (ints .u8 x.2)):∀c∈cellsR cB M,c.oneCell'=true:=cellsR_cell fun x hx c hc=>by
 obtain⟨p,cap,hv,_,_⟩:=(h x hx).rds.form
 have hc:c=x.1:=by simpa [cB] using hc
 rw [hc,hv]
 rfl
end Go.Proofs.Bl
