/- Texts that stood apart, in one: LR0, LR1. -/
import Derived.Test.YtglenbikdahgjaaGreatDoorPk11
import Derived.Test.YtglenbikdahgjaaGreatDoorPk10
set_option maxRecDepth 100000
set_option maxHeartbeats 16000000
namespace Go.Proofs.Bl
open Go Go.RowKit
structure Acc (w0:World) (cs:List Value) (w:World) (v:Value) (n:Nat) (l:List Int):Prop where
 box:BoxC w w0.heap.size cs
 own:Pk w (w0.heap.size+1) 1 v n (ints .u8 l)
 ext:Ext w0 w
section
variable {w0 w w':World} {cs:List Value} {v v':Value} {n m:Nat} {l u:List Int}
theorem Acc.ext' (h:Acc w0 cs w v n l) (hE:Ext w w'):Acc w0 cs w' v n l:=⟨h.box.ext hE,h.own.ext hE,h.ext.trans hE⟩
theorem Acc.le (h:Acc w0 cs w v n l):w0.heap.size+1<=w.heap.size:=h.box.lt
theorem Acc.push (h:Acc w0 cs w v n l) (h2:Pk w' (w0.heap.size+1) 1 v' (n+m) (ints .u8 l++ints .u8 u)) (h3:w.grownBy w' v.ownBlock):Acc w0 cs w' v' (n+m) (l++u):=by
 refine⟨h.box.grown h3 (fun q=>by have:=(h.own.block _ q).1;omega),by rw [ints_append];exact h2,h.ext.grown h3 h.ext.size (fun k hk=>by have:=(h.own.block k hk).1;omega)⟩
theorem Acc.form (h:Acc w0 cs w v n l):∃p c,v= .slice p n c:=by
 obtain⟨p,c,h1,_⟩:=h.own.rds.form;exact⟨p,c,h1⟩
theorem Acc.rd (h:Acc w0 cs w v n l) (hl:l.length=n):Rd w .u8 v l:=by
 subst hl;exact h.own.rds
end
theorem pk_new1 (w:World) (e:TypeId) (c:Value) {B:Nat} (hB:B<=w.heap.size):Pk (w.alloc (.cells #[c] e)) B 1 (.slice (some ⟨w.heap.size,0,none⟩) 1 1) 1 [c]:=Pk.of_owns (owns_new w e #[c] B 1 1 hB (by decide) rfl)
theorem slb_pos {w:World} {v:Value} {l:List Int} (h:SlB w v l) (h0:0 < l.length):∃b o c,v= .slice (some ⟨b,o,none⟩) l.length c/\w.rangeAt b o (ints .u8 l):=by
 obtain⟨p,c,rfl,hr⟩:=h
 obtain⟨b,o,c2,h1,_,_,_,h2,_⟩:=Rd.pos hr h0
 exact⟨b,o,c2,h1,h2⟩
theorem getDm (l:List (List Int)) {i:Nat} (h:i < l.length):l.getD i []∈l:=by
 rw [List.getD_eq_getElem?_getD,List.getElem?_eq_getElem h];exact List.getElem_mem h
theorem cell1 {c:Int} {j:Nat} {x:Value} (hx:(ints .u8 [c])[j]? =some x):(#[Value.int .u8 c])[j]? =some x:=by
 cases j with
 | zero=>exact hx
 | succ j=>cases hx
structure JL (W n:Nat) (v0:Value) (B:Nat) (l tw st:List Int) (lb:Int) (d:Nat->Bool) (u:Nat->Value) (w:World):Prop where
 le:W<=w.heap.size
 bw:B<=W
 a:d 4=false->Pk w B 1 v0 n (ints .u8 l)
 b:d 3=true->d 4=false->∃b o c,u 105= .slice (some ⟨b,o,none⟩) 2 c/\w.rangeAt b o (ints .u8 tw)
 c:d 4=true->d 7=false->Pk w B 1 (u 106) (n+2) (ints .u8 l++ints .u8 tw)/\∀k,(u 106).ownBlock=some k->v0.ownBlock=some k\/W<=k
 f:d 7=true->Pk w B 1 (u 109) (n+2+16) (ints .u8 l++ints .u8 tw++ints .u8 st)
 g:d 12=true->∃g,u 114= .slice (some ⟨g,0,none⟩) 1 1/\W<=g/\g < w.heap.size/\w.rangeAt g 0 [.int .u8 lb]/\(d 4=true->d 7=false->(u 106).ownBlock≠some g)/\(d 7=true->(u 109).ownBlock≠some g)
 h:v0.ownBlock=none\/∃k,v0.ownBlock=some k/\k < W
 k9:d 7=true->∀k,(u 109).ownBlock=some k->v0.ownBlock=some k\/W<=k
section
variable {W n B:Nat} {v0:Value} {l tw st:List Int} {lb:Int} {d:Nat->Bool} {u:Nat->Value} {w w':World}
theorem JL.start (h:Pk w B 1 v0 n (ints .u8 l)) (hW:W=w.heap.size) (hB:B<=W):JL W n v0 B l tw st lb (fun _=>false) u w:=
 ⟨Nat.le_of_eq hW,hB,fun _=>h,fun q=>(by cases q),fun q=>(by cases q),fun q=>(by cases q),fun q=>(by cases q),by
  cases hv:v0.ownBlock with
  | none=>exact .inl rfl
  | some k=>exact .inr ⟨k,rfl,by rw [hW];exact(h.block k hv).2⟩,fun q=>(by cases q)⟩
theorem JL.ext {i t:Nat} {v:Value} (h:JL W n v0 B l tw st lb d u w) (hE:Ext w w') (hi:(decide (i=3)||decide (i=4)||decide (i=7)||decide (i=12)||decide (t=105)||decide (t=106)||decide (t=109)||decide (t=114))=false):JL W n v0 B l tw st lb (upd d i) (updv (some t) u v) w':=by
 simp only [Bool.or_eq_false_iff,decide_eq_false_iff_not]at hi
 obtain⟨⟨⟨⟨⟨⟨⟨h1,h2⟩,h3⟩,h4⟩,h5⟩,h6⟩,h7⟩,h8⟩:=hi
 have a3:upd d i 3=d 3:=if_neg (fun e=>h1 e.symm)
 have a4:upd d i 4=d 4:=if_neg (fun e=>h2 e.symm)
 have a7:upd d i 7=d 7:=if_neg (fun e=>h3 e.symm)
 have a12:upd d i 12=d 12:=if_neg (fun e=>h4 e.symm)
 have b5:updv (some t) u v 105=u 105:=if_neg (fun e=>h5 e.symm)
 have b6:updv (some t) u v 106=u 106:=if_neg (fun e=>h6 e.symm)
 have b9:updv (some t) u v 109=u 109:=if_neg (fun e=>h7 e.symm)
 have b14:updv (some t) u v 114=u 114:=if_neg (fun e=>h8 e.symm)
 refine⟨Nat.le_trans h.le hE.size,h.bw,?_,?_,?_,?_,?_,h.h,by rw [a7,b9];exact h.k9⟩
 ·rw [a4];exact fun q=>(h.a q).ext hE
 ·rw [a3,a4,b5];exact fun q q2=>(by obtain⟨x,y,z,e1,e2⟩:=h.b q q2;exact⟨x,y,z,e1,rangeAt_ext e2 hE⟩)
 ·rw [a4,a7,b6];exact fun q q2=>⟨(h.c q q2).1.ext hE,(h.c q q2).2⟩
 ·rw [a7,b9];exact fun q=>(h.f q).ext hE
 ·rw [a12,a4,a7,b6,b9,b14]
  exact fun q=>(by obtain⟨g,e1,e2,e3,e4,e5⟩:=h.g q;exact⟨g,e1,e2,Nat.lt_of_lt_of_le e3 hE.size,rangeAt_ext e4 hE,e5⟩)
theorem JL.same {i t:Nat} {v:Value} (h:JL W n v0 B l tw st lb d u w) (hi:(decide (i=3)||decide (i=4)||decide (i=7)||decide (i=12)||decide (t=105)||decide (t=106)||decide (t=109)||decide (t=114))=false):JL W n v0 B l tw st lb (upd d i) (updv (some t) u v) w:=h.ext (Below.refl _ _) hi
theorem JL.call {v:Value} (h:JL W n v0 B l tw st lb d u w) (h4:d 4=false) (h7:d 7=false) (hE:Ext w w') (hS:∃b o c,v= .slice (some ⟨b,o,none⟩) 2 c/\w'.rangeAt b o (ints .u8 tw)):JL W n v0 B l tw st lb (upd d 3) (updv (some 105) u v) w':=by
 refine⟨Nat.le_trans h.le hE.size,h.bw,fun q=>(h.a q).ext hE,fun _ _=>hS,fun q=> ?_,fun q=> ?_,fun q=> ?_,h.h,fun q=>(by have q:d 7=true:=q;rw [h7]at q;cases q)⟩
 ·have q:d 4=true:=q
  rw [h4]at q;cases q
 ·have q:d 7=true:=q
  rw [h7]at q;cases q
 ·obtain⟨g,e1,e2,e3,e4,e5⟩:=h.g q
  exact⟨g,e1,e2,Nat.lt_of_lt_of_le e3 hE.size,rangeAt_ext e4 hE,e5⟩
theorem JL.bld (h:JL W n v0 B l tw st lb d u w) (e:TypeId):JL W n v0 B l tw st lb (upd d 12) (updv (some 114) u (.slice (some ⟨w.heap.size,0,none⟩) 1 1)) (w.alloc (.cells #[.int .u8 lb] e)):=by
 have hE:=ext_alloc w (.cells #[.int .u8 lb] e)
 refine⟨Nat.le_trans h.le hE.size,h.bw,fun q=>(h.a q).ext hE,fun q q2=>(by obtain⟨x,y,z,e1,e2⟩:=h.b q q2;exact⟨x,y,z,e1,rangeAt_ext e2 hE⟩),fun q q2=>⟨(h.c q q2).1.ext hE,(h.c q q2).2⟩,fun q=>(h.f q).ext hE,fun _=>⟨w.heap.size,rfl,h.le,by rw [World.size_alloc];omega,fun j x hx=> ?_,fun q q2 z=> ?_,fun q z=> ?_⟩,h.h,h.k9⟩
 ·rw [Nat.zero_add,World.cell?_alloc_new];exact Bl.cell1 hx
 ·have:=((h.c q q2).1.block _ z).2;omega
 ·have:=((h.f q).block _ z).2;omega
theorem JL.app1 {v':Value} (h:JL W n v0 B l tw st lb d u w) (_h4:d 4=false) (h7:d 7=false) (h2:Pk w' B 1 v' (n+2) (ints .u8 l++ints .u8 tw)) (h3:w.grownBy w' v0.ownBlock) (hk:∀j,v'.ownBlock=some j->v0.ownBlock=some j\/w.heap.size<=j):Kq (fun k=>v0.ownBlock=some k\/W<=k) w w'/\JL W n v0 B l tw st lb (upd d 4) (updv (some 106) u v') w':=by
 refine⟨Kq.grown h3 fun k hk=> .inl hk,Nat.le_trans h.le h3.size,h.bw,fun q=>(by cases q),fun _ q=>(by cases q),fun _ _=>⟨h2,fun k q=>(hk k q).imp id fun z=>Nat.le_trans h.le z⟩,fun q=> ?_,fun q=> ?_,h.h,fun q=>(by have q:d 7=true:=q;rw [h7]at q;cases q)⟩
 ·have q:d 7=true:=q
  rw [h7]at q;cases q
 ·obtain⟨g,e1,e2,e3,e4,e5⟩:=h.g q
  have hne:v0.ownBlock≠some g:=fun z=>by
   rcases h.h with y | ⟨k,y1,y2⟩
   ·rw [y]at z;cases z
   ·rw [y1]at z;injection z with z;omega
  refine⟨g,e1,e2,Nat.lt_of_lt_of_le e3 h3.size,fun j x hx=>by rw [World.cell?_of_block (w:=w) (h3.block g e3 (fun z=>hne z.symm))];exact e4 j x hx,fun _ _ z=> ?_,fun z=> ?_⟩
  ·rcases hk g z with y | y
   ·exact hne y
   ·omega
  ·have z:d 7=true:=z
   rw [h7]at z;cases z
theorem JL.app2 {v':Value} (h:JL W n v0 B l tw st lb d u w) (h4:d 4=true) (h7:d 7=false) (h2:Pk w' B 1 v' (n+2+16) (ints .u8 l++ints .u8 tw++ints .u8 st)) (h3:w.grownBy w' (u 106).ownBlock) (hk:∀j,v'.ownBlock=some j->(u 106).ownBlock=some j\/w.heap.size<=j):Kq (fun k=>v0.ownBlock=some k\/W<=k) w w'/\JL W n v0 B l tw st lb (upd d 7) (updv (some 109) u v') w':=by
 refine⟨Kq.grown h3 (h.c h4 h7).2,Nat.le_trans h.le h3.size,h.bw,fun q=> ?_,fun _ q=> ?_,fun _ q=>(by cases q),fun _=>h2,fun q=> ?_,h.h,fun _ k q=> ?_⟩
 ·have q:d 4=false:=q
  rw [h4]at q;cases q
 ·have q:d 4=false:=q
  rw [h4]at q;cases q
 ·obtain⟨g,e1,e2,e3,e4,e5,_⟩:=h.g q
  have hne:=e5 h4 h7
  refine⟨g,e1,e2,Nat.lt_of_lt_of_le e3 h3.size,fun j x hx=>by rw [World.cell?_of_block (w:=w) (h3.block g e3 (fun z=>hne z.symm))];exact e4 j x hx,fun _ z=>(by cases z),fun _ z=> ?_⟩
  rcases hk g z with y | y
  ·exact hne y
  ·omega
 ·rcases hk k q with y | y
  ·exact(h.c h4 h7).2 k y
  ·exact .inr (Nat.le_trans h.le y)
end
end Go.Proofs.Bl
namespace Go.Proofs.YtglenbikdahgjaaGreatDoor
open Go Go.RowKit Go.Proofs Go.Proofs.Bl
theorem rtwo2_any (x:Int) (w:World) (h0:0<=x) (h1:x<=65535):
  Calls Tryz.prog 105 #[.int .i64 x] w fun e w'=>∃b o c,e= .returned (.slice (some ⟨b,o,none⟩) 2 c)/\w'.rangeAt b o (ints .u8 (twoL x))/\Ext w w':=
 (rtwo_any x w h0 h1).mono fun _ _ ⟨v,h1,h2,h4⟩=>by
  obtain⟨b,o,c,h5,h6⟩:=slb_pos h2 (show 0 < 2 by decide)
  have h5:v= .slice (some ⟨b,o,none⟩) 2 c:=h5
  subst h5
  exact⟨b,o,c,h1,h6,h4⟩
theorem rlaid1_any (v:Value) (l:Bl.LT) (w:World) (h:LtV w v l) (hk:l.kind=1) (hn:numOk l=true) (hz:sizOk l=true):
  Calls Tryz.prog 60 #[v] w fun e w'=>∃v',e= .returned v'/\Rd w' .u8 v' (bytL l)/\Ext w w':=by
 obtain⟨cs0,vp,vs,vb,L,rfl,hc⟩:=h
 obtain rfl:=hc.eq
 obtain⟨hid,hoj,hnt⟩:=numOk_id hn
 obtain⟨kd,id,oj,pl,sh,fr,ct,bl,cd⟩:=l
 obtain⟨p1,c1,e1,hc1,hm1⟩:=hc.pl.form
 obtain⟨p2,c2,e2,hc2,hm2⟩:=hc.sh.rd.form
 obtain⟨p3,c3,e3,hc3,hm3⟩:=hc.bl.form
 have Hpl:Hid (Rd w .i64 vp pl):=Bl.hid hc.pl
 have Hsh:=Bl.hid hc.sh
 have Hsl:Hid (L.map plS=sh):=Bl.hid hc.sl
 have Hbl:Hid (Rdss w vb bl):=Bl.hid hc.bl
 simp only at e1 e2 e3 hk hid hoj hc1 hc3
 subst e1 e2 e3
 clear hc hn
 unfold maxLen at hm1 hm2 hm3
 obtain⟨np,hnp⟩:∃np,np=pl.length:=⟨_,rfl⟩
 obtain⟨ns,hns⟩:∃ns,ns=L.length:=⟨_,rfl⟩
 obtain⟨nb,hnb⟩:∃nb,nb=bl.length:=⟨_,rfl⟩
 have Hnp:=Bl.hid hnp
 have Hns:=Bl.hid hns
 have Hnb:=Bl.hid hnb
 rw [<-hnp]at Hpl hc1⊢
 rw [<-hns]at Hsh hc2⊢
 rw [<-hnb]at Hbl hc3⊢
 clear hnp hns hnb
 have Hnt:=Bl.hid hnt
 have Hz:=Bl.hid hz
 clear hnt hz
 subst hk
 obtain⟨W0,hW0⟩:∃W0,W0=w.alloc (.cells #[.int .i64 1,.int .i64 id,.int .i64 oj,.slice p1 np c1,.slice p2 ns c2,.int .i64 fr,.int .i64 ct,.slice p3 nb c3,.int .i64 cd] 43):=⟨_,rfl⟩
 have HE0:Hid (Ext w W0):=Bl.hid (by rw [hW0];exact ext_alloc _ _)
 obtain⟨CS,hCS⟩:∃CS,CS=cL ⟨1,id,oj,pl,sh,fr,ct,bl,cd⟩ (.slice p1 np c1) (.slice p2 ns c2) (.slice p3 nb c3):=⟨_,rfl⟩
 have HB:Hid (BoxC W0 w.heap.size CS):=Bl.hid (by rw [hW0,hCS];exact BoxC.box w 43 (cs:=(cL ⟨1,id,oj,pl,sh,fr,ct,bl,cd⟩ (.slice p1 np c1) (.slice p2 ns c2) (.slice p3 nb c3))) (fun h=>by cases h))
 have HC:Hid (CS[0]? =some (.int .i64 1)/\CS[1]? =some (.int .i64 id)/\CS[2]? =some (.int .i64 oj)/\CS[3]? =some (.slice p1 np c1)/\CS[4]? =some (.slice p2 ns c2)/\CS[5]? =some (.int .i64 fr)/\CS[6]? =some (.int .i64 ct)/\CS[7]? =some (.slice p3 nb c3)/\CS[8]? =some (.int .i64 cd)):=Bl.hid (by rw [hCS];exact⟨rfl,rfl,rfl,rfl,rfl,rfl,rfl,rfl,rfl⟩)
 show Calls Tryz.prog 60 #[.agg #[.int .i64 1,.int .i64 id,.int .i64 oj,.slice p1 np c1,.slice p2 ns c2,.int .i64 fr,.int .i64 ct,.slice p3 nb c3,.int .i64 cd]] w _
 obtain⟨hi1,hi2⟩:=hid
 obtain⟨hj1,hj2⟩:=hoj
 have hwk:IntKind.u8.wrap 1=1:=rfl
 clear hCS
 go_enter Tryz.func60,Tryz.ntmps60
 go_wp2_with fail
 rw [<-hW0]
 clear hW0
 apply wp_region_ev 7 [12,13,14,15,16,17,18] [eqv _,eqv _,eqv _,(fun v w'=>Pk w' (w.heap.size+1) 1 v 1 [.int .u8 1]),eqv _,eqv _,(fun v w'=>SlB w' v (numL id))] (by kernel_rfl) (by kernel_rfl) (by kernel_rfl) (by kernel_rfl)
 case hsteps=>
  refine⟨?_,?_,?_,?_,?_,?_,?_,trivial⟩
  all_goals
   intro ev w1 hext hb hd
   have e1:=hb 1 (by decide)
   clear hb
   simp only [Qa,Qb,Q1,Bl.Q2,Qd]at e1
   simp only [DepsE,Q1,Bl.Q2,Qc,Q3,Q4,eqv,and_true]at hd
   have hc:=(bcell hext).1
   have q0:=(HB.out.ext hext).cell HC.out.1
   have q1:=(HB.out.ext hext).cell HC.out.2.1
   simp only [Bl.Good,Region.wanted,if_true]
   go_simp
   first | exact⟨ext_alloc _ _,pk_new1 _ _ _ (HB.out.ext hext).lt⟩ | (go_at_call 104;(with_reducible refine(rnumber_any id w1 hi1 hi2).mono ?_);rintro e w2 ⟨v',rfl,h1,h2⟩;exact⟨_,rfl,h2,h1⟩) | exact⟨Below.refl _ _,by rw [hwk];rfl⟩ | exact⟨Below.refl _ _,rfl⟩
 case hmono=>exact⟨mono_eqv _,mono_eqv _,mono_eqv _,(fun _ _ _ h k=>Pk.ext h k),mono_eqv _,mono_eqv _,(fun _ _ _ h k=>SlB.ext h k),trivial⟩
 case hend=>
  intro u w1 hext hend
  simp only [EndE,Q1,Bl.Q2,Qc,Q3,Q4,eqv,true_and]at hend
  simp only [fillAct,Q5,Q6,Q7,Q8,Q9,hend]
  have hp15:Pk w1 (w.heap.size+1) 1 (u 15) 1 [.int .u8 1]:=(by first | ((repeat(first | exact hend | exact hend.2 | replace hend:=hend.1));done) | (repeat(first | exact hend | exact hend.1 | replace hend:=hend.2)))
  have hs18:SlB w1 (u 18) (numL id):=(by first | ((repeat(first | exact hend | exact hend.2 | replace hend:=hend.1));done) | (repeat(first | exact hend | exact hend.1 | replace hend:=hend.2)))
  obtain⟨b18,o18,c18,hv18',hr18⟩:=slb_pos hs18 (show 0 < 8 by decide)
  have hv18:u 18= .slice (some ⟨b18,o18,none⟩) 8 c18:=hv18'
  have HA0:Hid (Bl.Acc w CS w1 (u 15) 1 [1]):=Bl.hid ⟨HB.out.ext hext,hp15,HE0.out.trans hext⟩
  obtain⟨v15,hv15⟩:∃v15,v15=u 15:=⟨_,rfl⟩
  rw [<-hv15]at HA0
  rw [<-hv15,hv18]
  have R18:=Bl.hid hr18
  clear hp15 hs18 hv18 hv18' hr18 hv15 hend hext HB hwk HE0
  obtain⟨p15,c15,rfl⟩:=HA0.out.form
  go_wp2_with (with_reducible refine stop_append ?_)
  refine go_on ?_
  refine wpL_appPk tBytes HA0.out.own R18.out rfl (ints_one _ _) (by decide) (by decide) (by decide) HA0.out.le rfl rfl ?_
  intro vHA1 wHA1 hp hg hk
  have h:Bl.Acc w CS wHA1 vHA1 (9) (1 :: numL id):=HA0.out.push hp hg
  obtain⟨pHA1,cHA1,rfl⟩:=h.form
  have HA1:=Bl.hid h
  clear hp hg hk h HA0
  have q2:=HA1.out.box.cell HC.out.2.2.1
  go_wp2_with fail
  refine(rnumber_any oj _ hj1 hj2).mono ?_
  rintro e wx ⟨vx,rfl,hsx,hEx⟩
  obtain⟨bx,ox,cx,hvx',hrx⟩:=slb_pos hsx (show 0 < 8 by decide)
  have hvx:vx= .slice (some ⟨bx,ox,none⟩) 8 cx:=hvx'
  clear hvx'
  subst hvx
  have HAx:=Bl.hid (HA1.out.ext' hEx)
  have Rx:=Bl.hid hrx
  clear hsx hEx hrx q2 HA1
  go_wp2_with (with_reducible refine stop_append ?_)
  refine go_on ?_
  refine wpL_appPk tBytes HAx.out.own Rx.out rfl (ints_one _ _) (by decide) (by decide) (by decide) HAx.out.le rfl rfl ?_
  intro vHA2 wHA2 hp hg hk
  have h:Bl.Acc w CS wHA2 vHA2 (17) (1 :: (numL id++numL oj)):=HAx.out.push hp hg
  obtain⟨pHA2,cHA2,rfl⟩:=h.form
  have HA2:=Bl.hid h
  clear hp hg hk h HAx
  have q0:=HA2.out.box.cell HC.out.1
  ·have hnb1:Hid ((1<=nb/\nb<=512)/\∀b∈bl,badB b=false):=Bl.hid (by
    have h:(wi bl.length 1 512&& !bl.any badB)=true:=Hz.out
    rw [Bool.and_eq_true]at h
    have h1:=wi_iff.1 h.1
    exact⟨by have:=Hnb.out;omega,any_false h.2⟩)
   have hb1:(nb:Int)<=512:=by have:=hnb1.out.1.2;omega
   have hb0:(0:Int)<=(nb:Int):=by omega
   have Hfl:Hid (bl.flatten.length=nb*16):=Bl.hid (by rw [Hnb.out];exact flat_const 16 bl (fun x hx=>badB_not (hnb1.out.2 x hx)))
   have HV:Hid (bytL ⟨1,id,oj,pl,sh,fr,ct,bl,cd⟩=1 :: (numL id++numL oj)++twoL nb++bl.flatten):=Bl.hid (by unfold bytL tailL;simp [Hnb.out])
   have q7:=HA2.out.box.cell HC.out.2.2.2.2.2.2.2.1
   go_wp2_with fail
   refine(rtwo2_any (nb:Int) _ hb0 (by omega)).mono ?_
   rintro e wHB1 ⟨bHB1,oHB1,cHB1,rfl,hr,hE⟩
   have HB1:=Bl.hid (HA2.out.ext' hE)
   have RHB1:=Bl.hid hr
   clear hr hE HA2
   clear q7
   go_wp2_with (with_reducible refine stop_append ?_)
   refine go_on ?_
   refine wpL_appPk tBytes HB1.out.own RHB1.out rfl (ints_one _ _) (by decide) (by decide) (by decide) HB1.out.le rfl rfl ?_
   intro vHB2 wHB2 hp hg hk
   have h:Bl.Acc w CS wHB2 vHB2 (17+2) (1 :: (numL id++numL oj)++twoL nb):=HB1.out.push hp hg
   obtain⟨pHB2,cHB2,rfl⟩:=h.form
   have HB2:=Bl.hid h
   clear hp hg hk h HB1
   have q7:=HB2.out.box.cell HC.out.2.2.2.2.2.2.2.1
   go_wp2_with fail
   clear q7 q0
   go_loopw [3,55] (fun o i wr=>∃(k:Nat) (p:Option Addr) (c:Nat),k<=nb/\i= .int .i64 k/\o= .slice p (17+2+k*16) c/\Hid (Bl.Acc w CS wr (.slice p (17+2+k*16) c) (17+2+k*16) (1 :: (numL id++numL oj)++twoL nb++(bl.take k).flatten))) (fun _ i _=>nb - (intOf i).toNat)
   case atStart=>exact⟨0,_,_,Nat.zero_le _,rfl,rfl,by rw [List.take_zero,List.flatten_nil,List.append_nil];exact HB2⟩
   case round=>
    obtain⟨k,p,c,hk,rfl,rfl,HA⟩:=hrel
    by_cases hlt:k < nb
    ·have hla:k < bl.length:=by rw [<-Hnb.out];exact hlt
     obtain⟨vsb,hvb,hvl,hvs⟩:=Hbl.out.ext HA.out.ext
     obtain⟨gb,ob,hpb,hgb,hcell⟩:=Rdss.cell' hvb hvl k hla
     subst hpb
     have hrk:=hvs k hla
     have h16:=badB_not (hnb1.out.2 _ (getDm bl hla))
     have Htk:Hid ((bl.take (k+1)).flatten=(bl.take k).flatten++bl.getD k []):=Bl.hid (by rw [take_succ_getDD [] bl k hla];simp)
     obtain⟨y,hy⟩:∃y,y=bl.getD k []:=⟨_,rfl⟩
     rw [<-hy]at hrk h16 Htk
     obtain⟨g1,o1,cc1,hf1,_,_,_,hr1,_⟩:=Rd.pos hrk (by omega)
     rw [hf1,h16]at hcell
     have R1:=Bl.hid hr1
     have H16:=Bl.hid h16
     clear hvb hvl hvs hgb hrk h16 hy hf1 hr1
     go_wp2_with (with_reducible refine stop_append ?_)
     refine go_on ?_
     refine wpL_appPk tBytes HA.out.own R1.out (by rw [ints_length,H16.out]) (ints_one _ _) (by decide) (by unfold maxLen;omega) (by omega) HA.out.le rfl rfl ?_
     intro v5 w5 hp hg hkk
     have h:Bl.Acc w CS w5 v5 (17+2+k*16+16) _:=HA.out.push hp hg
     have e2:17+2+k*16+16=17+2+(k+1)*16:=by omega
     rw [e2]at h
     obtain⟨p5,c5,rfl⟩:=h.form
     have H5:=Bl.hid h
     clear hp hg hkk h e2 hcell
     go_wp2_with fail
     go_roundw
     case rel=>exact⟨k+1,p5,c5,by omega,by go_num,rfl,Bl.hid (by rw [Htk.out,<-List.append_assoc];exact H5.out)⟩
     case measure=>simp [intOf];omega
    ·obtain rfl:k=nb:=by omega
     have q0:=HA.out.box.cell HC.out.1
     go_wp2_with fail
     go_ret
     refine⟨_,rfl,?_,HA.out.ext⟩
     have h:=HA.out
     rw [List.take_of_length_le (by rw [<-Hnb.out];exact Nat.le_refl _)]at h
     rw [HV.out]
     exact h.rd (by rw [List.length_append,Hfl.out];rfl)
end Go.Proofs.YtglenbikdahgjaaGreatDoor
