/- Walk of alive. -/
import Derived.Test.YtglenbikdahgjaaGreatDoorPk37
import Derived.Test.YtglenbikdahgjaaGreatDoorPk38
import Derived.Test.YtglenbikdahgjaaGreatDoorPk17
import Derived.Test.YtglenbikdahgjaaGreatDoorPk06
import Derived.Test.YtglenbikdahgjaaGreatDoorPk27
import Derived.Test.YtglenbikdahgjaaGreatDoorPk22
set_option maxRecDepth 100000
set_option maxHeartbeats 16000000
namespace Go.Proofs.YtglenbikdahgjaaGreatDoor
open Go Go.RowKit Go.Proofs Go.Proofs.Bl
theorem bendA7 (at' y:Int) (v:Value) (l:Bl.LT) (w:World) (h:LtV w v l) (hLg:LgL l) (hid: -1125899906842624<=l.id/\l.id<=1125899906842624):
  Calls Tryz.prog 33 #[v,.agg #[.int .i64 7,.int .i64 at',.int .i64 y]] w fun e w'=>BeR 7 at' y l w e w':=by
 obtain⟨cs0,vp0,vs0,vb0,L0,rfl,hc⟩:=h
 obtain rfl:=hc.eq
 have HC:Hid (LtV w (.agg (cL l vp0 vs0 vb0).toArray) l):=Bl.hid ⟨_,vp0,vs0,vb0,L0,rfl,hc⟩
 have hone0:∀c∈cL l vp0 vs0 vb0,c.oneCell'=true:=hc.one
 have HLg:=Bl.hid hLg
 have Hid':=Bl.hid hid
 obtain⟨P,hP⟩:∃z,z=w.heap.size:=⟨_,rfl⟩
 obtain⟨Q,hQ⟩:∃z,z=w.heap.size+1:=⟨_,rfl⟩
 obtain⟨R,hR⟩:∃z,z=w.heap.size+1+1:=⟨_,rfl⟩
 obtain⟨W3,hW3⟩:∃W,W=((w.alloc (.cells (cL l vp0 vs0 vb0).toArray 26)).alloc (.cells #[.int .i64 7,.int .i64 at',.int .i64 y] 65)).alloc (.cells zL 26):=⟨_,rfl⟩
 have hs1:(w.alloc (.cells (cL l vp0 vs0 vb0).toArray 26)).heap.size=w.heap.size+1:=World.size_alloc _ _
 have hs2:((w.alloc (.cells (cL l vp0 vs0 vb0).toArray 26)).alloc (.cells #[.int .i64 7,.int .i64 at',.int .i64 y] 65)).heap.size=w.heap.size+1+1:=by rw [World.size_alloc,hs1]
 have hE3:Ext w W3:=by rw [hW3];exact((ext_alloc _ _).trans (ext_alloc _ _)).trans (ext_alloc _ _)
 have hBP:BoxC W3 P (cL l vp0 vs0 vb0):=by
  rw [hW3,hP];exact((BoxC.box w 26 (cL_ne _ _ _ _)).ext (ext_alloc _ _)).ext (ext_alloc _ _)
 have hBQ:BoxC W3 Q [.int .i64 7,.int .i64 at',.int .i64 y]:=by
  have h:=BoxC.box (cs:=[.int .i64 7,.int .i64 at',.int .i64 y]) (w.alloc (.cells (cL l vp0 vs0 vb0).toArray 26)) 65 (fun q=>by cases q)
  rw [hs1,<-hQ]at h
  rw [hW3];exact h.ext (ext_alloc _ _)
 have hBR:BoxC W3 R zL.toList:=by
  have h:=BoxC.box (cs:=zL.toList) ((w.alloc (.cells (cL l vp0 vs0 vb0).toArray 26)).alloc (.cells #[.int .i64 7,.int .i64 at',.int .i64 y] 65)) 26 (fun q=>by cases q)
  rw [hs2,<-hR]at h
  rw [hW3];exact h
 have HPQ:Hid (P=w.heap.size/\Q=w.heap.size+1/\R=w.heap.size+1+1/\R < W3.heap.size):=Bl.hid ⟨hP,hQ,hR,hBR.lt⟩
 have HE3:=Bl.hid hE3
 have HBP:=Bl.hid hBP
 have HBQ:=Bl.hid hBQ
 have HBR:=Bl.hid hBR
 have Hl0:=Bl.hid (hBP.load (P:=Tryz.prog) Tryz.underlying26 rfl (by kernel_rfl))
 have HAp:=Bl.hid (apart_any (.agg (cL l vp0 vs0 vb0).toArray) l W3 (HC.out.ext hE3) hLg)
 unfold cL at hW3
 clear hs1 hs2 hE3 hBP hBQ hBR hc hLg hid hone0
 show Calls Tryz.prog 33 #[.agg #[.int .i64 l.kind,.int .i64 l.id,.int .i64 l.obj,vp0,vs0,.int .i64 l.frm,.int .i64 l.cnt,vb0,.int .i64 l.code],.agg #[.int .i64 7,.int .i64 at',.int .i64 y]] w _
 go_enter Tryz.func33,Tryz.ntmps33
 go_wp2_with (with_reducible refine stop_load (ty:=26) ?_)
 refine go_on ?_
 rw [<-hW3,<-hR,<-hQ,<-hP]
 clear hW3 hR hQ hP
 refine wpL_load rfl Hl0.out ?_
 go_wp2_with fail
 refine HAp.out.mono ?_
 rintro e w4 ⟨vp,vs,vb,L,M,N1,N2,N3,N4,N5,rfl,hA,hE4⟩
 obtain⟨o1,o2,o3,o4,o5,o6⟩:=hA.ords
 have hF:=hA.ltf
 have hone:=hF.ltc.one
 have hBP4:=HBP.out.ext hE4
 have Hst:=Bl.hid (hBP4.store (P:=Tryz.prog) (cs':=cL l vp vs vb) rfl hone (ty:=26) (by kernel_rfl))
 obtain⟨B,hB⟩:∃z,z=W3.heap.size:=⟨_,rfl⟩
 rw [<-hB]at hA hF o1
 obtain⟨w5,hw5⟩:∃W,W=w4.setCells P 0 (cL l vp vs vb):=⟨_,rfl⟩
 have hK5:Kq (fun k=>k=P) w4 w5:=by rw [hw5];exact(Kq.refl w4).setCells (Q:=fun k=>k=P) rfl 0 _
 have HX:Hid (P=w.heap.size/\Q=w.heap.size+1/\R=w.heap.size+1+1/\R < B/\B=W3.heap.size):=Bl.hid ⟨HPQ.out.1,HPQ.out.2.1,HPQ.out.2.2.1,by rw [hB];exact HPQ.out.2.2.2,hB⟩
 have HBP5:Hid (BoxC w5 P (cL l vp vs vb)):=Bl.hid (by rw [hw5];exact hBP4.set rfl)
 have HBQ5:=Bl.hid (hK5.box (by have:=HX.out;omega) (HBQ.out.ext hE4))
 have HBR5:=Bl.hid (hK5.box (by have:=HX.out;omega) (HBR.out.ext hE4))
 have HA5:=Bl.hid (hA.kept (w':=w5) (fun b h1 h2=>hK5.block b h2 (by have:=HX.out;omega)) hK5.size (Nat.le_refl B))
 have HE5:Hid (Ext w w5):=Bl.hid ((HE3.out.trans hE4).trans' (N:=w.heap.size) (hK5.mono fun k hk q=>by have:=HX.out;omega) (Nat.le_refl _))
 have HK5:Hid (Kq (fun k=>w.heap.size<=k) w w5):=Bl.hid (Kq.of_ext HE5.out)
 have Hbds:Hid (L.length<=30/\∀x∈L,x.2.1.2.length<=100):=Bl.hid ⟨by have h:=HLg.out.sh;rw [<-hA.sl,List.length_map]at h;exact h,fun x hx=>(HLg.out.st (plS x) (by rw [<-hA.sl];exact List.mem_map_of_mem hx)).1⟩
 clear hA hF hone hE4 hBP4 hB hK5 o1 o2 o3 o4 o5 o6 HPQ HE3 HBP HBQ HBR Hl0 HAp
 go_wp2_with (with_reducible refine stop_store (ty:=26) ?_)
 refine go_on ?_
 refine wpL_store0 rfl rfl Hst.out ?_
 rw [<-hw5]
 clear hw5 Hst
 have qk:=HBQ5.out.cell (i:=0) rfl
 have qi:=HBP5.out.cell (i:=1) rfl
 have fi:=HBP5.out.fz (i:=1) (show 1 < 9 by decide)
 have HR:=Bl.hid (rest_any (l.id+1) 1099511627777 w5 (by decide) (by decide))
 have hid1:=Hid'.out.1
 have hid2:=Hid'.out.2
 go_wp2_with fail
 refine HR.out.mono ?_
 rintro e w6 ⟨rfl,hw6⟩
 subst hw6
 clear hid1 hid2
 have HBz:Hid (BoxC (w5.setCell ⟨P,1,none⟩ (.int .i64 ((l.id+1) % 1099511627777))) P (cL {l with id:=(l.id+1) % 1099511627777} vp vs vb)):=Bl.hid (HBP5.out.put (i:=1) (show 1 < 9 by decide) (.int .i64 ((l.id+1) % 1099511627777)))
 have hKs:Kq (fun k=>k=P) w5 (w5.setCell ⟨P,1,none⟩ (.int .i64 ((l.id+1) % 1099511627777))):=(Kq.refl w5).setCell (Q:=fun k=>k=P) ⟨P,1,none⟩ rfl _
 have HFz:Hid (LtF (fun b=>B<=b) (w5.setCell ⟨P,1,none⟩ (.int .i64 ((l.id+1) % 1099511627777))) {l with id:=(l.id+1) % 1099511627777} vp vs vb L):=Bl.hid (by
  have h:=HA5.out.ltf.kept (w':=w5.setCell ⟨P,1,none⟩ (.int .i64 ((l.id+1) % 1099511627777))) (F':=fun b=>B<=b) fun b hb hl=>⟨hb,hKs.block b hl (by have:=HX.out;omega)⟩
  exact⟨h.pl,h.sh,h.so,h.sl,h.bl⟩)
 have HBRz:=Bl.hid (hKs.box (by have:=HX.out;omega) HBR5.out)
 have HKz:Hid (Kq (fun k=>w.heap.size<=k) w (w5.setCell ⟨P,1,none⟩ (.int .i64 ((l.id+1) % 1099511627777)))):=Bl.hid (HK5.out.trans (hKs.mono fun k hk q=>by have:=HX.out;omega))
 clear hKs
 have Hl9:=Bl.hid (HBz.out.load (P:=Tryz.prog) Tryz.underlying26 rfl (by kernel_rfl))
 have hone9:=HFz.out.ltc.one
 have Hst9:=Bl.hid (HBRz.out.store (P:=Tryz.prog) (cs':=cL {l with id:=(l.id+1) % 1099511627777} vp vs vb) rfl hone9 (ty:=26) (by kernel_rfl))
 have HBR9:=Bl.hid (HBRz.out.set (cs':=cL {l with id:=(l.id+1) % 1099511627777} vp vs vb) rfl)
 have HK9:=Bl.hid ((Kq.refl (w5.setCell ⟨P,1,none⟩ (.int .i64 ((l.id+1) % 1099511627777)))).setCells (Q:=fun k=>k=R) rfl 0 (cL {l with id:=(l.id+1) % 1099511627777} vp vs vb))
 have HE9:=Bl.hid (HKz.out.trans (HK9.out.mono (Q':=fun k=>w.heap.size<=k) fun k hk q=>by have:=HX.out;omega))
 clear hone9
 go_wp2_with (with_reducible refine stop_load (ty:=26) ?_)
 refine go_on ?_
 refine wpL_load rfl Hl9.out ?_
 go_wp2_with (with_reducible refine stop_store (ty:=26) ?_)
 refine go_on ?_
 refine wpL_store0 rfl rfl Hst9.out ?_
 go_wp2_with fail
 refine bodyPost_ret (v:= .tuple #[.agg (cL {l with id:=(l.id+1) % 1099511627777} vp vs vb).toArray,.bool true]) (results_cell2 rfl rfl (HBR9.out.loadVar (P:=Tryz.prog) Tryz.underlying26 rfl (by kernel_rfl)) rfl) rfl ?_
 have hsp:=(show bendL 7 at' y l=({l with id:=(l.id+1) % 1099511627777},true)from rfl)
 unfold BeR
 rw [hsp]
 exact⟨_,rfl,⟨_,_,_,_,_,rfl,(HFz.out.kept (F':=fun k=>B<=k) fun k hk hlk=>⟨hk,HK9.out.block k hlk (by have:=HX.out;omega)⟩).ltc⟩,HE9.out.ext fun k q=>q⟩
theorem bendA9 (at' y:Int) (v:Value) (l:Bl.LT) (w:World) (h:LtV w v l) (hLg:LgL l) (hid: -1125899906842624<=l.id/\l.id<=1125899906842624):
  Calls Tryz.prog 33 #[v,.agg #[.int .i64 9,.int .i64 at',.int .i64 y]] w fun e w'=>BeR 9 at' y l w e w':=by
 obtain⟨cs0,vp0,vs0,vb0,L0,rfl,hc⟩:=h
 obtain rfl:=hc.eq
 have HC:Hid (LtV w (.agg (cL l vp0 vs0 vb0).toArray) l):=Bl.hid ⟨_,vp0,vs0,vb0,L0,rfl,hc⟩
 have hone0:∀c∈cL l vp0 vs0 vb0,c.oneCell'=true:=hc.one
 have HLg:=Bl.hid hLg
 have Hid':=Bl.hid hid
 obtain⟨P,hP⟩:∃z,z=w.heap.size:=⟨_,rfl⟩
 obtain⟨Q,hQ⟩:∃z,z=w.heap.size+1:=⟨_,rfl⟩
 obtain⟨R,hR⟩:∃z,z=w.heap.size+1+1:=⟨_,rfl⟩
 obtain⟨W3,hW3⟩:∃W,W=((w.alloc (.cells (cL l vp0 vs0 vb0).toArray 26)).alloc (.cells #[.int .i64 9,.int .i64 at',.int .i64 y] 65)).alloc (.cells zL 26):=⟨_,rfl⟩
 have hs1:(w.alloc (.cells (cL l vp0 vs0 vb0).toArray 26)).heap.size=w.heap.size+1:=World.size_alloc _ _
 have hs2:((w.alloc (.cells (cL l vp0 vs0 vb0).toArray 26)).alloc (.cells #[.int .i64 9,.int .i64 at',.int .i64 y] 65)).heap.size=w.heap.size+1+1:=by rw [World.size_alloc,hs1]
 have hE3:Ext w W3:=by rw [hW3];exact((ext_alloc _ _).trans (ext_alloc _ _)).trans (ext_alloc _ _)
 have hBP:BoxC W3 P (cL l vp0 vs0 vb0):=by
  rw [hW3,hP];exact((BoxC.box w 26 (cL_ne _ _ _ _)).ext (ext_alloc _ _)).ext (ext_alloc _ _)
 have hBQ:BoxC W3 Q [.int .i64 9,.int .i64 at',.int .i64 y]:=by
  have h:=BoxC.box (cs:=[.int .i64 9,.int .i64 at',.int .i64 y]) (w.alloc (.cells (cL l vp0 vs0 vb0).toArray 26)) 65 (fun q=>by cases q)
  rw [hs1,<-hQ]at h
  rw [hW3];exact h.ext (ext_alloc _ _)
 have hBR:BoxC W3 R zL.toList:=by
  have h:=BoxC.box (cs:=zL.toList) ((w.alloc (.cells (cL l vp0 vs0 vb0).toArray 26)).alloc (.cells #[.int .i64 9,.int .i64 at',.int .i64 y] 65)) 26 (fun q=>by cases q)
  rw [hs2,<-hR]at h
  rw [hW3];exact h
 have HPQ:Hid (P=w.heap.size/\Q=w.heap.size+1/\R=w.heap.size+1+1/\R < W3.heap.size):=Bl.hid ⟨hP,hQ,hR,hBR.lt⟩
 have HE3:=Bl.hid hE3
 have HBP:=Bl.hid hBP
 have HBQ:=Bl.hid hBQ
 have HBR:=Bl.hid hBR
 have Hl0:=Bl.hid (hBP.load (P:=Tryz.prog) Tryz.underlying26 rfl (by kernel_rfl))
 have HAp:=Bl.hid (apart_any (.agg (cL l vp0 vs0 vb0).toArray) l W3 (HC.out.ext hE3) hLg)
 unfold cL at hW3
 clear hs1 hs2 hE3 hBP hBQ hBR hc hLg hid hone0
 show Calls Tryz.prog 33 #[.agg #[.int .i64 l.kind,.int .i64 l.id,.int .i64 l.obj,vp0,vs0,.int .i64 l.frm,.int .i64 l.cnt,vb0,.int .i64 l.code],.agg #[.int .i64 9,.int .i64 at',.int .i64 y]] w _
 go_enter Tryz.func33,Tryz.ntmps33
 go_wp2_with (with_reducible refine stop_load (ty:=26) ?_)
 refine go_on ?_
 rw [<-hW3,<-hR,<-hQ,<-hP]
 clear hW3 hR hQ hP
 refine wpL_load rfl Hl0.out ?_
 go_wp2_with fail
 refine HAp.out.mono ?_
 rintro e w4 ⟨vp,vs,vb,L,M,N1,N2,N3,N4,N5,rfl,hA,hE4⟩
 obtain⟨o1,o2,o3,o4,o5,o6⟩:=hA.ords
 have hF:=hA.ltf
 have hone:=hF.ltc.one
 have hBP4:=HBP.out.ext hE4
 have Hst:=Bl.hid (hBP4.store (P:=Tryz.prog) (cs':=cL l vp vs vb) rfl hone (ty:=26) (by kernel_rfl))
 obtain⟨B,hB⟩:∃z,z=W3.heap.size:=⟨_,rfl⟩
 rw [<-hB]at hA hF o1
 obtain⟨w5,hw5⟩:∃W,W=w4.setCells P 0 (cL l vp vs vb):=⟨_,rfl⟩
 have hK5:Kq (fun k=>k=P) w4 w5:=by rw [hw5];exact(Kq.refl w4).setCells (Q:=fun k=>k=P) rfl 0 _
 have HX:Hid (P=w.heap.size/\Q=w.heap.size+1/\R=w.heap.size+1+1/\R < B/\B=W3.heap.size):=Bl.hid ⟨HPQ.out.1,HPQ.out.2.1,HPQ.out.2.2.1,by rw [hB];exact HPQ.out.2.2.2,hB⟩
 have HBP5:Hid (BoxC w5 P (cL l vp vs vb)):=Bl.hid (by rw [hw5];exact hBP4.set rfl)
 have HBQ5:=Bl.hid (hK5.box (by have:=HX.out;omega) (HBQ.out.ext hE4))
 have HBR5:=Bl.hid (hK5.box (by have:=HX.out;omega) (HBR.out.ext hE4))
 have HA5:=Bl.hid (hA.kept (w':=w5) (fun b h1 h2=>hK5.block b h2 (by have:=HX.out;omega)) hK5.size (Nat.le_refl B))
 have HE5:Hid (Ext w w5):=Bl.hid ((HE3.out.trans hE4).trans' (N:=w.heap.size) (hK5.mono fun k hk q=>by have:=HX.out;omega) (Nat.le_refl _))
 have HK5:Hid (Kq (fun k=>w.heap.size<=k) w w5):=Bl.hid (Kq.of_ext HE5.out)
 have Hbds:Hid (L.length<=30/\∀x∈L,x.2.1.2.length<=100):=Bl.hid ⟨by have h:=HLg.out.sh;rw [<-hA.sl,List.length_map]at h;exact h,fun x hx=>(HLg.out.st (plS x) (by rw [<-hA.sl];exact List.mem_map_of_mem hx)).1⟩
 clear hA hF hone hE4 hBP4 hB hK5 o1 o2 o3 o4 o5 o6 HPQ HE3 HBP HBQ HBR Hl0 HAp
 go_wp2_with (with_reducible refine stop_store (ty:=26) ?_)
 refine go_on ?_
 refine wpL_store0 rfl rfl Hst.out ?_
 rw [<-hw5]
 clear hw5 Hst
 have qk:=HBQ5.out.cell (i:=0) rfl
 have hz:∀c∈zL.toList,c.oneCell'=true:=fun c hc=>by
  simp only [List.mem_cons,List.not_mem_nil,or_false]at hc
  rcases hc with rfl | rfl | rfl | rfl | rfl | rfl | rfl | rfl | rfl<;>rfl
 have Hst9:=Bl.hid (HBR5.out.store (P:=Tryz.prog) (cs':=zL.toList) rfl hz (ty:=26) (by kernel_rfl))
 have HBR9:=Bl.hid (HBR5.out.set (cs':=zL.toList) rfl)
 have HE9:=Bl.hid (HK5.out.setCells (g:=R) (by have:=HX.out;omega) 0 zL.toList)
 clear hz
 go_wp2_with (with_reducible refine stop_store (ty:=26) ?_)
 refine go_on ?_
 refine wpL_store0 rfl rfl Hst9.out ?_
 go_wp2_with fail
 refine bodyPost_ret (v:= .tuple #[.agg zL,.bool false]) (results_cell2 rfl rfl (HBR9.out.loadVar (P:=Tryz.prog) Tryz.underlying26 rfl (by kernel_rfl)) rfl) rfl ?_
 exact⟨_,rfl,LtV.zero _,HE9.out.ext fun k q=>q⟩
theorem bareA_lt (w:World) (k i:Int):LtV w (.agg #[.int .i64 k,.int .i64 i,.int .i64 0,.slice none 0 0,.slice none 0 0,.int .i64 0,.int .i64 0,.slice none 0 0,.int .i64 0]) ⟨k,i,0,[],[],0,0,[],0⟩:=
 ⟨_,_,_,_,[],rfl,rfl,Rds.nil _,RdS.nil _,rfl,Rdss.nil _,fun b hb=>by cases hb⟩
theorem bareA_lg (k i:Int):LgL ⟨k,i,0,[],[],0,0,[],0⟩:=⟨Nat.zero_le _,Nat.zero_le _,Nat.zero_le _,fun s hs=>(by cases hs),fun s hs=>(by cases hs)⟩
theorem aliveA (w:World) (hg:GlobW w):Calls Tryz.prog 6 #[] w fun e w'=>e= .returned (.bool true)/\Ext w w':=by
 have HB9:Hid (∀w2,Calls Tryz.prog 33 #[.agg #[.int .i64 2,.int .i64 0,.int .i64 0,.slice none 0 0,.slice none 0 0,.int .i64 0,.int .i64 0,.slice none 0 0,.int .i64 0],.agg #[.int .i64 9,.int .i64 0,.int .i64 0]] w2 fun e w'=>∃v',e= .returned (.tuple #[v',.bool false])/\LtV w' v' lt0/\Ext w2 w'):=Bl.hid fun w2=>bendA9 0 0 _ ⟨2,0,0,[],[],0,0,[],0⟩ w2 (bareA_lt w2 2 0) (bareA_lg 2 0) (by decide)
 have HB7:Hid (∀w2,Calls Tryz.prog 33 #[.agg #[.int .i64 2,.int .i64 3,.int .i64 0,.slice none 0 0,.slice none 0 0,.int .i64 0,.int .i64 0,.slice none 0 0,.int .i64 0],.agg #[.int .i64 7,.int .i64 0,.int .i64 0]] w2 fun e w'=>∃v',e= .returned (.tuple #[v',.bool true])/\LtV w' v' ⟨2,4,0,[],[],0,0,[],0⟩/\Ext w2 w'):=Bl.hid fun w2=>bendA7 0 0 _ ⟨2,3,0,[],[],0,0,[],0⟩ w2 (bareA_lt w2 2 3) (bareA_lg 2 3) (by decide)
 have HWd:Hid (∀w2,Ext w w2->Calls Tryz.prog 34 #[.int .i64 9] w2 fun e w'=>e= .returned (.string ⟨#[115,105,108,101,110,99,101]⟩)/\w2=w'):=Bl.hid fun w2 h=>fword_any 9 w2 (hg.ext h)
 clear hg
 go_enter Tryz.func6,Tryz.ntmps6
 go_wp2_with fail
 refine(HB9.out w).mono ?_
 rintro e w2 ⟨v2,rfl,⟨cs2,p2,s2,b2,L2,rfl,hc2⟩,hE2⟩
 obtain rfl:=hc2.eq
 obtain⟨hB3,hE3⟩:=BoxC.fresh (cs:=(cL lt0 p2 s2 b2)) w2 26 zL rfl (cL_ne _ _ _ _)
 have Hst3:=Bl.hid (fresh_store (P:=Tryz.prog) (cs:=(cL lt0 p2 s2 b2)) w2 26 zL rfl hc2.one (ty:=26) (by kernel_rfl))
 have HB3:=Bl.hid hB3
 have HE3:=Bl.hid (hE2.trans hE3)
 clear hB3 hE3 hc2
 go_wp2_with (with_reducible refine stop_store (ty:=26) ?_)
 refine go_on ?_
 refine wpL_store0 rfl rfl Hst3.out ?_
 obtain⟨W3,hW3⟩:∃W,W=(w2.alloc (.cells zL 26)).setCells w2.heap.size 0 (cL lt0 p2 s2 b2):=⟨_,rfl⟩
 obtain⟨D3,hD3⟩:∃D,D=w2.heap.size:=⟨_,rfl⟩
 rw [<-hW3]at HB3 HE3⊢
 rw [<-hD3]at HB3⊢
 clear hW3 hD3 Hst3
 go_wp2_with fail
 refine(HB7.out W3).mono ?_
 rintro e w4 ⟨v4,rfl,⟨cs4,p4,s4,b4,L4,rfl,hc4⟩,hE4⟩
 obtain rfl:=hc4.eq
 have HE4:=Bl.hid (HE3.out.trans hE4)
 clear hE4
 obtain⟨hB5,hE5⟩:=BoxC.fresh (cs:=(cL ⟨2,4,0,[],[],0,0,[],0⟩ p4 s4 b4)) w4 26 zL rfl (cL_ne _ _ _ _)
 have Hst5:=Bl.hid (fresh_store (P:=Tryz.prog) (cs:=(cL ⟨2,4,0,[],[],0,0,[],0⟩ p4 s4 b4)) w4 26 zL rfl hc4.one (ty:=26) (by kernel_rfl))
 have HB5:=Bl.hid hB5
 have HE5:=Bl.hid (HE4.out.trans hE5)
 clear hB5 hE5 hc4
 go_wp2_with (with_reducible refine stop_store (ty:=26) ?_)
 refine go_on ?_
 refine wpL_store0 rfl rfl Hst5.out ?_
 obtain⟨W5,hW5⟩:∃W,W=(w4.alloc (.cells zL 26)).setCells w4.heap.size 0 (cL ⟨2,4,0,[],[],0,0,[],0⟩ p4 s4 b4):=⟨_,rfl⟩
 obtain⟨D5,hD5⟩:∃D,D=w4.heap.size:=⟨_,rfl⟩
 rw [<-hW5]at HB5 HE5⊢
 rw [<-hD5]at HB5⊢
 clear hW5 hD5 Hst5
 have qid:=HB5.out.cell (i:=1) (v:= .int .i64 4) rfl
 go_wp2_with fail
 refine(HWd.out W5 HE5.out).mono ?_
 rintro e w6 ⟨rfl,hw6⟩
 subst hw6
 go_wp2_with fail
 go_ret
 exact⟨by rfl,HE5.out⟩
end Go.Proofs.YtglenbikdahgjaaGreatDoor
namespace Go.Proofs.Bl
open Go Go.RowKit
theorem getO_one {l:LT} {bs:List (List Int)} (hl:l=⟨1,0,0,[],[],0,0,bs,0⟩) {x:Int} {all:List (List Int)} (h:getO (hanS sh0 l) x=some all):x=0/\all=bs:=by
 have hn:∀y,getO sh0 y=none:=fun y=>rfl
 unfold hanS at h
 split at h
 ·unfold putS at h
  rw [hn,if_neg (by decide)]at h
  have h2:=getO_app (s:=sh0) (n:=l.obj) (st:=l.blocks) (ids:=idsL sh0 l) (hn _) x
  rw [show(⟨sh0.objs++[(l.obj,l.blocks)],idsL sh0 l⟩:ShT)=⟨sh0.objs++[(l.obj,l.blocks)],idsL sh0 l⟩from rfl]at h
  rw [h]at h2
  by_cases hx:x=l.obj
  ·rw [if_pos hx]at h2
   refine⟨by rw [hx,hl],?_⟩
   rw [Option.some.inj h2,hl]
  ·rw [if_neg hx,hn]at h2;cases h2
 ·rw [hn]at h;cases h
theorem forL_inv {s:ShT} {l:LT} {ot:List Int} (h:(forL s l ot).2=true):l.kind=3/\chkL l=0/\ot.length=16/\∃all,getO s l.obj=some all/\(∀p∈l.places,p < (all.length:Int))/\(forL s l ot).1=ansL l (all.set (l.places.getD 0 0).toNat ot):=by
 by_cases hc:l.kind=3/\chkL l=0/\ot.length=16
 ·cases hg:getO s l.obj with
  | none=>rw [forL_none hg]at h;cases h
  | some all=>
   by_cases hp:∀p∈l.places,p < (all.length:Int)
   ·exact⟨hc.1,hc.2.1,hc.2.2,all,rfl,hp,by rw [forL_yes hc.1 hc.2.1 hc.2.2 hg hp]⟩
   ·have hf:forL s l ot=(lt0,false):=by
     unfold forL
     rw [if_pos hc,hg]
     simp only
     rw [if_neg hp]
    rw [hf]at h;cases h
 ·rw [forL_no hc]at h;cases h
theorem forL_f {s:ShT} {l:LT} {ot:List Int} (h:(forL s l ot).2=false):(forL s l ot).1=lt0:=by
 by_cases hc:l.kind=3/\chkL l=0/\ot.length=16
 ·cases hg:getO s l.obj with
  | none=>rw [forL_none hg]
  | some all=>
   by_cases hp:∀p∈l.places,p < (all.length:Int)
   ·rw [forL_yes hc.1 hc.2.1 hc.2.2 hg hp]at h;cases h
   ·unfold forL
    rw [if_pos hc,hg]
    simp only
    rw [if_neg hp]
 ·rw [forL_no hc]
theorem stok_set {st:List (List Int)} (h:StOk st) {ot:List Int} (h1:ot.length=16) (h2:Byt ot) (i:Nat):StOk (st.set i ot):=by
 obtain⟨a,b,c⟩:=h
 refine⟨by rw [List.length_set];exact a,by rw [List.length_set];exact b,fun q hq=> ?_⟩
 rcases List.mem_or_eq_of_mem_set hq with hq | rfl
 ·exact c q hq
 ·exact⟨h1,h2⟩
theorem forL_lg {s:ShT} {l:LT} {ot:List Int} (hs:ShOk s) (ho:Byt ot):(forL s l ot).1.shown.length<=1048576/\∀x∈(forL s l ot).1.shown,x.2.2.length<=1048576:=by
 cases hf:(forL s l ot).2 with
 | false=>rw [forL_f hf];exact⟨Nat.zero_le _,fun x hx=>(by cases hx)⟩
 | true=>
  obtain⟨h1,h2,h3,all,h4,h5,h6⟩:=forL_inv hf
  have hg:=ansL_lg (l:=l) (stok_set (hs.get h4) h3 ho (l.places.getD 0 0).toNat) (ask_pl h2 h1).2.1
  rw [h6]
  exact⟨by have:=hg.sh;omega,fun x hx=>by have:=(hg.st x hx).2;omega⟩
theorem chkP_parts {root:List Int} {n i:Nat} {l:List Int} {p:List (List Int)} (hn:n<=512) (hi:i < n) (h:chkP root n i l p=0):p.length=(turnsL n i).length/\foldP ndD n i (lfD l) p=root:=by
 have hth:thereB (n:Int) (i:Int)=true:=thereB_mk (by omega) (by omega) (by omega)
 have hpl:p.length=(turnsL n i).length:=by
  by_cases q:p.length=(turnsL n i).length
  ·exact q
  ·rw [chkP_size hth q]at h;cases h
 refine⟨hpl,?_⟩
 by_cases q:foldP ndD n i (lfD l) p=root
 ·exact q
 ·rw [chkP_bad hth hpl q]at h;cases h
end Go.Proofs.Bl
