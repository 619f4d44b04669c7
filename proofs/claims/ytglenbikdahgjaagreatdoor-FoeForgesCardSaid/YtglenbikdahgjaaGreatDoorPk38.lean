/- Walk of foe.apart. -/
import Derived.Test.YtglenbikdahgjaaGreatDoorPk18
import Derived.Test.YtglenbikdahgjaaGreatDoorChecked
import Derived.Test.YtglenbikdahgjaaGreatDoorPk05
set_option maxRecDepth 100000
set_option maxHeartbeats 16000000
namespace Go.Proofs.YtglenbikdahgjaaGreatDoor
open Go Go.RowKit Go.Proofs Go.Proofs.Bl
theorem apart_any (v:Value) (l:Bl.LT) (w:World) (h:LtV w v l) (hLg:LgL l):
  Calls Tryz.prog 63 #[v] w fun e w'=>∃vp vs vb L M N1 N2 N3 N4 N5,e= .returned (.agg (cL l vp vs vb).toArray)/\ApV w' w.heap.size N1 N2 N3 N4 N5 l vp vs vb L M/\Ext w w':=by
 obtain⟨cs0,vp0,vs0,vb0,L0,rfl,hc⟩:=h
 obtain rfl:=hc.eq
 have HC:=Bl.hid hc
 obtain⟨M0,hM0,hMb,hMr⟩:=rdss_bv hc.bl
 have HM0:=Bl.hid (And.intro hM0 (And.intro hMb hMr))
 have HLg:=Bl.hid hLg
 have hll:L0.length=l.shown.length:=by have:=congrArg List.length hc.sl;simpa using this
 have hml:M0.length=l.blocks.length:=by have:=congrArg List.length hMb;simpa using this
 obtain⟨n1,hn1⟩:∃n,n=l.places.length:=⟨_,rfl⟩
 obtain⟨n,hn⟩:∃n,n=L0.length:=⟨_,rfl⟩
 obtain⟨n3,hn3⟩:∃n,n=M0.length:=⟨_,rfl⟩
 have Hns:=Bl.hid (And.intro hn1 (And.intro hn hn3))
 have Hbd:Hid (n1<=100/\n<=30/\n3<=600):=Bl.hid ⟨by rw [hn1];exact hLg.pl,by rw [hn,hll];exact hLg.sh,by rw [hn3,hml];exact hLg.bl⟩
 obtain⟨P0,hP0⟩:∃P,P=w.heap.size:=⟨_,rfl⟩
 obtain⟨R0,hR0⟩:∃R,R=w.heap.size+1:=⟨_,rfl⟩
 obtain⟨W2,hW2⟩:∃W,W=(w.alloc (.cells (cL l vp0 vs0 vb0).toArray 26)).alloc (.cells zL 26):=⟨_,rfl⟩
 have hs1:(w.alloc (.cells (cL l vp0 vs0 vb0).toArray 26)).heap.size=w.heap.size+1:=World.size_alloc _ _
 have HE2:Hid (Ext w W2):=Bl.hid (by rw [hW2];exact(ext_alloc _ _).trans (ext_alloc _ _))
 have hB2:BoxC W2 P0 (cL l vp0 vs0 vb0):=by
  rw [hW2,hP0];exact(BoxC.box w 26 (cL_ne _ _ _ _)).ext (ext_alloc _ _)
 have hBR2:BoxC W2 R0 zL.toList:=by
  have h:=BoxC.box (cs:=zL.toList) (w.alloc (.cells (cL l vp0 vs0 vb0).toArray 26)) 26 (fun q=>by cases q)
  rw [hs1,<-hR0]at h
  rw [hW2];exact h
 have HB2:=Bl.hid hB2
 have HBR2:=Bl.hid hBR2
 have HPR:Hid (P0=w.heap.size/\R0=w.heap.size+1/\w.heap.size+2<=W2.heap.size):=Bl.hid ⟨hP0,hR0,by have:=hBR2.lt;omega⟩
 have q3:=HB2.out.cell (i:=3) (v:=vp0) rfl
 have HCl1:=Bl.hid (cloneI_any vp0 l.places W2 (hc.pl.ext HE2.out) (by have:=hLg.pl;omega))
 rw [<-hn1]at HCl1
 unfold cL at hW2
 clear hc hM0 hMb hMr hLg hll hml hn1 hn hn3 hs1 hB2 hBR2
 show Calls Tryz.prog 63 #[.agg #[.int .i64 l.kind,.int .i64 l.id,.int .i64 l.obj,vp0,vs0,.int .i64 l.frm,.int .i64 l.cnt,vb0,.int .i64 l.code]] w _
 go_enter Tryz.func63,Tryz.ntmps63
 go_wp2_with (with_reducible refine stop_load (ty:=23) ?_)
 refine go_on ?_
 rw [<-hW2,<-hR0,<-hP0]
 clear hW2 hP0 hR0
 go_wp2_with fail
 refine HCl1.out.mono ?_
 rintro e wa ⟨va,rfl,hown,hE⟩
 obtain⟨pa,ca,hva,_,_⟩:=(Rds.of_owns hown).form
 subst hva
 have HEa:Hid (Ext w wa):=Bl.hid (HE2.out.trans hE)
 have HBa:=Bl.hid (HB2.out.ext hE)
 have HBRa:=Bl.hid (HBR2.out.ext hE)
 have HPa:Hid (Pq (w.heap.size+2) wa.heap.size wa 1 (.slice pa n1 ca) n1 (ints .i64 l.places)):=Bl.hid ((Pq.of_owns hown).kept HPR.out.2.2 (Nat.le_refl _) (fun _ _ _=>rfl) (Nat.le_refl _))
 have qa3:=HBa.out.cell (i:=3) (v:=vp0) rfl
 have fa3:=HBa.out.fz (i:=3) (show 3 < 9 by decide)
 have HBb:Hid (BoxC (wa.setCell ⟨P0,3,none⟩ (.slice pa n1 ca)) P0 (cL l (.slice pa n1 ca) vs0 vb0)):=Bl.hid (HBa.out.put (i:=3) (show 3 < 9 by decide) (.slice pa n1 ca))
 have HKb:Hid (Kq (fun k=>k=P0) wa (wa.setCell ⟨P0,3,none⟩ (.slice pa n1 ca))):=Bl.hid ((Kq.refl wa).setCell (Q:=fun k=>k=P0) ⟨P0,3,none⟩ rfl _)
 have qb4:=HBb.out.cell (i:=4) (v:=vs0) rfl
 clear hown hE q3 HCl1 HE2 HB2 HBR2
 go_wp2_with fail
 obtain⟨wb,hwb⟩:∃W,W=wa.setCell ⟨P0,3,none⟩ (.slice pa n1 ca):=⟨_,rfl⟩
 rw [<-hwb]at HBb HKb⊢
 have HEb:Hid (Ext w wb):=Bl.hid (by rw [hwb];exact Below.setCell HEa.out (Nat.le_of_eq HPR.out.1.symm) _)
 obtain⟨N1,hN1⟩:∃N,N=wb.heap.size:=⟨_,rfl⟩
 have HN1:Hid (N1=wb.heap.size/\w.heap.size+2<=N1):=Bl.hid ⟨hN1,by have:=HKb.out.size;have:=HBRa.out.lt;have:=HPR.out;omega⟩
 have HPb:Hid (Pq (w.heap.size+2) N1 wb 1 (.slice pa n1 ca) n1 (ints .i64 l.places)):=Bl.hid (HPa.out.kept (Nat.le_refl _) (by rw [hN1];exact HKb.out.size) (fun b hb hb'=>HKb.out.block b hb' (by have:=HPR.out;omega)) HKb.out.size)
 have HBRb:=Bl.hid (HKb.out.box (by have:=HPR.out;omega) HBRa.out)
 clear hwb hN1 qa3 fa3 qb4 HBa HBRa HPa HKb HEa
 refine(cloneS_any vs0 L0 wb (Rds.ext HC.out.sh.rd HEb.out) (fun x hx=>(HC.out.sh.ok x hx).ext HEb.out) (by have:=Hbd.out;have:=Hns.out.2.1;omega)).mono ?_
 rintro e wc ⟨vc,rfl,hown,hE⟩
 rw [<-Hns.out.2.1]at hown
 obtain⟨pc,cc,hvc,_,_⟩:=(Rds.of_owns hown).form
 subst hvc
 have HEc:Hid (Ext w wc):=Bl.hid (HEb.out.trans hE)
 have HBc:=Bl.hid (HBb.out.ext hE)
 have HBRc:=Bl.hid (HBRb.out.ext hE)
 have HPc:=Bl.hid (HPb.out.kept (Nat.le_refl _) (Nat.le_refl _) (fun b _ hb'=>hE.block b (by rw [<-HN1.out.1];exact hb')) hE.size)
 have HSc:Hid (Pq N1 wc.heap.size wc 3 (.slice pc n cc) n (cellsR cS L0)):=Bl.hid ((Pq.of_owns hown).kept (by rw [HN1.out.1];exact Nat.le_refl _) (Nat.le_refl _) (fun _ _ _=>rfl) (Nat.le_refl _))
 have HNc:Hid (N1<=wc.heap.size):=Bl.hid (by rw [HN1.out.1];exact hE.size)
 have qc4:=HBc.out.cell (i:=4) (v:=vs0) rfl
 have fc4:=HBc.out.fz (i:=4) (show 4 < 9 by decide)
 have HBd:Hid (BoxC (wc.setCell ⟨P0,4,none⟩ (.slice pc n cc)) P0 (cL l (.slice pa n1 ca) (.slice pc n cc) vb0)):=Bl.hid (HBc.out.put (i:=4) (show 4 < 9 by decide) (.slice pc n cc))
 have HKd:Hid (Kq (fun k=>k=P0) wc (wc.setCell ⟨P0,4,none⟩ (.slice pc n cc))):=Bl.hid ((Kq.refl wc).setCell (Q:=fun k=>k=P0) ⟨P0,4,none⟩ rfl _)
 have qd4:=HBd.out.cell (i:=4) (v:= .slice pc n cc) rfl
 clear hown hE HBb HBRb HPb HEb
 go_wp2_with fail
 obtain⟨wd,hwd⟩:∃W,W=wc.setCell ⟨P0,4,none⟩ (.slice pc n cc):=⟨_,rfl⟩
 rw [<-hwd]at HBd HKd qd4⊢
 have HEd:Hid (Ext w wd):=Bl.hid (by rw [hwd];exact Below.setCell HEc.out (Nat.le_of_eq HPR.out.1.symm) _)
 obtain⟨N2,hN2⟩:∃N,N=wd.heap.size:=⟨_,rfl⟩
 have HN2:Hid (N2=wd.heap.size/\N1<=N2):=Bl.hid ⟨hN2,by have:=HKd.out.size;have:=HNc.out;omega⟩
 have HPd:=Bl.hid (HPc.out.kept (Nat.le_refl _) (Nat.le_refl _) (fun b hb hb'=>HKd.out.block b (by have:=HNc.out;omega) (by have:=HPR.out;omega)) HKd.out.size)
 have HSd:Hid (Pq N1 N2 wd 3 (.slice pc n cc) n (cellsR cS L0)):=Bl.hid (HSc.out.kept (Nat.le_refl _) (by rw [hN2];exact HKd.out.size) (fun b hb hb'=>HKd.out.block b hb' (by have:=HPR.out;have:=HN1.out;omega)) HKd.out.size)
 have HBRd:=Bl.hid (HKd.out.box (by have:=HPR.out;omega) HBRc.out)
 clear hwd hN2 qc4 fc4 HBc HBRc HPc HSc HKd HEc HNc
 go_loopw [18] (fun x wr=>∃(i:Nat) (L:List Sv),i<=n/\x= .int .i64 i/\Hid (Pq N1 N2 wr 3 (.slice pc n cc) n (cellsR cS L)/\Bl.Sq EP wr.heap.size wr (L.take i) N2/\L.length=n/\L.drop i=L0.drop i/\L.map plS=l.shown)/\Hid (Kq (fun k=>N1<=k) wd wr)) (fun x _=>n - (intOf x).toNat)
 case atStart=>exact⟨0,L0,Nat.zero_le _,rfl,Bl.hid ⟨HSd.out,Nat.le_of_eq HN2.out.1,Hns.out.2.1.symm,rfl,HC.out.sl⟩,Bl.hid (Kq.refl _)⟩
 case round=>
  obtain⟨i,L,hi,rfl,HI,HKr⟩:=hrel
  have HEr:Hid (Ext w wr):=Bl.hid (HEd.out.trans' HKr.out (by have:=HN1.out;omega))
  by_cases hlt:i < n
  ·have hil:i < L.length:=by rw [HI.out.2.2.1];exact hlt
   have hil0:i < L0.length:=by rw [<-Hns.out.2.1];exact hlt
   obtain⟨g,cap,hf,hg1,hg2,hg3,hg4,hrg⟩:=HI.out.1.1.form (by omega)
   injection hf with hf1 _ hf2
   subst hf1 hf2
   have hgN:g < N2:=HI.out.1.2 g rfl
   have hel:wr.rangeAt g (i*3) (cS (L.getD i s0)):=by
    have h:=elem_at s0 hrg (fun x _=>cS_len x) hil
    rwa [Nat.zero_add]at h
   have hx0:L.getD i s0=L0.getD i s0:=drop_getD s0 HI.out.2.2.2.1
   have hok:=(HC.out.sh.ok _ (getD_mem s0 hil0)).ext HEr.out
   have hlg:=HLg.out.st (plS (L0.getD i s0)) (by rw [<-HC.out.sl];exact List.mem_map_of_mem (getD_mem s0 hil0))
   rw [<-hx0]at hok hlg
   have HgetL:Hid (∀j,j < 3->(cellsR cS L)[i*3+j]? =(cS (L.getD i s0))[j]?):=Bl.hid fun j hj=>cellsR_get cS_len s0 j hj L i hil
   have HsetL:Hid (∀a b,((cellsR cS L).set (i*3+1) a).set (i*3+2) b=cellsR cS (L.set i ((L.getD i s0).1,(a,(L.getD i s0).2.1.2),b,(L.getD i s0).2.2.2))):=Bl.hid fun a b=>by
    rw [cellsR_set cS_len s0 ((L.getD i s0).1,(a,(L.getD i s0).2.1.2),(L.getD i s0).2.2.1,(L.getD i s0).2.2.2) a 1 (by decide) L i hil rfl]
    rw [cellsR_set cS_len s0 ((L.getD i s0).1,(a,(L.getD i s0).2.1.2),b,(L.getD i s0).2.2.2) b 2 (by decide) _ i (by rw [List.length_set];exact hil) (by rw [getDF_set s0 _ L i hil];rfl),List.set_set]
   have HmapL:Hid (∀a b,(L.set i ((L.getD i s0).1,(a,(L.getD i s0).2.1.2),b,(L.getD i s0).2.2.2)).map plS=l.shown):=Bl.hid fun a b=>by
    rw [map_same plS s0 ((L.getD i s0).1,(a,(L.getD i s0).2.1.2),b,(L.getD i s0).2.2.2) L i hil rfl];exact HI.out.2.2.2.2
   have HLs:Hid (∀y,(L.set i y).take (i+1)=L.take i++[y]/\(L.set i y).drop (i+1)=L0.drop (i+1)/\(L.set i y).length=n):=Bl.hid fun y=>⟨set_take L i y hil,by rw [set_drop L i y hil];exact drop_next HI.out.2.2.2.1,by rw [List.length_set];exact HI.out.2.2.1⟩
   obtain⟨x0,hx⟩:∃x,x=L.getD i s0:=⟨_,rfl⟩
   rw [<-hx]at hel hok hlg HgetL HsetL HmapL
   obtain⟨pl0,⟨u1,st⟩,u2,pth⟩:=x0
   have Hok:=Bl.hid hok
   have Hlg:=Bl.hid hlg
   have Hld:=Bl.hid (run_loadAt_mid (P:=Tryz.prog) wr g (i*3) 57 _ _ hel Tryz.underlying57 rfl (by rw [cS_len];kernel_rfl))
   obtain⟨hB5,hE5⟩:=BoxC.fresh (cs:=cS (pl0,(u1,st),u2,pth)) wr 57 zSh rfl (cS_ne _)
   have Hst:=Bl.hid (fresh_store (P:=Tryz.prog) (cs:=cS (pl0,(u1,st),u2,pth)) wr 57 zSh rfl (cS_one hok) (ty:=57) (by rw [cS_len];kernel_rfl))
   have HB5:=Bl.hid hB5
   have HE5:=Bl.hid hE5
   have Hgg:Hid (N1<=g/\g < N2/\g < wr.heap.size/\P0 < N1/\N2<=wr.heap.size):=Bl.hid ⟨hg1,hgN,hg2,by have:=HPR.out;have:=HN1.out;omega,by have:=HKr.out.size;have:=HN2.out;omega⟩
   have hi0:(0:Int)<=(i:Int):=by omega
   have hi1:(i:Int) < (n:Int):=by omega
   have hi2:(i:Int)<=30:=by have:=Hbd.out;omega
   clear hel hok hlg hB5 hE5 hg1 hg2 hg3 hg4 hrg hgN hil hil0 hx0 hx
   go_wp2_with (with_reducible refine stop_load (ty:=57) ?_)
   refine go_on ?_
   refine wpL_load rfl Hld.out ?_
   go_wp2_with (with_reducible refine stop_store (ty:=57) ?_)
   refine go_on ?_
   refine wpL_store0 rfl rfl Hst.out ?_
   obtain⟨w5,hw5⟩:∃W,W=(wr.alloc (.cells zSh 57)).setCells wr.heap.size 0 (cS (pl0,(u1,st),u2,pth)):=⟨_,rfl⟩
   obtain⟨D4,hD4⟩:∃D,D=wr.heap.size:=⟨_,rfl⟩
   rw [<-hw5]at HB5 HE5⊢
   rw [<-hD4]at HB5⊢
   have HD4:Hid (D4=wr.heap.size/\D4 < w5.heap.size):=Bl.hid ⟨hD4,HB5.out.lt⟩
   have HR5:=Bl.hid (HI.out.1.1.ext HE5.out)
   have HEw5:=Bl.hid (HEr.out.trans HE5.out)
   have Hok5:=Bl.hid (Hok.out.ext HE5.out)
   have HP5:Hid (∀w2,Kq (fun k=>k=g\/w5.heap.size<=k) w5 w2->w2.cell? ⟨P0,4,none⟩=some (.slice (some ⟨g,0,none⟩) n cc)/\w2.cell? ⟨D4,1,none⟩=some u1/\w2.cell? ⟨D4,2,none⟩=some u2):=Bl.hid fun w2 hk=>by
    have h1:=(HKr.out.box (by have:=Hgg.out;omega) HBd.out).ext HE5.out
    have h2:=hk.box (by have:=Hgg.out;have:=HE5.out.size;omega) h1
    have h3:=hk.box (by have:=Hgg.out;have:=HD4.out;omega) HB5.out
    exact⟨h2.cell (i:=4) rfl,h3.cell (i:=1) rfl,h3.cell (i:=2) rfl⟩
   have Hxl:Hid (i*3+1 < (cellsR cS L).length/\i*3+2 < (cellsR cS L).length/\g < w5.heap.size):=Bl.hid ⟨by rw [cellsS_len,HI.out.2.2.1];omega,by rw [cellsS_len,HI.out.2.2.1];omega,by have:=Hgg.out;have:=HD4.out;omega⟩
   have HCb:Hid (∀w2,Ext w5 w2->Calls Tryz.prog 45 #[u1] w2 fun e w'=>∃v',e= .returned v'/\w'.ownsRow w2.heap.size 5 1 v' st.length (ints .u8 st)/\Ext w2 w'):=Bl.hid fun w2 h2=>cloneB_any u1 st w2 (Hok5.out.st.ext h2) (by have:=Hlg.out.1;have h4:st.length<=100:=this;omega)
   have HCh:Hid (∀w2,Ext w5 w2->Calls Tryz.prog 111 #[u2] w2 fun e w'=>∃v',e= .returned v'/\w'.ownsRow w2.heap.size 54 32 v' pth.length (cellsD pth)/\Ext w2 w'):=Bl.hid fun w2 h2=>cloneH_any u2 pth w2 (Rds.ext Hok5.out.pa h2) Hok5.out.dg (by have:=Hlg.out.2;have h4:pth.length<=40:=this;omega)
   clear hw5 hD4 Hst Hld
   go_wp2_with fail
   apply wp_region_evK (Kq (fun k=>k=g\/w5.heap.size<=k)) (JA6 N1 n cc g i st pth (cellsR cS L) w5) 17 [23,24,25,26,27,28,29,30,31,32,33,34,35,36,37,38] [eqv _,eqv _,eqv _,eqv _,eqv _,eqv _,eqv _,eqv _,anyv,eqv _,eqv _,anyv,eqv _,eqv _,eqv _,eqv _,eqv _] (fun w=>Kq.refl w) (fun a b c h k=>Kq.trans h k) (by kernel_rfl) (by kernel_rfl) (by kernel_rfl) (by kernel_rfl)
   case hsteps=>
    refine⟨?_,?_,?_,?_,?_,?_,?_,?_,?_,?_,?_,?_,?_,?_,?_,?_,?_,trivial⟩
    all_goals
     intro d ev w1 hext HJd Hanc Hdes hni hb hd
     replace Hanc:=Bl.hid Hanc
     replace HJd:=Bl.hid HJd
     replace Hdes:=Bl.hid Hdes
     replace hni:=Bl.hid hni
     have e1:=hb 1 (by decide)
     have e3:=hb 3 (by decide)
     have e4:=hb 4 (by decide)
     clear hb
     simp only [Qa,Qb,Q1,Bl.Q2,Qd]at e1 e3 e4
     simp only [DepsE2,Q1,Bl.Q2,Qc,Q3,Q4,eqv,and_true]at hd
     have q3:=HP5.out _ hext
     have c4:=q3.1
     have c1:=q3.2.1
     have c2:=q3.2.2
     clear q3
     rw [if_pos (rfl:Region.wanted _ _=true)]
     first
     | (have hr:=HJd.out.r hni.out;obtain⟨p9,c9,hv9,_,_⟩:=(HJd.out.b (Hanc.out 8 (by kernel_rfl))).1.rds.form;have q9:=hr.cell (HgetL.out 1 (by decide));have f9:=hr.fz Hxl.out.1;go_simp;first | exact⟨(Kq.refl w1).setCell (Q:=fun k=>k=g\/w5.heap.size<=k) ⟨g,i*3+1,none⟩ (.inl rfl) _,HJd.out.sto (Hanc.out 8 (by kernel_rfl)) (Hanc.out 11 (by kernel_rfl)) hni.out Hxl.out.2.2 Hxl.out.1 hv9⟩ | exact⟨(Kq.refl w1).setCell (Q:=fun k=>k=g\/w5.heap.size<=k) ⟨g,i*3+1,none⟩ (.inl rfl) _,rfl,HJd.out.sto (Hanc.out 8 (by kernel_rfl)) (Hanc.out 11 (by kernel_rfl)) hni.out Hxl.out.2.2 Hxl.out.1 hv9⟩)
     | (go_simp;first | exact⟨Kq.refl _,rfl,HJd.out.same (by decide)⟩ | (go_at_call 45;have hcl:=HCb.out w1 (HJd.out.k (Hdes.out 14 (by kernel_rfl)));(with_reducible refine hcl.mono ?_);rintro e w2 ⟨v9,rfl,k1,k2⟩;exact⟨_,rfl,Kq.of_ext k2,trivial,HJd.out.one (Hdes.out 11 (by kernel_rfl)) (Hdes.out 14 (by kernel_rfl)) k1 k2⟩) | (go_at_call 111;have hcl:=HCh.out w1 (HJd.out.k (Hdes.out 14 (by kernel_rfl)));(with_reducible refine hcl.mono ?_);rintro e w2 ⟨v9,rfl,k1,k2⟩;exact⟨_,rfl,Kq.of_ext k2,trivial,HJd.out.two (Hanc.out 8 (by kernel_rfl)) (Hdes.out 14 (by kernel_rfl)) k1 k2⟩) | exact⟨Below.refl _ _,rfl,Bl.HJ.same (by decide) HJd.out⟩)
   case hmono=>exact⟨monoR_eqv _,monoR_eqv _,monoR_eqv _,monoR_eqv _,monoR_eqv _,monoR_eqv _,monoR_eqv _,monoR_eqv _,monoR_anyv,monoR_eqv _,monoR_eqv _,monoR_anyv,monoR_eqv _,monoR_eqv _,monoR_eqv _,monoR_eqv _,monoR_eqv _,trivial⟩
   case hR0=>exact Kq.drew _
   case hend=>
    intro u w1 hext hJ hend
    simp only [EndE,Q1,Bl.Q2,Qc,Q3,Q4,eqv,true_and]at hend
    simp only [fillAct,Q5,Q6,Q7,Q8,Q9,hend]
    have hb:=hJ.b rfl
    obtain⟨hcc,hne⟩:=hJ.c rfl
    have hr:=hJ.r2 rfl
    obtain⟨p9,c9,hv9,_,_⟩:=hb.1.rds.form
    obtain⟨p8,c8,hv8,_,_⟩:=hcc.1.rds.form
    rw [hv9]at hb hne hr
    rw [hv8]at hcc hne
    have q9:w1.cell? ⟨g,i*3+2,none⟩=some u2:=hr.cell (by rw [List.getElem?_set_ne (by omega)];exact HgetL.out 2 (by decide))
    have f9:=hr.fz (j:=i*3+2) (by rw [List.length_set];exact Hxl.out.2.1)
    have HP9:Hid (Pk (w1.setCell ⟨g,i*3+2,none⟩ (.slice p8 pth.length c8)) N1 3 (.slice (some ⟨g,0,none⟩) n cc) n (cellsR cS (L.set i (pl0,(.slice p9 st.length c9,st),.slice p8 pth.length c8,pth)))):=Bl.hid (by
     rw [<-HsetL.out]
     exact hr.put (by rw [List.length_set];exact Hxl.out.2.1) _)
    have HK9:Hid (Kq (fun k=>k=g\/w5.heap.size<=k) w5 (w1.setCell ⟨g,i*3+2,none⟩ (.slice p8 pth.length c8))):=Bl.hid (hext.setCell (Q:=fun k=>k=g\/w5.heap.size<=k) ⟨g,i*3+2,none⟩ (.inl rfl) _)
    have hks:Kq (fun k=>k=g) w1 (w1.setCell ⟨g,i*3+2,none⟩ (.slice p8 pth.length c8)):=(Kq.refl w1).setCell (Q:=fun k=>k=g) ⟨g,i*3+2,none⟩ rfl _
    have HEP:Hid (EP w5.heap.size (w1.setCell ⟨g,i*3+2,none⟩ (.slice p8 pth.length c8)).heap.size (w1.setCell ⟨g,i*3+2,none⟩ (.slice p8 pth.length c8)) (pl0,(.slice p9 st.length c9,st),.slice p8 pth.length c8,pth)):=Bl.hid ⟨hb.kept (Nat.le_refl _) hks.size (fun b h1 h2=>hks.block b h2 (by have:=Hxl.out.2.2;omega)) hks.size,hcc.kept (Nat.le_refl _) hks.size (fun b h1 h2=>hks.block b h2 (by have:=Hxl.out.2.2;omega)) hks.size,hne,Hok.out.bs,Hok.out.dg⟩
    simp only [hv9,hv8]
    clear hb hcc hne hr hks hext hJ hend hv9 hv8
    go_wp2_with fail
    obtain⟨w9,hw9⟩:∃W,W=w1.setCell ⟨g,i*3+2,none⟩ (.slice p8 pth.length c8):=⟨_,rfl⟩
    rw [<-hw9]at HP9 HK9 HEP⊢
    clear hw9 q9 f9
    go_roundw
    case rel=>exact⟨i+1,L.set i (pl0,(.slice p9 st.length c9,st),.slice p8 pth.length c8,pth),by omega,by go_num,Bl.hid ⟨⟨HP9.out,fun b hb=>HI.out.1.2 b hb⟩,by
      rw [(HLs.out _).1]
      refine Bl.Sq.snoc stE_p (m:=wr.heap.size) (Nat.le_trans HE5.out.size HK9.out.size) ?_ ?_
      ·exact stE_p _ _ _ _ _ _ _ HEP.out HE5.out.size (Nat.le_refl _) (fun _ _ _=>rfl) (Nat.le_refl _)
      ·exact HI.out.2.1.kept stE_p (Nat.le_trans HE5.out.size HK9.out.size) fun b h1 h2=>(HK9.out.block b (Nat.lt_of_lt_of_le h2 HE5.out.size) (by have:=Hgg.out;have:=HE5.out.size;omega)).trans (HE5.out.block b h2),(HLs.out _).2.2,(HLs.out _).2.1,HmapL.out _ _⟩,Bl.hid (HKr.out.trans ((Kq.of_ext HE5.out).trans (HK9.out.mono fun k hk q=>by have:=Hgg.out;have:=HE5.out.size;omega)))⟩
    case measure=>simp [intOf];omega
   case hJ0=>exact JA6.start ((Below.refl _ _).drew) (HR5.out.kept (fun _ _=>rfl) (Nat.le_refl _))
  ·obtain rfl:i=n:=by omega
   have HLt:Hid (L.take i=L):=Bl.hid (List.take_of_length_le (by rw [HI.out.2.2.1];exact Nat.le_refl _))
   obtain⟨N3,hN3⟩:∃N,N=wr.heap.size:=⟨_,rfl⟩
   have HN3:Hid (N3=wr.heap.size/\N2<=N3):=Bl.hid ⟨hN3,by have:=HKr.out.size;have:=HN2.out;omega⟩
   have HSe:Hid (Bl.Sq EP N3 wr L N2):=Bl.hid (by have h:=HI.out.2.1;rw [HLt.out,<-hN3]at h;exact h)
   have HSr:=Bl.hid HI.out.1
   have HLe:=Bl.hid (And.intro HI.out.2.2.1 HI.out.2.2.2.2)
   have HB7:=Bl.hid (HKr.out.box (by have:=HPR.out;have:=HN1.out;omega) HBd.out)
   have HBR7:=Bl.hid (HKr.out.box (by have:=HPR.out;have:=HN1.out;omega) HBRd.out)
   have HP7:=Bl.hid (HPd.out.kept (Nat.le_refl _) (Nat.le_refl _) (fun b h1 h2=>HKr.out.block b (by have:=HN2.out;omega) (by omega)) HKr.out.size)
   have q7:=HB7.out.cell (i:=7) (v:=vb0) rfl
   clear HI hlt hN3 HKr HBd HBRd HPd HEd HSd qd4
   go_wp2_with fail
   refine(cloneV_any vb0 M0 wr (Rds.ext HM0.out.1 HEr.out) (fun x hx=>by obtain⟨p,c,hf,_⟩:=(HM0.out.2.2 x hx).form;exact⟨p,_,c,hf⟩) (by have:=Hbd.out;have:=Hns.out.2.2;omega)).mono ?_
   rintro e we ⟨ve,rfl,hown,hE⟩
   rw [<-Hns.out.2.2]at hown
   obtain⟨pe,ce,hve,_,_⟩:=(Rds.of_owns hown).form
   subst hve
   have HEe:Hid (Ext w we):=Bl.hid (HEr.out.trans hE)
   have HBe:=Bl.hid (HB7.out.ext hE)
   have HBRe:=Bl.hid (HBR7.out.ext hE)
   have HPe:=Bl.hid (HP7.out.kept (Nat.le_refl _) (Nat.le_refl _) (fun b _ h2=>hE.block b (by have:=HN3.out;have:=HN2.out;omega)) hE.size)
   have HSe2:=Bl.hid (HSe.out.kept stE_p hE.size (fun b _ h2=>hE.block b (by have:=HN3.out;omega)))
   have HSr2:=Bl.hid (HSr.out.kept (Nat.le_refl _) (Nat.le_refl _) (fun b _ h2=>hE.block b (by have:=HN3.out;omega)) hE.size)
   have HBl2:Hid (Pq N3 we.heap.size we 1 (.slice pe n3 ce) n3 (cellsR cB M0)):=Bl.hid ((Pq.of_owns hown).kept (by rw [HN3.out.1];exact Nat.le_refl _) (Nat.le_refl _) (fun _ _ _=>rfl) (Nat.le_refl _))
   have HNe:Hid (N3<=we.heap.size):=Bl.hid (by rw [HN3.out.1];exact hE.size)
   have qe7:=HBe.out.cell (i:=7) (v:=vb0) rfl
   have fe7:=HBe.out.fz (i:=7) (show 7 < 9 by decide)
   have HBf:Hid (BoxC (we.setCell ⟨P0,7,none⟩ (.slice pe n3 ce)) P0 (cL l (.slice pa n1 ca) (.slice pc i cc) (.slice pe n3 ce))):=Bl.hid (HBe.out.put (i:=7) (show 7 < 9 by decide) (.slice pe n3 ce))
   have HKf:Hid (Kq (fun k=>k=P0) we (we.setCell ⟨P0,7,none⟩ (.slice pe n3 ce))):=Bl.hid ((Kq.refl we).setCell (Q:=fun k=>k=P0) ⟨P0,7,none⟩ rfl _)
   have qf7:=HBf.out.cell (i:=7) (v:= .slice pe n3 ce) rfl
   clear hown hE q7 HB7 HBR7 HP7 HSe HSr HEr
   go_wp2_with fail
   obtain⟨wf,hwf⟩:∃W,W=we.setCell ⟨P0,7,none⟩ (.slice pe n3 ce):=⟨_,rfl⟩
   rw [<-hwf]at HBf HKf qf7⊢
   have HEf:Hid (Ext w wf):=Bl.hid (by rw [hwf];exact Below.setCell HEe.out (Nat.le_of_eq HPR.out.1.symm) _)
   obtain⟨N4,hN4⟩:∃N,N=wf.heap.size:=⟨_,rfl⟩
   have HPl:Hid (P0 < N1/\N1<=N2/\N2<=N3/\N3<=we.heap.size/\w.heap.size+2<=N1):=Bl.hid ⟨by have:=HPR.out;have:=HN1.out;omega,HN2.out.2,HN3.out.2,HNe.out,HN1.out.2⟩
   have HN4:Hid (N4=wf.heap.size/\N3<=N4):=Bl.hid ⟨hN4,by have:=HKf.out.size;have:=HNe.out;omega⟩
   have HPf:=Bl.hid (HPe.out.kept (Nat.le_refl _) (Nat.le_refl _) (fun b h1 h2=>HKf.out.block b (by have:=HPl.out;omega) (by have:=HPR.out;omega)) HKf.out.size)
   have HSf:=Bl.hid (HSe2.out.kept stE_p HKf.out.size (fun b h1 h2=>HKf.out.block b (by have:=HPl.out;omega) (by have:=HPl.out;omega)))
   have HRf:=Bl.hid (HSr2.out.kept (Nat.le_refl _) (Nat.le_refl _) (fun b h1 h2=>HKf.out.block b (by have:=HPl.out;omega) (by have:=HPl.out;omega)) HKf.out.size)
   have HBlf:Hid (Pq N3 N4 wf 1 (.slice pe n3 ce) n3 (cellsR cB M0)):=Bl.hid (HBl2.out.kept (Nat.le_refl _) (by rw [hN4];exact HKf.out.size) (fun b h1 h2=>HKf.out.block b h2 (by have:=HPl.out;omega)) HKf.out.size)
   have HBRf:=Bl.hid (HKf.out.box (by have:=HPR.out;omega) HBRe.out)
   clear hwf hN4 qe7 fe7 HBe HBRe HPe HSe2 HSr2 HBl2 HKf HEe HNe
   go_loopw [47] (fun x wr=>∃(j:Nat) (M:List Bv),j<=n3/\x= .int .i64 j/\Hid (Pq N3 N4 wr 1 (.slice pe n3 ce) n3 (cellsR cB M)/\Bl.Sq EB wr.heap.size wr (M.take j) N4/\M.length=n3/\M.drop j=M0.drop j/\M.map (·.2)=l.blocks)/\Hid (Kq (fun k=>N3<=k) wf wr)) (fun x _=>n3 - (intOf x).toNat)
   case atStart=>exact⟨0,M0,Nat.zero_le _,rfl,Bl.hid ⟨HBlf.out,Nat.le_of_eq HN4.out.1,Hns.out.2.2.symm,rfl,HM0.out.2.1⟩,Bl.hid (Kq.refl _)⟩
   case round=>
    obtain⟨j,M,hj,rfl,HI,HKr⟩:=hrel
    have HEr:Hid (Ext w wr):=Bl.hid (HEf.out.trans' HKr.out (by have:=HPl.out;omega))
    by_cases hlt:j < n3
    ·have hil:j < M.length:=by rw [HI.out.2.2.1];exact hlt
     have hil0:j < M0.length:=by rw [<-Hns.out.2.2];exact hlt
     obtain⟨g,cap,hf,hg1,hg2,hg3,hg4,hrg⟩:=HI.out.1.1.form (by omega)
     injection hf with hf1 _ hf2
     subst hf1 hf2
     have hgN:g < N4:=HI.out.1.2 g rfl
     have hx0:M.getD j (.slice none 0 0,[])=M0.getD j (.slice none 0 0,[]):=drop_getD _ HI.out.2.2.2.1
     have hrd:=(HM0.out.2.2 _ (getD_mem (.slice none 0 0,[]) hil0)).ext HEr.out
     have hlg:=HLg.out.bs (M0.getD j (.slice none 0 0,[])).2 (by rw [<-HM0.out.2.1];exact List.mem_map_of_mem (getD_mem (.slice none 0 0,[]) hil0))
     have hbyt:=HC.out.by' (M0.getD j (.slice none 0 0,[])).2 (by rw [<-HM0.out.2.1];exact List.mem_map_of_mem (getD_mem (.slice none 0 0,[]) hil0))
     rw [<-hx0]at hrd hlg hbyt
     have hcg:(cellsR cB M)[j]? =some (M.getD j (.slice none 0 0,[])).1:=by
      have h:=cellsR_get (f:=cB) (s:=1) (fun _=>rfl) (.slice none 0 0,[]) 0 (by decide) M j hil
      rw [Nat.mul_one,Nat.add_zero]at h
      exact h
     have HsetM:Hid (∀a,(cellsR cB M).set j a=cellsR cB (M.set j (a,(M.getD j (.slice none 0 0,[])).2))):=Bl.hid fun a=>by
      have h:=cellsR_set (f:=cB) (s:=1) (fun _=>rfl) (.slice none 0 0,[]) (a,(M.getD j (.slice none 0 0,[])).2) a 0 (by decide) M j hil rfl
      rw [Nat.mul_one,Nat.add_zero]at h
      exact h
     have HmapM:Hid (∀a,(M.set j (a,(M.getD j (.slice none 0 0,[])).2)).map (·.2)=l.blocks):=Bl.hid fun a=>by
      rw [map_same (·.2) (.slice none 0 0,[]) (a,(M.getD j (.slice none 0 0,[])).2) M j hil rfl];exact HI.out.2.2.2.2
     have HMs:Hid (∀y,(M.set j y).take (j+1)=M.take j++[y]/\(M.set j y).drop (j+1)=M0.drop (j+1)/\(M.set j y).length=n3):=Bl.hid fun y=>⟨set_take M j y hil,by rw [set_drop M j y hil];exact drop_next HI.out.2.2.2.1,by rw [List.length_set];exact HI.out.2.2.1⟩
     obtain⟨x0,hx⟩:∃x,x=M.getD j (.slice none 0 0,[]):=⟨_,rfl⟩
     rw [<-hx]at hrd hlg hbyt hcg HsetM HmapM
     obtain⟨u1,st⟩:=x0
     simp only at hrd hlg hbyt hcg HsetM HmapM
     obtain⟨p1,c1,hu1,_,_⟩:=hrd.form
     subst hu1
     have Hrd:=Bl.hid hrd
     have Hbs:=Bl.hid (And.intro hlg hbyt)
     have hcell:=HI.out.1.1.cell hcg
     have HR5:=Bl.hid HI.out.1.1
     have Hcg:=Bl.hid hcg
     have HB7:=Bl.hid (HKr.out.box (by have:=HPl.out;omega) HBf.out)
     have Hgg:Hid (N3<=g/\g < N4/\g < wr.heap.size/\N4<=wr.heap.size):=Bl.hid ⟨hg1,hgN,hg2,by have:=HKr.out.size;have:=HN4.out;omega⟩
     have HP5:Hid (∀w2,Kq (fun _=>False) wr w2->w2.cell? ⟨P0,7,none⟩=some (.slice (some ⟨g,0,none⟩) n3 ce)):=Bl.hid fun w2 hk=>(hk.box (fun q=>q) HB7.out).cell (i:=7) rfl
     have HCb:Hid (∀w2,Ext wr w2->Calls Tryz.prog 45 #[.slice p1 st.length c1] w2 fun e w'=>∃v',e= .returned v'/\w'.ownsRow w2.heap.size 5 1 v' st.length (ints .u8 st)/\Ext w2 w'):=Bl.hid fun w2 h2=>cloneB_any _ st w2 (Hrd.out.ext h2) (by have:=Hbs.out.1;omega)
     have Hxl:Hid (j < (cellsR cB M).length):=Bl.hid (by rw [cellsR_length (s:=1) (fun _ _=>rfl),HI.out.2.2.1];omega)
     have hi0:(0:Int)<=(j:Int):=by omega
     have hi1:(j:Int) < (n3:Int):=by omega
     have hi2:(j:Int)<=600:=by have:=Hbd.out;omega
     clear hrd hlg hbyt hcg hg1 hg2 hg3 hg4 hrg hgN hil hil0 hx0 hx
     go_wp2_with fail
     clear hcell
     apply wp_region_evK (Kq (fun _=>False)) (JA12 st wr) 6 [52,53,54,55,56,57] [eqv _,eqv _,eqv _,eqv _,anyv,eqv _] (fun w=>Kq.refl w) (fun a b c h k=>Kq.trans h k) (by kernel_rfl) (by kernel_rfl) (by kernel_rfl) (by kernel_rfl)
     case hsteps=>
      refine⟨?_,?_,?_,?_,?_,?_,trivial⟩
      all_goals
       intro d ev w1 hext HJd Hanc Hdes hni hb hd
       replace Hanc:=Bl.hid Hanc
       replace HJd:=Bl.hid HJd
       replace Hdes:=Bl.hid Hdes
       replace hni:=Bl.hid hni
       have e1:=hb 1 (by decide)
       have e5:=hb 5 (by decide)
       have e6:=hb 6 (by decide)
       clear hb
       simp only [Qa,Qb,Q1,Bl.Q2,Qd]at e1 e5 e6
       simp only [DepsE2,Q1,Bl.Q2,Qc,Q3,Q4,eqv,and_true]at hd
       have c7:=HP5.out _ hext
       rw [if_pos (rfl:Region.wanted _ _=true)]
       go_simp
       first | exact⟨Kq.refl _,rfl,HJd.out.same (by decide)⟩ | (go_at_call 45;have hcl:=HCb.out w1 HJd.out.k;(with_reducible refine hcl.mono ?_);rintro e w2 ⟨v9,rfl,k1,k2⟩;exact⟨_,rfl,Kq.of_ext k2,trivial,HJd.out.one k1 k2⟩) | exact⟨Below.refl _ _,rfl,Bl.HJ.same (by decide) HJd.out⟩
     case hmono=>exact⟨monoR_eqv _,monoR_eqv _,monoR_eqv _,monoR_eqv _,monoR_anyv,monoR_eqv _,trivial⟩
     case hR0=>exact Kq.drew _
     case hend=>
      intro u w1 hext hJ hend
      simp only [EndE,Q1,Bl.Q2,Qc,Q3,Q4,eqv,true_and]at hend
      simp only [fillAct,Q5,Q6,Q7,Q8,Q9,hend]
      have hb:=hJ.b rfl
      have hk:=hJ.k
      obtain⟨p9,c9,hv9,_,_⟩:=hb.1.rds.form
      rw [hv9]at hb
      have HRe:=HR5.out.ext hk
      have q9:=HRe.cell Hcg.out
      have f9:=HRe.fz Hxl.out
      have HP9:Hid (Pk (w1.setCell ⟨g,j,none⟩ (.slice p9 st.length c9)) N3 1 (.slice (some ⟨g,0,none⟩) n3 ce) n3 (cellsR cB (M.set j (.slice p9 st.length c9,st)))):=Bl.hid (by
       rw [<-HsetM.out]
       exact HRe.put Hxl.out _)
      have hks:Kq (fun k=>k=g) w1 (w1.setCell ⟨g,j,none⟩ (.slice p9 st.length c9)):=(Kq.refl w1).setCell (Q:=fun k=>k=g) ⟨g,j,none⟩ rfl _
      have HK9:Hid (Kq (fun k=>k=g) wr (w1.setCell ⟨g,j,none⟩ (.slice p9 st.length c9))):=Bl.hid ((Kq.of_ext hk).trans hks)
      have HEB:Hid (EB wr.heap.size (w1.setCell ⟨g,j,none⟩ (.slice p9 st.length c9)).heap.size (w1.setCell ⟨g,j,none⟩ (.slice p9 st.length c9)) (.slice p9 st.length c9,st)):=Bl.hid ⟨hb.kept (Nat.le_refl _) hks.size (fun b h1 h2=>hks.block b h2 (by have:=Hgg.out;omega)) hks.size,Hbs.out.2⟩
      simp only [hv9]
      clear hb hk hks hext hJ hend hv9 HRe
      go_wp2_with fail
      obtain⟨w9,hw9⟩:∃W,W=w1.setCell ⟨g,j,none⟩ (.slice p9 st.length c9):=⟨_,rfl⟩
      rw [<-hw9]at HP9 HK9 HEB⊢
      clear hw9 q9 f9
      go_roundw
      case rel=>exact⟨j+1,M.set j (.slice p9 st.length c9,st),by omega,by go_num,Bl.hid ⟨⟨HP9.out,fun b hb=>HI.out.1.2 b hb⟩,by
        rw [(HMs.out _).1]
        refine Bl.Sq.snoc stE_b (m:=wr.heap.size) HK9.out.size HEB.out ?_
        exact HI.out.2.1.kept stE_b HK9.out.size fun b h1 h2=>HK9.out.block b h2 (by have:=Hgg.out;omega),(HMs.out _).2.2,(HMs.out _).2.1,HmapM.out _⟩,Bl.hid (HKr.out.trans (HK9.out.mono fun k hk q=>by have:=Hgg.out;omega))⟩
      case measure=>simp [intOf];omega
     case hJ0=>exact JA12.start ((Below.refl _ _).drew)
    ·obtain rfl:j=n3:=by omega
     have HMt:Hid (M.take j=M):=Bl.hid (List.take_of_length_le (by rw [HI.out.2.2.1];exact Nat.le_refl _))
     have HB8:=Bl.hid (HKr.out.box (by have:=HPl.out;omega) HBf.out)
     have HBR8:=Bl.hid (HKr.out.box (by have:=HPl.out;have:=HPR.out;omega) HBRf.out)
     have HAp:Hid (ApV wr (w.heap.size+2) N1 N2 N3 N4 wr.heap.size l (.slice pa n1 ca) (.slice pc i cc) (.slice pe j ce) L M):=Bl.hid ⟨by
       rw [<-Hns.out.1]
       exact HPf.out.kept (Nat.le_refl _) (Nat.le_refl _) (fun b h1 h2=>HKr.out.block b (by have:=HPl.out;have:=HN4.out;omega) (by have:=HPl.out;omega)) HKr.out.size,by
       rw [HLe.out.1]
       exact HRf.out.kept (Nat.le_refl _) (Nat.le_refl _) (fun b h1 h2=>HKr.out.block b (by have:=HPl.out;have:=HN4.out;omega) (by have:=HPl.out;omega)) HKr.out.size,HSf.out.kept stE_p HKr.out.size (fun b h1 h2=>HKr.out.block b (by have:=HPl.out;have:=HN4.out;omega) (by omega)),HLe.out.2,by
       rw [HI.out.2.2.1];exact HI.out.1,by
       have h:=HI.out.2.1
       rw [HMt.out]at h
       exact h,HI.out.2.2.2.2,Nat.le_refl _,HPl.out.2.2.2.2,HPl.out.2.1,HN4.out.2⟩
     have Hl8:=Bl.hid (HB8.out.load (P:=Tryz.prog) Tryz.underlying26 rfl (by kernel_rfl))
     have hone:∀c∈cL l (.slice pa n1 ca) (.slice pc i cc) (.slice pe j ce),c.oneCell'=true:=cL_one ⟨_,_,_,rfl⟩ ⟨_,_,_,rfl⟩ ⟨_,_,_,rfl⟩
     have Hst8:=Bl.hid (HBR8.out.store (P:=Tryz.prog) (cs':=cL l (.slice pa n1 ca) (.slice pc i cc) (.slice pe j ce)) rfl hone (ty:=26) (by kernel_rfl))
     have HBR9:=Bl.hid (HBR8.out.set (cs':=cL l (.slice pa n1 ca) (.slice pc i cc) (.slice pe j ce)) rfl)
     have HK9:Hid (Kq (fun k=>k=R0) wr (wr.setCells R0 0 (cL l (.slice pa n1 ca) (.slice pc i cc) (.slice pe j ce)))):=Bl.hid ((Kq.refl wr).setCells (Q:=fun k=>k=R0) rfl 0 _)
     clear HI hone hlt
     go_wp2_with (with_reducible refine stop_load (ty:=26) ?_)
     refine go_on ?_
     refine wpL_load rfl Hl8.out ?_
     go_wp2_with (with_reducible refine stop_store (ty:=26) ?_)
     refine go_on ?_
     refine wpL_store0 rfl rfl Hst8.out ?_
     go_wp2_with fail
     refine bodyPost_ret (v:= .agg (cL l (.slice pa n1 ca) (.slice pc i cc) (.slice pe j ce)).toArray) (results_cell rfl rfl (HBR9.out.loadVar (P:=Tryz.prog) Tryz.underlying26 rfl (by kernel_rfl))) rfl ?_
     exact⟨_,_,_,L,M,N1,N2,N3,N4,_,rfl,HAp.out.kept (fun b h1 h2=>HK9.out.block b h2 (by have:=HPR.out;omega)) HK9.out.size (Nat.le_add_right _ 2),HEr.out.trans' (N:=w.heap.size) (HK9.out.mono fun k hk q=>by have:=HPR.out;omega) (Nat.le_refl _)⟩
def lwords:List (List UInt8):=[[],[112,117,116],[97,99,107],[97,115,107],[97,110,115,119,101,114],[102,101,116,99,104],[103,105,118,101],[114,101,102,117,115,101]]
def lword (k:Int):ByteArray:=if 1<=k/\k<=7 then⟨(lwords.getD k.toNat []).toArray⟩else⟨#[]⟩
def fwords:List (List UInt8):=[[110,111,110,101],[98,108,111,99,107],[112,97,116,104],[115,119,97,112],[99,117,116],[112,108,97,99,101],[114,101,102,117,115,101],[105,100],[111,98,106,101,99,116],[115,105,108,101,110,99,101]]
def fword (k:Int):ByteArray:=if 0<=k/\k<=9 then⟨(fwords.getD k.toNat []).toArray⟩else⟨#[]⟩
structure GlobW (w:World):Prop where
 words:∀i z,fwords[i]? =some z->w.cell? ⟨1,i,none⟩=some (.string ⟨z.toArray⟩)
theorem GlobW.ext {w w':World} (h:GlobW w) (hb:Ext w w'):GlobW w':=⟨fun i z hz=>((bcell hb).1 _ _ (World.block_lt_of_cell? w _ (h.words 0 _ rfl))).trans (h.words i z hz)⟩
theorem fword_any (k:Int) (w:World) (hg:GlobW w):Calls Tryz.prog 34 #[.int .i64 k] w fun e w'=>e= .returned (.string (fword k))/\w=w':=by
 by_cases h1:k < 0
 ·have Hv:Hid (fword k=⟨#[]⟩):=Bl.hid (by unfold fword;rw [if_neg (by omega)])
  go_enter Tryz.func34,Tryz.ntmps34
  go_wp2
  go_ret
  exact⟨by rw [Hv.out];rfl,rfl⟩
 by_cases h2:9 < k
 ·have Hv:Hid (fword k=⟨#[]⟩):=Bl.hid (by unfold fword;rw [if_neg (by omega)])
  go_enter Tryz.func34,Tryz.ntmps34
  go_wp2
  go_ret
  exact⟨by rw [Hv.out];rfl,rfl⟩
 have hc:k=0\/k=1\/k=2\/k=3\/k=4\/k=5\/k=6\/k=7\/k=8\/k=9:=by omega
 clear h1 h2
 rcases hc with rfl | rfl | rfl | rfl | rfl | rfl | rfl | rfl | rfl | rfl
 ·have h3:=hg.words 0 _ rfl
  go_enter Tryz.func34,Tryz.ntmps34
  go_wp2
  go_ret
  exact⟨rfl,rfl⟩
 ·have h3:=hg.words 1 _ rfl
  go_enter Tryz.func34,Tryz.ntmps34
  go_wp2
  go_ret
  exact⟨rfl,rfl⟩
 ·have h3:=hg.words 2 _ rfl
  go_enter Tryz.func34,Tryz.ntmps34
  go_wp2
  go_ret
  exact⟨rfl,rfl⟩
 ·have h3:=hg.words 3 _ rfl
  go_enter Tryz.func34,Tryz.ntmps34
  go_wp2
  go_ret
  exact⟨rfl,rfl⟩
 ·have h3:=hg.words 4 _ rfl
  go_enter Tryz.func34,Tryz.ntmps34
  go_wp2
  go_ret
  exact⟨rfl,rfl⟩
 ·have h3:=hg.words 5 _ rfl
  go_enter Tryz.func34,Tryz.ntmps34
  go_wp2
  go_ret
  exact⟨rfl,rfl⟩
 ·have h3:=hg.words 6 _ rfl
  go_enter Tryz.func34,Tryz.ntmps34
  go_wp2
  go_ret
  exact⟨rfl,rfl⟩
 ·have h3:=hg.words 7 _ rfl
  go_enter Tryz.func34,Tryz.ntmps34
  go_wp2
  go_ret
  exact⟨rfl,rfl⟩
 ·have h3:=hg.words 8 _ rfl
  go_enter Tryz.func34,Tryz.ntmps34
  go_wp2
  go_ret
  exact⟨rfl,rfl⟩
 ·have h3:=hg.words 9 _ rfl
  go_enter Tryz.func34,Tryz.ntmps34
  go_wp2
  go_ret
  exact⟨rfl,rfl⟩
end Go.Proofs.YtglenbikdahgjaaGreatDoor
