/- Walk of baileeref07.turn and baileeref07.Of (AUX). -/
import Derived.Laws.IdiomCopy
import Derived.Test.YtglenbikdahgjaaGreatDoorPk08
import Derived.Test.YtglenbikdahgjaaGreatDoorPk09
import Derived.Test.YtglenbikdahgjaaGreatDoorPk00
import Derived.Test.YtglenbikdahgjaaGreatDoorPk01
import Derived.Test.YtglenbikdahgjaaGreatDoorPk03
set_option maxRecDepth 100000
set_option maxHeartbeats 16000000
namespace Go.Proofs.YtglenbikdahgjaaGreatDoor
open Go.RowKit Go.Proofs Go.Proofs.Bl
theorem turn_any (n:Nat) (x:Int) (w:World) (h:n<=32):
  Calls Tryz.prog 132 #[.int .u32 x,.int .u64 n] w fun e w'=>e= .returned (.int .u32 (ror n x))/\w=w':=by
 have e1:((32:Int) - (n:Int)).toNat=32 - n:=by omega
 go_enter Tryz.func132,Tryz.ntmps132
 go_wp2
 go_ret
 refine⟨?_,rfl⟩
 unfold ror
 rw [bits_or_comm]
 rfl
theorem refof_any (v:Value) (l:List Int) (w:World) (hR:Rd w .u8 v l) (hg:GlobR w) (hby:Byt l) (hlen:l.length<=1099511627776):
  Calls Tryz.prog 85 #[v] w fun e w'=>e= .returned (.agg (ints .u8 (Bl.sha l)).toArray)/\Ext w w':=by
 obtain⟨p,c,hvf,hvn,hvc⟩:=hR.form
 subst hvf
 have Hv:=Bl.hid hR
 have Hg:=Bl.hid hg
 have Hby:=Bl.hid hby
 clear hR hg hby
 go_enter Tryz.func85,Tryz.ntmps85
 obtain⟨W0,hW0⟩:∃W0,W0=w.alloc (.cells #[.int .u8 0,.int .u8 0,.int .u8 0,.int .u8 0,.int .u8 0,.int .u8 0,.int .u8 0,.int .u8 0,.int .u8 0,.int .u8 0,.int .u8 0,.int .u8 0,.int .u8 0,.int .u8 0,.int .u8 0,.int .u8 0,.int .u8 0,.int .u8 0,.int .u8 0,.int .u8 0,.int .u8 0,.int .u8 0,.int .u8 0,.int .u8 0,.int .u8 0,.int .u8 0,.int .u8 0,.int .u8 0,.int .u8 0,.int .u8 0,.int .u8 0,.int .u8 0] 52):=⟨_,rfl⟩
 have hE0:Ext w W0:=by rw [hW0];exact(Below.refl _ _).alloc (Nat.le_refl _) _
 have HF0:=Bl.hid (show Fam W0 w.heap.size .u8 32 (fun _=>0)from by rw [hW0];exact fam_new w 32 .u8 _ _ rfl)
 have hs0:W0.heap.size=w.heap.size+1:=by rw [hW0];simp
 have HW0:=Bl.hid hW0
 clear hW0
 have hE1:Ext W0 (W0.alloc (.cells #[] 5)):=(Below.refl _ _).alloc (Nat.le_refl _) _
 have ho:=owns_new W0 5 #[] W0.heap.size 0 1 (Nat.le_refl _) (by decide) rfl
 have hv1:=Hv.out.ext (hE0.trans hE1)
 rw [hs0]at ho
 rw [HW0.out]at ho hE1 hv1
 have Ho:=Bl.hid ho
 have Hv1:=Bl.hid hv1
 have HE1:=Bl.hid hE1
 have Hs0:=Bl.hid hs0
 have HE0:=Bl.hid hE0
 clear ho hv1 hE1 hE0 hs0
 go_wp2_with (with_reducible refine stop_append ?_)
 refine go_on ?_
 refine wpL_app tBytes Ho.out Hv1.out rfl rfl (by simp) (ints_one _ _) (by unfold maxLen;omega) (by omega) (by simp) ?_
 intro p1 c1 w1 hown1 hg1 hB1 hK1 hn1 hc1
 have hs1:=hB1.size
 simp only [World.size_alloc]at hs1
 simp only [Nat.zero_add,List.nil_append]at hown1 hn1
 have Hown1:=Bl.hid (owns_ext hown1 (ext_alloc w1 (.cells #[.int .u8 128] 5)))
 have Hnew1:=Bl.hid (rds_one w1 5 .u8 128)
 clear hK1 hg1
 go_wp2_with (with_reducible refine stop_append ?_)
 refine go_on ?_
 refine wpL_app tBytes Hown1.out Hnew1.out rfl rfl (by simp) (ints_one _ _) (by unfold maxLen;omega) (by omega) (by simp only [World.size_alloc];omega) ?_
 intro p2 c2 w2 hown2 hg2 hB2 hK2 hn2 hc2
 have hE2:Below (w.heap.size+1) W0 w2:=by
  have h1:=Below.trans (below_alloc W0 (.cells #[] 5) (B:=w.heap.size+1) (by rw [Hs0.out];exact Nat.le_refl _)) (by rw [HW0.out];exact hB1)
  exact(h1.trans (below_alloc w1 (.cells #[.int .u8 128] 5) (by omega))).trans hB2
 have HF2:=Bl.hid (HF0.out.below hE2 (by omega))
 have HEw2:Hid (Ext w w2):=Bl.hid (Below.trans HE0.out (hE2.mono (by omega)))
 have hs2:w.heap.size+1<=w2.heap.size:=by have:=hE2.size;rw [Hs0.out]at this;exact this
 have hown2':w2.ownsRow (w.heap.size+1) 5 1 (.slice p2 (l.length+1+0) c2) (l.length+1+0) (ints .u8 (l++128 :: List.replicate 0 0)):=by
  rw [ints_append];exact hown2
 clear hown2 hg2 hB2 hK2 hE2 hown1 hB1 Hown1 Hnew1 Ho Hv1 HE1 HF0 HE0
 go_wp2_with fail
 go_loopw [3] (fun e wr=>∃(j:Nat) (p:Option Addr) (c:Nat),e= .slice p (l.length+1+j) c/\j<=padn l.length/\wr.ownsRow (w.heap.size+1) 5 1 (.slice p (l.length+1+j) c) (l.length+1+j) (ints .u8 (l++128 :: List.replicate j 0))/\Below (w.heap.size+1) w2 wr) (fun e _=>200 - (sliceLen e - l.length))
 case atStart=>exact⟨0,p2,c2,rfl,Nat.zero_le _,hown2',Below.refl _ _⟩
 case round=>
  obtain⟨j,p,c,rfl,hj,hr,hB⟩:=hrel
  clear hown2'
  obtain⟨pr,cr,hfr,hnr,hcr⟩:=(Rds.of_owns hr).form
  obtain⟨rfl,rfl⟩:p=pr/\c=cr:=by cases hfr;exact⟨rfl,rfl⟩
  clear hfr
  by_cases hjp:j=padn l.length
  ·subst hjp
   have hrem:((l.length:Int)+1+(padn l.length:Int)) % 64=56:=by unfold padn;omega
   have hremb:(((l.length:Int)+1+(padn l.length:Int)) % 64 != 56)=false:=by rw [hrem];rfl
   clear hrem
   go_wp2_with fail
   have HFr:=Bl.hid (HF2.out.below hB (by omega))
   have HEr:Hid (Ext w wr):=Bl.hid (Below.trans HEw2.out (hB.mono (by omega)))
   have HGr:=Bl.hid (Hg.out.ext HEr.out)
   have hszr:w.heap.size+1<=wr.heap.size:=Nat.le_trans hs2 hB.size
   have hP:(l++128 :: List.replicate (padn l.length) (0:Int)).length=l.length+1+padn l.length:=by simp;omega
   have hpn:padn l.length<=64:=by unfold padn;omega
   have hM:(l.length+1+padn l.length+8) % 64=0:=padn_mod _
   have hMb:l.length+1+padn l.length<=1099511627776+65:=by omega
   have hML:=Bl.hid (show pad l l.length=l++128 :: List.replicate (padn l.length) (0:Int)++lenb l.length from rfl)
   have hnr':l.length+1+padn l.length<=c:=hnr
   generalize l.length+1+padn l.length=M at*
   generalize hPe:l++128 :: List.replicate (padn l.length) (0:Int)=P0 at*
   have hr0:wr.ownsRow (w.heap.size+1) 5 1 (.slice p (M+0) c) (M+0) (ints .u8 (P0++(lenb l.length).take 0)):=by simpa using hr
   clear hB hremb hr hnr hj HF2 HEw2
   go_loopw [3,5] (fun e by' ws=>∃(j:Nat) (p:Option Addr) (c:Nat),by'= .int .i64 (7 - (j:Int))/\j<=8/\e= .slice p (M+j) c/\ws.ownsRow (w.heap.size+1) 5 1 (.slice p (M+j) c) (M+j) (ints .u8 (P0++(lenb l.length).take j))/\Below (w.heap.size+1) wr ws) (fun _ i _=>(intOf i+1).toNat)
   case atStart=>exact⟨0,p,c,by simp,by omega,rfl,hr0,Below.refl _ _⟩
   case round=>
    obtain⟨j,q,d,rfl,hj,rfl,hq,hBs⟩:=hrel
    obtain⟨pr,cr,hfr,hnr,hcr⟩:=(Rds.of_owns hq).form
    obtain⟨rfl,rfl⟩:q=pr/\d=cr:=by cases hfr;exact⟨rfl,rfl⟩
    clear hfr hr0
    by_cases hj8:j=8
    ·subst hj8
     have hLe:Hid (P0++(lenb l.length).take 8=pad l l.length):=Bl.hid (by rw [hML.out,List.take_of_length_le (by simp)])
     rw [hLe.out]at hq
     have HL:=Bl.hid (Rds.of_owns hq)
     have HEs:Hid (Ext w wr):=Bl.hid (Below.trans HEr.out (hBs.mono (by omega)))
     have HGs:=Bl.hid (Hg.out.ext HEs.out)
     have HFs:=Bl.hid (HFr.out.below hBs (by omega))
     have hsz3:w.heap.size+1<=wr.heap.size:=Nat.le_trans hszr hBs.size
     have hlen64:(pad l l.length).length=M+8:=by rw [<-hLe.out,List.length_append,hP,List.length_take,lenb_length];rfl
     have hbyL:=Bl.hid (pad_byt l.length Hby.out)
     have hres:=Bl.hid (show Bl.sha l=(eat iv0 (pad l l.length)).1.bytes from rfl)
     generalize hLL:pad l l.length=L at*
     have HlenL:=Bl.hid hlen64
     obtain⟨m8,hm8⟩:∃m8,M+8=64*m8:=⟨(M+8) / 64,by omega⟩
     have Hm8:=Bl.hid hm8
     have hgb:=load_ints (P:=Tryz.prog) (ty:=188) (e:=187) (k:= .u32) (l:=iv) (b:=8) (o:=0) (w:=wr) (n:=8) (fun j v hv=>by
       have hj:j < 8:=by have:=(List.getElem?_eq_some_iff.1 hv).1;simpa [iv] using this
       rw [ints_get _ _ _ (by simpa [iv] using hj)]at hv
       cases hv
       rw [Nat.zero_add]
       exact HGs.out.rbegins j hj) Tryz.underlying188 (by as_aux_lemma=>kernel_rfl) rfl
     have Hgb:=Bl.hid hgb
     have hMi:(M:Int)<=1099511627841:=by omega
     clear hgb hq hBs hlen64 hm8 HFr HEr HGr hML hP hPe hLe hM hMb hpn
     go_wp2_with (with_reducible refine stop_load (ty:=188) ?_)
     refine go_on ?_
     refine wpL_load rfl Hgb.out ?_
     have hF8:=fam_new wr 8 .u32 188 (List.replicate 8 (Value.int .u32 0)).toArray rfl
     have hst:=store_ints (P:=Tryz.prog) (ty:=188) (k:= .u32) (l:=iv) (n:=8) hF8.there (by as_aux_lemma=>kernel_rfl) rfl
     have hFS:=fam_setCells hF8 iv rfl
     have hES:Ext wr ((wr.alloc (.cells (List.replicate 8 (Value.int .u32 0)).toArray 188)).setCells wr.heap.size 0 (ints .u32 iv)):=below_setCells _ _ _ _ (ext_alloc _ _) (Nat.le_refl _)
     have hszS:(wr.heap.size+1)<=((wr.alloc (.cells (List.replicate 8 (Value.int .u32 0)).toArray 188)).setCells wr.heap.size 0 (ints .u32 iv)).heap.size:=by
      have:=World.block_lt_of_cell? _ _ (hFS.1 0 (by decide))
      exact this
     have HFS:=Bl.hid hFS
     have HES:=Bl.hid hES
     have Hst:=Bl.hid hst
     clear hF8 hst hFS hES
     go_wp2_with (with_reducible refine stop_store (ty:=188) ?_)
     refine go_on ?_
     refine wpL_store rfl rfl Hst.out ?_
     generalize hWS:(wr.alloc (.cells (List.replicate 8 (Value.int .u32 0)).toArray 188)).setCells wr.heap.size 0 (ints .u32 iv)=WS at*
     clear hWS Hst
     obtain⟨wq,rfl⟩:∃wq:World,wq=wr:=⟨_,rfl⟩
     obtain⟨bb,oo,cc,hqe,_,_,hbb,_,hget⟩:=Rd.pos (w:=wq) (k:= .u8) (v:= .slice q (M+8) d) (l:=L) (by show Rds _ _ _ _;rw [HlenL.out];exact HL.out) (by rw [HlenL.out];omega)
     rw [HlenL.out]at hqe hget
     have hqe:q=some ⟨bb,oo,none⟩:=by injection hqe
     subst hqe
     have Hget:=Bl.hid hget
     clear hget HL hLL hj Hgb
     go_wp2_with fail
     go_loopw [7] (fun a wr=>∃k:Nat,k<=m8/\a= .int .i64 ((64*k:Nat):Int)/\Fam wr wq.heap.size .u32 8 (fun i=>(foldc L iv0 (List.range k)).l.getD i 0)/\Below wq.heap.size wq wr/\wq.heap.size+1<=wr.heap.size) (fun a _=>M+8 - (intOf a).toNat)
     case atStart=>exact⟨0,Nat.zero_le _,rfl,HFS.out,HES.out,hszS⟩
     case round=>
      obtain⟨k,hk,rfl,hF,hB,hszr⟩:=hrel
      clear HFS HES hszS
      by_cases hlt:k < m8
      ·obtain⟨z,hz⟩:∃z,z=foldc L iv0 (List.range k):=⟨_,rfl⟩
       rw [<-hz]at hF
       have Hz:=Bl.hid hz
       have HF:=Bl.hid hF
       obtain⟨a,ha⟩:∃a,a=64*k:=⟨_,rfl⟩
       have hak:a+64<=M+8:=by rw [Hm8.out,ha];omega
       have Hcell:Hid (∀i,i < 64->wr.cell? ⟨bb,oo+(a+i),none⟩=some (.int .u8 (L.getD (a+i) 0))):=Bl.hid (fun i hi=>((bcell hB).1 bb _ hbb).trans (Hget.out (a+i) (by omega)))
       rw [<-ha]
       have Ha:=Bl.hid ha
       have ha1:(a:Int) < (M:Int)+8:=by omega
       clear hz hF ha
       obtain⟨wk,rfl⟩:∃wk:World,wk=wr:=⟨_,rfl⟩
       have hG64:=fam_new wk 64 .u32 189 (List.replicate 64 (Value.int .u32 0)).toArray rfl
       have hst:=store_ints (P:=Tryz.prog) (ty:=189) (k:= .u32) (l:=List.replicate 64 0) (n:=64) hG64.there info64 (by simp)
       have hFG:=fam_setCells hG64 (List.replicate 64 0) (by simp)
       have hEG:Ext wk ((wk.alloc (.cells (List.replicate 64 (Value.int .u32 0)).toArray 189)).setCells wk.heap.size 0 (ints .u32 (List.replicate 64 0))):=below_setCells _ _ _ _ (ext_alloc _ _) (Nat.le_refl _)
       have HG:=Bl.hid hFG
       have HEG:=Bl.hid hEG
       have Hst:=Bl.hid hst
       clear hG64 hst hFG hEG
       go_wp2_with (with_reducible refine stop_store (ty:=189) ?_)
       refine go_on ?_
       refine wpL_store rfl rfl Hst.out ?_
       generalize hWG:(wk.alloc (.cells (List.replicate 64 (Value.int .u32 0)).toArray 189)).setCells wk.heap.size 0 (ints .u32 (List.replicate 64 0))=WG at*
       clear hWG Hst
       go_wp2_with fail
       go_loopw [9] (fun i ws=>∃t:Nat,t<=16/\i= .int .i64 t/\Fam ws wk.heap.size .u32 64 (fun j=>if j < t then word ((L.drop (64*k)).take 64) j else 0)/\Below wk.heap.size wk ws) (fun i _=>16 - (intOf i).toNat)
       case atStart=>exact⟨0,by omega,rfl,HG.out.congr (fun i hi=>by rw [if_neg (by omega),List.getD_eq_getElem?_getD,List.getElem?_replicate,if_pos hi];rfl),HEG.out⟩
       case round=>
        obtain⟨t,ht,rfl,hG,hBk⟩:=hrel
        clear HG HEG
        by_cases hlt16:t < 16
        ·obtain⟨x0,hx0⟩:∃x,x=L.getD (a+4*t) 0:=⟨_,rfl⟩
         obtain⟨x1,hx1⟩:∃x,x=L.getD (a+4*t+1) 0:=⟨_,rfl⟩
         obtain⟨x2,hx2⟩:∃x,x=L.getD (a+4*t+2) 0:=⟨_,rfl⟩
         obtain⟨x3,hx3⟩:∃x,x=L.getD (a+4*t+3) 0:=⟨_,rfl⟩
         have hword:=word_at L hbyL.out k t hlt16 (by rw [HlenL.out];have:=Ha.out;omega)
         rw [<-Ha.out,<-hx0,<-hx1,<-hx2,<-hx3]at hword
         have Hword:=Bl.hid hword
         have y0:0<=x0/\x0<=255:=by rw [hx0];exact hbyL.out.get _
         have y1:0<=x1/\x1<=255:=by rw [hx1];exact hbyL.out.get _
         have y2:0<=x2/\x2<=255:=by rw [hx2];exact hbyL.out.get _
         have y3:0<=x3/\x3<=255:=by rw [hx3];exact hbyL.out.get _
         obtain⟨y00,y01⟩:=y0
         obtain⟨y10,y11⟩:=y1
         obtain⟨y20,y21⟩:=y2
         obtain⟨y30,y31⟩:=y3
         have hbk:bb < wk.heap.size:=by omega
         have k0:wr.cell? ⟨bb,oo+(a+4*t),none⟩=some (.int .u8 x0):=by rw [(bcell hBk).1 bb _ hbk,hx0];exact Hcell.out (4*t) (by omega)
         have k1:wr.cell? ⟨bb,oo+(a+4*t+1),none⟩=some (.int .u8 x1):=by rw [(bcell hBk).1 bb _ hbk,hx1];exact Hcell.out (4*t+1) (by omega)
         have k2:wr.cell? ⟨bb,oo+(a+4*t+2),none⟩=some (.int .u8 x2):=by rw [(bcell hBk).1 bb _ hbk,hx2];exact Hcell.out (4*t+2) (by omega)
         have k3:wr.cell? ⟨bb,oo+(a+4*t+3),none⟩=some (.int .u8 x3):=by rw [(bcell hBk).1 bb _ hbk,hx3];exact Hcell.out (4*t+3) (by omega)
         have hbw:bb < wr.heap.size:=World.block_lt_of_cell? _ _ k0
         have hz0:wr.cell? ⟨wk.heap.size,t,none⟩=some (.int .u32 0):=by rw [hG.1 t (by omega)];exact congrArg (fun v=>some (Value.int .u32 v)) (if_neg (by omega))
         have hz1:wr.frozen? ⟨wk.heap.size,t,none⟩=false:=hG.2 t
         have HG:=Bl.hid hG
         clear hword hx0 hx1 hx2 hx3 hG
         have b0:(0:Int)<=(a:Int)+4*(t:Int):=by omega
         have c0:(a:Int)+4*(t:Int) < (M:Int)+8:=by omega
         have d0:((a:Int)+4*(t:Int)).toNat=a+4*t:=by omega
         have b1:(0:Int)<=(a:Int)+4*(t:Int)+1:=by omega
         have c1:(a:Int)+4*(t:Int)+1 < (M:Int)+8:=by omega
         have d1:((a:Int)+4*(t:Int)+1).toNat=a+4*t+1:=by omega
         have b2:(0:Int)<=(a:Int)+4*(t:Int)+2:=by omega
         have c2:(a:Int)+4*(t:Int)+2 < (M:Int)+8:=by omega
         have d2:((a:Int)+4*(t:Int)+2).toNat=a+4*t+2:=by omega
         have b3:(0:Int)<=(a:Int)+4*(t:Int)+3:=by omega
         have c3:(a:Int)+4*(t:Int)+3 < (M:Int)+8:=by omega
         have d3:((a:Int)+4*(t:Int)+3).toNat=a+4*t+3:=by omega
         have t0:(0:Int)<=(t:Int):=by omega
         have t1:(t:Int) < 64:=by omega
         have t2:(t:Int) < 16:=by omega
         go_wp2_with fail
         refine wp_region_qt 43 (by as_aux_lemma=>kernel_rfl) (by as_aux_lemma=>kernel_rfl) ?_
         simp only [List.take_succ_cons,List.take_zero,List.drop_succ_cons,List.drop_zero]
         repeat (first | go_big_quiet_skip | (go_big_quiet_want;go_big_quiet_op;first | go_big_quiet_on | (apply Exists.intro;refine⟨?_,?_⟩;(fail);go_big_quiet_on)))
         refine wpQuiet_nil ?_
         clear k0 k1 k2 k3 b0 b1 b2 b3 c0 c1 c2 c3 d0 d1 d2 d3
         go_wp2_with fail
         go_roundw
         case rel=>
          refine⟨t+1,by omega,by go_num,?_,(hBk.drewN 1).setCell (by simp) _⟩
          refine((HG.out.drew 1).set t (by omega) _).congr (fun i hi=> ?_)
          by_cases e:i=t
          ·subst e;rw [if_pos rfl,if_pos (by omega)];have h:=Hword.out;rw [Ha.out]at h;exact h
          ·rw [if_neg e]
           by_cases e2:i < t
           ·rw [if_pos e2,if_pos (by omega)]
           ·rw [if_neg e2,if_neg (by omega)]
         case measure=>simp [intOf];omega
        ·obtain rfl:t=16:=by omega
         have hG':Fam wr wk.heap.size .u32 64 (fun j=>if j < 16 then ww ((L.drop (64*k)).take 64) j else 0):=hG.congr (fun i hi=>by
          by_cases e:i < 16
          ·rw [if_pos e,if_pos e,ww_lo _ _ e]
          ·rw [if_neg e,if_neg e])
         have HG:=Bl.hid hG'
         clear hG hG'
         obtain⟨blk,hblk⟩:∃blk,blk=(L.drop (64*k)).take 64:=⟨_,rfl⟩
         rw [<-hblk]at HG
         have Hblk:=Bl.hid hblk
         clear hblk
         go_wp2_with fail
         obtain⟨wl16,rfl⟩:∃wl16:World,wl16=wr:=⟨_,rfl⟩
         go_loopw [10] (fun i ws=>∃t:Nat,16<=t/\t<=64/\i= .int .i64 t/\Fam ws wk.heap.size .u32 64 (fun j=>if j < t then ww blk j else 0)/\Below wk.heap.size wk ws) (fun i _=>64 - (intOf i).toNat)
         case atStart=>exact⟨16,by omega,by omega,rfl,HG.out,hBk⟩
         case round=>
          obtain⟨t,ht16,ht64,rfl,hG,hBk2⟩:=hrel
          clear HG hBk
          by_cases hlt64:t < 64
          ·have h2:wr.cell? ⟨wk.heap.size,t - 2,none⟩=some (.int .u32 (ww blk (t - 2))):=by rw [hG.1 _ (by omega)];exact congrArg (fun v=>some (Value.int .u32 v)) (if_pos (by omega))
           have h7:wr.cell? ⟨wk.heap.size,t - 7,none⟩=some (.int .u32 (ww blk (t - 7))):=by rw [hG.1 _ (by omega)];exact congrArg (fun v=>some (Value.int .u32 v)) (if_pos (by omega))
           have h15:wr.cell? ⟨wk.heap.size,t - 15,none⟩=some (.int .u32 (ww blk (t - 15))):=by rw [hG.1 _ (by omega)];exact congrArg (fun v=>some (Value.int .u32 v)) (if_pos (by omega))
           have h16:wr.cell? ⟨wk.heap.size,t - 16,none⟩=some (.int .u32 (ww blk (t - 16))):=by rw [hG.1 _ (by omega)];exact congrArg (fun v=>some (Value.int .u32 v)) (if_pos (by omega))
           have hz1:wr.frozen? ⟨wk.heap.size,t,none⟩=false:=hG.2 t
           have hz0:wr.cell? ⟨wk.heap.size,t,none⟩=some (.int .u32 0):=by rw [hG.1 _ (by omega)];exact congrArg (fun v=>some (Value.int .u32 v)) (if_neg (by omega))
           have Hhi:=Bl.hid (ww_hi blk t ht16)
           obtain⟨v2,hv2⟩:∃v,v=ww blk (t - 2):=⟨_,rfl⟩
           obtain⟨v7,hv7⟩:∃v,v=ww blk (t - 7):=⟨_,rfl⟩
           obtain⟨v15,hv15⟩:∃v,v=ww blk (t - 15):=⟨_,rfl⟩
           obtain⟨v16,hv16⟩:∃v,v=ww blk (t - 16):=⟨_,rfl⟩
           rw [<-hv2]at h2
           rw [<-hv7]at h7
           rw [<-hv15]at h15
           rw [<-hv16]at h16
           rw [<-hv2,<-hv7,<-hv15,<-hv16]at Hhi
           have HG:=Bl.hid hG
           clear hG hv2 hv7 hv15 hv16
           have a2:IntKind.i64.wrap ((t:Int) - 2)=(t:Int) - 2:=IntWalk.i64_in _ (by omega)
           have b2:(0:Int)<=(t:Int) - 2:=by omega
           have q2:(2:Int)<=(t:Int):=by omega
           have c2:(t:Int) - 2 < 64:=by omega
           have d2:((t:Int) - 2).toNat=t - 2:=by omega
           have a7:IntKind.i64.wrap ((t:Int) - 7)=(t:Int) - 7:=IntWalk.i64_in _ (by omega)
           have b7:(0:Int)<=(t:Int) - 7:=by omega
           have q7:(7:Int)<=(t:Int):=by omega
           have c7:(t:Int) - 7 < 64:=by omega
           have d7:((t:Int) - 7).toNat=t - 7:=by omega
           have a15:IntKind.i64.wrap ((t:Int) - 15)=(t:Int) - 15:=IntWalk.i64_in _ (by omega)
           have b15:(0:Int)<=(t:Int) - 15:=by omega
           have q15:(15:Int)<=(t:Int):=by omega
           have c15:(t:Int) - 15 < 64:=by omega
           have d15:((t:Int) - 15).toNat=t - 15:=by omega
           have a16:IntKind.i64.wrap ((t:Int) - 16)=(t:Int) - 16:=IntWalk.i64_in _ (by omega)
           have b16:(0:Int)<=(t:Int) - 16:=by omega
           have q16:(16:Int)<=(t:Int):=by omega
           have c16:(t:Int) - 16 < 64:=by omega
           have d16:((t:Int) - 16).toNat=t - 16:=by omega
           have b0:(0:Int)<=(t:Int):=by omega
           have c0:(t:Int) < 64:=by omega
           go_wp2_with fail
           go_quiet (fail)
           go_wp2_with fail
           refine wp_region_qt 29 (by as_aux_lemma=>kernel_rfl) (by as_aux_lemma=>kernel_rfl) ?_
           simp only [List.take_succ_cons,List.take_zero,List.drop_succ_cons,List.drop_zero]
           repeat (first | go_big_quiet_skip | (go_big_quiet_want;go_big_quiet_op;first | go_big_quiet_on | (apply Exists.intro;refine⟨?_,?_⟩;((go_at_call 132;refine(turn_any _ _ _ (by decide)).mono ?_;rintro e w2 ⟨rfl,rfl⟩;exact⟨rfl,rfl⟩));go_big_quiet_on)))
           refine wpQuiet_nil ?_
           clear a2 b2 q2 c2 d2 a7 b7 q7 c7 d7 a15 b15 q15 c15 d15 a16 b16 q16 c16 d16 h2 h7 h15 h16
           go_wp2_with fail
           go_roundw
           case rel=>
            refine⟨t+1,by omega,by omega,by go_num,?_,((hBk2.drewN _).drewN 1).setCell (by simp) _⟩
            refine(((HG.out.drew _).drew 1).set t (by omega) _).congr (fun i hi=> ?_)
            by_cases e:i=t
            ·subst e;rw [if_pos rfl,if_pos (by omega),Hhi.out];unfold Bl.ad mix xr;simp only [show(2:Int)^10=1024 from rfl,show(2:Int)^3=8 from rfl];omega
            ·rw [if_neg e]
             by_cases e2:i < t
             ·rw [if_pos e2,if_pos (by omega)]
             ·rw [if_neg e2,if_neg (by omega)]
           case measure=>simp [intOf];omega
          ·obtain rfl:t=64:=by omega
           have c0:wr.cell? ⟨wq.heap.size,0,none⟩=some (.int .u32 z.a):=((bcell hBk2).1 _ _ hszr).trans (HF.out.1 0 (by decide))
           have c1:wr.cell? ⟨wq.heap.size,1,none⟩=some (.int .u32 z.b):=((bcell hBk2).1 _ _ hszr).trans (HF.out.1 1 (by decide))
           have c2:wr.cell? ⟨wq.heap.size,2,none⟩=some (.int .u32 z.c):=((bcell hBk2).1 _ _ hszr).trans (HF.out.1 2 (by decide))
           have c3:wr.cell? ⟨wq.heap.size,3,none⟩=some (.int .u32 z.d):=((bcell hBk2).1 _ _ hszr).trans (HF.out.1 3 (by decide))
           have c4:wr.cell? ⟨wq.heap.size,4,none⟩=some (.int .u32 z.e):=((bcell hBk2).1 _ _ hszr).trans (HF.out.1 4 (by decide))
           have c5:wr.cell? ⟨wq.heap.size,5,none⟩=some (.int .u32 z.f):=((bcell hBk2).1 _ _ hszr).trans (HF.out.1 5 (by decide))
           have c6:wr.cell? ⟨wq.heap.size,6,none⟩=some (.int .u32 z.g):=((bcell hBk2).1 _ _ hszr).trans (HF.out.1 6 (by decide))
           have c7:wr.cell? ⟨wq.heap.size,7,none⟩=some (.int .u32 z.h):=((bcell hBk2).1 _ _ hszr).trans (HF.out.1 7 (by decide))
           have hww:∀i,i < 64->wr.cell? ⟨wk.heap.size,i,none⟩=some (.int .u32 (ww blk i)):=fun i hi=>by rw [hG.1 _ hi];exact congrArg (fun v=>some (Value.int .u32 v)) (if_pos hi)
           have Hww:=Bl.hid hww
           clear hG hww
           go_wp2_with fail
           go_quiet (fail)
           clear c0 c1 c2 c3 c4 c5 c6 c7
           go_wp2_with fail
           have hBz:Below wk.heap.size wk (wr.drewN nq):=hBk2.drewN _
           have HwwN:Hid (∀i,i < 64->(wr.drewN nq).cell? ⟨wk.heap.size,i,none⟩=some (.int .u32 (ww blk i))):=Bl.hid (fun i hi=>by rw [(bcell ((Below.refl wr.heap.size wr).drewN nq)).1 _ _ (World.block_lt_of_cell? _ _ (Hww.out 0 (by decide)))];exact Hww.out i hi)
           have HszN:Hid (wk.heap.size+1<=(wr.drewN nq).heap.size):=Bl.hid (World.block_lt_of_cell? _ _ (HwwN.out 0 (by decide)))
           clear hBk2 Hww
           generalize hwz:wr.drewN nq=wz at*
           clear hwz
           go_loopw [21,13,14,15,16,17,18,19,20] (fun i va vb vc vd ve vf vg vh ws=>∃(t:Nat) (s:St),t<=64/\i= .int .i64 t/\va= .int .u32 s.a/\vb= .int .u32 s.b/\vc= .int .u32 s.c/\vd= .int .u32 s.d/\ve= .int .u32 s.e/\vf= .int .u32 s.f/\vg= .int .u32 s.g/\vh= .int .u32 s.h/\Hid (s=rndn z (wl blk 64) t)/\Ext wz ws) (fun i _ _ _ _ _ _ _ _ _=>64 - (intOf i).toNat)
           case atStart=>exact⟨0,z,by omega,rfl,rfl,rfl,rfl,rfl,rfl,rfl,rfl,rfl,rfl,Below.refl _ _⟩
           case round=>
            obtain⟨t,s,ht64,rfl,rfl,rfl,rfl,rfl,rfl,rfl,rfl,rfl,hs,hE⟩:=hrel
            by_cases hlt64:t < 64
            ·have hw:wr.cell? ⟨wk.heap.size,t,none⟩=some (.int .u32 (ww blk t)):=by rw [(bcell hE).1 _ _ HszN.out];exact HwwN.out t hlt64
             have hgw:GlobR wr:=HGs.out.ext (Ext.trans (Below.trans (hB.mono (Nat.le_refl _)) (hBz.mono (by omega))) hE)
             have hk:wr.cell? ⟨9,t,none⟩=some (.int .u32 (kt.getD t 0)):=hgw.radded t hlt64
             have Hs':=Bl.hid (show rnd s (kt.getD t 0) (ww blk t)=rndn z (wl blk 64) (t+1)from by
              show _=rnd (rndn z (wl blk 64) t) (kt.getD t 0) ((wl blk 64).getD t 0)
              rw [wl_getD _ _ _ hlt64,<-hs.out])
             obtain⟨kk,hkk⟩:∃kk,kk=kt.getD t 0:=⟨_,rfl⟩
             obtain⟨wv,hwv⟩:∃wv,wv=ww blk t:=⟨_,rfl⟩
             rw [<-hkk]at hk Hs'
             rw [<-hwv]at hw Hs'
             clear hkk hwv hgw
             have ht0:(0:Int)<=(t:Int):=by omega
             have ht1:(t:Int) < 64:=by omega
             go_wp2_with fail
             refine wp_region_qt 27 (by as_aux_lemma=>kernel_rfl) (by as_aux_lemma=>kernel_rfl) ?_
             simp only [List.take_succ_cons,List.take_zero,List.drop_succ_cons,List.drop_zero]
             repeat (first | go_big_quiet_skip | (go_big_quiet_want;go_big_quiet_op;first | go_big_quiet_on | (apply Exists.intro;refine⟨?_,?_⟩;((go_at_call 132;refine(turn_any _ _ _ (by decide)).mono ?_;rintro e w2 ⟨rfl,rfl⟩;exact⟨rfl,rfl⟩));go_big_quiet_on)))
             refine wpQuiet_nil ?_
             clear hk hw
             go_wp2_with (go_at_call 132;refine(turn_any _ _ _ (by decide)).mono ?_;rintro e w2 ⟨rfl,rfl⟩)
             go_roundw
             case rel=>
              refine⟨_,_,_,_,_,_,_,_,_,⟨t+1,by omega,rfl,rnd s kk wv,rfl,rfl,rfl,rfl,rfl,rfl,rfl,rfl,Hs',hE.drewN 1⟩,rfl,rfl,rfl,rfl,rfl,rfl,rfl,rfl,by go_num⟩
             case measure=>simp [intOf];omega
            ·obtain rfl:t=64:=by omega
             have hFz:Fam wr wq.heap.size .u32 8 (fun i=>z.l.getD i 0):=(HF.out.below hBz hszr).below hE (by have:=HszN.out;omega)
             have c0:wr.cell? ⟨wq.heap.size,0,none⟩=some (.int .u32 z.a):=hFz.1 0 (by decide)
             have f0:wr.frozen? ⟨wq.heap.size,0,none⟩=false:=hFz.2 0
             have c1:wr.cell? ⟨wq.heap.size,1,none⟩=some (.int .u32 z.b):=hFz.1 1 (by decide)
             have f1:wr.frozen? ⟨wq.heap.size,1,none⟩=false:=hFz.2 1
             have c2:wr.cell? ⟨wq.heap.size,2,none⟩=some (.int .u32 z.c):=hFz.1 2 (by decide)
             have f2:wr.frozen? ⟨wq.heap.size,2,none⟩=false:=hFz.2 2
             have c3:wr.cell? ⟨wq.heap.size,3,none⟩=some (.int .u32 z.d):=hFz.1 3 (by decide)
             have f3:wr.frozen? ⟨wq.heap.size,3,none⟩=false:=hFz.2 3
             have c4:wr.cell? ⟨wq.heap.size,4,none⟩=some (.int .u32 z.e):=hFz.1 4 (by decide)
             have f4:wr.frozen? ⟨wq.heap.size,4,none⟩=false:=hFz.2 4
             have c5:wr.cell? ⟨wq.heap.size,5,none⟩=some (.int .u32 z.f):=hFz.1 5 (by decide)
             have f5:wr.frozen? ⟨wq.heap.size,5,none⟩=false:=hFz.2 5
             have c6:wr.cell? ⟨wq.heap.size,6,none⟩=some (.int .u32 z.g):=hFz.1 6 (by decide)
             have f6:wr.frozen? ⟨wq.heap.size,6,none⟩=false:=hFz.2 6
             have c7:wr.cell? ⟨wq.heap.size,7,none⟩=some (.int .u32 z.h):=hFz.1 7 (by decide)
             have f7:wr.frozen? ⟨wq.heap.size,7,none⟩=false:=hFz.2 7
             have HFz:=Bl.hid hFz
             have HszR:Hid (wq.heap.size+1<=wr.heap.size):=Bl.hid (by have:=HszN.out;have:=hE.size;omega)
             have HBr:Hid (Below wq.heap.size wq wr):=Bl.hid ((hB.trans (hBz.mono (by omega))).trans (hE.mono (by have:=HszN.out;omega)))
             clear hFz hE hBz
             have ha64:(a:Int)+64<=(M:Int)+8:=by omega
             go_wp2_with fail
             go_roundw
             case rel=>
              refine⟨k+1,by omega,congrArg (Value.int .i64) (by have:=Ha.out;omega),?_,below8 HBr.out _ (Nat.le_refl _) _ _ _ _ _ _ _ _,by simpa using HszR.out⟩
              refine(HFz.out.store8 _ _ _ _ _ _ _ _).congr (fun i hi=> ?_)
              have hnx:foldc L iv0 (List.range (k+1))=fin s z:=by
               have h1:foldc L iv0 (List.range (k+1))=comp z blk:=by
                rw [Hz.out,Hblk.out,List.range_succ];simp [foldc]
               rw [h1];unfold comp;rw [<-hs.out]
              rw [hnx]
              match i,hi with
              | 0,_=>exact congrArg (· % 4294967296) (Int.add_comm _ _)
              | 1,_=>exact congrArg (· % 4294967296) (Int.add_comm _ _)
              | 2,_=>exact congrArg (· % 4294967296) (Int.add_comm _ _)
              | 3,_=>exact congrArg (· % 4294967296) (Int.add_comm _ _)
              | 4,_=>exact congrArg (· % 4294967296) (Int.add_comm _ _)
              | 5,_=>exact congrArg (· % 4294967296) (Int.add_comm _ _)
              | 6,_=>exact congrArg (· % 4294967296) (Int.add_comm _ _)
              | 7,_=>exact congrArg (· % 4294967296) (Int.add_comm _ _)
             case measure=>simp [intOf];omega
      ·obtain rfl:k=m8:=by omega
       have hend:=foldc_range k L iv0 (by rw [HlenL.out,Hm8.out])
       obtain⟨zf,hzf⟩:∃zf,zf=(eat iv0 L).1:=⟨_,rfl⟩
       rw [hend,<-hzf]at hF
       have Hres:Hid (Bl.sha l=zf.bytes):=Bl.hid (by rw [hzf];exact hres.out)
       rw [<-Hm8.out]
       clear hend hzf hlt hres hk
       have hr8:wr.rangeAt wq.heap.size 0 (ints .u32 zf.l):=by
        have h:=hF.range
        have e:(List.range 8).map (fun i=>zf.l.getD i 0)=zf.l:=rfl
        rw [e]at h;exact h
       obtain⟨wk,rfl⟩:∃wk:World,wk=wr:=⟨_,rfl⟩
       have hO:=fam_new wk 32 .u8 52 (List.replicate 32 (Value.int .u8 0)).toArray rfl
       have hst:=store_ints (P:=Tryz.prog) (ty:=52) (k:= .u8) (l:=List.replicate 32 0) (n:=32) hO.there (by as_aux_lemma=>kernel_rfl) (by simp)
       have hFO:=fam_setCells hO (List.replicate 32 0) (by simp)
       have hEO:Ext wk ((wk.alloc (.cells (List.replicate 32 (Value.int .u8 0)).toArray 52)).setCells wk.heap.size 0 (ints .u8 (List.replicate 32 0))):=below_setCells _ _ _ _ (ext_alloc _ _) (Nat.le_refl _)
       have hld:=load_ints (P:=Tryz.prog) (ty:=188) (rangeAt_ext hr8 hEO) Tryz.underlying188 (by as_aux_lemma=>kernel_rfl) rfl
       have HFO:=Bl.hid hFO
       have HEO:=Bl.hid hEO
       have Hst:=Bl.hid hst
       have Hld:=Bl.hid hld
       clear hO hst hFO hEO hld hr8 hF
       have hnlt:decide ((M:Int)+8 < (M:Int)+8)=false:=decide_eq_false (by omega)
       go_wp2_with (with_reducible refine stop_store (ty:=52) ?_)
       refine go_on ?_
       refine wpL_store rfl rfl Hst.out ?_
       generalize hWO:(wk.alloc (.cells (List.replicate 32 (Value.int .u8 0)).toArray 52)).setCells wk.heap.size 0 (ints .u8 (List.replicate 32 0))=WO at*
       clear hWO Hst hnlt
       go_wp2_with ((with_reducible refine wpL_load ?_ Hld.out ?_);rfl)
       clear Hld
       go_loopw [273] (fun i' ws=>∃i:Nat,i'= .int .i64 i/\i<=8/\Fam ws wk.heap.size .u8 32 (fun j=>if j < 4*i then zf.byte j else 0)/\Below wk.heap.size WO ws) (fun i' _=>8 - (intOf i').toNat)
       case atStart=>exact⟨0,rfl,by omega,HFO.out.congr (fun j hj=>by rw [if_neg (by omega),List.getD_eq_getElem?_getD,List.getElem?_replicate,if_pos hj];rfl),Below.refl _ _⟩
       case round=>
        obtain⟨i,rfl,hi,hFo,hBo⟩:=hrel
        by_cases hi8:i=8
        ·subst hi8
         have hAll:Below wq.heap.size wq wr:=(hB.trans (HEO.out.mono (by omega))).trans (hBo.mono (by omega))
         have hlo:=load_ints (P:=Tryz.prog) (ty:=52) (hFo.range) Tryz.underlying52 (by as_aux_lemma=>kernel_rfl) (by simp)
         have HHr:=Bl.hid (HFs.out.below hAll (by omega))
         have hst:=store_ints (P:=Tryz.prog) (k:= .u8) (ty:=52) (l:=(List.range 32).map (fun j=>if j < 4*8 then zf.byte j else 0)) HHr.out.there (by as_aux_lemma=>kernel_rfl) (by simp)
         have Hlo:=Bl.hid hlo
         have Hst:=Bl.hid hst
         have HAll:=Bl.hid hAll
         clear hFo hlo hst hAll HFO
         go_wp2_with (first | ((with_reducible refine wpL_load ?_ Hlo.out ?_);rfl) | ((with_reducible refine wpL_store ?_ ?_ Hst.out ?_);rfl;rfl))
         have hin:(wr.setCells w.heap.size 0 (ints .u8 ((List.range 32).map (fun j=>if j < 4*8 then zf.byte j else 0)))).rangeAt w.heap.size 0 (ints .u8 ((List.range 32).map (fun j=>if j < 4*8 then zf.byte j else 0))):=World.rangeAt_setCells_same _ _ _ _ (by simpa using HHr.out.there)
         have hld2:=run_loadVar_mid (P:=Tryz.prog) _ w.heap.size 0 52 _ _ hin Tryz.underlying52 rfl (by rw [ints_length,List.length_map,List.length_range];kernel_rfl)
         refine bodyPost_ret (v:= .agg (ints .u8 ((List.range 32).map (fun j=>if j < 4*8 then zf.byte j else 0))).toArray) (results_cell rfl rfl hld2) rfl ⟨?_,?_⟩
         ·rw [Hres.out,St.bytes_map]
         ·exact below_setCells _ _ _ _ (Below.trans HEs.out (HAll.out.mono (by omega))) (Nat.le_refl _)
        ·have hx8:(Instr.index 188 (.agg (ints .u32 zf.l).toArray) (.int .i64 i)).run Tryz.prog wr= .ok (.int .u32 (zf.l.getD i 0)) wr:=index_ints Tryz.underlying188 (fun w=>by simp [go_sem]) (fun w=>by simp [go_sem]) rfl (by omega)
         obtain⟨x,hx⟩:∃x,x=zf.l.getD i 0:=⟨_,rfl⟩
         rw [<-hx]at hx8
         have Hx:=Bl.hid hx
         have Hx8:=Bl.hid hx8
         have c0:wr.cell? ⟨wk.heap.size,4*i,none⟩=some (.int .u8 0):=by rw [hFo.1 _ (by omega)];exact congrArg (fun v=>some (Value.int .u8 v)) (if_neg (by omega))
         have c1:wr.cell? ⟨wk.heap.size,4*i+1,none⟩=some (.int .u8 0):=by rw [hFo.1 _ (by omega)];exact congrArg (fun v=>some (Value.int .u8 v)) (if_neg (by omega))
         have c2:wr.cell? ⟨wk.heap.size,4*i+2,none⟩=some (.int .u8 0):=by rw [hFo.1 _ (by omega)];exact congrArg (fun v=>some (Value.int .u8 v)) (if_neg (by omega))
         have c3:wr.cell? ⟨wk.heap.size,4*i+3,none⟩=some (.int .u8 0):=by rw [hFo.1 _ (by omega)];exact congrArg (fun v=>some (Value.int .u8 v)) (if_neg (by omega))
         have f0:wr.frozen? ⟨wk.heap.size,4*i,none⟩=false:=hFo.2 _
         have f1:wr.frozen? ⟨wk.heap.size,4*i+1,none⟩=false:=hFo.2 _
         have f2:wr.frozen? ⟨wk.heap.size,4*i+2,none⟩=false:=hFo.2 _
         have f3:wr.frozen? ⟨wk.heap.size,4*i+3,none⟩=false:=hFo.2 _
         have HFo:=Bl.hid hFo
         clear hFo hx hx8 HFO
         have i0:(0:Int)<=(i:Int):=by omega
         have i8:(i:Int) < 8:=by omega
         have n0:(4*(i:Int)).toNat=4*i:=by omega
         have n1:(4*(i:Int)+1).toNat=4*i+1:=by omega
         have n2:(4*(i:Int)+2).toNat=4*i+2:=by omega
         have n3:(4*(i:Int)+3).toNat=4*i+3:=by omega
         go_wp2_with ((with_reducible refine wpL_index (p:= .agg (ints .u32 zf.l).toArray) (v:= .int .i64 i) ?_ ?_ Hx8.out ?_);rfl;rfl)
         go_roundw
         case rel=>
          refine⟨i+1,by go_num,by omega,?_,(((hBo.setCell (by simp) _).setCell (by simp) _).setCell (by simp) _).setCell (by simp) _⟩
          refine((((HFo.out.set (4*i) (by omega) _).set (4*i+1) (by omega) _).set (4*i+2) (by omega) _).set (4*i+3) (by omega) _).congr (fun j hj=> ?_)
          rw [Hx.out];exact byte4 zf i j
         case measure=>simp [intOf];omega
    ·have hj7:(0:Int)<=7 - (j:Int):=by omega
     have hszs:w.heap.size+1<=wr.heap.size:=Nat.le_trans hszr hBs.size
     have h8:(8*(7 - (j:Int))).toNat=56 - 8*j:=by omega
     have h80:(0:Int)<=8*(7 - (j:Int)):=by omega
     go_wp2_with (with_reducible refine stop_append ?_)
     refine go_on ?_
     have Hr:=Bl.hid (owns_ext hq (ext_alloc wr (.cells #[.int .u8 ((l.length:Int)*8 / 2^(56 - 8*j) % 256)] 5)))
     have Hnew:=Bl.hid (rds_one wr 5 .u8 ((l.length:Int)*8 / 2^(56 - 8*j) % 256))
     refine wpL_app tBytes Hr.out Hnew.out rfl rfl (by simp) (ints_one _ _) (by unfold maxLen;omega) (by omega) (by simp only [World.size_alloc];omega) ?_
     intro p4 c4 w4 hown4 hg4 hB4 hK4 hn4 hc4
     go_wp2_with fail
     go_roundw
     case rel=>
      refine⟨j+1,p4,c4,by rw [show(7:Int) - ((j+1:Nat):Int)=7 - (j:Int) - 1 from by omega],by omega,rfl,?_,(hBs.trans (below_alloc _ _ hszs)).trans hB4⟩
      rw [lenb_take l.length j (by omega),<-List.append_assoc,ints_append]
      exact hown4
     case measure=>simp [intOf];omega
  ·have hrem:((l.length:Int)+1+(j:Int)) % 64≠56:=by unfold padn at hj hjp;omega
   have hj64:j<=64:=by unfold padn at hj;omega
   have hszr:w.heap.size+1<=wr.heap.size:=Nat.le_trans hs2 hB.size
   have Hr:=Bl.hid (owns_ext hr (ext_alloc wr (.cells #[.int .u8 0] 5)))
   have Hnew:=Bl.hid (rds_one wr 5 .u8 0)
   go_wp2_with (with_reducible refine stop_append ?_)
   refine go_on ?_
   refine wpL_app tBytes Hr.out Hnew.out rfl rfl (by simp) (ints_one _ _) (by unfold maxLen;omega) (by omega) (by simp only [World.size_alloc];omega) ?_
   intro p4 c4 w4 hown4 hg4 hB4 hK4 hn4 hc4
   go_wp2_with fail
   go_roundw
   case rel=>
    refine⟨j+1,p4,c4,rfl,by omega,?_,(hB.trans (below_alloc _ _ hszr)).trans hB4⟩
    rw [show l++128 :: List.replicate (j+1) (0:Int)=(l++128 :: List.replicate j 0)++[0]from by simp [List.replicate_succ'],ints_append]
    exact hown4
   case measure=>simp only [sliceLen];omega
end Go.Proofs.YtglenbikdahgjaaGreatDoor
