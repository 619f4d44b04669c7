/- Texts that stood apart, in one: PathQ, WBytesOf, WFold, WRefMake, WRefFold. -/
import Derived.Test.YtglenbikdahgjaaGreatDoorPk02
import Derived.Test.YtglenbikdahgjaaGreatDoorPk03
import Derived.Test.YtglenbikdahgjaaGreatDoorPk16
import Derived.Test.YtglenbikdahgjaaGreatDoorPk14
set_option maxRecDepth 100000
set_option maxHeartbeats 16000000
namespace Go.Proofs.Bl
open Go
def zsP (T:List (Bool × Nat × Nat)) (p:List (List Int)):List (Bool × List Int):=(T.reverse.zip p).map fun x=>(x.1.1,x.2)
theorem zsP_len {T:List (Bool × Nat × Nat)} {p:List (List Int)} (h:p.length=T.length):(zsP T p).length=T.length:=by
 simp [zsP,h]
theorem zsP_get {T:List (Bool × Nat × Nat)} {p:List (List Int)} (h:p.length=T.length) (k:Nat) (hk:k < T.length):(zsP T p)[k]'(by rw [zsP_len h];exact hk)=((T.reverse.getD k default).1,p.getD k []):=by
 simp only [zsP,List.getElem_map,List.getElem_zip]
 rw [List.getD_eq_getElem?_getD,List.getElem?_eq_getElem (by rw [List.length_reverse];exact hk),List.getD_eq_getElem?_getD,List.getElem?_eq_getElem (by rw [h];exact hk)];rfl
def seqP (n i:Nat) (l:List Int) (p:List (List Int)):List (List Int):=seqB sha (0 :: l) (zsP (turnsL n i) p)
theorem seqP_len {n i:Nat} {l:List Int} {p:List (List Int)} (h:p.length=(turnsL n i).length):(seqP n i l p).length=(turnsL n i).length+1:=by
 unfold seqP;rw [seqB_len,zsP_len h]
theorem seqP_zero (n i:Nat) (l:List Int) (p:List (List Int)):(seqP n i l p).getD 0 []=0 :: l:=seqB_zero sha _ _
theorem seqP_succ {n i:Nat} {l:List Int} {p:List (List Int)} (h:p.length=(turnsL n i).length) (k:Nat) (hk:k < (turnsL n i).length):
  (seqP n i l p).getD (k+1) []=stB (sha ((seqP n i l p).getD k [])) ((turnsL n i).reverse.getD k default).1 (p.getD k []):=by
 unfold seqP
 rw [seqB_succ sha (zsP (turnsL n i) p) (0 :: l) k (by rw [zsP_len h];exact hk),zsP_get h k hk]
theorem seqP_last {n i:Nat} {l:List Int} {p:List (List Int)} (h:p.length=(turnsL n i).length):sha ((seqP n i l p).getD (turnsL n i).length [])=foldP ndD n i (lfD l) p:=by
 have h1:=seqB_last sha (zsP (turnsL n i) p) (0 :: l)
 rw [zsP_len h]at h1
 unfold seqP
 rw [h1]
 unfold foldP zsP
 have key:∀(L:List ((Bool × Nat × Nat) × List Int)) (d:List Int),climbB sha d (L.map fun x=>(x.1.1,x.2))=climb ndD d L:=by
  intro L
  induction L with
  | nil=>intro d;rfl
  | cons a r ih=>
   intro d
   obtain⟨t,s⟩:=a
   simp only [List.map_cons,climbB,climb]
   rw [ih]
   congr 1
   unfold stB upP
   by_cases ht:t.1=true
   ·rw [if_pos ht,if_pos ht];rfl
   ·rw [if_neg ht,if_neg ht];rfl
 exact key _ _
theorem stB_len {d s:List Int} {t:Bool} (h1:d.length=32) (h2:s.length=32):(stB d t s).length=65:=by
 unfold stB inB;split<;>simp [h1,h2]
end Go.Proofs.Bl
namespace Go.Proofs.Bl
open Go Go.RowKit
theorem stB_byt {d s:List Int} {t:Bool} (h1:Byt d) (h2:Byt s):Byt (stB d t s):=by
 unfold stB inB;split
 ·exact byt_cons (by decide) (by decide) (h1.append h2)
 ·exact byt_cons (by decide) (by decide) (h2.append h1)
end Go.Proofs.Bl
namespace Go.Proofs.YtglenbikdahgjaaGreatDoor
open Go.RowKit Go.Proofs Go.Proofs.Bl
theorem bytesOf_any (n i:Nat) (vl vp:Value) (l:List Int) (p:List (List Int)) (w:World) (hn:n<=512) (hi:i < n) (hl:Rd w .u8 vl l) (hbl:Byt l) (hll:l.length<=1099511626000) (hp:RdD w vp p) (hdp:Dig p) (hpl:p.length=(turnsL n i).length) (hg:Glob w):
  Calls Tryz.prog 53 #[.int .i64 n,.int .i64 i,vl,vp] w fun e w'=>∃v',e= .returned v'/\Rdss w' v' (seqP n i l p)/\Ext w w':=by
 have HT:=Bl.hid (turns_any n i w hn hi)
 have hTl:=turnsL_len n n i (Nat.le_refl _) (by omega)
 have Hs0:=Bl.hid (seqP_zero n i l p)
 have Hsl:=Bl.hid (seqP_len (l:=l) hpl)
 have Hss:=Bl.hid (fun k (hk:k < (turnsL n i).length)=>seqP_succ (l:=l) hpl k hk)
 obtain⟨S,hS⟩:∃S,S=seqP n i l p:=⟨_,rfl⟩
 rw [<-hS]at Hs0 Hsl Hss⊢
 obtain⟨T,hT⟩:∃T,T=turnsL n i:=⟨_,rfl⟩
 rw [<-hT]at HT hTl Hsl Hss hpl
 obtain⟨m,hm⟩:∃m,m=T.length:=⟨_,rfl⟩
 rw [<-hm]at HT hTl Hsl Hss hpl
 obtain⟨pp,cp,hvpf,hvpn,hvpc⟩:=hp.form
 obtain⟨pl,cl,hvlf,hvln,hvlc⟩:=hl.form
 subst hvpf hvlf
 rw [hpl]at hvpn⊢
 have Hp:Hid (RdD w (.slice pp m cp) p):=Bl.hid (by rw [hpl]at hp;exact hp)
 have Hl:=Bl.hid hl
 have Hbl:=Bl.hid hbl
 have Hdp:=Bl.hid hdp
 have Hpl:=Bl.hid hpl
 have Hg:=Bl.hid hg
 have Hm:=Bl.hid hm
 clear hS hT hm hp hl hbl hdp hpl hg hvpc hvlc
 go_enter Tryz.func53,Tryz.ntmps53
 go_wp2_with fail
 refine HT.out.mono ?_
 rintro e w1 ⟨pt,ct,rfl,hown1,hE1⟩
 have Hown1:=Bl.hid hown1
 have HE1:=Bl.hid hE1
 clear hown1 hE1 HT
 go_wp2_with fail
 refine(revT_any pt m ct w.heap.size _ T w1 Hm.out.symm Hown1.out (by omega)).mono ?_
 rintro e w2 ⟨rfl,hR2,hB2⟩
 have HT2:Hid (Rds w2 (.slice pt m ct) T.reverse.length (cellsT T.reverse)):=Bl.hid (by rw [List.length_reverse,<-Hm.out];exact hR2)
 have HE2:Hid (Ext w w2):=Bl.hid (Below.trans HE1.out hB2)
 clear hR2 hB2 HE1 Hown1
 go_wp2_with fail
 refine(outer_own _ l w2 (Hl.out.ext HE2.out) (by omega)).mono ?_
 rintro e w3 ⟨v0,rfl,hown3,hE3⟩
 obtain⟨g0,c0,rfl,hc0,hcm0,hr0,hg0,hg0l,hl0⟩:=own_pos hown3 (by omega)
 have hF:OutB 27 (w3.heap.size+1) (w3.alloc (.cells #[.slice (some ⟨g0,0,none⟩) (l.length+1) c0] 27)) w3.heap.size (.slice (some ⟨w3.heap.size,0,none⟩) 1 1) [0 :: l] [.slice (some ⟨g0,0,none⟩) (l.length+1) c0]:=OutB.first (l:=0 :: l) (Nat.le_refl w3.heap.size) hr0 hg0l hc0 hcm0 (by simp)
 have HE3:=Bl.hid (HE2.out.trans hE3)
 have HEa:Hid (Ext w3 (w3.alloc (.cells #[.slice (some ⟨g0,0,none⟩) (l.length+1) c0] 27))):=Bl.hid (ext_alloc _ _)
 have HT3:=Bl.hid (HT2.out.ext hE3)
 have hsa:(w3.alloc (.cells #[.slice (some ⟨g0,0,none⟩) (l.length+1) c0] 27)).heap.size=w3.heap.size+1:=World.size_alloc _ _
 clear hown3 hE3 hr0 hg0 hl0 hc0 hcm0 HT2 HE2 hg0l
 go_wp2_with fail
 obtain⟨W4,hW4⟩:∃W4,W4=w3.alloc (.cells #[.slice (some ⟨g0,0,none⟩) (l.length+1) c0] 27):=⟨_,rfl⟩
 rw [<-hW4]at hF HEa hsa⊢
 obtain⟨B,hB⟩:∃B,B=w3.heap.size:=⟨_,rfl⟩
 rw [<-hB]at hF hsa⊢
 have HB:=Bl.hid hB
 have HF:=Bl.hid hF
 have HG3:=Bl.hid (Hg.out.ext HE3.out)
 have Hsa:=Bl.hid hsa
 clear hF hW4 hB hsa
 refine(leaf_any _ l W4 (Hl.out.ext (HE3.out.trans HEa.out)) (HG3.out.ext HEa.out) Hbl.out (by omega)).mono ?_
 rintro e w4 ⟨rfl,hE4⟩
 have hs4:B+1<=w4.heap.size:=by rw [<-Hsa.out];exact hE4.size
 have HF4:Hid (OutB 27 w4.heap.size w4 B (.slice (some ⟨B,0,none⟩) 1 1) [0 :: l] [.slice (some ⟨g0,0,none⟩) (l.length+1) c0]):=Bl.hid (by
  have h:=HF.out.ext hE4
  refine⟨h.rows,fun q=> ?_,fun j hj=> ?_⟩
  ·have:=(h.rows.lt _ q).2;omega
  ·obtain⟨g,o,c,e1,e2,e3,e4,e5,e6,_⟩:=h.elts j hj
   exact⟨g,o,c,e1,e2,e3,e4,e5,e6,by omega⟩)
 have HFz:=Bl.hid (fam_new w4 32 .u8 54 #[.int .u8 0,.int .u8 0,.int .u8 0,.int .u8 0,.int .u8 0,.int .u8 0,.int .u8 0,.int .u8 0,.int .u8 0,.int .u8 0,.int .u8 0,.int .u8 0,.int .u8 0,.int .u8 0,.int .u8 0,.int .u8 0,.int .u8 0,.int .u8 0,.int .u8 0,.int .u8 0,.int .u8 0,.int .u8 0,.int .u8 0,.int .u8 0,.int .u8 0,.int .u8 0,.int .u8 0,.int .u8 0,.int .u8 0,.int .u8 0,.int .u8 0,.int .u8 0] rfl)
 have HBx:=Bl.hid (BoxD.of_fam HFz.out (d:=lfD l) (lfD_length l))
 have Hst:=Bl.hid (store_ints (P:=Tryz.prog) (ty:=54) (k:= .u8) (l:=lfD l) (n:=32) HFz.out.there (by kernel_rfl) (lfD_length l))
 have HO5:=Bl.hid ((HF4.out.ext (ext_alloc w4 (.cells #[.int .u8 0,.int .u8 0,.int .u8 0,.int .u8 0,.int .u8 0,.int .u8 0,.int .u8 0,.int .u8 0,.int .u8 0,.int .u8 0,.int .u8 0,.int .u8 0,.int .u8 0,.int .u8 0,.int .u8 0,.int .u8 0,.int .u8 0,.int .u8 0,.int .u8 0,.int .u8 0,.int .u8 0,.int .u8 0,.int .u8 0,.int .u8 0,.int .u8 0,.int .u8 0,.int .u8 0,.int .u8 0,.int .u8 0,.int .u8 0,.int .u8 0,.int .u8 0] 54))).set (ints .u8 (lfD l)))
 have HE5:Hid (Ext w3 ((w4.alloc (.cells #[.int .u8 0,.int .u8 0,.int .u8 0,.int .u8 0,.int .u8 0,.int .u8 0,.int .u8 0,.int .u8 0,.int .u8 0,.int .u8 0,.int .u8 0,.int .u8 0,.int .u8 0,.int .u8 0,.int .u8 0,.int .u8 0,.int .u8 0,.int .u8 0,.int .u8 0,.int .u8 0,.int .u8 0,.int .u8 0,.int .u8 0,.int .u8 0,.int .u8 0,.int .u8 0,.int .u8 0,.int .u8 0,.int .u8 0,.int .u8 0,.int .u8 0,.int .u8 0] 54)).setCells w4.heap.size 0 (ints .u8 (lfD l)))):=Bl.hid (Below.trans (HEa.out.trans hE4) ((below_setCells _ _ _ _ (ext_alloc _ _) (Nat.le_refl _)).mono (by rw [<-HB.out];omega)))
 clear hE4 HF HFz HEa
 go_wp2_with (with_reducible refine stop_store (ty:=54) ?_)
 refine go_on ?_
 refine wpL_store0 rfl rfl Hst.out ?_
 clear Hst
 obtain⟨X,hX⟩:∃X,X=w4.heap.size:=⟨_,rfl⟩
 rw [<-hX]at HBx HO5 HE5 hs4⊢
 obtain⟨W5,hW5⟩:∃W5,W5=(w4.alloc (.cells #[.int .u8 0,.int .u8 0,.int .u8 0,.int .u8 0,.int .u8 0,.int .u8 0,.int .u8 0,.int .u8 0,.int .u8 0,.int .u8 0,.int .u8 0,.int .u8 0,.int .u8 0,.int .u8 0,.int .u8 0,.int .u8 0,.int .u8 0,.int .u8 0,.int .u8 0,.int .u8 0,.int .u8 0,.int .u8 0,.int .u8 0,.int .u8 0,.int .u8 0,.int .u8 0,.int .u8 0,.int .u8 0,.int .u8 0,.int .u8 0,.int .u8 0,.int .u8 0] 54)).setCells X 0 (ints .u8 (lfD l)):=⟨_,rfl⟩
 rw [<-hW5]at HBx HO5 HE5⊢
 clear hX hW5 HF4 Hsa
 have Hst1:Hid ((∃vs,OutB 27 X W5 B (.slice (some ⟨B,0,none⟩) (0+1) 1) (S.take (0+1)) vs)/\BoxD W5 X (Bl.sha (S.getD 0 []))):=Bl.hid ⟨⟨_,by
  have h1:S.take (0+1)=[0 :: l]:=by rw [take_snocD S 0 (by rw [Hsl.out];omega),Hs0.out];rfl
  rw [h1];exact HO5.out⟩,by rw [Hs0.out];exact HBx.out⟩
 clear HO5 HBx
 go_wp2_with fail
 go_loopw [10,27] (fun out x wr=>∃(k c1:Nat) (p1:Option Addr),k<=m/\x= .int .i64 k/\out= .slice p1 (k+1) c1/\Hid ((∃vs,OutB 27 X wr B (.slice p1 (k+1) c1) (S.take (k+1)) vs)/\BoxD wr X (Bl.sha (S.getD k [])))/\Ext w3 wr) (fun _ x _=>m - (intOf x).toNat)
 case atStart=>exact⟨0,1,_,Nat.zero_le _,rfl,rfl,Hst1.out,HE5.out⟩
 case round=>
  obtain⟨k,c1,p1,hk,rfl,rfl,HA,hE⟩:=hrel
  have HE:=Bl.hid hE
  clear hE Hst1 HE5
  by_cases hlt:k < m
  ·obtain⟨⟨vs,hO⟩,hBx⟩:=HA.out
   have HO:=Bl.hid hO
   have HBx:=Bl.hid hBx
   obtain⟨b,o,cc,hpe,hcn,hcm,hbl,hrg⟩:=RdT.pos (HT3.out.ext HE.out) (by rw [List.length_reverse,<-Hm.out];omega)
   injection hpe with hpe1 hpe2 hpe3
   clear hpe2 hpe3
   subst hpe1
   obtain⟨b2,o2,c2,hq,hq1,hq2,hbl2,hrg2⟩:=RdD.pos (by have h:=Rds.ext Hp.out (HE3.out.trans HE.out);rw [<-Hpl.out]at h;exact h) Hdp.out (by rw [Hpl.out];omega)
   injection hq with hq3 hq4 hq5
   clear hq4 hq5
   subst hq3
   have hr2:=digit_at hrg2 Hdp.out (i:=k) (by rw [Hpl.out];exact hlt)
   obtain⟨hsl,hsb⟩:=Hdp.out.get (i:=k) (by rw [Hpl.out];exact hlt)
   have hnx:=Hss.out k hlt
   obtain⟨⟨x,n',i'⟩,he⟩:∃t,T.reverse.getD k default=t:=⟨_,rfl⟩
   rw [he]at hnx
   have Hld:=Bl.hid (run_loadAt_mid (P:=Tryz.prog) wr b (o+k*3) 146 _ _ (turn_at hrg (by rw [List.length_reverse,<-Hm.out];exact hlt) he) Tryz.underlying146 rfl (by kernel_rfl))
   have Htk:=Bl.hid (take_snocD S (k+1) (by rw [Hsl.out];omega))
   have HtL:Hid ((S.take (k+1)).length=k+1):=Bl.hid (by rw [List.length_take,Hsl.out];omega)
   obtain⟨s,hs⟩:∃s,s=p.getD k []:=⟨_,rfl⟩
   rw [<-hs]at hr2 hsl hsb hnx
   obtain⟨d,hd⟩:∃d,d=Bl.sha (S.getD k []):=⟨_,rfl⟩
   have hdl:d.length=32:=by rw [hd];rfl
   have hdb:Byt d:=by rw [hd];exact sha_byt _
   rw [<-hd]at hnx HBx
   obtain⟨nx,hnxe⟩:∃nx,nx=S.getD (k+1) []:=⟨_,rfl⟩
   rw [<-hnxe]at hnx Htk
   have Hnxe:=Bl.hid hnxe
   have HnL:Hid (nx.length=65):=Bl.hid (by rw [hnx];exact stB_len hdl hsl)
   have HnB:Hid (Byt nx):=Bl.hid (by rw [hnx];exact stB_byt hdb hsb)
   have Hnx:=Bl.hid hnx
   have Hr2:=Bl.hid hr2
   have Hsl:=Bl.hid hsl
   have Hdl:=Bl.hid hdl
   have hkb0:(0:Int)<=(k:Int):=by omega
   have hkb1:(k:Int) < (m:Int):=by omega
   have HX:Hid (X < wr.heap.size):=Bl.hid HBx.out.lt
   clear hO hBx HA hcn hcm hbl hrg hq1 hq2 hbl2 hrg2 hr2 hsl hsb he hs hd hdl hdb hnx hnxe
   go_wp2_with (with_reducible refine stop_load (ty:=146) ?_)
   refine go_on ?_
   refine wpL_load rfl Hld.out ?_
   obtain⟨hst,hc0,hc1,hEb⟩:=turn_box wr x n' i'
   have Hst:=Bl.hid hst
   have HEb:=Bl.hid hEb
   clear hst hEb Hld hc1
   go_wp2_with (with_reducible refine stop_store (ty:=146) ?_)
   refine go_on ?_
   refine wpL_store0 rfl rfl Hst.out ?_
   clear Hst
   generalize (wr.alloc (.cells #[.bool false,.int .i64 0,.int .i64 0] 146)).setCells wr.heap.size 0 [.bool x,.int .i64 n',.int .i64 i']=W6 at*
   have hs67:=HEb.out.size
   have HBX:Hid (B < X):=Bl.hid (by omega)
   have HX6:Hid (X < W6.heap.size):=Bl.hid (Nat.lt_of_lt_of_le HX.out hs67)
   have HO6:=Bl.hid (HO.out.ext HEb.out)
   have HB6:=Bl.hid (HBx.out.ext HEb.out)
   have HE6:=Bl.hid (HE.out.trans HEb.out)
   have HLs:Hid (∀w2,Ext W6 w2->(Instr.loadAt 54 (.pointer (some ⟨b2,o2+k*32,none⟩))).run Tryz.prog w2= .ok (.agg (ints .u8 s).toArray) w2):=Bl.hid fun w2 h2=>load_ints (rangeAt_ext Hr2.out (HEb.out.trans h2)) Tryz.underlying54 (by kernel_rfl) Hsl.out
   have HLd:Hid (∀w2,Ext W6 w2->(Instr.loadAt 54 (.pointer (some ⟨X,0,none⟩))).run Tryz.prog w2= .ok (.agg (ints .u8 d).toArray) w2):=Bl.hid fun w2 h2=>(HB6.out.ext h2).load Tryz.underlying54 (by kernel_rfl)
   have HI1:Hid (∀w2,Ext W6 w2->Calls Tryz.prog 92 #[.agg (ints .u8 s).toArray,.agg (ints .u8 d).toArray] w2 fun e w'=>∃v',e= .returned v'/\w'.ownsRow W6.heap.size 5 1 v' 65 (ints .u8 (1 :: (s++d)))/\Ext w2 w'):=Bl.hid fun w2 h2=>(inner_own s d w2 Hsl.out Hdl.out).mono fun e w' ⟨v',h3,h4,h5⟩=>⟨v',h3,by
    rw [show(s++d).length+1=65 from by rw [List.length_append,Hsl.out,Hdl.out]]at h4
    exact owns_mono h4 h2.size,h5⟩
   have HI2:Hid (∀w2,Ext W6 w2->Calls Tryz.prog 92 #[.agg (ints .u8 d).toArray,.agg (ints .u8 s).toArray] w2 fun e w'=>∃v',e= .returned v'/\w'.ownsRow W6.heap.size 5 1 v' 65 (ints .u8 (1 :: (d++s)))/\Ext w2 w'):=Bl.hid fun w2 h2=>(inner_own d s w2 Hdl.out Hsl.out).mono fun e w' ⟨v',h3,h4,h5⟩=>⟨v',h3,by
    rw [show(d++s).length+1=65 from by rw [List.length_append,Hsl.out,Hdl.out]]at h4
    exact owns_mono h4 h2.size,h5⟩
   clear HE HEb HO HBx Hr2 hs67 hs4
   have FIN:Hid (∀(wB:World) (gb cb:Nat),Ext W6 wB->wB.rangeAt gb 0 (ints .u8 nx)->W6.heap.size<=gb->gb < wB.heap.size->65<=cb->cb<=maxLen->
     ∀(q3:Option Addr) (d3:Nat) (w9:World),w9.ownsRow B 27 1 (.slice q3 (k+1+1) d3) (k+1+1) (vs++[.slice (some ⟨gb,0,none⟩) 65 cb])->(wB.alloc (.cells #[.slice (some ⟨gb,0,none⟩) 65 cb] 27)).grownBy w9 (Value.slice p1 (k+1) c1).ownBlock->Below B (wB.alloc (.cells #[.slice (some ⟨gb,0,none⟩) 65 cb] 27)) w9->
     (∀q,(Value.slice q3 (k+1+1) d3).ownBlock=some q->(Value.slice p1 (k+1) c1).ownBlock=some q\/(wB.alloc (.cells #[.slice (some ⟨gb,0,none⟩) 65 cb] 27)).heap.size<=q)->
     OutB 27 X w9 B (.slice q3 (k+1+1) d3) (S.take (k+1+1)) (vs++[.slice (some ⟨gb,0,none⟩) 65 cb])/\BoxD w9 X d/\Rd w9 .u8 (.slice (some ⟨gb,0,none⟩) 65 cb) nx/\Ext w3 w9):=Bl.hid fun wB gb cb h1 h2 h3 h4 h5 h6 q3 d3 w9 h7 h8 h9 h10=>by
    have hst:=OutB.step (ps:=S.take (k+1)) (l:=nx) HO6.out h1 HX6.out h2 h3 h4 (by rw [HnL.out];exact h5) h6 (out1:= .slice q3 (k+1+1) d3) (w4:=w9) (by rw [HnL.out,HtL.out];exact h7) (by rw [HnL.out];exact h8) (by rw [HnL.out];exact h10)
    rw [HnL.out,<-Htk.out]at hst
    have hne:(Value.slice p1 (k+1) c1).ownBlock≠some gb:=fun q=>by have:=(HO6.out.rows.lt gb q).2;omega
    refine⟨hst,((HB6.out.ext h1).ext (ext_alloc _ _)).grown h8 HO6.out.ox,?_,Below.trans (HE6.out.trans (h1.trans (ext_alloc _ _))) (by rw [<-HB.out];exact h9)⟩
    show Rds w9 _ nx.length _
    rw [HnL.out]
    exact .inr ⟨gb,0,cb,rfl,h5,h6,rangeAt_grown (rangeAt_ext h2 (ext_alloc _ _)) h8 hne⟩
   have HOr:Hid (∀wB,Ext W6 wB->∀u,(wB.alloc (.cells #[u] 27)).ownsRow B 27 1 (.slice p1 (k+1) c1) (k+1) vs):=Bl.hid fun wB h u=>by
    have h1:=owns_ext (owns_ext HO6.out.rows h) (ext_alloc wB (.cells #[u] 27))
    rw [HtL.out]at h1;exact h1
   have HBs:Hid (∀wB,Ext W6 wB->∀u,B<=(wB.alloc (.cells #[u] 27)).heap.size):=Bl.hid fun wB h u=>by
    rw [World.size_alloc];have:=h.size;have:=HX6.out;have:=HBX.out;omega
   have HEND:Hid (∀w9 w10,BoxD w9 X d->Ext w9 w10->(Instr.storeAt 54 (.pointer (some ⟨X,0,none⟩)) (.agg (ints .u8 (Bl.sha nx)).toArray)).run Tryz.prog w10= .ok () (w10.setCells X 0 (ints .u8 (Bl.sha nx)))):=Bl.hid fun w9 w10 h1 h2=>store_ints (n:=32) (h1.ext h2).th (by kernel_rfl) rfl
   cases x
   ·have Hnx1:Hid (nx=1 :: (s++d)):=Bl.hid Hnx.out
    go_wp2_with fail
    apply wp_region_ev 6 [32,33,34,35,36,37] [eqv _,eqv _,eqv _,eqv _,eqv _,(fun v w'=>w'.ownsRow W6.heap.size 5 1 v 65 (ints .u8 (1 :: (s++d))))] (by kernel_rfl) (by kernel_rfl) (by kernel_rfl) (by kernel_rfl)
    case hsteps=>
     refine⟨?_,?_,?_,?_,?_,?_,trivial⟩
     all_goals
      intro ev w1 hext hb hd
      have e3:=hb 3 (by decide)
      have e11:=hb 11 (by decide)
      have e12:=hb 12 (by decide)
      clear hb
      simp only [Qa,Qb,Q1,Bl.Q2,Qd]at e3 e11 e12
      simp only [DepsE,Q1,Bl.Q2,Qc,Q3,Q4,eqv,and_true]at hd
      have hc:=(bcell hext).1
      simp only [Bl.Good,Region.wanted,if_true]
      first
      | ((with_reducible refine goodR_load ?_ (HLs.out _ hext) ?_);exact hd;exact rfl) | ((with_reducible refine goodR_load ?_ (HLd.out _ hext) ?_);first | exact hd | exact e11;exact rfl)
      | (go_simp;first | (go_at_call 92;(with_reducible refine(HI1.out _ hext).mono ?_);rintro e w2 ⟨v2,rfl,hO2,hE2⟩;exact⟨_,rfl,hE2,hO2⟩) | exact⟨Below.refl _ _,rfl⟩ | exact⟨Below.refl _ _,rfl⟩)
    case hmono=>exact⟨mono_eqv _,mono_eqv _,mono_eqv _,mono_eqv _,mono_eqv _,(fun _ _ _ h k=>owns_ext h k),trivial⟩
    case hend=>
     intro u w1 hext hend
     simp only [EndE,Q1,Bl.Q2,Qc,Q3,Q4,eqv,true_and]at hend
     simp only [fillAct,Q5,Q6,Q7,Q8,Q9,hend]
     obtain⟨gb,cb,hvb,hcb,hcbm,hrb,hgb,hgbl,_⟩:=own_pos hend.2 (by omega)
     have hcc0:=((bcell hext).1 _ 0 (World.block_lt_of_cell? _ _ hc0)).trans hc0
     rw [hvb]
     rw [<-Hnx1.out]at hrb
     have Hrb:=Bl.hid hrb
     have HEw:=Bl.hid hext
     clear hext hend hvb hrb hc0
     go_wp2_with (with_reducible refine stop_append ?_)
     refine go_on ?_
     refine wpL_app tRw (HOr.out _ HEw.out _) (rds_val _ _ _) rfl rfl rfl (one_slice _ _ _) (by unfold maxLen;omega) (by omega) (HBs.out _ HEw.out _) ?_
     intro q3 d3 w9 hown9 hg9 hB9 hK9 hn9 hc9
     obtain⟨hO9,hB9x,hR9,hE9⟩:=FIN.out _ gb cb HEw.out Hrb.out hgb hgbl hcb hcbm q3 d3 w9 hown9 hg9 hB9 hK9
     have HO9:=Bl.hid hO9
     have HB9:=Bl.hid hB9x
     have HR9:=Bl.hid hR9
     have HE9:=Bl.hid hE9
     clear hown9 hg9 hB9 hK9 hO9 hB9x hR9 hE9 hcc0 Hrb HEw hgb hgbl hcb hcbm hn9 hc9
     go_wp2_with fail
     refine(of_any _ [nx] (w9.alloc (.cells #[.slice (some ⟨gb,0,none⟩) 65 cb] 27)) (rdss_1 HR9.out _) (HG3.out.ext (HE9.out.trans (ext_alloc _ _))) (by rw [List.flatten_singleton];exact HnB.out) (by rw [List.flatten_singleton,HnL.out];decide)).mono ?_
     rintro e w10 ⟨rfl,hE10⟩
     rw [List.flatten_singleton]
     have HE10:Hid (Ext w9 w10):=Bl.hid ((ext_alloc _ _).trans hE10)
     clear hE10
     go_wp2_with (with_reducible refine stop_store (ty:=54) ?_)
     refine go_on ?_
     refine wpL_store0 rfl rfl (HEND.out w9 w10 HB9.out HE10.out) ?_
     have HA9:Hid ((∃vs,OutB 27 X (w10.setCells X 0 (ints .u8 (Bl.sha nx))) B (.slice q3 (k+1+1) d3) (S.take (k+1+1)) vs)/\BoxD (w10.setCells X 0 (ints .u8 (Bl.sha nx))) X (Bl.sha (S.getD (k+1) []))):=Bl.hid ⟨⟨_,(HO9.out.ext HE10.out).set _⟩,by rw [<-Hnxe.out];exact(HB9.out.ext HE10.out).set rfl⟩
     have HE11:Hid (Ext w3 (w10.setCells X 0 (ints .u8 (Bl.sha nx)))):=Bl.hid (below_setCells _ _ _ _ (HE9.out.trans HE10.out) (by rw [<-HB.out];exact Nat.le_of_lt HBX.out))
     generalize w10.setCells X 0 (ints .u8 (Bl.sha nx))=W11 at*
     clear HO9 HB9 HR9 HE9 HE10
     go_wp2_with fail
     go_roundw
     case rel=>exact⟨k+1,d3,q3,by omega,by go_num,rfl,HA9.out,HE11.out⟩
     case measure=>simp [intOf];omega
   ·have Hnx1:Hid (nx=1 :: (d++s)):=Bl.hid Hnx.out
    go_wp2_with fail
    apply wp_region_ev 6 [32,33,34,35,36,37] [eqv _,eqv _,eqv _,eqv _,eqv _,anyv] (by kernel_rfl) (by kernel_rfl) (by kernel_rfl) (by kernel_rfl)
    case hsteps=>
     refine⟨?_,?_,?_,?_,?_,?_,trivial⟩
     all_goals
      intro ev w1 hext hb hd
      have e3:=hb 3 (by decide)
      have e11:=hb 11 (by decide)
      have e12:=hb 12 (by decide)
      clear hb
      simp only [Qa,Qb,Q1,Bl.Q2,Qd]at e3 e11 e12
      simp only [DepsE,Q1,Bl.Q2,Qc,Q3,Q4,eqv,and_true]at hd
      have hc:=(bcell hext).1
      simp only [Bl.Good,Region.wanted,if_true]
      first
      | ((with_reducible refine goodR_load ?_ (HLs.out _ hext) ?_);exact hd;exact rfl) | ((with_reducible refine goodR_load ?_ (HLd.out _ hext) ?_);first | exact hd | exact e11;exact rfl)
      | (go_simp;first | (go_at_call 92;(with_reducible refine(HI1.out _ hext).mono ?_);rintro e w2 ⟨v2,rfl,hO2,hE2⟩;exact⟨_,rfl,hE2,trivial⟩) | exact⟨Below.refl _ _,rfl⟩ | exact⟨Below.refl _ _,rfl⟩)
    case hmono=>exact⟨mono_eqv _,mono_eqv _,mono_eqv _,mono_eqv _,mono_eqv _,(mono_anyv),trivial⟩
    case hend=>
     intro u w1 hext hend
     simp only [EndE,Q1,Bl.Q2,Qc,Q3,Q4,eqv,true_and]at hend
     simp only [fillAct,Q5,Q6,Q7,Q8,Q9,hend]
     have hcc0:=((bcell hext).1 _ 0 (World.block_lt_of_cell? _ _ hc0)).trans hc0
     have HEv:=Bl.hid hext
     clear hext hend hc0
     go_wp2_with fail
     apply wp_region_ev 6 [40,41,42,43,44,45] [eqv _,eqv _,eqv _,eqv _,eqv _,(fun v w'=>w'.ownsRow W6.heap.size 5 1 v 65 (ints .u8 (1 :: (d++s))))] (by kernel_rfl) (by kernel_rfl) (by kernel_rfl) (by kernel_rfl)
     case hsteps=>
      refine⟨?_,?_,?_,?_,?_,?_,trivial⟩
      all_goals
       intro ev w1 hext hb hd
       have e3:=hb 3 (by decide)
       have e11:=hb 11 (by decide)
       have e12:=hb 12 (by decide)
       clear hb
       simp only [Qa,Qb,Q1,Bl.Q2,Qd]at e3 e11 e12
       simp only [DepsE,Q1,Bl.Q2,Qc,Q3,Q4,eqv,and_true]at hd
       have hc:=(bcell hext).1
       simp only [Bl.Good,Region.wanted,if_true]
       first
       | ((with_reducible refine goodR_load ?_ (HLs.out _ (HEv.out.trans hext)) ?_);exact hd;exact rfl) | ((with_reducible refine goodR_load ?_ (HLd.out _ (HEv.out.trans hext)) ?_);first | exact hd | exact e11;exact rfl)
       | (go_simp;first | (go_at_call 92;(with_reducible refine(HI2.out _ (HEv.out.trans hext)).mono ?_);rintro e w2 ⟨v2,rfl,hO2,hE2⟩;exact⟨_,rfl,hE2,hO2⟩) | exact⟨Below.refl _ _,rfl⟩ | exact⟨Below.refl _ _,rfl⟩)
     case hmono=>exact⟨mono_eqv _,mono_eqv _,mono_eqv _,mono_eqv _,mono_eqv _,(fun _ _ _ h k=>owns_ext h k),trivial⟩
     case hend=>
      intro u w1 hext hend
      simp only [EndE,Q1,Bl.Q2,Qc,Q3,Q4,eqv,true_and]at hend
      simp only [fillAct,Q5,Q6,Q7,Q8,Q9,hend]
      obtain⟨gb,cb,hvb,hcb,hcbm,hrb,hgb,hgbl,_⟩:=own_pos hend.2 (by omega)
      rw [hvb]
      rw [<-Hnx1.out]at hrb
      have Hrb:=Bl.hid hrb
      have HEw:=Bl.hid (HEv.out.trans hext)
      clear hext hend hvb hrb HEv hcc0
      go_wp2_with (with_reducible refine stop_append ?_)
      refine go_on ?_
      refine wpL_app tRw (HOr.out _ HEw.out _) (rds_val _ _ _) rfl rfl rfl (one_slice _ _ _) (by unfold maxLen;omega) (by omega) (HBs.out _ HEw.out _) ?_
      intro q3 d3 w9 hown9 hg9 hB9 hK9 hn9 hc9
      obtain⟨hO9,hB9x,hR9,hE9⟩:=FIN.out _ gb cb HEw.out Hrb.out hgb hgbl hcb hcbm q3 d3 w9 hown9 hg9 hB9 hK9
      have HO9:=Bl.hid hO9
      have HB9:=Bl.hid hB9x
      have HR9:=Bl.hid hR9
      have HE9:=Bl.hid hE9
      clear hown9 hg9 hB9 hK9 hO9 hB9x hR9 hE9 Hrb HEw hgb hgbl hcb hcbm hn9 hc9
      go_wp2_with fail
      refine(of_any _ [nx] (w9.alloc (.cells #[.slice (some ⟨gb,0,none⟩) 65 cb] 27)) (rdss_1 HR9.out _) (HG3.out.ext (HE9.out.trans (ext_alloc _ _))) (by rw [List.flatten_singleton];exact HnB.out) (by rw [List.flatten_singleton,HnL.out];decide)).mono ?_
      rintro e w10 ⟨rfl,hE10⟩
      rw [List.flatten_singleton]
      have HE10:Hid (Ext w9 w10):=Bl.hid ((ext_alloc _ _).trans hE10)
      clear hE10
      go_wp2_with (with_reducible refine stop_store (ty:=54) ?_)
      refine go_on ?_
      refine wpL_store0 rfl rfl (HEND.out w9 w10 HB9.out HE10.out) ?_
      have HA9:Hid ((∃vs,OutB 27 X (w10.setCells X 0 (ints .u8 (Bl.sha nx))) B (.slice q3 (k+1+1) d3) (S.take (k+1+1)) vs)/\BoxD (w10.setCells X 0 (ints .u8 (Bl.sha nx))) X (Bl.sha (S.getD (k+1) []))):=Bl.hid ⟨⟨_,(HO9.out.ext HE10.out).set _⟩,by rw [<-Hnxe.out];exact(HB9.out.ext HE10.out).set rfl⟩
      have HE11:Hid (Ext w3 (w10.setCells X 0 (ints .u8 (Bl.sha nx)))):=Bl.hid (below_setCells _ _ _ _ (HE9.out.trans HE10.out) (by rw [<-HB.out];exact Nat.le_of_lt HBX.out))
      generalize w10.setCells X 0 (ints .u8 (Bl.sha nx))=W11 at*
      clear HO9 HB9 HR9 HE9 HE10
      go_wp2_with fail
      go_roundw
      case rel=>exact⟨k+1,d3,q3,by omega,by go_num,rfl,HA9.out,HE11.out⟩
      case measure=>simp [intOf];omega
  ·obtain rfl:k=m:=by omega
   obtain⟨⟨vs,hO⟩,_⟩:=HA.out
   rw [List.take_of_length_le (by rw [Hsl.out];exact Nat.le_refl _)]at hO
   have HO:=Bl.hid hO
   clear hO HA
   go_wp2_with fail
   go_ret
   exact⟨_,rfl,HO.out.rdss,HE3.out.trans HE.out⟩
end Go.Proofs.YtglenbikdahgjaaGreatDoor
namespace Go.Proofs.Bl
open Go Go.RowKit
def chkP (root:List Int) (n i:Int) (l:List Int) (p:List (List Int)):Nat:=
 if thereB n i=true then(if p.length=(turnsL n.toNat i.toNat).length then(if foldP ndD n.toNat i.toNat (lfD l) p=root then 0 else 15)else 8)else 1
theorem chkP_range {root:List Int} {n i:Int} {l:List Int} {p:List (List Int)} (h:thereB n i=false):chkP root n i l p=1:=by unfold chkP;rw [h];rfl
theorem chkP_size {root:List Int} {n i:Nat} {l:List Int} {p:List (List Int)} (h:thereB n i=true) (hp:¬p.length=(turnsL n i).length):chkP root n i l p=8:=by
 unfold chkP;rw [if_pos h,if_neg (by simpa using hp)]
theorem chkP_ok {root:List Int} {n i:Nat} {l:List Int} {p:List (List Int)} (h:thereB n i=true) (hp:p.length=(turnsL n i).length) (hf:foldP ndD n i (lfD l) p=root):chkP root n i l p=0:=by
 unfold chkP;rw [if_pos h,if_pos (by simpa using hp),if_pos (by simpa using hf)]
theorem chkP_bad {root:List Int} {n i:Nat} {l:List Int} {p:List (List Int)} (h:thereB n i=true) (hp:p.length=(turnsL n i).length) (hf:¬foldP ndD n i (lfD l) p=root):chkP root n i l p=15:=by
 unfold chkP;rw [if_pos h,if_pos (by simpa using hp),if_neg (by simpa using hf)]
theorem foldP_dig {n i:Nat} {l:List Int} {p:List (List Int)} (h:p.length=(turnsL n i).length):(foldP ndD n i (lfD l) p).length=32/\Byt (foldP ndD n i (lfD l) p):=by
 rw [<-seqP_last h];exact⟨rfl,sha_byt _⟩
theorem Rdss.last {w:World} {v:Value} {ps:List (List Int)} {m:Nat} (h:Rdss w v ps) (hl:ps.length=m+1):∃b o c p2 c2,v= .slice (some ⟨b,o,none⟩) (m+1) c/\m+1<=c/\w.cell? ⟨b,o+m,none⟩=some (.slice p2 (ps.getD m []).length c2)/\Rd w .u8 (.slice p2 (ps.getD m []).length c2) (ps.getD m []):=by
 obtain⟨vs,hv,hvl,hr⟩:=h
 obtain⟨p,c,hf,hc,_⟩:=hv.form
 subst hf
 obtain⟨b,o,hp,_,hcell⟩:=Rdss.cell' hv hvl m (by omega)
 subst hp
 have h1:=hr m (by omega)
 obtain⟨p2,c2,hf2,_,_⟩:=h1.form
 rw [hf2]at h1 hcell
 exact⟨b,o,c,p2,c2,by rw [hl],by omega,hcell,h1⟩
end Go.Proofs.Bl
namespace Go.Proofs.YtglenbikdahgjaaGreatDoor
open Go.RowKit Go.Proofs Go.Proofs.Bl
theorem pfold_range (n i:Int) (vl vp:Value) (w:World) (S:List Nat) (a:Nat->Addr) (he:Errs S a w) (h1:1∈S) (h:¬(n<=512/\0<=i/\i < n)):
  Calls Tryz.prog 50 #[.int .i64 n,.int .i64 i,vl,vp] w fun e w'=>e= .returned (.tuple #[.agg (ints .u8 zs32).toArray,errN a 1])/\Ext w w':=by
 have hF:w.cell? ⟨3,0,none⟩=some (.iface 233 (.pointer (some (a 1)))):=he.cell 1 h1
 have hFl:=World.block_lt_of_cell? w _ hF
 have HF:=Bl.hid hF
 have HFl:Hid (3 < w.heap.size):=hFl
 have HL:=Bl.hid (lenP_no (thereB_no h))
 have HF0:=Bl.hid (fam_new w 32 .u8 54 #[.int .u8 0,.int .u8 0,.int .u8 0,.int .u8 0,.int .u8 0,.int .u8 0,.int .u8 0,.int .u8 0,.int .u8 0,.int .u8 0,.int .u8 0,.int .u8 0,.int .u8 0,.int .u8 0,.int .u8 0,.int .u8 0,.int .u8 0,.int .u8 0,.int .u8 0,.int .u8 0,.int .u8 0,.int .u8 0,.int .u8 0,.int .u8 0,.int .u8 0,.int .u8 0,.int .u8 0,.int .u8 0,.int .u8 0,.int .u8 0,.int .u8 0,.int .u8 0] rfl)
 have HE0:=Bl.hid (ext_alloc w (.cells #[.int .u8 0,.int .u8 0,.int .u8 0,.int .u8 0,.int .u8 0,.int .u8 0,.int .u8 0,.int .u8 0,.int .u8 0,.int .u8 0,.int .u8 0,.int .u8 0,.int .u8 0,.int .u8 0,.int .u8 0,.int .u8 0,.int .u8 0,.int .u8 0,.int .u8 0,.int .u8 0,.int .u8 0,.int .u8 0,.int .u8 0,.int .u8 0,.int .u8 0,.int .u8 0,.int .u8 0,.int .u8 0,.int .u8 0,.int .u8 0,.int .u8 0,.int .u8 0] 54))
 have Hst:Hid (∀w',Fam w' w.heap.size .u8 32 (fun _=>0)->(Instr.storeAt 54 (.pointer (some ⟨w.heap.size,0,none⟩)) (.agg (ints .u8 zs32).toArray)).run Tryz.prog w'= .ok () (w'.setCells w.heap.size 0 (ints .u8 zs32))):=Bl.hid fun w' h=>store_ints (P:=Tryz.prog) (ty:=54) (k:= .u8) (l:=zs32) (n:=32) h.there (by kernel_rfl) rfl
 clear hF hFl he h
 go_enter Tryz.func50,Tryz.ntmps50
 go_wp2_with fail
 generalize hWa:w.alloc (.cells #[.int .u8 0,.int .u8 0,.int .u8 0,.int .u8 0,.int .u8 0,.int .u8 0,.int .u8 0,.int .u8 0,.int .u8 0,.int .u8 0,.int .u8 0,.int .u8 0,.int .u8 0,.int .u8 0,.int .u8 0,.int .u8 0,.int .u8 0,.int .u8 0,.int .u8 0,.int .u8 0,.int .u8 0,.int .u8 0,.int .u8 0,.int .u8 0,.int .u8 0,.int .u8 0,.int .u8 0,.int .u8 0,.int .u8 0,.int .u8 0,.int .u8 0,.int .u8 0] 54)=Wa at HF0 HE0⊢
 clear hWa
 refine(length_any n i Wa).mono ?_
 rintro e w1 ⟨rfl,hE1⟩
 rw [HL.out]
 have HE1:=Bl.hid (HE0.out.trans hE1)
 have HF1:=Bl.hid (HF0.out.below hE1 (World.block_lt_of_cell? _ _ (HF0.out.1 0 (by decide))))
 have HcF:=Bl.hid (((bcell HE1.out).1 _ 0 HFl.out).trans HF.out)
 have HFl1:Hid (3 < w1.heap.size):=Bl.hid (Nat.lt_of_lt_of_le HFl.out HE1.out.size)
 clear hE1 HF0
 go_wp2_with fail
 apply wp_region_evK (fun a b=>Below w.heap.size a b) (fun _ _ w'=>Fam w' w.heap.size .u8 32 (fun _=>0)) 3 [18,19] [eqv (.agg (ints .u8 zs32).toArray),eqv _,eqv _] (fun w=>Below.refl _ w) (fun a b c h k=>Below.trans h k) (by kernel_rfl) (by kernel_rfl) (by kernel_rfl) (by kernel_rfl)
 case hsteps=>
  refine⟨?_,?_,?_,trivial⟩
  all_goals
   intro d ev w1 hext HJd Hanc Hdes hni hb hd
   replace Hanc:=Bl.hid Hanc
   replace HJd:=Bl.hid HJd
   replace Hdes:=Bl.hid Hdes
   replace hni:=Bl.hid hni
   have e8:=hb 8 (by decide)
   clear hb
   simp only [Qa,Qb,Q1,Bl.Q2,Qd]at e8
   simp only [DepsE2,Bl.Q2,Qc,Q4,eqv,and_true]at hd
   have hc:=(bcell hext).1
   have hcF:=(hc _ 0 HFl.out).trans HcF.out
   simp only [Region.wanted,if_true]
   first
   | ((with_reducible refine goodX_store ?_ ?_ (Hst.out w1 HJd.out) ?_ ?_);exact e8;(first | exact hd | exact hd.1 | exact hd.2);exact below_setCells _ _ _ _ (Below.refl _ _) (Nat.le_refl _);exact⟨rfl,fam_set32 HJd.out⟩)
   | (go_simp;first | exact⟨Below.refl _ _,rfl,HJd.out⟩ | exact⟨Below.refl _ _,rfl,Bl.HJ.same (by decide) HJd.out⟩)
 case hmono=>exact⟨(monoR_eqv _),monoR_eqv _,monoR_eqv _,trivial⟩
 case hR0=>exact(Below.refl _ _).drew
 case hend=>
  intro u w1 hext hJ hend
  simp only [EndE,Q1,Bl.Q2,Qc,Q3,Q4,eqv,true_and]at hend
  simp only [fillAct,Q5,Q6,Q7,Q8,Q9,hend]
  have hldc:=run_loadVar_mid (P:=Tryz.prog) _ w.heap.size 0 54 (ints .u8 zs32) _ (hJ.list rfl zs32_get) Tryz.underlying54 rfl (by kernel_rfl)
  have Hldc:=Bl.hid hldc
  have HE2:Hid (Ext w w1):=Bl.hid (Below.trans HE1.out hext)
  clear hext hend hJ hldc
  go_wp2_with fail
  exact bodyPost_ret (v:= .tuple #[.agg (ints .u8 zs32).toArray,.iface 233 (.pointer (some (a 1)))]) (results_cell2 rfl rfl Hldc.out rfl) rfl ⟨rfl,HE2.out⟩
 case hJ0=>exact HF1.out.drew 1
theorem pfold_size (n i:Nat) (vl vp:Value) (p:List (List Int)) (w:World) (S:List Nat) (a:Nat->Addr) (hp:RdD w vp p) (he:Errs S a w) (h8:8∈S) (hn:n<=512) (hi:i < n) (hpl:¬p.length=(turnsL n i).length):
  Calls Tryz.prog 50 #[.int .i64 n,.int .i64 i,vl,vp] w fun e w'=>e= .returned (.tuple #[.agg (ints .u8 zs32).toArray,errN a 8])/\Ext w w':=by
 obtain⟨pp,cp,hvf,hvn,hvc⟩:=hp.form
 subst hvf
 have hF:w.cell? ⟨4,0,none⟩=some (.iface 233 (.pointer (some (a 8)))):=he.cell 8 h8
 have hFl:=World.block_lt_of_cell? w _ hF
 have HF:=Bl.hid hF
 have HFl:Hid (4 < w.heap.size):=hFl
 have HL:=Bl.hid (lenP_yes hn hi)
 have hTb:=turnsL_len n n i (Nat.le_refl _) (by omega)
 obtain⟨t,ht⟩:∃t,t=(turnsL n i).length:=⟨_,rfl⟩
 rw [<-ht]at HL hpl hTb
 have hne:((t:Int)==(p.length:Int))=false:=by rw [beq_eq_false_iff_ne];omega
 have hneg:¬((t:Int) < 0):=by omega
 have HF0:=Bl.hid (fam_new w 32 .u8 54 #[.int .u8 0,.int .u8 0,.int .u8 0,.int .u8 0,.int .u8 0,.int .u8 0,.int .u8 0,.int .u8 0,.int .u8 0,.int .u8 0,.int .u8 0,.int .u8 0,.int .u8 0,.int .u8 0,.int .u8 0,.int .u8 0,.int .u8 0,.int .u8 0,.int .u8 0,.int .u8 0,.int .u8 0,.int .u8 0,.int .u8 0,.int .u8 0,.int .u8 0,.int .u8 0,.int .u8 0,.int .u8 0,.int .u8 0,.int .u8 0,.int .u8 0,.int .u8 0] rfl)
 have HE0:=Bl.hid (ext_alloc w (.cells #[.int .u8 0,.int .u8 0,.int .u8 0,.int .u8 0,.int .u8 0,.int .u8 0,.int .u8 0,.int .u8 0,.int .u8 0,.int .u8 0,.int .u8 0,.int .u8 0,.int .u8 0,.int .u8 0,.int .u8 0,.int .u8 0,.int .u8 0,.int .u8 0,.int .u8 0,.int .u8 0,.int .u8 0,.int .u8 0,.int .u8 0,.int .u8 0,.int .u8 0,.int .u8 0,.int .u8 0,.int .u8 0,.int .u8 0,.int .u8 0,.int .u8 0,.int .u8 0] 54))
 have Hst:Hid (∀w',Fam w' w.heap.size .u8 32 (fun _=>0)->(Instr.storeAt 54 (.pointer (some ⟨w.heap.size,0,none⟩)) (.agg (ints .u8 zs32).toArray)).run Tryz.prog w'= .ok () (w'.setCells w.heap.size 0 (ints .u8 zs32))):=Bl.hid fun w' h=>store_ints (P:=Tryz.prog) (ty:=54) (k:= .u8) (l:=zs32) (n:=32) h.there (by kernel_rfl) rfl
 clear hF hFl he hp ht hpl
 go_enter Tryz.func50,Tryz.ntmps50
 go_wp2_with fail
 generalize hWa:w.alloc (.cells #[.int .u8 0,.int .u8 0,.int .u8 0,.int .u8 0,.int .u8 0,.int .u8 0,.int .u8 0,.int .u8 0,.int .u8 0,.int .u8 0,.int .u8 0,.int .u8 0,.int .u8 0,.int .u8 0,.int .u8 0,.int .u8 0,.int .u8 0,.int .u8 0,.int .u8 0,.int .u8 0,.int .u8 0,.int .u8 0,.int .u8 0,.int .u8 0,.int .u8 0,.int .u8 0,.int .u8 0,.int .u8 0,.int .u8 0,.int .u8 0,.int .u8 0,.int .u8 0] 54)=Wa at HF0 HE0⊢
 clear hWa
 refine(length_any n i Wa).mono ?_
 rintro e w1 ⟨rfl,hE1⟩
 rw [HL.out]
 have HE1:=Bl.hid (HE0.out.trans hE1)
 have HF1:=Bl.hid (HF0.out.below hE1 (World.block_lt_of_cell? _ _ (HF0.out.1 0 (by decide))))
 have HcF:=Bl.hid (((bcell HE1.out).1 _ 0 HFl.out).trans HF.out)
 clear hE1 HF0
 go_wp2_with fail
 apply wp_region_evK (fun a b=>Below w.heap.size a b) (fun _ _ w'=>Fam w' w.heap.size .u8 32 (fun _=>0)) 3 [25,26] [eqv (.agg (ints .u8 zs32).toArray),eqv _,eqv _] (fun w=>Below.refl _ w) (fun a b c h k=>Below.trans h k) (by kernel_rfl) (by kernel_rfl) (by kernel_rfl) (by kernel_rfl)
 case hsteps=>
  refine⟨?_,?_,?_,trivial⟩
  all_goals
   intro d ev w1 hext HJd Hanc Hdes hni hb hd
   replace Hanc:=Bl.hid Hanc
   replace HJd:=Bl.hid HJd
   replace Hdes:=Bl.hid Hdes
   replace hni:=Bl.hid hni
   have e8:=hb 8 (by decide)
   clear hb
   simp only [Qa,Qb,Q1,Bl.Q2,Qd]at e8
   simp only [DepsE2,Bl.Q2,Qc,Q4,eqv,and_true]at hd
   have hc:=(bcell hext).1
   have hcF:=(hc _ 0 HFl.out).trans HcF.out
   simp only [Region.wanted,if_true]
   first
   | ((with_reducible refine goodX_store ?_ ?_ (Hst.out w1 HJd.out) ?_ ?_);exact e8;(first | exact hd | exact hd.1 | exact hd.2);exact below_setCells _ _ _ _ (Below.refl _ _) (Nat.le_refl _);exact⟨rfl,fam_set32 HJd.out⟩)
   | (go_simp;first | exact⟨Below.refl _ _,rfl,HJd.out⟩ | exact⟨Below.refl _ _,rfl,Bl.HJ.same (by decide) HJd.out⟩)
 case hmono=>exact⟨(monoR_eqv _),monoR_eqv _,monoR_eqv _,trivial⟩
 case hR0=>exact(Below.refl _ _).drew
 case hend=>
  intro u w1 hext hJ hend
  simp only [EndE,Q1,Bl.Q2,Qc,Q3,Q4,eqv,true_and]at hend
  simp only [fillAct,Q5,Q6,Q7,Q8,Q9,hend]
  have hldc:=run_loadVar_mid (P:=Tryz.prog) _ w.heap.size 0 54 (ints .u8 zs32) _ (hJ.list rfl zs32_get) Tryz.underlying54 rfl (by kernel_rfl)
  have Hldc:=Bl.hid hldc
  have HE2:Hid (Ext w w1):=Bl.hid (Below.trans HE1.out hext)
  clear hext hend hJ hldc
  go_wp2_with fail
  exact bodyPost_ret (v:= .tuple #[.agg (ints .u8 zs32).toArray,.iface 233 (.pointer (some (a 8)))]) (results_cell2 rfl rfl Hldc.out rfl) rfl ⟨rfl,HE2.out⟩
 case hJ0=>exact HF1.out.drew 1
theorem pfold_ok (n i:Nat) (vl vp:Value) (l:List Int) (p:List (List Int)) (w:World) (hn:n<=512) (hi:i < n) (hl:Rd w .u8 vl l) (hbl:Byt l) (hll:l.length<=1099511626000) (hp:RdD w vp p) (hdp:Dig p) (hpl:p.length=(turnsL n i).length) (hg:Glob w):
  Calls Tryz.prog 50 #[.int .i64 n,.int .i64 i,vl,vp] w fun e w'=>e= .returned (.tuple #[.agg (ints .u8 (foldP ndD n i (lfD l) p)).toArray,.nilIface])/\Ext w w':=by
 have HB:=Bl.hid (fun w1 (h:Ext w w1)=>bytesOf_any n i vl vp l p w1 hn hi (hl.ext h) hbl hll (Rds.ext hp h) hdp hpl (hg.ext h))
 have HSl:=Bl.hid (seqP_len (l:=l) hpl)
 have HSz:=Bl.hid (seqP_last (l:=l) hpl)
 have HSb:Hid (Byt ((seqP n i l p).getD (turnsL n i).length [])):=Bl.hid (by
  cases ht:(turnsL n i).length with
  | zero=>rw [seqP_zero];exact byt_cons (by decide) (by decide) hbl
  | succ k=>
   rw [seqP_succ hpl k (by omega)]
   exact stB_byt (sha_byt _) (hdp.get (by omega)).2)
 have HSn:Hid (((seqP n i l p).getD (turnsL n i).length []).length<=1099511627000):=Bl.hid (by
  cases ht:(turnsL n i).length with
  | zero=>rw [seqP_zero,List.length_cons];omega
  | succ k=>
   rw [seqP_succ hpl k (by omega),stB_len rfl (hdp.get (by omega)).1];decide)
 obtain⟨pp,cp,hvf,hvn,hvc⟩:=hp.form
 subst hvf
 have HL:=Bl.hid (lenP_yes hn hi)
 have hTb:=turnsL_len n n i (Nat.le_refl _) (by omega)
 obtain⟨F,hF⟩:∃F,F=foldP ndD n i (lfD l) p:=⟨_,rfl⟩
 have Hshl:Hid (F.length=32):=Bl.hid (by rw [hF];exact(foldP_dig hpl).1)
 obtain⟨t,ht⟩:∃t,t=(turnsL n i).length:=⟨_,rfl⟩
 rw [<-ht]at HL hpl hTb HSl HSz HSb HSn
 rw [<-hF]at HSz⊢
 rw [hpl]at HB hvn⊢
 obtain⟨Sq,hSq⟩:∃Sq,Sq=seqP n i l p:=⟨_,rfl⟩
 rw [<-hSq]at HB HSl HSz HSb HSn
 have hneg:¬((t:Int) < 0):=by omega
 have HF0:=Bl.hid (fam_new w 32 .u8 54 #[.int .u8 0,.int .u8 0,.int .u8 0,.int .u8 0,.int .u8 0,.int .u8 0,.int .u8 0,.int .u8 0,.int .u8 0,.int .u8 0,.int .u8 0,.int .u8 0,.int .u8 0,.int .u8 0,.int .u8 0,.int .u8 0,.int .u8 0,.int .u8 0,.int .u8 0,.int .u8 0,.int .u8 0,.int .u8 0,.int .u8 0,.int .u8 0,.int .u8 0,.int .u8 0,.int .u8 0,.int .u8 0,.int .u8 0,.int .u8 0,.int .u8 0,.int .u8 0] rfl)
 have HE0:=Bl.hid (ext_alloc w (.cells #[.int .u8 0,.int .u8 0,.int .u8 0,.int .u8 0,.int .u8 0,.int .u8 0,.int .u8 0,.int .u8 0,.int .u8 0,.int .u8 0,.int .u8 0,.int .u8 0,.int .u8 0,.int .u8 0,.int .u8 0,.int .u8 0,.int .u8 0,.int .u8 0,.int .u8 0,.int .u8 0,.int .u8 0,.int .u8 0,.int .u8 0,.int .u8 0,.int .u8 0,.int .u8 0,.int .u8 0,.int .u8 0,.int .u8 0,.int .u8 0,.int .u8 0,.int .u8 0] 54))
 have Hg:=Bl.hid hg
 clear hp ht hpl hg hl hbl hdp hF hSq hvn hvc
 go_enter Tryz.func50,Tryz.ntmps50
 go_wp2_with fail
 generalize hWa:w.alloc (.cells #[.int .u8 0,.int .u8 0,.int .u8 0,.int .u8 0,.int .u8 0,.int .u8 0,.int .u8 0,.int .u8 0,.int .u8 0,.int .u8 0,.int .u8 0,.int .u8 0,.int .u8 0,.int .u8 0,.int .u8 0,.int .u8 0,.int .u8 0,.int .u8 0,.int .u8 0,.int .u8 0,.int .u8 0,.int .u8 0,.int .u8 0,.int .u8 0,.int .u8 0,.int .u8 0,.int .u8 0,.int .u8 0,.int .u8 0,.int .u8 0,.int .u8 0,.int .u8 0] 54)=Wa at HF0 HE0⊢
 clear hWa
 refine(length_any n i Wa).mono ?_
 rintro e w1 ⟨rfl,hE1⟩
 rw [HL.out]
 have HE1:=Bl.hid (HE0.out.trans hE1)
 have HEa:=Bl.hid hE1
 clear hE1
 go_wp2_with fail
 refine(HB.out w1 HE1.out).mono ?_
 rintro e w2 ⟨v2,rfl,hR2,hE2⟩
 obtain⟨b,o,c,p2,c2,hv2,hc2,hcell,hrd⟩:=hR2.last HSl.out
 subst hv2
 obtain⟨x,hx⟩:∃x,x=Sq.getD t []:=⟨_,rfl⟩
 rw [<-hx]at hcell hrd HSz HSb HSn
 have HE2:=Bl.hid (HEa.out.trans hE2)
 have Hrd:=Bl.hid hrd
 have ht1:(t:Int) < (t:Int)+1:=by omega
 have ht2:(0:Int)<=(t:Int):=by omega
 clear hE2 hR2 hrd hx HB HSl
 go_wp2_with fail
 refine(of_any _ [x] (w2.alloc (.cells #[.slice p2 x.length c2] 27)) (rdss_1 Hrd.out _) (Hg.out.ext ((HE0.out.trans HE2.out).trans (ext_alloc _ _))) (by rw [List.flatten_singleton];exact HSb.out) (by rw [List.flatten_singleton];have:=HSn.out;omega)).mono ?_
 rintro e w3 ⟨rfl,hE3⟩
 rw [List.flatten_singleton,HSz.out]
 have HE3:Hid (Ext Wa w3):=Bl.hid ((HE2.out.trans (ext_alloc _ _)).trans hE3)
 clear hE3 hcell
 have HFc:=Bl.hid (HF0.out.below HE3.out (World.block_lt_of_cell? _ _ (HF0.out.1 0 (by decide))))
 have Hstc:=Bl.hid (store_ints (P:=Tryz.prog) (k:= .u8) (ty:=54) (l:=F) HFc.out.there (by kernel_rfl) Hshl.out)
 go_wp2_with (((with_reducible refine wpL_store ?_ ?_ Hstc.out ?_);rfl;rfl))
 have hinc:=World.rangeAt_setCells_same _ (w.heap.size) 0 (ints .u8 F) (by rw [ints_length,Hshl.out];exact HFc.out.there)
 have hldc:=run_loadVar_mid (P:=Tryz.prog) _ (w.heap.size) 0 54 (ints .u8 F) _ hinc Tryz.underlying54 rfl (by rw [ints_length,Hshl.out];kernel_rfl)
 refine bodyPost_ret (v:= .tuple #[.agg (ints .u8 F).toArray,.nilIface]) (results_cell2 rfl rfl hldc rfl) rfl ⟨rfl,below_setCells _ _ _ _ (HE0.out.trans HE3.out) (Nat.le_refl _)⟩
theorem pcheck_of (root d:List Int) (n i:Int) (vl vp:Value) (w:World) (m r:Nat) (S:List Nat) (a:Nat->Addr) (he:Errs S a w) (h15:15∈S) (hr:root.length=32) (hd:d.length=32) (hr0:m=0->d=root->r=0) (hr1:m=0->¬d=root->r=15) (hr2:¬m=0->r=m)
  (hF:∀w1,Ext w w1->Calls Tryz.prog 50 #[.int .i64 n,.int .i64 i,vl,vp] w1 fun e w'=>e= .returned (.tuple #[.agg (ints .u8 d).toArray,errN a m])/\Ext w1 w'):
  Calls Tryz.prog 18 #[.agg (ints .u8 root).toArray,.int .i64 n,.int .i64 i,vl,vp] w fun e w'=>e= .returned (errN a r)/\Ext w w':=by
 have hF15:w.cell? ⟨0,0,none⟩=some (.iface 233 (.pointer (some (a 15)))):=he.cell 15 h15
 have hFl:=World.block_lt_of_cell? w _ hF15
 have HF15:=Bl.hid hF15
 have HFl:Hid (0 < w.heap.size):=hFl
 have HF:=Bl.hid hF
 have Hr:=Bl.hid hr
 have Hd:=Bl.hid hd
 have HE0:=Bl.hid (ext_alloc w (.cells (ints .u8 root).toArray 54))
 have HRr:=Bl.hid (range_box w root 54)
 have Hr0:=Bl.hid hr0
 have Hr1:=Bl.hid hr1
 have Hr2:=Bl.hid hr2
 clear hF15 hFl he hF hr hd hr0 hr1 hr2
 go_enter Tryz.func18,Tryz.ntmps18
 go_wp2_with fail
 generalize hWa:w.alloc (.cells (ints .u8 root).toArray 54)=Wa at HRr HE0⊢
 clear hWa
 refine(HF.out Wa HE0.out).mono ?_
 rintro e w1 ⟨rfl,hE1⟩
 have HFz:=Bl.hid (fam_new w1 32 .u8 54 #[.int .u8 0,.int .u8 0,.int .u8 0,.int .u8 0,.int .u8 0,.int .u8 0,.int .u8 0,.int .u8 0,.int .u8 0,.int .u8 0,.int .u8 0,.int .u8 0,.int .u8 0,.int .u8 0,.int .u8 0,.int .u8 0,.int .u8 0,.int .u8 0,.int .u8 0,.int .u8 0,.int .u8 0,.int .u8 0,.int .u8 0,.int .u8 0,.int .u8 0,.int .u8 0,.int .u8 0,.int .u8 0,.int .u8 0,.int .u8 0,.int .u8 0,.int .u8 0] rfl)
 have HBx:=Bl.hid (BoxD.of_fam HFz.out (d:=d) Hd.out)
 have Hst:=Bl.hid (store_ints (P:=Tryz.prog) (ty:=54) (k:= .u8) (l:=d) (n:=32) HFz.out.there (by kernel_rfl) Hd.out)
 have HE2:Hid (Ext Wa ((w1.alloc (.cells #[.int .u8 0,.int .u8 0,.int .u8 0,.int .u8 0,.int .u8 0,.int .u8 0,.int .u8 0,.int .u8 0,.int .u8 0,.int .u8 0,.int .u8 0,.int .u8 0,.int .u8 0,.int .u8 0,.int .u8 0,.int .u8 0,.int .u8 0,.int .u8 0,.int .u8 0,.int .u8 0,.int .u8 0,.int .u8 0,.int .u8 0,.int .u8 0,.int .u8 0,.int .u8 0,.int .u8 0,.int .u8 0,.int .u8 0,.int .u8 0,.int .u8 0,.int .u8 0] 54)).setCells w1.heap.size 0 (ints .u8 d))):=Bl.hid (Below.trans hE1 ((below_setCells _ _ _ _ (ext_alloc _ _) (Nat.le_refl _)).mono hE1.size))
 have Hs1:=Bl.hid hE1.size
 clear hE1 HF
 go_wp2_with (with_reducible refine stop_store (ty:=54) ?_)
 refine go_on ?_
 refine wpL_store0 rfl rfl Hst.out ?_
 clear Hst HFz
 generalize hX:w1.heap.size=X at HBx HE2 Hs1⊢
 generalize (w1.alloc (.cells #[.int .u8 0,.int .u8 0,.int .u8 0,.int .u8 0,.int .u8 0,.int .u8 0,.int .u8 0,.int .u8 0,.int .u8 0,.int .u8 0,.int .u8 0,.int .u8 0,.int .u8 0,.int .u8 0,.int .u8 0,.int .u8 0,.int .u8 0,.int .u8 0,.int .u8 0,.int .u8 0,.int .u8 0,.int .u8 0,.int .u8 0,.int .u8 0,.int .u8 0,.int .u8 0,.int .u8 0,.int .u8 0,.int .u8 0,.int .u8 0,.int .u8 0,.int .u8 0] 54)).setCells X 0 (ints .u8 d)=W2 at HBx HE2⊢
 clear hX
 have HE2w:=Bl.hid (HE0.out.trans HE2.out)
 have Hl1:=Bl.hid (HBx.out.load (P:=Tryz.prog) (ty:=54) Tryz.underlying54 (by kernel_rfl))
 have Hl2:=Bl.hid (load_ints (P:=Tryz.prog) (ty:=54) (rangeAt_ext HRr.out HE2.out) Tryz.underlying54 (by kernel_rfl) Hr.out)
 have hcF:=((bcell HE2w.out).1 _ 0 HFl.out).trans HF15.out
 clear HE2 HBx HRr HE0
 by_cases hm:m=0
 ·subst hm
  rw [errN_zero]
  by_cases hdr:d=root
  ·have heq:∀w,(Op.equalIn 10000 54 (.agg (ints .u8 d).toArray) (.agg (ints .u8 root).toArray)).run Tryz.prog w= .ok true w:=fun w=>by
    rw [eq10k Tryz.underlying54 Tryz.underlying5 (fun w=>by simp [go_sem]) d root Hd.out Hr.out w,decide_eq_true hdr]
   have Hv:Hid (errN a r= .nilIface):=Bl.hid (by rw [Hr0.out rfl hdr];rfl)
   clear hdr
   go_wp2_with (with_reducible refine stop_loadg (ty:=54) ?_)
   refine go_on ?_
   refine wpL_loadg rfl rfl Hl1.out ?_
   go_wp2_with (with_reducible refine stop_loadg (ty:=54) ?_)
   refine go_on ?_
   refine wpL_loadg rfl rfl Hl2.out ?_
   go_wp2_with fail
   go_ret
   exact⟨by rw [Hv.out];rfl,HE2w.out⟩
  ·have heq:∀w,(Op.equalIn 10000 54 (.agg (ints .u8 d).toArray) (.agg (ints .u8 root).toArray)).run Tryz.prog w= .ok false w:=fun w=>by
    rw [eq10k Tryz.underlying54 Tryz.underlying5 (fun w=>by simp [go_sem]) d root Hd.out Hr.out w,decide_eq_false hdr]
   have Hv:Hid (errN a r= .iface 233 (.pointer (some (a 15)))):=Bl.hid (by rw [Hr1.out rfl hdr];rfl)
   clear hdr
   go_wp2_with (with_reducible refine stop_loadg (ty:=54) ?_)
   refine go_on ?_
   refine wpL_loadg rfl rfl Hl1.out ?_
   go_wp2_with (with_reducible refine stop_loadg (ty:=54) ?_)
   refine go_on ?_
   refine wpL_loadg rfl rfl Hl2.out ?_
   go_wp2_with fail
   go_ret
   exact⟨by rw [Hv.out];rfl,HE2w.out⟩
 ·rw [errN_pos a m hm]
  have Hv:Hid (errN a r= .iface 233 (.pointer (some (a m)))):=Bl.hid (by rw [Hr2.out hm,errN_pos a m hm])
  clear hm
  go_wp2_with fail
  go_ret
  exact⟨by rw [Hv.out];rfl,HE2w.out⟩
theorem pcheck_any (root:List Int) (n i:Int) (vl vp:Value) (l:List Int) (p:List (List Int)) (w:World) (S:List Nat) (a:Nat->Addr) (he:Errs S a w) (h1:1∈S) (h8:8∈S) (h15:15∈S) (hr:root.length=32)
  (hl:Rd w .u8 vl l) (hbl:Byt l) (hll:l.length<=1099511626000) (hp:RdD w vp p) (hdp:Dig p) (hg:Glob w):
  Calls Tryz.prog 18 #[.agg (ints .u8 root).toArray,.int .i64 n,.int .i64 i,vl,vp] w fun e w'=>e= .returned (errN a (chkP root n i l p))/\Ext w w':=by
 by_cases h:n<=512/\0<=i/\i < n
 ·obtain⟨h2,h3,h4⟩:=h
  have hb:=thereB_mk h2 h3 h4
  obtain⟨j,rfl⟩:=Int.eq_ofNat_of_zero_le h3
  obtain⟨m,rfl⟩:=Int.eq_ofNat_of_zero_le (a:=n) (by omega)
  by_cases hpl:p.length=(turnsL m j).length
  ·by_cases hf:foldP ndD m j (lfD l) p=root
   ·rw [chkP_ok hb hpl hf]
    exact pcheck_of root (foldP ndD m j (lfD l) p) m j vl vp w 0 0 S a he h15 hr (foldP_dig hpl).1 (fun _ h=>rfl) (fun _ h=>absurd hf h) (fun h=>absurd rfl h) (fun w1 hw=>pfold_ok m j vl vp l p w1 (by omega) (by omega) (hl.ext hw) hbl hll (Rds.ext hp hw) hdp hpl (hg.ext hw))
   ·rw [chkP_bad hb hpl hf]
    exact pcheck_of root (foldP ndD m j (lfD l) p) m j vl vp w 0 15 S a he h15 hr (foldP_dig hpl).1 (fun _ h=>absurd h hf) (fun _ h=>rfl) (fun h=>absurd rfl h) (fun w1 hw=>pfold_ok m j vl vp l p w1 (by omega) (by omega) (hl.ext hw) hbl hll (Rds.ext hp hw) hdp hpl (hg.ext hw))
  ·rw [chkP_size hb hpl]
   exact pcheck_of root zs32 m j vl vp w 8 8 S a he h15 hr rfl (fun h=>absurd h (by decide)) (fun h=>absurd h (by decide)) (fun _=>rfl) (fun w1 hw=>pfold_size m j vl vp p w1 S a (Rds.ext hp hw) (he.ext hw) h8 (by omega) (by omega) hpl)
 ·rw [chkP_range (thereB_no h)]
  exact pcheck_of root zs32 n i vl vp w 1 1 S a he h15 hr rfl (fun h=>absurd h (by decide)) (fun h=>absurd h (by decide)) (fun _=>rfl) (fun w1 hw=>pfold_range n i vl vp w1 S a (he.ext hw) h1 h)
theorem refmake_nat:∀(n:Nat) (ds:List (List Int)) (i:Nat) (v:Value) (w:World),ds.length=n->n<=512->i < n->Dig ds->RdD w v ds->GlobR w->
  Calls Tryz.prog 43 #[v,.int .i64 i] w fun e w'=>∃v',e= .returned v'/\OwnD w' v' w.heap.size 52 (pathL ndD zD ds i)/\Ext w w':=by
 intro n
 induction n using Nat.strongRecOn with
 | _ n ih=>
  intro ds i v w hdn hn hi hd hR hg
  have IH:=Bl.hid ih
  clear ih
  obtain⟨p,c,hvf,hvn,hvc⟩:=hR.form
  subst hvf
  rw [hdn]at hR hvn⊢
  by_cases h1:n=1
  ·subst h1
   have HP:=Bl.hid (pathL_lo ndD zD ds i (by omega))
   clear hR hg hd hdn
   go_enter Tryz.func43,Tryz.ntmps43
   go_wp2
   go_ret
   exact⟨_,rfl,by rw [HP.out];exact OwnD.nil _ _ _,Below.refl _ _⟩
  ·have hb1:((n:Int)==1)=false:=by rw [beq_eq_false_iff_ne];omega
   obtain⟨s1,s2,s3⟩:=sp_bounds n (by omega) (by omega)
   have HPf:=Bl.hid (fun h:i < Bl.sp n=>pathL_left ndD zD ds i (by omega) (by omega) (by rw [hdn];exact h))
   have HPr:=Bl.hid (fun h:¬i < Bl.sp n=>pathL_right ndD zD ds i (by omega) (by omega) (by rw [hdn];exact h))
   rw [hdn]at HPf HPr
   have Hdn:=Bl.hid hdn
   have HR:=Bl.hid hR
   have Hd:=Bl.hid hd
   have Hg:=Bl.hid hg
   clear hR hd hg
   go_enter Tryz.func43,Tryz.ntmps43
   go_wp2_with fail
   refine(refsplit_any _ _ (by omega) (by omega)).mono ?_
   rintro e w3 ⟨rfl,hw3⟩
   subst hw3
   rw [Int.toNat_natCast]
   obtain⟨b,o,cc,hpe,hp1,hp2,hbl,hrg⟩:=RdD.pos (by have h:=HR.out;rw [<-Hdn.out]at h;exact h) Hd.out (by omega)
   injection hpe with hpe1 hpe2 hpe3
   clear hpe2 hpe3 hp1 hp2 hbl hrg hdn
   subst hpe1
   obtain⟨q,hq⟩:∃q,q=Bl.sp n:=⟨_,rfl⟩
   rw [<-hq]at s1 s2 s3 HPf HPr⊢
   clear hq
   have hx1:(q:Int) < (n:Int):=by omega
   have hx2:¬(q=c):=by omega
   have hx3:(0:Int)<=(q:Int):=by omega
   have hx4:(q:Int)<=(n:Int):=by omega
   have hx5:(q:Int)<=(c:Int):=by omega
   have hx6:(n:Int)<=(c:Int):=by omega
   have Htk:=Bl.hid (RdD.take (by have h:=HR.out;rw [<-Hdn.out]at h;exact h) Hd.out q (by rw [Hdn.out];omega))
   have Hdr:Hid (RdD w (.slice (some ⟨b,o+q*32,none⟩) (n - q) (c - q)) (ds.drop q)):=Bl.hid (by have h:=RdD.drop (by have h:=HR.out;rw [<-Hdn.out]at h;exact h) Hd.out q (by rw [Hdn.out];omega);rw [Hdn.out]at h;exact h)
   have Htl:Hid ((ds.take q).length=q):=Bl.hid (by rw [List.length_take,Hdn.out];omega)
   have Hdl:Hid ((ds.drop q).length=n - q):=Bl.hid (by rw [List.length_drop,Hdn.out])
   by_cases hiq:i < q
   ·have HP:=Bl.hid (HPf.out hiq)
    have hlt':(i:Int) < (q:Int):=by omega
    have HM:Hid (∀w2,Ext w w2->Calls Tryz.prog 43 #[.slice (some ⟨b,o,none⟩) q c,.int .i64 i] w2 fun e w'=>∃v',e= .returned v'/\OwnD w' v' w2.heap.size 52 (pathL ndD zD (ds.take q) i)/\Ext w2 w'):=Bl.hid fun w2 h2=>
     IH.out q (by omega) (ds.take q) i _ w2 Htl.out (by omega) hiq (Hd.out.take q) (Rds.ext Htk.out h2) (Hg.out.ext h2)
    have HO:Hid (∀w2,Ext w w2->Calls Tryz.prog 49 #[.slice (some ⟨b,o+q*32,none⟩) (n - q) (c - q)] w2 fun e w'=>e= .returned (.agg (ints .u8 (overD (ds.drop q))).toArray)/\Ext w2 w'):=Bl.hid fun w2 h2=>
     refover_any (n - q) (ds.drop q) _ w2 Hdl.out (by omega) (Hd.out.drop q) (Rds.ext Hdr.out h2) (Hg.out.ext h2)
    have Hol:=Bl.hid (overD_dig _ (ds.drop q) rfl (Hd.out.drop q) (by rw [Hdl.out];omega))
    have Hpl:Hid ((pathL ndD zD (ds.take q) i).length<=512):=Bl.hid (by
     rw [pathL_len _ _ _ _ _ (Nat.le_refl _) (by rw [Htl.out];omega),Htl.out]
     have:=turnsL_len q q i (Nat.le_refl _) (by omega);omega)
    have HPd:Hid (pathL ndD zD ds i=pathL ndD zD (ds.take q) i++[overD (ds.drop q)]):=HP
    obtain⟨d,hd⟩:∃d,d=overD (ds.drop q):=⟨_,rfl⟩
    rw [<-hd]at HO Hol HPd
    obtain⟨P1,hP1⟩:∃P1,P1=pathL ndD zD (ds.take q) i:=⟨_,rfl⟩
    rw [<-hP1]at HM Hpl HPd
    clear hd hP1 HP HPf HPr IH
    go_wp2_with fail
    apply wp_region_ev 10 [15,16,17,18,19,20,21,22,23,24] [eqv _,eqv _,eqv (.slice (some ⟨b,o,none⟩) q c),eqv _,(fun v w'=>OwnD w' v w.heap.size 52 P1),eqv _,eqv _,eqv (.slice (some ⟨b,o+q*32,none⟩) (n - q) (c - q)),eqv _,(fun v w'=>Rds w' v 1 (cellsD [d]))] (by kernel_rfl) (by kernel_rfl) (by kernel_rfl) (by kernel_rfl)
    case hsteps=>
     refine⟨?_,?_,?_,?_,?_,?_,?_,?_,?_,?_,trivial⟩
     all_goals
      intro ev w1 hext hb hd
      have e0:=hb 0 (by decide)
      have e1:=hb 1 (by decide)
      have e5:=hb 5 (by decide)
      clear hb
      simp only [Qa,Qb,Q1,Bl.Q2,Qd]at e0 e1 e5
      simp only [DepsE,Q1,Bl.Q2,Qc,Q3,Q4,eqv,and_true]at hd
      have hc:=(bcell hext).1
      simp only [Bl.Good,Region.wanted,if_true]
      first
      | exact goodR_build1 tArr (by decide) hd (by simp [Hol.out.1]) (rds_dig w1 52 d Hol.out.1)
      | (go_simp;first | (go_at_call 43;(with_reducible refine(HM.out _ hext).mono ?_);rintro e w2 ⟨v2,rfl,hO2,hE2⟩;exact⟨_,rfl,hE2,hO2.mono hext.size⟩) | (go_at_call 49;(with_reducible refine(HO.out _ hext).mono ?_);rintro e w2 ⟨rfl,hE2⟩;exact⟨_,rfl,hE2,rfl⟩) | exact⟨Below.refl _ _,by rw [if_neg (by omega)];rfl⟩ | exact⟨Below.refl _ _,rfl⟩)
    case hmono=>exact⟨mono_eqv _,mono_eqv _,(mono_eqv _),mono_eqv _,(fun _ _ _ h k=>OwnD.ext h k),mono_eqv _,mono_eqv _,(mono_eqv _),mono_eqv _,(fun _ _ _ h k=>Rds.ext h k),trivial⟩
    case hend=>
     intro u w1 hext hend
     simp only [EndE,Q1,Bl.Q2,Qc,Q3,Q4,eqv,true_and]at hend
     simp only [fillAct,Q5,Q6,Q7,Q8,Q9,hend]
     have hnew:=Bl.hid hend.2
     obtain⟨p2,c2,hq2,hown⟩:=hend.1.1.1.1.1.2
     rw [hq2]
     have Hown:=Bl.hid hown
     have HE:=Bl.hid hext
     clear hext hend hown hq2
     go_wp2_with (with_reducible refine stop_append ?_)
     refine go_on ?_
     refine wpL_app tArr Hown.out hnew.out rfl rfl (by rw [cellsD_one,ints_length,Hol.out.1]) (cellsD_one' _) (by have:=Hpl.out;unfold maxLen;omega) (by have:=Hpl.out;omega) HE.out.size ?_
     intro q3 d3 w9 hown9 hg9 hB9 hK9 hn9 hc9
     have Hown9:=Bl.hid hown9
     have HE9:Hid (Ext w w9):=Bl.hid (Below.trans HE.out hB9)
     clear hown9 hg9 hB9 hK9
     go_wp2_with fail
     go_ret
     refine⟨_,rfl,?_,HE9.out⟩
     rw [HPd.out]
     refine⟨q3,d3,by rw [List.length_append];rfl,?_⟩
     rw [List.length_append,cellsD_append]
     exact Hown9.out
   ·have HP:=Bl.hid (HPr.out hiq)
    have hlt':¬((i:Int) < (q:Int)):=by omega
    have e2:((i - q:Nat):Int)=(i:Int) - (q:Int):=by omega
    have HM:Hid (∀w2,Ext w w2->Calls Tryz.prog 43 #[.slice (some ⟨b,o+q*32,none⟩) (n - q) (c - q),.int .i64 ((i:Int) - (q:Int))] w2 fun e w'=>∃v',e= .returned v'/\OwnD w' v' w2.heap.size 52 (pathL ndD zD (ds.drop q) (i - q))/\Ext w2 w'):=Bl.hid fun w2 h2=>by
     rw [<-e2]
     exact IH.out (n - q) (by omega) (ds.drop q) (i - q) _ w2 Hdl.out (by omega) (by omega) (Hd.out.drop q) (Rds.ext Hdr.out h2) (Hg.out.ext h2)
    have HO:Hid (∀w2,Ext w w2->Calls Tryz.prog 49 #[.slice (some ⟨b,o,none⟩) q c] w2 fun e w'=>e= .returned (.agg (ints .u8 (overD (ds.take q))).toArray)/\Ext w2 w'):=Bl.hid fun w2 h2=>
     refover_any q (ds.take q) _ w2 Htl.out (by omega) (Hd.out.take q) (Rds.ext Htk.out h2) (Hg.out.ext h2)
    have Hol:=Bl.hid (overD_dig _ (ds.take q) rfl (Hd.out.take q) (by rw [Htl.out];omega))
    have Hpl:Hid ((pathL ndD zD (ds.drop q) (i - q)).length<=512):=Bl.hid (by
     rw [pathL_len _ _ _ _ _ (Nat.le_refl _) (by rw [Hdl.out];omega),Hdl.out]
     have:=turnsL_len (n - q) (n - q) (i - q) (Nat.le_refl _) (by omega);omega)
    have HPd:Hid (pathL ndD zD ds i=pathL ndD zD (ds.drop q) (i - q)++[overD (ds.take q)]):=HP
    obtain⟨d,hd⟩:∃d,d=overD (ds.take q):=⟨_,rfl⟩
    rw [<-hd]at HO Hol HPd
    obtain⟨P1,hP1⟩:∃P1,P1=pathL ndD zD (ds.drop q) (i - q):=⟨_,rfl⟩
    rw [<-hP1]at HM Hpl HPd
    have hw1:IntKind.i64.wrap ((i:Int) - (q:Int))=(i:Int) - (q:Int):=IntWalk.i64_in _ (by omega)
    clear hd hP1 HP HPf HPr IH e2
    go_wp2_with fail
    apply wp_region_ev 12 [26,27,28,29,30,31,32,33,34,35,36,37] [eqv _,eqv _,eqv (.slice (some ⟨b,o+q*32,none⟩) (n - q) (c - q)),eqv _,eqv _,eqv (.int .i64 ((i:Int) - (q:Int))),(fun v w'=>OwnD w' v w.heap.size 52 P1),eqv _,eqv _,eqv (.slice (some ⟨b,o,none⟩) q c),eqv _,(fun v w'=>Rds w' v 1 (cellsD [d]))] (by kernel_rfl) (by kernel_rfl) (by kernel_rfl) (by kernel_rfl)
    case hsteps=>
     refine⟨?_,?_,?_,?_,?_,?_,?_,?_,?_,?_,?_,?_,trivial⟩
     all_goals
      intro ev w1 hext hb hd
      have e0:=hb 0 (by decide)
      have e1:=hb 1 (by decide)
      have e5:=hb 5 (by decide)
      clear hb
      simp only [Qa,Qb,Q1,Bl.Q2,Qd]at e0 e1 e5
      simp only [DepsE,Q1,Bl.Q2,Qc,Q3,Q4,eqv,and_true]at hd
      have hc:=(bcell hext).1
      simp only [Bl.Good,Region.wanted,if_true]
      first
      | exact goodR_build1 tArr (by decide) hd (by simp [Hol.out.1]) (rds_dig w1 52 d Hol.out.1)
      | (go_simp;first | (go_at_call 43;(with_reducible refine(HM.out _ hext).mono ?_);rintro e w2 ⟨v2,rfl,hO2,hE2⟩;exact⟨_,rfl,hE2,hO2.mono hext.size⟩) | (go_at_call 49;(with_reducible refine(HO.out _ hext).mono ?_);rintro e w2 ⟨rfl,hE2⟩;exact⟨_,rfl,hE2,rfl⟩) | exact⟨Below.refl _ _,by rw [if_neg (by omega)];rfl⟩ | exact⟨Below.refl _ _,rfl⟩)
    case hmono=>exact⟨mono_eqv _,mono_eqv _,(mono_eqv _),mono_eqv _,mono_eqv _,(mono_eqv _),(fun _ _ _ h k=>OwnD.ext h k),mono_eqv _,mono_eqv _,(mono_eqv _),mono_eqv _,(fun _ _ _ h k=>Rds.ext h k),trivial⟩
    case hend=>
     intro u w1 hext hend
     simp only [EndE,Q1,Bl.Q2,Qc,Q3,Q4,eqv,true_and]at hend
     simp only [fillAct,Q5,Q6,Q7,Q8,Q9,hend]
     have hnew:=Bl.hid hend.2
     obtain⟨p2,c2,hq2,hown⟩:=hend.1.1.1.1.1.2
     rw [hq2]
     have Hown:=Bl.hid hown
     have HE:=Bl.hid hext
     clear hext hend hown hq2 hw1
     go_wp2_with (with_reducible refine stop_append ?_)
     refine go_on ?_
     refine wpL_app tArr Hown.out hnew.out rfl rfl (by rw [cellsD_one,ints_length,Hol.out.1]) (cellsD_one' _) (by have:=Hpl.out;unfold maxLen;omega) (by have:=Hpl.out;omega) HE.out.size ?_
     intro q3 d3 w9 hown9 hg9 hB9 hK9 hn9 hc9
     have Hown9:=Bl.hid hown9
     have HE9:Hid (Ext w w9):=Bl.hid (Below.trans HE.out hB9)
     clear hown9 hg9 hB9 hK9
     go_wp2_with fail
     go_ret
     refine⟨_,rfl,?_,HE9.out⟩
     rw [HPd.out]
     refine⟨q3,d3,by rw [List.length_append];rfl,?_⟩
     rw [List.length_append,cellsD_append]
     exact Hown9.out
theorem pmake_no (v:Value) (ps:List (List Int)) (i:Int) (w:World) (a:Addr) (hR:Rdss w v ps) (hF:w.cell? ⟨3,0,none⟩=some (.iface 233 (.pointer (some a)))) (hi:¬((ps.length:Int)<=512/\0<=i/\i < ps.length)):
  Calls Tryz.prog 46 #[v,.int .i64 i] w fun e w'=>e= .returned (.tuple #[.slice none 0 0,.iface 233 (.pointer (some a))])/\Ext w w':=by
 obtain⟨vs,hvs,hvl,hvr⟩:=hR
 obtain⟨p,c,hvf,hvn,hvc⟩:=hvs.form
 subst hvf
 unfold maxLen at hvc
 have hth:=Bl.hid (thereB_no hi)
 clear hvs hvl hvr hi
 go_enter Tryz.func46,Tryz.ntmps46
 go_wp2_with fail
 refine(there_any _ _ _).mono ?_
 rintro e w1 ⟨rfl,hw⟩
 subst hw
 rw [hth.out]
 go_wp2_with fail
 go_quiet (fail)
 go_wp2_with fail
 go_ret2
 exact⟨rfl,(Below.refl _ _).drewN _⟩
end Go.Proofs.YtglenbikdahgjaaGreatDoor
namespace Go.Proofs.Bl
open Go Go.RowKit
end Go.Proofs.Bl
namespace Go.Proofs.YtglenbikdahgjaaGreatDoor
open Go.RowKit Go.Proofs Go.Proofs.Bl
end Go.Proofs.YtglenbikdahgjaaGreatDoor
