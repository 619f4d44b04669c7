/- Texts that stood apart, in one: LW3, LW4. -/
import Derived.Test.YtglenbikdahgjaaGreatDoorPk05
import Derived.Test.YtglenbikdahgjaaGreatDoorPk02
import Derived.Test.YtglenbikdahgjaaGreatDoorChecked
set_option maxRecDepth 100000
set_option maxHeartbeats 16000000
namespace Go.Proofs.YtglenbikdahgjaaGreatDoor
open Go Go.RowKit Go.Proofs Go.Proofs.Bl
theorem tShL:SlT Tryz.prog 24 57 (.agg zSh) 3 56:=⟨Tryz.underlying24,by kernel_rfl,rfl,by decide⟩
theorem tShR:SlT Tryz.prog 41 100 (.agg zSh) 3 56:=⟨Tryz.underlying41,by kernel_rfl,rfl,by decide⟩
theorem long22_any (v:Value) (l:Bl.LT) (w:World) (h:LtV w v l):
  Calls Tryz.prog 8 #[v] w fun e w'=>(e= .returned (.bool true)\/(e= .returned (.bool false)/\LgL l))/\Ext w w':=by
 obtain⟨cs,vp,vs,vb,L,rfl,hc⟩:=h
 obtain rfl:=hc.eq
 obtain⟨kd,id,oj,pl,sh,fr,ct,bl,cd⟩:=l
 obtain⟨_,hpl,hsh,hsl,hbl,hby⟩:=hc
 simp only at hpl hsl hbl hby
 obtain⟨p1,c1,e1,_,_⟩:=hpl.form
 obtain⟨p2,c2,e2,hn2,hc2⟩:=hsh.rd.form
 obtain⟨wsb,hb1,hwl,hws⟩:=hbl
 obtain⟨p3,c3,e3,hn3,hc3⟩:=hb1.form
 subst e1 e2 e3
 unfold maxLen at hc2 hc3
 have HS:=Bl.hid hsh
 have HB:=Bl.hid hb1
 have Hwl:=Bl.hid hwl
 have Hws:=Bl.hid hws
 obtain⟨np,hnp⟩:∃np,np=pl.length:=⟨_,rfl⟩
 obtain⟨ns,hns⟩:∃ns,ns=L.length:=⟨_,rfl⟩
 obtain⟨nb,hnb⟩:∃nb,nb=bl.length:=⟨_,rfl⟩
 have Hnp:=Bl.hid hnp
 have Hns:=Bl.hid hns
 have Hnb:=Bl.hid hnb
 have Hsl:=Bl.hid hsl
 have HBx:=Bl.hid (BoxC.box w 26 (cL_ne ⟨kd,id,oj,pl,sh,fr,ct,bl,cd⟩ (.slice p1 np c1) (.slice p2 ns c2) (.slice p3 nb c3)))
 have HE0:=Bl.hid (ext_alloc w (.cells (cL ⟨kd,id,oj,pl,sh,fr,ct,bl,cd⟩ (.slice p1 np c1) (.slice p2 ns c2) (.slice p3 nb c3)).toArray 26))
 rw [<-hnp,<-hns,<-hnb]
 rw [<-hns]at hn2
 rw [<-hnb]at hn3 HB
 clear hpl hsh hsl hb1 hwl hws hby hnp hns hnb
 show Calls Tryz.prog 8 #[.agg #[.int .i64 kd,.int .i64 id,.int .i64 oj,.slice p1 np c1,.slice p2 ns c2,.int .i64 fr,.int .i64 ct,.slice p3 nb c3,.int .i64 cd]] w _
 have ga:=HBx.out.cell (i:=3) rfl
 have gb:=HBx.out.cell (i:=4) rfl
 have gc:=HBx.out.cell (i:=7) rfl
 go_enter Tryz.func8,Tryz.ntmps8
 by_cases h1:(100:Int) < (np:Int)
 ·go_wp2_with fail
  go_ret
  exact⟨.inl rfl,HE0.out⟩
 by_cases h2:(30:Int) < (ns:Int)
 ·go_wp2_with fail
  go_ret
  exact⟨.inl rfl,HE0.out⟩
 by_cases h3:(600:Int) < (nb:Int)
 ·go_wp2_with fail
  go_ret
  exact⟨.inl rfl,HE0.out⟩
 go_wp2_with fail
 obtain⟨W0,hW0⟩:∃W0,W0=w.alloc (.cells #[.int .i64 kd,.int .i64 id,.int .i64 oj,.slice p1 np c1,.slice p2 ns c2,.int .i64 fr,.int .i64 ct,.slice p3 nb c3,.int .i64 cd] 26):=⟨_,rfl⟩
 have HB0:Hid (BoxC W0 w.heap.size (cL ⟨kd,id,oj,pl,sh,fr,ct,bl,cd⟩ (.slice p1 np c1) (.slice p2 ns c2) (.slice p3 nb c3))):=Bl.hid (by rw [hW0];exact HBx.out)
 replace HE0:Hid (Ext w W0):=Bl.hid (by rw [hW0];exact HE0.out)
 rw [<-hW0]
 clear hW0 HBx ga gb gc
 go_loopw [26] (fun x wr=>∃i:Nat,i<=ns/\x= .int .i64 i/\Hid (∀q,q < i->(L.getD q s0).2.1.2.length<=100/\(L.getD q s0).2.2.2.length<=40)/\Ext W0 wr) (fun x _=>ns - (intOf x).toNat)
 case atStart=>exact⟨0,Nat.zero_le _,rfl,Bl.hid fun q hq=>absurd hq (Nat.not_lt_zero _),Below.refl _ _⟩
 case round=>
  obtain⟨i,hi,rfl,Hq,hE⟩:=hrel
  have HE:=Bl.hid hE
  clear hE
  by_cases hlt:i < ns
  ·have hin:i < L.length:=by rw [<-Hns.out];exact hlt
   have hRA:=HS.out.ext (HE0.out.trans HE.out)
   obtain⟨g,o,cc,hpe,hcn,hcm,hgl,hel⟩:=hRA.pos (by omega)
   injection hpe with hp1 hp2 hp3
   subst hp1 hp3
   have hrg:=hel i hin
   have hok:=hRA.ok _ (getD_mem s0 hin)
   obtain⟨x,hx⟩:∃x,x=L.getD i s0:=⟨_,rfl⟩
   rw [<-hx]at hrg hok
   have Hx:=Bl.hid hx
   have Hld:=Bl.hid (run_loadAt_mid (P:=Tryz.prog) wr g (o+i*3) 57 _ _ hrg Tryz.underlying57 rfl (by rw [cS_len];kernel_rfl))
   obtain⟨HB6,HE6⟩:=BoxC.fresh (cs:=cS x) wr 57 zSh rfl (cS_ne x)
   have Hst:=Bl.hid (fresh_store (P:=Tryz.prog) (cs:=cS x) wr 57 zSh rfl (cS_one hok) (ty:=57) (by rw [cS_len];kernel_rfl))
   have hq1:=HB6.cell (i:=1) rfl
   have hq2:=HB6.cell (i:=2) rfl
   replace HE6:=Bl.hid (HE.out.trans HE6)
   obtain⟨pp,cp,hpf,hpn,hpc⟩:=hok.st.form
   obtain⟨qq,cq,hqf,hqn,hqc⟩:=hok.pa.form
   obtain⟨m,hm⟩:∃m,m=x.2.1.2.length:=⟨_,rfl⟩
   obtain⟨m2,hm2⟩:∃m2,m2=x.2.2.2.length:=⟨_,rfl⟩
   have Hm:=Bl.hid hm
   have Hm2:=Bl.hid hm2
   rw [hpf,<-hm]at hq1
   rw [hqf,<-hm2]at hq2
   have hi0:(0:Int)<=(i:Int):=by omega
   have hi1:(i:Int) < (ns:Int):=by omega
   clear hel hrg hok hx HB6 hp2 hcn hcm hin hRA hpf hpn hpc hm hqf hqn hqc hm2
   go_wp2_with (with_reducible refine stop_load (ty:=57) ?_)
   refine go_on ?_
   refine wpL_load rfl Hld.out ?_
   go_wp2_with (with_reducible refine stop_store (ty:=57) ?_)
   refine go_on ?_
   refine wpL_store0 rfl rfl Hst.out ?_
   generalize (wr.alloc (.cells zSh 57)).setCells wr.heap.size 0 (cS x)=W6 at*
   generalize wr.heap.size=X6 at*
   clear Hst Hld
   by_cases h5:(100:Int) < (m:Int)
   ·go_wp2_with fail
    go_ret
    exact⟨.inl rfl,HE0.out.trans HE6.out⟩
   by_cases h6:(40:Int) < (m2:Int)
   ·go_wp2_with fail
    go_ret
    exact⟨.inl rfl,HE0.out.trans HE6.out⟩
   ·go_wp2_with fail
    go_roundw
    case rel=>exact⟨i+1,by omega,by go_num,Bl.hid fun q hq=>by
     rcases Nat.lt_succ_iff_lt_or_eq.1 hq with g | g
     ·exact Hq.out q g
     ·subst g;rw [<-Hx.out,<-Hm.out,<-Hm2.out];omega,HE6.out⟩
    case measure=>simp [intOf];omega
  ·obtain rfl:i=ns:=by omega
   have gc:=(HB0.out.ext HE.out).cell (i:=7) rfl
   clear hlt hi
   go_wp2_with fail
   go_loopw [44] (fun x wx=>∃k:Nat,k<=nb/\x= .int .i64 k/\wx=wr/\Hid (∀j,j < k->(bl.getD j []).length<=100)) (fun x _=>nb - (intOf x).toNat)
   case atStart=>exact⟨0,Nat.zero_le _,rfl,rfl,Bl.hid fun j hj=>absurd hj (Nat.not_lt_zero _)⟩
   case round=>
    obtain⟨k,hk,rfl,hwx,Hall⟩:=hrel
    subst hwx
    by_cases hlt:k < nb
    ·have hkb:k < bl.length:=by rw [<-Hnb.out];exact hlt
     obtain⟨b,o,hpe,hbl2,hcell⟩:=Rdss.cell' (ps:=bl) (n:=nb) (by have:=HB.out.ext (HE0.out.trans HE.out);rw [Hnb.out]at this⊢;exact this) Hwl.out k hkb
     subst hpe
     have hRk:=Hws.out k hkb
     obtain⟨bs,hbs⟩:∃bs,bs=bl.getD k []:=⟨_,rfl⟩
     rw [<-hbs]at hRk
     obtain⟨pk,ck,hfk,hnk,hck⟩:=hRk.form
     rw [hfk]at hcell
     have Hbs:=Bl.hid hbs
     clear hRk hfk hbs
     by_cases h200:(100:Int) < (bs.length:Int)
     ·go_wp2_with fail
      go_ret
      exact⟨.inl rfl,HE0.out.trans HE.out⟩
     ·go_wp2_with fail
      go_roundw
      case rel=>
       refine⟨k+1,by omega,by go_num,trivial,Bl.hid fun j hj=> ?_⟩
       by_cases hjk:j=k
       ·subst hjk;rw [<-Hbs.out];omega
       ·exact Hall.out j (by omega)
      case measure=>simp [intOf];omega
    ·obtain rfl:k=nb:=by omega
     go_wp2_with fail
     go_ret
     refine⟨.inr ⟨rfl,⟨by show pl.length<=100;rw [<-Hnp.out];omega,?_,by show bl.length<=600;rw [<-Hnb.out];omega,fun s hs=> ?_,fun b hb=> ?_⟩⟩,HE0.out.trans HE.out⟩
     ·show sh.length<=30
      rw [<-Hsl.out,List.length_map,<-Hns.out];omega
     ·have hs':s∈L.map plS:=by rw [Hsl.out];exact hs
      obtain⟨x,hx,rfl⟩:=List.mem_map.1 hs'
      obtain⟨q,hq,rfl⟩:=List.getElem_of_mem hx
      have:=Hq.out q (by rw [Hns.out];exact hq)
      rwa [List.getD_eq_getElem?_getD,List.getElem?_eq_getElem hq]at this
     ·obtain⟨j,hj,rfl⟩:=List.getElem_of_mem hb
      have:=Hall.out j (by rw [Hnb.out];exact hj)
      rwa [List.getD_eq_getElem?_getD,List.getElem?_eq_getElem hj]at this
theorem of22_any (v:Value) (l:Bl.LT) (w:World) (h:LtV w v l) (hl:l.shown.length<=1048576) (hp:∀s∈l.shown,s.2.2.length<=1048576):
  Calls Tryz.prog 12 #[v] w fun e w'=>∃v',e= .returned v'/\LtV w' v' l/\Ext w w':=by
 obtain⟨cs0,vp,vs,vb,L,rfl,hc⟩:=h
 obtain rfl:=hc.eq
 have HC:=Bl.hid hc
 have Hp:=Bl.hid hp
 obtain⟨p2,c2,e2,hn2,hc2⟩:=hc.sh.rd.form
 subst e2
 obtain⟨p1,n1,c1,e1⟩:=hc.pl.isSl
 obtain⟨p3,n3,c3,e3⟩:=hc.bl.isSl
 subst e1 e3
 unfold maxLen at hc2
 have Hll:Hid (l.shown.length=L.length):=Bl.hid (by rw [<-hc.sl,List.length_map])
 obtain⟨ns,hns⟩:∃ns,ns=L.length:=⟨_,rfl⟩
 have Hns:=Bl.hid hns
 have hl2:ns<=1048576:=by rw [hns,<-Hll.out];exact hl
 rw [<-hns]at HC hn2⊢
 clear hc hns hl hp
 obtain⟨kd,id,oj,pl,sh,fr,ct,bl,cd⟩:=l
 obtain⟨W2,hW2⟩:∃W2,W2=(w.alloc (.cells #[.int .i64 kd,.int .i64 id,.int .i64 oj,.slice p1 n1 c1,.slice p2 ns c2,.int .i64 fr,.int .i64 ct,.slice p3 n3 c3,.int .i64 cd] 26)).alloc (.cells zL 43):=⟨_,rfl⟩
 have HE2:Hid (Ext w W2):=Bl.hid (by rw [hW2];exact(ext_alloc _ _).trans (ext_alloc _ _))
 have hs2:W2.heap.size=w.heap.size+1+1:=by rw [hW2];simp
 have HB1:Hid (BoxC W2 w.heap.size (cL ⟨kd,id,oj,pl,sh,fr,ct,bl,cd⟩ (.slice p1 n1 c1) (.slice p2 ns c2) (.slice p3 n3 c3))):=Bl.hid (by rw [hW2];exact(BoxC.box w 26 (cL_ne _ _ _ _)).ext (ext_alloc _ _))
 have HB2:Hid (BoxC W2 (w.heap.size+1) (cL lt0 (.slice none 0 0) (.slice none 0 0) (.slice none 0 0))):=Bl.hid (by
  rw [hW2]
  have h:=BoxC.box (w.alloc (.cells #[.int .i64 kd,.int .i64 id,.int .i64 oj,.slice p1 n1 c1,.slice p2 ns c2,.int .i64 fr,.int .i64 ct,.slice p3 n3 c3,.int .i64 cd] 26)) 43 (cL_ne lt0 (.slice none 0 0) (.slice none 0 0) (.slice none 0 0))
  rw [show(w.alloc (.cells #[.int .i64 kd,.int .i64 id,.int .i64 oj,.slice p1 n1 c1,.slice p2 ns c2,.int .i64 fr,.int .i64 ct,.slice p3 n3 c3,.int .i64 cd] 26)).heap.size=w.heap.size+1 from by simp]at h
  exact h)
 obtain⟨hB3,hE3⟩:=BoxC.fresh (cs:=cL ⟨kd,id,oj,pl,sh,fr,ct,bl,cd⟩ (.slice p1 n1 c1) (.slice none 0 0) (.slice p3 n3 c3)) W2 43 zL rfl (cL_ne _ _ _ _)
 have Hst:=Bl.hid (fresh_store (P:=Tryz.prog) (cs:=cL ⟨kd,id,oj,pl,sh,fr,ct,bl,cd⟩ (.slice p1 n1 c1) (.slice none 0 0) (.slice p3 n3 c3)) W2 43 zL rfl (cL_one HC.out.pl.isSl isSl_nil HC.out.bl.isSl) (ty:=43) (by kernel_rfl))
 rw [hs2]at hB3 hE3 Hst
 have HB3:=Bl.hid hB3
 have HE3:=Bl.hid hE3
 clear hB3 hE3
 have Hs2:=Bl.hid hs2
 clear hs2
 show Calls Tryz.prog 12 #[.agg #[.int .i64 kd,.int .i64 id,.int .i64 oj,.slice p1 n1 c1,.slice p2 ns c2,.int .i64 fr,.int .i64 ct,.slice p3 n3 c3,.int .i64 cd]] w _
 go_enter Tryz.func12,Tryz.ntmps12
 go_wp2_with (with_reducible refine stop_store (ty:=43) ?_)
 refine go_on ?_
 rw [<-hW2]
 clear hW2
 refine wpL_store0 rfl rfl Hst.out ?_
 obtain⟨W3,hW3⟩:∃W3,W3=(W2.alloc (.cells zL 43)).setCells (w.heap.size+1+1) 0 (cL ⟨kd,id,oj,pl,sh,fr,ct,bl,cd⟩ (.slice p1 n1 c1) (.slice none 0 0) (.slice p3 n3 c3)):=⟨_,rfl⟩
 rw [<-hW3]at HB3 HE3⊢
 clear hW3 Hst
 have HG0:Hid (GR cS 3 OkF (fun b=>b≠w.heap.size+1) (w.heap.size+1+1) 100 W3 (w.heap.size+1+1) 4 (cL ⟨kd,id,oj,pl,sh,fr,ct,bl,cd⟩ (.slice p1 n1 c1) (.slice none 0 0) (.slice p3 n3 c3)) (.slice none 0 0) []):=Bl.hid (GR.start HB3.out rfl)
 have hq4:=(HB1.out.ext HE3.out).cell (i:=4) rfl
 go_wp2_with fail
 clear hq4 HB3
 go_loopw [29] (fun x wr=>∃(i:Nat) (vs':Value) (M:List Sv),i<=ns/\x= .int .i64 i/\Hid (GR cS 3 OkF (fun b=>b≠w.heap.size+1) (w.heap.size+1+1) 100 wr (w.heap.size+1+1) 4 (cL ⟨kd,id,oj,pl,sh,fr,ct,bl,cd⟩ (.slice p1 n1 c1) vs' (.slice p3 n3 c3)) vs' M/\M.length=i/\M.map plS=sh.take i)/\Ext W2 wr) (fun x _=>ns - (intOf x).toNat)
 case atStart=>exact⟨0,_,[],Nat.zero_le _,rfl,Bl.hid ⟨HG0.out,rfl,rfl⟩,HE3.out⟩
 case round=>
  obtain⟨i,vs',M,hi,rfl,HI,hE⟩:=hrel
  have HE:=Bl.hid hE
  clear hE
  by_cases hlt:i < ns
  ·have hin:i < L.length:=by rw [<-Hns.out];exact hlt
   have HEw:=Bl.hid (HE2.out.trans HE.out)
   have hRA:=HC.out.sh.ext HEw.out
   obtain⟨g,o,cc,hpe,hcn,hcm,hgl,hel⟩:=hRA.pos (by omega)
   injection hpe with hp1 hp2 hp3
   subst hp1 hp3
   have hrg:=hel i hin
   have hok0:=HC.out.sh.ok _ (getD_mem s0 hin)
   have hok:=hRA.ok _ (getD_mem s0 hin)
   have hpl:plS (L.getD i s0)=sh.getD i Bl.h0:=by rw [<-plS_getD];rw [show L.map plS=sh from HC.out.sl]
   have hils:i < sh.length:=by have h:=Hll.out;have h2:sh.length=L.length:=h;omega
   have hpn:(L.getD i s0).2.2.2.length<=1048576:=by
    have:=Hp.out (sh.getD i Bl.h0) (getD_mem Bl.h0 hils)
    rw [<-hpl]at this;exact this
   have Htk:Hid (sh.take (i+1)=sh.take i++[plS (L.getD i s0)]):=Bl.hid (by rw [hpl];exact take_succ_getDD Bl.h0 sh i hils)
   obtain⟨x,hx⟩:∃x,x=L.getD i s0:=⟨_,rfl⟩
   rw [<-hx]at hrg hok hok0 hpn Htk
   clear hx hpl hils
   obtain⟨pc,⟨u1,st⟩,u2,pa⟩:=x
   have Hok0:=Bl.hid hok0
   have Hok:=Bl.hid hok
   obtain⟨q2,d2,hqf,hqn,hqc⟩:=hok.pa.form
   obtain⟨q1,n5,d1,hq1f⟩:=hok.st.isSl
   simp only at hqf hqn hpn hq1f
   subst hqf hq1f
   obtain⟨m,hm⟩:∃m,m=pa.length:=⟨_,rfl⟩
   have Hm:=Bl.hid hm
   rw [<-hm]at hqn hpn hrg
   have hok':OkS wr (pc,(.slice q1 n5 d1,st),.slice q2 m d2,pa):=by rw [hm];exact hok
   have Hld:=Bl.hid (run_loadAt_mid (P:=Tryz.prog) wr g (o+i*3) 57 _ _ hrg Tryz.underlying57 rfl (by rw [cS_len];kernel_rfl))
   obtain⟨hB5,hE5⟩:=BoxC.fresh (cs:=cS (pc,(.slice q1 n5 d1,st),.slice q2 m d2,pa)) wr 57 zSh rfl (cS_ne _)
   have Hst:=Bl.hid (fresh_store (P:=Tryz.prog) (cs:=cS (pc,(.slice q1 n5 d1,st),.slice q2 m d2,pa)) wr 57 zSh rfl (cS_one hok') (ty:=57) (by rw [cS_len];kernel_rfl))
   have HB5:=Bl.hid hB5
   have HE5:=Bl.hid hE5
   have hi0:(0:Int)<=(i:Int):=by omega
   have hi1:(i:Int) < (ns:Int):=by omega
   have HX3:Hid (w.heap.size+1+1 < wr.heap.size/\∀k,vs'.ownBlock=some k->k < wr.heap.size):=Bl.hid ⟨HI.out.1.box.lt,fun k hk=>(HI.out.1.own.lt k hk).2⟩
   clear hel hrg hok hok0 hok' hp2 hcn hcm hin hRA hB5 hE5 hm hqc
   go_wp2_with (with_reducible refine stop_load (ty:=57) ?_)
   refine go_on ?_
   refine wpL_load rfl Hld.out ?_
   go_wp2_with (with_reducible refine stop_store (ty:=57) ?_)
   refine go_on ?_
   refine wpL_store0 rfl rfl Hst.out ?_
   obtain⟨W5,hW5⟩:∃W5,W5=(wr.alloc (.cells zSh 57)).setCells wr.heap.size 0 (cS (pc,(.slice q1 n5 d1,st),.slice q2 m d2,pa)):=⟨_,rfl⟩
   obtain⟨X5,hX5⟩:∃X5,X5=wr.heap.size:=⟨_,rfl⟩
   rw [<-hW5]at HB5 HE5⊢
   rw [<-hX5]at HB5 HX3⊢
   have HX5:Hid (X5<=W5.heap.size):=Bl.hid (by rw [hX5];exact HE5.out.size)
   clear hW5 hX5 Hst Hld
   obtain⟨hB6,hE6⟩:=BoxC.fresh (cs:=[.int .i64 pc,.slice q1 n5 d1,.slice none 0 0]) W5 100 zSh rfl (fun h=>by cases h)
   have Hst:=Bl.hid (fresh_store (P:=Tryz.prog) (cs:=[.int .i64 pc,.slice q1 n5 d1,.slice none 0 0]) W5 100 zSh rfl (cS3_one Hok.out.st.isSl isSl_nil) (ty:=100) (by kernel_rfl))
   have HB6:=Bl.hid hB6
   have HE6:=Bl.hid hE6
   have g0:=HB5.out.cell (i:=0) rfl
   have g1:=HB5.out.cell (i:=1) rfl
   clear hB6 hE6
   go_wp2_with (with_reducible refine stop_store (ty:=100) ?_)
   refine go_on ?_
   refine wpL_store0 rfl rfl Hst.out ?_
   obtain⟨W6,hW6⟩:∃W6,W6=(W5.alloc (.cells zSh 100)).setCells W5.heap.size 0 [.int .i64 pc,.slice q1 n5 d1,.slice none 0 0]:=⟨_,rfl⟩
   obtain⟨X6,hX6⟩:∃X6,X6=W5.heap.size:=⟨_,rfl⟩
   rw [<-hW6]at HB6 HE6⊢
   rw [<-hX6]at HB6⊢
   have HX6:=Bl.hid hX6
   clear hW6 hX6 Hst g0 g1
   have g2:=(HB5.out.ext HE6.out).cell (i:=2) rfl
   have HG6:Hid (GR (ints .u8) 32 OkT (fun _=>True) W5.heap.size 52 W6 X6 2 [.int .i64 pc,.slice q1 n5 d1,.slice none 0 0] (.slice none 0 0) []):=Bl.hid (GR.start HB6.out rfl)
   go_wp2_with fail
   clear g2 HB5
   go_loopw [41] (fun y wq=>∃(j:Nat) (vq:Value),j<=m/\y= .int .i64 j/\Hid (GR (ints .u8) 32 OkT (fun _=>True) W5.heap.size 52 wq X6 2 [.int .i64 pc,.slice q1 n5 d1,vq] vq (pa.take j))/\Ext W5 wq) (fun y _=>m - (intOf y).toNat)
   case atStart=>exact⟨0,_,Nat.zero_le _,rfl,HG6,HE6.out⟩
   case round=>
    obtain⟨j,vq,hj,rfl,HJ,hE7⟩:=hrel
    have HE7:=Bl.hid hE7
    clear hE7
    by_cases hjt:j < m
    ·have hjp:j < pa.length:=by rw [<-Hm.out];exact hjt
     obtain⟨b1,o1,c1,hpa,hpa1,hpa2,hbl1,hrg1⟩:=RdD.pos (Rds.ext (Rds.ext Hok.out.pa HE5.out) HE7.out) Hok.out.dg (by have:=Hm.out;simp only;omega)
     injection hpa with hpa hpa3 hpa4
     subst hpa
     have hr1:=digit_at hrg1 Hok.out.dg (i:=j) hjp
     obtain⟨hl1,_⟩:=Hok.out.dg.get (i:=j) hjp
     have Ht1:=Bl.hid (take_succ_getDD [] pa j hjp)
     have Htl:Hid ((pa.take j).length=j):=Bl.hid (by rw [List.length_take];have:=Hm.out;omega)
     simp only at hr1 hl1
     obtain⟨d,hd⟩:∃d,d=pa.getD j []:=⟨_,rfl⟩
     rw [<-hd]at hr1 hl1 Ht1
     have Hld:=Bl.hid (load_ints (P:=Tryz.prog) (ty:=54) hr1 Tryz.underlying54 (by kernel_rfl) hl1)
     have hne1:ints .u8 d≠[]:=fun q=>by have:=congrArg List.length q;rw [ints_length,hl1]at this;cases this
     obtain⟨hB8,hE8⟩:=BoxC.fresh (cs:=ints .u8 d) wr 54 #[.int .u8 0,.int .u8 0,.int .u8 0,.int .u8 0,.int .u8 0,.int .u8 0,.int .u8 0,.int .u8 0,.int .u8 0,.int .u8 0,.int .u8 0,.int .u8 0,.int .u8 0,.int .u8 0,.int .u8 0,.int .u8 0,.int .u8 0,.int .u8 0,.int .u8 0,.int .u8 0,.int .u8 0,.int .u8 0,.int .u8 0,.int .u8 0,.int .u8 0,.int .u8 0,.int .u8 0,.int .u8 0,.int .u8 0,.int .u8 0,.int .u8 0,.int .u8 0] (by rw [ints_length,hl1];rfl) hne1
     have Hst:=Bl.hid (fresh_store (P:=Tryz.prog) (cs:=ints .u8 d) wr 54 #[.int .u8 0,.int .u8 0,.int .u8 0,.int .u8 0,.int .u8 0,.int .u8 0,.int .u8 0,.int .u8 0,.int .u8 0,.int .u8 0,.int .u8 0,.int .u8 0,.int .u8 0,.int .u8 0,.int .u8 0,.int .u8 0,.int .u8 0,.int .u8 0,.int .u8 0,.int .u8 0,.int .u8 0,.int .u8 0,.int .u8 0,.int .u8 0,.int .u8 0,.int .u8 0,.int .u8 0,.int .u8 0,.int .u8 0,.int .u8 0,.int .u8 0,.int .u8 0] (by rw [ints_length,hl1];rfl) (ints_one _ _) (ty:=54) (by rw [ints_length,hl1];kernel_rfl))
     have HB8:=Bl.hid hB8
     have HE8:=Bl.hid hE8
     have Hl1:=Bl.hid hl1
     have hj0:(0:Int)<=(j:Int):=by omega
     have hj1:(j:Int) < (m:Int):=by omega
     clear hrg1 hr1 hl1 hne1 hd hB8 hE8 hpa1 hpa2 hpa3 hpa4 hbl1 hjp
     go_wp2_with (with_reducible refine stop_load (ty:=54) ?_)
     refine go_on ?_
     refine wpL_load rfl Hld.out ?_
     go_wp2_with (with_reducible refine stop_store (ty:=54) ?_)
     refine go_on ?_
     refine wpL_store0 rfl rfl Hst.out ?_
     obtain⟨W8,hW8⟩:∃W8,W8=(wr.alloc (.cells #[.int .u8 0,.int .u8 0,.int .u8 0,.int .u8 0,.int .u8 0,.int .u8 0,.int .u8 0,.int .u8 0,.int .u8 0,.int .u8 0,.int .u8 0,.int .u8 0,.int .u8 0,.int .u8 0,.int .u8 0,.int .u8 0,.int .u8 0,.int .u8 0,.int .u8 0,.int .u8 0,.int .u8 0,.int .u8 0,.int .u8 0,.int .u8 0,.int .u8 0,.int .u8 0,.int .u8 0,.int .u8 0,.int .u8 0,.int .u8 0,.int .u8 0,.int .u8 0] 54)).setCells wr.heap.size 0 (ints .u8 d):=⟨_,rfl⟩
     obtain⟨X8,hX8⟩:∃X8,X8=wr.heap.size:=⟨_,rfl⟩
     rw [<-hW8]at HB8 HE8⊢
     rw [<-hX8]at HB8⊢
     clear hW8 hX8 Hst Hld
     have HG8:=Bl.hid (GR.ext stab_okT HJ.out HE8.out)
     have gq:=HG8.out.cell
     have Hl8:=Bl.hid (load_ints (P:=Tryz.prog) (ty:=54) HB8.out.rg Tryz.underlying54 (by kernel_rfl) Hl1.out)
     go_wp2_with (with_reducible refine stop_load (ty:=54) ?_)
     refine go_on ?_
     refine wpL_load rfl Hl8.out ?_
     go_wp2_with (with_reducible refine stop_build (ty:=96) ?_)
     refine go_on ?_
     refine wpL_build1 tArr (by decide) rfl (by simp [Hl1.out]) ?_
     have HE9:Hid (Ext W8 (W8.alloc (.cells (ints .u8 d).toArray 52))):=Bl.hid (ext_alloc _ _)
     have HR9:=Bl.hid (rds_box W8 52 (ints .u8 d))
     obtain⟨W9,hW9⟩:∃W9,W9=W8.alloc (.cells (ints .u8 d).toArray 52):=⟨_,rfl⟩
     obtain⟨X9,hX9⟩:∃X9,X9=W8.heap.size:=⟨_,rfl⟩
     rw [<-hW9]at HE9 HR9⊢
     rw [<-hX9]at HR9⊢
     clear hW9 hX9 gq
     have HG9:=Bl.hid (GR.ext stab_okT HG8.out HE9.out)
     have HEw9:=Bl.hid ((HE7.out.trans HE8.out).trans HE9.out)
     go_wp2_with (with_reducible refine stop_append ?_)
     refine go_on ?_
     refine wpL_app tArr (HG9.out.own' Htl.out) HR9.out rfl rfl (by rw [ints_length,Hl1.out]) (ints_one _ _) (by unfold maxLen;omega) (by omega) (HEw9.out.size) ?_
     intro p10 c10 w10 hown10 hg10 hB10 hK10 hn10 hc10
     have HP:=Bl.hid (GR.push (y:=d) stab_okT HG9.out Htl.out hown10 hg10 hK10 trivial)
     have gb:=(HG9.out.mid hg10).cell HG9.out.fld
     have gf:=(HG9.out.mid hg10).fz HG9.out.lt
     have HE10:=Bl.hid (Below.trans HEw9.out hB10)
     clear hown10 hg10 hB10 hK10 hn10 hc10
     go_wp2_with fail
     go_roundw
     case rel=>exact⟨j+1,_,by omega,by go_num,Bl.hid (by rw [Ht1.out];exact HP.out),Below.setCell HE10.out (by rw [HX6.out];exact Nat.le_refl _) _⟩
     case measure=>simp [intOf];omega
    ·obtain rfl:j=m:=by omega
     clear hjt hj
     have HG11:=Bl.hid (GR.ext stab_okF HI.out.1 (HE5.out.trans HE7.out))
     have HMl:=Bl.hid HI.out.2.1
     have HMm:=Bl.hid HI.out.2.2
     have Hpt:Hid (pa.take j=pa):=Bl.hid (List.take_of_length_le (by rw [<-Hm.out];exact Nat.le_refl _))
     have HJb:=Bl.hid HJ.out.box
     have Hvq:=Bl.hid (HJ.out.own' (n:=j) (by rw [List.length_take,<-Hm.out,Nat.min_self]))
     rw [Hpt.out]at Hvq
     obtain⟨pq,cq,hvq,_,_⟩:=(Rds.of_owns Hvq.out).form
     subst hvq
     clear HI HJ
     have gq:=HG11.out.cell
     have Hl8:=Bl.hid (HJb.out.load (P:=Tryz.prog) Tryz.underlying100 rfl (by kernel_rfl))
     go_wp2_with (with_reducible refine stop_load (ty:=100) ?_)
     refine go_on ?_
     refine wpL_load rfl Hl8.out ?_
     go_wp2_with (with_reducible refine stop_build (ty:=41) ?_)
     refine go_on ?_
     refine wpL_build1 tShR (by decide) rfl rfl ?_
     have HE12:Hid (Ext wr (wr.alloc (.cells ([.int .i64 pc,.slice q1 n5 d1,.slice pq j cq]:List Value).toArray 100))):=Bl.hid (ext_alloc _ _)
     have HR12:=Bl.hid (rds_box wr 100 [.int .i64 pc,.slice q1 n5 d1,.slice pq j cq])
     obtain⟨W12,hW12⟩:∃W12,W12=wr.alloc (.cells ([.int .i64 pc,.slice q1 n5 d1,.slice pq j cq]:List Value).toArray 100):=⟨_,rfl⟩
     obtain⟨X12,hX12⟩:∃X12,X12=wr.heap.size:=⟨_,rfl⟩
     rw [<-hW12]at HE12 HR12⊢
     rw [<-hX12]at HR12⊢
     clear hW12 hX12 gq
     have HG12:=Bl.hid (GR.ext stab_okF HG11.out HE12.out)
     have HEw12:=Bl.hid ((HE.out.trans (HE5.out.trans HE7.out)).trans HE12.out)
     have HOy:Hid (OkF (fun b=>b≠w.heap.size+1+1/\vs'.ownBlock≠some b/\b≠w.heap.size+1) W12 (pc,(.slice q1 n5 d1,st),.slice pq j cq,pa)):=Bl.hid (by
      refine⟨RdsF.kept (RdsF.of_rds (F:=fun b=>b < w.heap.size) Hok0.out.st (fun b _ h=>h)) (fun b hb _=> ?_),Hok0.out.bs,RdsF.of_rds (Rds.ext (by rw [<-Hm.out];exact Rds.of_owns Hvq.out) HE12.out) (fun b hb _=> ?_),Hok0.out.dg⟩
      ·refine⟨⟨by omega,fun q=> ?_,by omega⟩,(HE2.out.trans HEw12.out).block b hb⟩
       have:=(HG12.out.own.lt b q).1;omega
      ·have h1:=(Hvq.out.lt b hb).1
       have h2:=HX5.out
       have h3:=HX3.out.1
       refine⟨by omega,fun q=> ?_,by omega⟩
       have:=HX3.out.2 b q
       omega)
     go_wp2_with (with_reducible refine stop_append ?_)
     refine go_on ?_
     refine wpL_app tShR (HG12.out.own' HMl.out) HR12.out rfl rfl rfl (cS3_one ⟨_,_,_,rfl⟩ ⟨_,_,_,rfl⟩) (by unfold maxLen;omega) (by omega) (by have:=HEw12.out.size;rw [Hs2.out]at this;exact this) ?_
     intro p10 c10 w10 hown10 hg10 hB10 hK10 hn10 hc10
     have HP:=Bl.hid (GR.push (y:=(pc,(.slice q1 n5 d1,st),.slice pq j cq,pa)) stab_okF HG12.out HMl.out hown10 hg10 hK10 HOy.out)
     have gb:=(HG12.out.mid hg10).cell HG12.out.fld
     have gf:=(HG12.out.mid hg10).fz HG12.out.lt
     have HE10:Hid (Ext W2 w10):=Bl.hid (Below.trans HEw12.out (by rw [Hs2.out];exact hB10))
     clear hown10 hg10 hB10 hK10 hn10 hc10
     go_wp2_with fail
     go_roundw
     case rel=>exact⟨i+1,_,_,by omega,by go_num,Bl.hid ⟨HP.out,by rw [List.length_append,HMl.out];rfl,by rw [List.map_append,HMm.out,Htk.out];rfl⟩,Below.setCell HE10.out (by rw [Hs2.out];exact Nat.le_refl _) _⟩
     case measure=>simp [intOf];omega
  ·obtain rfl:i=ns:=by omega
   have HBx:=Bl.hid HI.out.1.box
   have HBr:=Bl.hid (HB2.out.ext HE.out)
   have Hsl:=Bl.hid (Rds.of_owns HI.out.1.own).isSl
   have Hl3:=Bl.hid (HBx.out.load (P:=Tryz.prog) Tryz.underlying43 rfl (by kernel_rfl))
   have Hst:=Bl.hid (HBr.out.store (P:=Tryz.prog) (cs':=cL ⟨kd,id,oj,pl,sh,fr,ct,bl,cd⟩ (.slice p1 n1 c1) vs' (.slice p3 n3 c3)) rfl (cL_one ⟨_,_,_,rfl⟩ Hsl.out ⟨_,_,_,rfl⟩) (ty:=43) (by kernel_rfl))
   have Hlv:=Bl.hid ((HBr.out.set (cs':=cL ⟨kd,id,oj,pl,sh,fr,ct,bl,cd⟩ (.slice p1 n1 c1) vs' (.slice p3 n3 c3)) rfl).loadVar (P:=Tryz.prog) Tryz.underlying43 rfl (by kernel_rfl))
   have HEf:Hid (Ext w (wr.setCells (w.heap.size+1) 0 (cL ⟨kd,id,oj,pl,sh,fr,ct,bl,cd⟩ (.slice p1 n1 c1) vs' (.slice p3 n3 c3)))):=Bl.hid (below_setCells _ _ _ _ (HE2.out.trans HE.out) (Nat.le_succ _))
   have HLt:Hid (LtC (wr.setCells (w.heap.size+1) 0 (cL ⟨kd,id,oj,pl,sh,fr,ct,bl,cd⟩ (.slice p1 n1 c1) vs' (.slice p3 n3 c3))) (cL ⟨kd,id,oj,pl,sh,fr,ct,bl,cd⟩ (.slice p1 n1 c1) vs' (.slice p3 n3 c3)) ⟨kd,id,oj,pl,sh,fr,ct,bl,cd⟩ (.slice p1 n1 c1) vs' (.slice p3 n3 c3) M):=Bl.hid (by
    have hk:∀b,b≠w.heap.size+1->(wr.setCells (w.heap.size+1) 0 (cL ⟨kd,id,oj,pl,sh,fr,ct,bl,cd⟩ (.slice p1 n1 c1) vs' (.slice p3 n3 c3))).heap[b]? =wr.heap[b]? :=fun b hb=>exc_setCells _ _ _ (Exc.refl _ _) b hb
    refine⟨rfl,HC.out.pl.ext HEf.out,⟨Rds.kept (Rds.of_owns HI.out.1.own) (fun k q _=>hk k (by have:=(HI.out.1.own.lt k q).1;omega)),fun x hx=>(stab_okF _ (fun _=>True) _ _ _ (HI.out.1.ok x hx) (fun b hb _=>⟨trivial,hk b hb.2.2⟩)).ok⟩,?_,HC.out.bl.ext HEf.out,HC.out.by'⟩
    rw [HI.out.2.2]
    have h:sh.length=L.length:=Hll.out
    exact List.take_of_length_le (by have:=Hns.out;omega))
   clear HI HB2 HBx HBr
   go_wp2_with (with_reducible refine stop_load (ty:=43) ?_)
   refine go_on ?_
   refine wpL_load rfl Hl3.out ?_
   go_wp2_with (((with_reducible refine wpL_store ?_ ?_ Hst.out ?_);rfl;rfl))
   refine bodyPost_ret (v:= .agg (cL ⟨kd,id,oj,pl,sh,fr,ct,bl,cd⟩ (.slice p1 n1 c1) vs' (.slice p3 n3 c3)).toArray) (results_cell rfl rfl Hlv.out) rfl ⟨_,rfl,⟨_,_,_,_,M,rfl,HLt.out⟩,HEf.out⟩
end Go.Proofs.YtglenbikdahgjaaGreatDoor
