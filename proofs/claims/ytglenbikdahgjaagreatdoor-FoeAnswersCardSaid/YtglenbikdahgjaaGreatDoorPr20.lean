/- Texts that stood apart, in one: FoeRs1, FoeRs5, FoeRk. -/
import Derived.Test.YtglenbikdahgjaaGreatDoorPr19
import Derived.Test.YtglenbikdahgjaaGreatDoorPr16
import Derived.Test.YtglenbikdahgjaaGreatDoorPr17
set_option maxRecDepth 100000
set_option maxHeartbeats 16000000
open And renaming intro->DT
open Go renaming Calls->DN,Value->DG,World->DF,bodyPost_ret->DK,maxLen->DV,run_loadAt_mid->EX
open Go.Instr renaming loadAt->Fm
open Go.Region renaming wanted->DP
open Go.RowKit.Below renaming refl->DI,trans->Ei
open List renaming getD_eq_getElem?_getD->DJ,getElem?_eq_getElem->DL,length_map->D2,length_set->Ea,map_set->F8,mem_map_of_mem->FV,mem_or_eq_of_mem_set->EJ,nil_append->EG
open Nat renaming add_zero->Gh,le_refl->DH,lt_of_lt_of_le->D9,mul_one->Fi,zero_add->DY,zero_le->DZ
namespace Go.Proofs.Bl
open Go Go.RowKit Go.Proofs
open Go.Proofs.Tryz renaming func34->Gm,func57->FH,ntmps34->Gb,ntmps57->Fv,prog->DE,underlying100->FO,underlying26->DQ
variable {D:Nat}
theorem zC (at' y:Int) (v:DG) (l:Cp) (w:DF) (h:gD D w v l) (O:fv l) (hid: -1125899906842624<=l.id/\l.id<=1125899906842624) (G:l.kind=4) (h0:0 < l.shown.length):
  DN DE 57 #[v,.int .i64 1,.int .i64 at',.int .i64 y] w fun e w'=>nO D 1 at' y l w e w':=by
 obtain⟨pp,ps,pb,cp,bk,cb,n,n3,P,R,L,W2,rfl,aq,hR,hP,C,s,aG,W,aB,Y,q0,q4,q7,q1,q2,r⟩:=eV h O;have aM:=aa O;have bh:=aa hid;clear h O hid;have H4:=aa G;obtain⟨i,e2,bl,bm,bn,bo,bp,m,HR⟩:=wR at' C h0;have aE:=aa (wS 1 y (by decide) (by decide) G h0 e2);rw[G]at q0;clear e2 h0 G;go_enter FH,Fv
 go_wp2_with (with_reducible refine fE (ty:=3) ?_)
 refine au ?_;rw[<-aq,<-hR,<-hP];clear aq hR hP
 go_wp2_with fail
 refine(HR W2).mono ?_;rintro e w3 ⟨rfl,a3⟩;subst a3;obtain⟨Ho,ae,ba,aT,M⟩:=wT C Y W
 go_wp2_with (with_reducible refine ax ?_)
 refine au ?_;refine aZ iJ Ho ae rfl rfl M aT (by unfold DV;omega) (by omega) (by simp) ?_;intro p4 cap p ar hg hB hK a1 aX;obtain⟨g,rfl,bq,bg,ab,aI,aA,aC,z,A,B,ad⟩:=wU C m s Y W aB ar hB;rw[DY];clear ar hg hB hK a1 aX Ho ae q0 q1 q2 q4 q7 ba;obtain⟨x0,hx⟩:=exq (L.getD i s0);have K:=z.so _ (aH s0 (i:=i) (L:=L) m.2.2.1);have T:=aM.st (cf (L.getD i s0)) (by rw[<-z.out.sl];exact FV (aH s0 m.2.2.1));have N:Hid (∀a V,(aw cS L).set (i*3+1) a=aw cS (L.set i ((L.getD i s0).1,(a,V),(L.getD i s0).2.2))):=aa fun a V=>cQ bz s0 ((L.getD i s0).1,(a,V),(L.getD i s0).2.2) a 1 (by decide) L i m.2.2.1 rfl
 rw[<-hx]at B ad K T N;obtain⟨a4,⟨u1,st⟩,u2,a5⟩:=x0;obtain⟨pu,cu,U,_,_⟩:=K.st.AT.form;have U:u1=.slice pu st.length cu:=U;subst U;have E:=aa K;have aQ:Hid (st.length<=100):=aa T.1;obtain⟨c,J⟩:=exq st.length;rw[<-J]at B N;have aR:=aa J;have aJ:Hid (∀o,az p o->DN DE 99 #[.slice pu c cu,.int .i64 y] o fun e w'=>∃v',e=.returned v'/\Pq o.heap.size w'.heap.size w' 1 v' c (ao .u8 (fZ st y))/\az o w'):=aa fun o h=>by rw[J];exact kZ _ st y o (E.st.AT.ext h) E.bs (by have:=aQ.out;omega)
 have aY:=ab.cell (B 1 (by decide));clear K T hx J
 go_wp2_with fail
 refine(aJ p (DI _ _)).mono ?_;rintro e q ⟨v5,rfl,S,H⟩;obtain⟨f,d,a2,_,_⟩:=S.1.AT.form;subst a2;have aN:=aa S;have X:=aa H;have t:=ab.ext H;have bf:=aa t;have bv:=t.cell (B 1 (by decide));have f31:=t.fz (j:=i*3+1) (by rw[M.out];have:=m.out;omega);have r:Hid (Kq (fun k=>k=g\/p.heap.size<=k) p (q.setCell ⟨g,i*3+1,none⟩ (.slice f c d))):=aa ((Kq.AI H).setCell (Q:=fun k=>k=g\/p.heap.size<=k) ⟨g,i*3+1,none⟩ (.inl rfl) _)
 have aP:Hid (Pk (q.setCell ⟨g,i*3+1,none⟩ (.slice f c d)) W2.heap.size 3 (.slice (some ⟨g,0,none⟩) n cap) n (aw cS (L.set i (a4,(.slice f c d,fZ st y),u2,a5)))):=aa (by
  have h:=t.put (j:=i*3+1) (by rw[M.out];have:=m.out;omega) (.slice f c d);rw[N.out _ (fZ st y)]at h
  exact h)
 have Z:Hid (Kq (fun k=>k=g) q (q.setCell ⟨g,i*3+1,none⟩ (.slice f c d))):=aa ((Kq.refl q).setCell (Q:=fun k=>k=g) ⟨g,i*3+1,none⟩ rfl _);clear S H t aY
 obtain⟨bw,f94,aF,aK,aD,aL⟩:=lf (S2:=bS 1 i y l.shown) s A aA aC z aG aI r aP (by rw[Ea,<-C.out.1]) (fun h=>by
   intro x hx;rcases EJ hx with hx | rfl
   ·exact h.so x hx
   ·have h9:=aU _ (fun b=>(b < w.heap.size/\b≠D)\/w.heap.size+2<=b) _ (q.setCell ⟨g,i*3+1,none⟩ (.slice f c d)) _ E fun b hb I=>⟨by omega,(Z.block b (D9 I X.size) (by have:=s.out;have:=A.out;omega)).trans (X.block b I)⟩
    refine⟨?_,lD E.bs y,h9.pa,h9.dg⟩;show aS _ _ (.slice f c d) (fZ st y).length _;rw[lC,<-aR.out]
    exact(aN.CA (F:=fun b=>p.heap.size<=b) fun b h1 _=>h1).kept fun b hb I=>⟨.inr (by have:=s.out;have:=A.out;omega),Z.block b I (by have:=A.out;omega)⟩) (by
   rw[F8,z.out.sl];unfold bS;rw[if_pos rfl,<-ad.out]
   rfl)
 clear r;have r:=aL;have u:=aa (eB s aF aK aD r aE)
 go_wp2_with first | ((with_reducible refine ak ?_ u.out.1 ?_);rfl) | ((with_reducible refine ag ?_ ?_ u.out.2.1 ?_);rfl;rfl)
 exact DK (aj rfl rfl u.2.2.1 rfl) rfl u.2.2.2
theorem zE (at' y:Int) (v:DG) (l:Cp) (w:DF) (h:gD D w v l) (s:fv l) (hid: -1125899906842624<=l.id/\l.id<=1125899906842624) (m:l.kind=4) (h0:0 < l.shown.length):
  DN DE 57 #[v,.int .i64 5,.int .i64 at',.int .i64 y] w fun e w'=>nO D 5 at' y l w e w':=by
 obtain⟨pp,ps,pb,cp,aK,cb,n,n3,P,R,L,E,rfl,J,I,H,f,q,W,t,O,u,M,q4,q7,q1,q2,b⟩:=eV h s;have aE:=aa s;have aG:=aa hid;clear h s hid;have H4:=aa m;obtain⟨i,F,aL,aM,aN,aO,aP,c,HR⟩:=wR at' f h0;have U:=aa (wS 5 y (by decide) (by decide) m h0 F);rw[m]at M;clear F h0 m;go_enter FH,Fv
 go_wp2_with (with_reducible refine aA (ty:=41) ?_)
 refine au ?_;rw[<-J,<-I,<-H];clear J I H
 go_wp2_with fail
 refine(HR E).mono ?_;rintro e w3 ⟨rfl,aq⟩;subst aq;obtain⟨B,C,aC,ah,r⟩:=wT f u t
 go_wp2_with (with_reducible refine ax ?_)
 refine au ?_;refine aZ iJ B C rfl rfl r ah (by unfold DV;omega) (by omega) (by simp) ?_;intro p4 cap a K hg G hK ao am;obtain⟨g,rfl,aQ,aF,p,X,N,S,A,Z,af,ai⟩:=wU f c q u t O K G;rw[DY];clear K hg G hK ao am B C M q1 q2 q4 q7 aC;have ad:=aa (ej y 512 a (by decide) (by decide));have hq:∃z,a.cell? ⟨g,i*3,none⟩=some z:=⟨_,p.cell (af 0 (by decide))⟩;obtain⟨z0,aU⟩:=hq;have f30:=p.fz (j:=i*3) (by rw[r.out];have:=c.out;omega)
 go_wp2_with fail
 refine ad.mono ?_;rintro e w5 ⟨rfl,ar⟩;subst ar;have b:Hid (Kq (fun k=>k=g\/a.heap.size<=k) a (a.setCell ⟨g,i*3,none⟩ (.int .i64 (y % 512)))):=aa ((Kq.refl a).setCell (Q:=fun k=>k=g\/a.heap.size<=k) ⟨g,i*3,none⟩ (.inl rfl) _)
 have ae:Hid (Pk (a.setCell ⟨g,i*3,none⟩ (.int .i64 (y % 512))) E.heap.size 3 (.slice (some ⟨g,0,none⟩) n cap) n (aw cS (L.set i (y % 512,(L.getD i s0).2)))):=aa (by
  have h:=p.put (j:=i*3) (by rw[r.out];have:=c.out;omega) (.int .i64 (y % 512));rw[show i*3=i*3+0 from rfl,cQ bz s0 (y % 512,(L.getD i s0).2) _ 0 (by decide) L i c.out.2.2.1 rfl]at h
  exact h)
 obtain⟨aV,f94,V,Y,T,ab⟩:=lf (S2:=bS 5 i y l.shown) q Z N S A W X b ae (by rw[Ea,<-f.out.1]) (fun h=>by
   intro x hx;rcases EJ hx with hx | rfl
   ·exact h.so x hx
   ·have o:=h.so _ (aH s0 (i:=i) (L:=L) c.2.2.1)
    exact⟨o.st,o.bs,o.pa,o.dg⟩) (by
   rw[F8,A.out.sl];unfold bS;rw[if_neg (by decide),if_neg (by decide),if_neg (by decide),if_neg (by decide),if_pos rfl,<-ai.out]
   rfl)
 clear b;have b:=ab;have d:=aa (eB q V Y T b U)
 go_wp2_with first | ((with_reducible refine ak ?_ d.out.1 ?_);rfl) | ((with_reducible refine ag ?_ ?_ d.out.2.1 ?_);rfl;rfl)
 exact DK (aj rfl rfl d.2.2.1 rfl) rfl d.2.2.2
theorem zF (at' y:Int) (v:DG) (l:Cp) (w:DF) (h:gD D w v l) (al:fv l) (hid: -1125899906842624<=l.id/\l.id<=1125899906842624) (S:l.kind=6) (h0:0 < l.blocks.length):
  DN DE 57 #[v,.int .i64 1,.int .i64 at',.int .i64 y] w fun e w'=>nO D 1 at' y l w e w':=by
 obtain⟨pp,ps,Y,cp,ah,O,n,a,P,R,L,d,rfl,aV,hR,hP,J,m,bb,aB,a5,aC,q0,q4,q7,q1,q2,aE⟩:=eV h al;have bi:=aa al;have bR:=aa hid;clear h al hid;have H6:=aa S;rw[S]at q0;have aP:0 < a:=by rw[J.out.2.2.1];exact h0
 obtain⟨i,hi,e1,e2⟩:=fK at' aP
 have a9:Hid (bE 1 at' y l=({l with blocks:=l.blocks.set i (fZ (l.blocks.getD i []) y)},true)):=aa (by
  unfold bE
  rw[if_neg (by decide),if_neg (by decide),if_neg (by decide),if_neg (by decide),if_pos ⟨rfl,S,h0⟩,<-J.out.2.2.1,e2])
 have HR:Hid (∀u,DN DE 98 #[.int .i64 at',.int .i64 a] u fun e w'=>e=.returned (.int .i64 (i:Nat))/\u=w'):=aa fun u=>by have h:=ej at' a u (by omega) (by have:=J.out;omega);rw[e1]at h;exact h
 obtain⟨M,am,aR,an⟩:=aC.bl;have U:a=M.length:=by rw[J.out.2.2.1,<-an,D2]
 rw[<-U]at am;have bj:=aa am;have aF:=aa aR;have ab:=aa an;have bT:(0:Int)<=(i:Int):=by omega
 have bU:(i:Int) < (a:Int):=by omega
 have bV:(0:Int) < (a:Int):=by omega
 have bX:(a:Int)<=600:=by have:=J.out;omega
 have z:Hid (i < a/\0 < a/\i < M.length/\a=M.length):=aa ⟨hi,aP,by rw[<-U];exact hi,U⟩;clear e1 e2 hi h0 S am aR an U;go_enter FH,Fv
 go_wp2_with (with_reducible refine fE (ty:=3) ?_)
 refine au ?_;rw[<-aV,<-hR,<-hP];clear aV hR hP
 go_wp2_with fail
 refine(HR d).mono ?_;rintro e w3 ⟨rfl,bH⟩;subst bH;have ai:az d (d.alloc (.cells #[] 27)):=ae _ _;have Ho:Hid ((d.alloc (.cells #[] 27)).ownsRow d.heap.size 27 1 (.slice (some ⟨d.heap.size,0,none⟩) 0 0) 0 []):=aa (bW d 27 #[] d.heap.size 0 1 (DH _) (by decide) rfl);have aL:Hid (bh (d.alloc (.cells #[] 27)) (.slice Y a O) a (aw cB M)):=aa (bj.AT.ext ai);have bM:=(aB.ext ai).cell (i:=7) (v:=.slice Y a O) rfl;have ac:Hid ((aw cB M).length=a):=aa (by rw[kE,D2];exact z.2.2.2.symm);have bq:Hid (∀c∈aw cB M,c.oneCell'=true):=aa (rJ fun x hx=>(aF x hx).1);clear ai
 go_wp2_with (with_reducible refine ax ?_)
 refine au ?_;refine aZ xU Ho aL rfl rfl (by rw[ac.out,Fi]) bq (by unfold DV;omega) (by omega) (by simp) ?_;intro p4 cap B K hg hB hK a1 bv;rw[DY]at K a1⊢;rw[EG]at K;have H:az d B:=Ei (ae _ _) hB;obtain⟨g,bS,hf,aW,aX,aY,a0,bF⟩:=(Pq.AS K).1.form z.2.1;injection hf with bz bB bA;subst bz bA;clear bB bF;have aI:=aa (Pq.AS K).1;have bc:=aa H;have a4:=aa (aB.ext H);have a6:=aa (a5.ext H);have bd:Hid (bZ (fun b=>(b < w.heap.size/\b≠D)\/w.heap.size+2<=b/\b≠g) B l (.slice pp l.places.length cp) (.slice ps n ah) (.slice Y a O) L):=aa (((bZ.kept (F':=fun b=>b < d.heap.size/\((b < w.heap.size/\b≠D)\/w.heap.size+2<=b)) aC fun b s p=>⟨⟨p,s⟩,rfl⟩)).kept fun b s p=>⟨by rcases s.2 with q | q;exact .inl q;exact .inr ⟨q,by omega⟩,H.block b s.1⟩);have aG:Hid (∀x∈M,iI (fun b=>(b < w.heap.size/\b≠D)\/w.heap.size+2<=b/\b≠g) B x):=aa fun x hx=>br (fun b=>b < d.heap.size/\((b < w.heap.size/\b≠D)\/w.heap.size+2<=b)) _ _ _ _ (br _ (fun b=>b < d.heap.size/\((b < w.heap.size/\b≠D)\/w.heap.size+2<=b)) d d _ (aF x hx) fun b s p=>⟨⟨p,s⟩,rfl⟩) fun b s p=>⟨by rcases s.2 with q | q;exact .inl q;exact .inr ⟨q,by omega⟩,H.block b s.1⟩
 have C:Hid (d.heap.size<=g/\g < B.heap.size/\a<=cap/\cap<=DV/\w.heap.size+2<=g/\P≠g/\R≠g):=aa ⟨aW,aX,aY,a0,by have:=m.out;omega,by have:=m.out;omega,by have:=m.out;omega⟩;have bY:(a:Int)<=(cap:Int):=by omega
 clear K hg hB hK a1 bv H aW aX aY a0 Ho aL q0 q1 q2 q4 q7 bM;obtain⟨x0,hx⟩:=exq (M.getD i b0);have X:=aG _ (aH b0 (i:=i) (L:=M) z.2.2.1);have I:=dk wQ b0 0 (by decide) M i z.2.2.1;have ay:(M.getD i b0).2=l.blocks.getD i []:=by rw[<-ab.out,DJ,DJ,List.getElem?_map,DL z.out.2.2.1];rfl
 have ar:=bi.bs _ (show(M.getD i b0).2∈l.blocks from by rw[<-ab.out];exact FV (aH b0 z.2.2.1));rw[Fi,Gh]at I;rw[<-hx]at X I ay ar;obtain⟨u1,A⟩:=x0;obtain⟨pu,cu,aA,_,_⟩:=X.1.AT.form;have aA:u1=.slice pu A.length cu:=aA;subst aA;have ad:=aa X;obtain⟨f,W⟩:=exq A.length;rw[<-W]at I;have bp:=aa W;have bt:Hid (A=l.blocks.getD i []):=aa ay;have bo:Hid (A.length<=100):=aa ar;have be:Hid (∀u,az B u->DN DE 99 #[.slice pu f cu,.int .i64 y] u fun e w'=>∃v',e=.returned v'/\Pq u.heap.size w'.heap.size w' 1 v' f (ao .u8 (fZ A y))/\az u w'):=aa fun u h=>by rw[W];exact kZ _ A y u (ad.1.AT.ext h) ad.2 (by have:=bo.out;omega)
 have bw:=aI.cell I;have bn:=aa I;clear X ar hx W ay I
 go_wp2_with fail
 refine(be B (DI _ _)).mono ?_;rintro e t ⟨v5,rfl,ap,T⟩;obtain⟨r,o,bG,_,_⟩:=ap.1.AT.form;subst bG;have bk:=aa ap;have bQ:=aa T;have V:=aI.ext T;have b2:=V.cell bn;have f31:=V.fz (j:=i) (by rw[ac.out];exact z.1);have aD:Hid (Kq (fun k=>k=g) t (t.setCell ⟨g,i,none⟩ (.slice r f o))):=aa ((Kq.refl t).setCell (Q:=fun k=>k=g) ⟨g,i,none⟩ rfl _);have E:Hid (Kq (fun k=>k=g\/B.heap.size<=k) B (t.setCell ⟨g,i,none⟩ (.slice r f o))):=aa ((Kq.AI T).setCell (Q:=fun k=>k=g\/B.heap.size<=k) ⟨g,i,none⟩ (.inl rfl) _)
 have aJ:Hid (Pk (t.setCell ⟨g,i,none⟩ (.slice r f o)) d.heap.size 1 (.slice (some ⟨g,0,none⟩) a cap) a (aw cB (M.set i (.slice r f o,fZ A y)))):=aa (by
  have h:=V.put (j:=i) (by rw[ac.out];exact z.1) (.slice r f o);have h2:=cQ wQ b0 (.slice r f o,fZ A y) (.slice r f o) 0 (by decide) M i z.2.2.1 rfl;rw[Fi,Gh]at h2;rw[h2]at h
  exact h)
 clear ap T V bw;have Z:=aa (E.box (by have:=m.out;have:=C.out;omega) a4);have a7:=aa (E.box (by have:=m.out;have:=C.out;omega) a6);have b3:=Z.cell (i:=7) (v:=.slice Y a O) rfl;have f94:=Z.fz (i:=7) (show 7 < 9 by decide);have ba:Hid (av ((t.setCell ⟨g,i,none⟩ (.slice r f o)).setCell ⟨P,7,none⟩ (.slice (some ⟨g,0,none⟩) a cap)) P (cL {l with blocks:=l.blocks.set i (fZ (l.blocks.getD i []) y)} (.slice pp l.places.length cp) (.slice ps n ah) (.slice (some ⟨g,0,none⟩) a cap))):=aa (Z.put (i:=7) (show 7 < 9 by decide) (.slice (some ⟨g,0,none⟩) a cap));have G:Kq (fun k=>k=P) (t.setCell ⟨g,i,none⟩ (.slice r f o)) ((t.setCell ⟨g,i,none⟩ (.slice r f o)).setCell ⟨P,7,none⟩ (.slice (some ⟨g,0,none⟩) a cap)):=(Kq.refl (t.setCell ⟨g,i,none⟩ (.slice r f o))).setCell (Q:=fun k=>k=P) ⟨P,7,none⟩ rfl _
 have bf:Hid (bZ (fun b=>(b < w.heap.size/\b≠D)\/w.heap.size+2<=b) ((t.setCell ⟨g,i,none⟩ (.slice r f o)).setCell ⟨P,7,none⟩ (.slice (some ⟨g,0,none⟩) a cap)) {l with blocks:=l.blocks.set i (fZ (l.blocks.getD i []) y)} (.slice pp l.places.length cp) (.slice ps n ah) (.slice (some ⟨g,0,none⟩) a cap) L):=aa (by
  have h:=bd.kept (w':=(t.setCell ⟨g,i,none⟩ (.slice r f o)).setCell ⟨P,7,none⟩ (.slice (some ⟨g,0,none⟩) a cap)) (F':=fun b=>(b < w.heap.size/\b≠D)\/w.heap.size+2<=b) fun b s p=>⟨by omega,(G.block b (D9 p E.size) (by have:=m.out;omega)).trans (E.block b p (by have:=m.out;have:=C.out;omega))⟩
  refine⟨h.pl,h.sh,h.so,h.sl,M.set i (.slice r f o,fZ A y),?_,?_,?_⟩
  ·rw[Ea,<-z.out.2.2.2];exact(aS.By (F:=fun b=>d.heap.size<=b) aJ.AT fun b s _=>(aJ.block b s).1).kept fun b s p=>⟨.inr (by have:=m.out;omega),G.block b p (by have:=m.out;omega)⟩
  ·intro x hx;rcases EJ hx with hx | rfl
   ·exact br _ _ _ _ _ (aG x hx) fun b s p=>⟨by omega,(G.block b (D9 p E.size) (by have:=m.out;omega)).trans (E.block b p (by have:=m.out;have:=C.out;omega))⟩
   ·refine⟨?_,lD ad.2 y⟩;show aS _ _ (.slice r f o) (fZ A y).length _;rw[lC,<-bp.out];exact(bk.CA (F:=fun b=>B.heap.size<=b) fun b h1 _=>h1).kept fun b s p=>⟨.inr (by have:=m.out;have:=C.out;omega),(G.block b (D9 p aD.size) (by have:=m.out;have:=C.out;omega)).trans (aD.block b p (by have:=C.out;omega))⟩
  ·rw[F8,ab.out,<-bt.out])
 have a8:=aa (G.box (by have:=m.out;omega) a7);have bg:Hid (Kq (fun k=>w.heap.size<=k) w ((t.setCell ⟨g,i,none⟩ (.slice r f o)).setCell ⟨P,7,none⟩ (.slice (some ⟨g,0,none⟩) a cap))):=aa ((((Kq.AI bb).trans (Kq.AI bc)).trans (E.mono fun k hk q=>by have:=m.out;have:=C.out;omega)).trans (G.mono fun k hk q=>by have:=m.out;omega));clear G;have aE:=bg;have N:=aa (eB m ba bf a8 aE a9)
 go_wp2_with first | ((with_reducible refine ak ?_ N.out.1 ?_);rfl) | ((with_reducible refine ag ?_ ?_ N.out.2.1 ?_);rfl;rfl)
 exact DK (aj rfl rfl N.2.2.1 rfl) rfl N.2.2.2
theorem zG (at' y:Int) (v:DG) (l:Cp) (w:DF) (h:gD D w v l) (aQ:fv l) (hid: -1125899906842624<=l.id/\l.id<=1125899906842624) (h4:l.kind=4) (h0:0 < l.shown.length):
  DN DE 57 #[v,.int .i64 2,.int .i64 at',.int .i64 y] w fun e w'=>nO D 2 at' y l w e w':=by
 obtain⟨pp,ps,pb,cp,co,cb,n,n3,P,R,L,W2,rfl,bo,hR,hP,N,H,ba,a7,bC,bc,q0,q4,q7,q1,q2,s⟩:=eV h aQ;have bH:=aa aQ;have ck:=aa hid;clear h aQ hid;have H4:=aa h4;obtain⟨i,X,cr,cs,cw,cx,cy,I,HR⟩:=wR at' N h0;have a9:=aa (wS 2 y (by decide) (by decide) h4 h0 X);rw[h4]at q0;clear X h0 h4;go_enter FH,Fv
 go_wp2_with (with_reducible refine aA (ty:=41) ?_)
 refine au ?_;rw[<-bo,<-hR,<-hP];clear bo hR hP
 go_wp2_with fail
 refine(HR W2).mono ?_;rintro e w3 ⟨rfl,b6⟩;subst b6;obtain⟨V,W,cd,bN,aG⟩:=wT N bc a7
 go_wp2_with (with_reducible refine ax ?_)
 refine au ?_;refine aZ iJ V W rfl rfl aG bN (by unfold DV;omega) (by omega) (by simp) ?_;intro p4 cap o J hg Y hK al aR;obtain⟨g,rfl,cz,cj,T,bb,a6,a8,M,S,U,aI⟩:=wU N I H bc a7 bC J Y;rw[DY];clear J hg Y hK al aR V W q0 q1 q2 q4 q7 cd;obtain⟨x0,hx⟩:=exq (L.getD i s0);have am:=M.so _ (aH s0 (i:=i) (L:=L) I.2.2.1);have a1:=bH.st (cf (L.getD i s0)) (by rw[<-M.out.sl];exact FV (aH s0 I.2.2.1));have bj:Hid (∀a a4,(aw cS L).set (i*3+2) a=aw cS (L.set i ((L.getD i s0).1,(L.getD i s0).2.1,a,a4))):=aa fun a a4=>cQ bz s0 ((L.getD i s0).1,(L.getD i s0).2.1,a,a4) a 2 (by decide) L i I.2.2.1 rfl
 rw[<-hx]at U aI am a1 bj;obtain⟨b7,⟨u1,st⟩,u2,f⟩:=x0;obtain⟨pu,cu,a3,_,_⟩:=am.pa.AT.form;have a3:u2=.slice pu f.length cu:=a3;subst a3;have C:=aa am;have bM:Hid (f.length<=40):=aa a1.2;obtain⟨m,a2⟩:=exq f.length;rw[<-a2]at U;have t:=aa a2;have bT:=T.cell (U 2 (by decide));clear am a1 hx a2;by_cases hp:0 < m
 ·have b4:(0:Int) < (m:Int):=by omega
  have Hp:=aa hp;have aO:az o (o.alloc (.cells #[] 52)):=ae _ _;have V:Hid ((o.alloc (.cells #[] 52)).ownsRow o.heap.size 52 32 (.slice (some ⟨o.heap.size,0,none⟩) 0 0) 0 []):=aa (bW o 52 #[] o.heap.size 0 32 (DH _) (by decide) rfl);have W:Hid (bh (o.alloc (.cells #[] 52)) (.slice pu m cu) m (aN f)):=aa (by have h:=C.pa.AT;simp only at h;rw[<-t.out]at h;exact h.ext aO);have bU:(o.alloc (.cells #[] 52)).cell? ⟨g,i*3+2,none⟩=some (.slice pu m cu):=(T.ext aO).cell (U 2 (by decide));have cA:m<=40:=by rw[t.out];exact bM
  clear aO
  go_wp2_with (with_reducible refine ax ?_)
  refine au ?_;refine aZ lP V W rfl rfl (by have h:=bF C.dg;simp only at h;rw[h,<-t.out]) (cH _) (by unfold DV;omega) (by omega) (by simp) ?_;intro p5 E K J hg Y hK al aR;rw[DY]at J al⊢;rw[EG]at J;have aM:az o K:=Ei (ae _ _) Y;have ac:=Pq.AS J;obtain⟨gp,cl,hf,br,aY,b0,b1,bu⟩:=ac.1.form hp;injection hf with bX bZ bY;subst bX bY;clear bZ;obtain⟨j,hj,e1,X⟩:=fK (n:=32) y (by decide);have ab:(f.getD 0 []).length=32/\bA (f.getD 0 []):=C.dg.get (i:=0) (by show 0 < f.length;rw[<-t.out];exact hp);have bp:K.rangeAt gp 0 (ao .u8 (f.getD 0 [])):=by have h:=dW bu C.dg (i:=0) (by show 0 < f.length;rw[<-t.out];exact hp);simpa using h
  have bG:Hid (fZ (f.getD 0 []) y=(f.getD 0 []).set j (rA ((f.getD 0 []).getD j 0))):=aa (by
   rw[oD (by omega),ab.1]
   rw[show(y % ((32:Nat):Int)).toNat=j from X])
  have aV:K.cell? ⟨gp,j,none⟩=some (.int .u8 ((f.getD 0 []).getD j 0)):=by have h:=bp j _ (cX .u8 (f.getD 0 []) j (by omega));rwa[DY]at h
  obtain⟨x0,x1⟩:=ab.2.get j;have be:Hid (rA ((f.getD 0 []).getD j 0)=bits .xor .u8 ((f.getD 0 []).getD j 0) 1):=aa rfl;have Z:(aN f).length=m*32:=by have h:=bF C.dg;simp only at h;rw[h,<-t.out]
  have bq:=ac.1.fz (j:=j) (by rw[Z];omega);have aD:Hid (∀p,Kq (fun _=>False) K p->Pk (p.setCell ⟨gp,j,none⟩ (.int .u8 (rA ((f.getD 0 []).getD j 0)))) o.heap.size 32 (.slice (some ⟨gp,0,none⟩) m E) m (aN (f.set 0 (fZ (f.getD 0 []) y)))):=aa fun p z=>by rw[bG.out,<-la f j _ (by rw[<-t.out];exact hp) C.out.dg hj];exact(ac.1.kept (fun k b3=>z.block k (ac.1.block k b3).2 (fun q=>q)) z.size).put (by rw[Z];omega) _
  have bD:Hid (dm (f.set 0 (fZ (f.getD 0 []) y))):=aa fun d hd=>by
   rcases EJ hd with q | rfl
   ·exact C.dg d q
   ·exact⟨by rw[lC];exact ab.1,lD ab.2 y⟩
  obtain⟨G,bw⟩:=exq ((f.getD 0 []).getD j 0);rw[<-bw]at aV x0 x1 be aD;rw[be.out]at aD;have bK:Hid (∀p,DN DE 98 #[.int .i64 y,.int .i64 32] p fun e w'=>e=.returned (.int .i64 (j:Nat))/\p=w'):=aa fun p=>by have h:=ej y 32 p (by decide) (by decide);have e3:y % (32:Int)=(j:Int):=e1;rw[e3]at h;exact h
  have ct:(0:Int)<=(j:Int):=by omega
  have cv:(j:Int) < 32:=by omega
  have bE:=aa aM;have af:Hid (o.heap.size<=gp/\gp < K.heap.size):=aa ⟨br,aY⟩;have aE:=aa (T.ext aM);have bg:Hid (∀p,Kq (fun _=>False) K p->p.cell? ⟨gp,j,none⟩=some (.int .u8 G)/\p.frozen? ⟨gp,j,none⟩=false):=aa fun p z=>⟨z.cell (fun q=>q) aV,by rw[World.frozen?_of_block (w:=K) (z.block gp aY (fun q=>q))];exact bq⟩
  clear J hg Y hK al aR aM ac br aY b0 b1 bu ab bp aV Z bq bw e1 X bT bU V W
  go_wp2_with fail
  apply ay (Kq (fun _=>False)) (fun _ _ _=>True) 12 [132,133,134,135,136,137,138,139,140,141,142,143] [ar _,ar _,ar _,ar _,ar _,ar _,ar _,ar _,ar _,ar _,ar _,ar _] (fun w=>Kq.refl w) (fun a b c h k=>Kq.trans h k) (by kernel_rfl) (by kernel_rfl) (by kernel_rfl) (by kernel_rfl);case hsteps=>
   refine⟨?_,?_,?_,?_,?_,?_,?_,?_,?_,?_,?_,?_,trivial⟩;all_goals
    intro d ev r O av bf bi bt B hd;replace bf:=aa bf;replace av:=aa av;replace bi:=aa bi;replace bt:=aa bt;have e3:=B 3 (by decide);have bQ:=B 15 (by decide);clear B;simp only[sB]at e3 bQ;simp only[sG]at hd;have q3:=bg _ O;have c0:=q3.1;clear q3;rw[if_pos (rfl:DP _ _=true)];go_simp;first | exact⟨Kq.refl _,rfl,trivial⟩ | exact⟨Kq.refl _,rfl⟩ | (go_at_call 98;have Z:=bK r;(with_reducible refine Z.mono ?_);rintro e p ⟨rfl,b5⟩;subst b5;first | exact⟨_,rfl,Kq.refl _,rfl⟩ | exact⟨_,rfl,Kq.refl _,rfl,trivial⟩) | exact⟨DI _ _,rfl,HJ.same (by decide) av⟩
  case hmono=>exact mR
  case hR0=>exact Kq.drew _
  case hend=>
   intro u r O hJ hend;simp only[sE]at hend;simp only[sF,hend];have HK:=aa O;have aT:=bg _ O;have c0:=aT.1;have f0:=aT.2;have bI:=aa (aD r O);have aB:Hid (Kq (fun k=>k=gp) r (r.setCell ⟨gp,j,none⟩ (.int .u8 (bits .xor .u8 G 1)))):=aa ((Kq.refl r).setCell (Q:=fun k=>k=gp) ⟨gp,j,none⟩ rfl _)
   have ai:Pk (r.setCell ⟨gp,j,none⟩ (.int .u8 (bits .xor .u8 G 1))) W2.heap.size 3 (.slice (some ⟨g,0,none⟩) n cap) n (aw cS L):=(aE.kept (fun k z=>HK.block k (aE.block k z).2 (fun q=>q)) HK.size).kept (fun k z=>aB.block k (D9 (aE.block k z).2 HK.size) (by
    have h1:=(T.block k z).2;have:=af.out
    omega)) aB.size
   have cF:=ai.cell (U 2 (by decide));have f32:=ai.fz (j:=i*3+2) (by rw[aG.out];have:=I.out;omega)
   have aF:Hid (Pk ((r.setCell ⟨gp,j,none⟩ (.int .u8 (bits .xor .u8 G 1))).setCell ⟨g,i*3+2,none⟩ (.slice (some ⟨gp,0,none⟩) m E)) W2.heap.size 3 (.slice (some ⟨g,0,none⟩) n cap) n (aw cS (L.set i (b7,(u1,st),.slice (some ⟨gp,0,none⟩) m E,f.set 0 (fZ (f.getD 0 []) y))))):=aa (by
    have h:=ai.put (j:=i*3+2) (by rw[aG.out];have:=I.out;omega) (.slice (some ⟨gp,0,none⟩) m E);rw[bj.out _ (f.set 0 (fZ (f.getD 0 []) y))]at h
    exact h)
   have bd:Hid (Kq (fun k=>k=g) (r.setCell ⟨gp,j,none⟩ (.int .u8 (bits .xor .u8 G 1))) ((r.setCell ⟨gp,j,none⟩ (.int .u8 (bits .xor .u8 G 1))).setCell ⟨g,i*3+2,none⟩ (.slice (some ⟨gp,0,none⟩) m E))):=aa ((Kq.refl _).setCell (Q:=fun k=>k=g) ⟨g,i*3+2,none⟩ rfl _);have s:Hid (Kq (fun k=>k=g\/o.heap.size<=k) o ((r.setCell ⟨gp,j,none⟩ (.int .u8 (bits .xor .u8 G 1))).setCell ⟨g,i*3+2,none⟩ (.slice (some ⟨gp,0,none⟩) m E))):=aa ((((Kq.AI bE).trans (HK.mono fun _ _ q=>False.elim q)).trans (aB.mono fun k _ q=>.inr (by have:=af.out;omega))).trans (bd.mono fun _ _ q=>.inl q));clear O hJ hend aT ai
   obtain⟨cc,f94,ap,aq,an,aC⟩:=lf (S2:=bS 2 i y l.shown) H S a6 a8 M ba bb s aF (by rw[Ea,<-N.out.1]) (fun h=>by
     intro x hx;rcases EJ hx with hx | rfl
     ·exact h.so x hx
     ·have h9:=aU _ (fun b=>(b < w.heap.size/\b≠D)\/w.heap.size+2<=b) _ ((r.setCell ⟨gp,j,none⟩ (.int .u8 (bits .xor .u8 G 1))).setCell ⟨g,i*3+2,none⟩ (.slice (some ⟨gp,0,none⟩) m E)) _ C fun b B hl=>⟨by omega,s.block b hl (by have:=H.out;have:=S.out;omega)⟩
      refine⟨h9.st,h9.bs,?_,bD⟩;show aS _ _ (.slice (some ⟨gp,0,none⟩) m E) (f.set 0 _).length _;rw[Ea,<-t.out]
      exact(aS.By (F:=fun b=>b=gp) bI.AT fun b B _=>by injection B with B;exact B.symm).kept fun b B hl=>⟨.inr (by have:=H.out;have:=S.out;have:=af.out;omega),bd.block b hl (by have:=S.out;have:=af.out;omega)⟩) (by
     rw[F8,M.out.sl];unfold bS;rw[if_neg (by decide),if_pos rfl,<-aI.out];unfold zP;rw[if_pos (by show 0 < f.length;rw[<-t.out];exact Hp.out)]
     rfl)
   clear s;have s:=aC;have A:=aa (eB H ap aq an s a9)
   go_wp2_with first | ((with_reducible refine ak ?_ A.out.1 ?_);rfl) | ((with_reducible refine ag ?_ ?_ A.out.2.1 ?_);rfl;rfl)
   exact DK (aj rfl rfl A.2.2.1 rfl) rfl A.2.2.2
  case hJ0=>trivial
 ·have b4:¬((0:Int) < (m:Int)):=by omega
  have bv:f=[]:=List.length_eq_zero_iff.1 (by have:=t.out;omega)
  have HS:Hid (bS 2 i y l.shown=l.shown):=aa (by
   unfold bS;rw[if_neg (by decide),if_pos rfl];have h:zP (l.shown.getD i h0) y=l.shown.getD i h0:=by rw[<-aI.out];unfold zP;rw[if_neg (by show ¬0 < f.length;rw[bv];decide)]
   rw[h]
   exact mn h0 l.shown i (by rw[<-N.out.2.1];exact I.1))
  have s:Hid (Kq (fun k=>k=g\/o.heap.size<=k) o o):=aa (Kq.refl _);have aF:=T;clear bv hp
  obtain⟨cc,f94,ap,aq,an,aC⟩:=lf (S2:=bS 2 i y l.shown) H S a6 a8 M ba bb s aF (by rw[<-N.out.1]) (fun h=>by
    exact h.so) (by
    rw[M.out.sl,HS.out])
  clear s;have s:=aC;have A:=aa (eB H ap aq an s a9)
  go_wp2_with first | ((with_reducible refine ak ?_ A.out.1 ?_);rfl) | ((with_reducible refine ag ?_ ?_ A.out.2.1 ?_);rfl;rfl)
  exact DK (aj rfl rfl A.2.2.1 rfl) rfl A.2.2.2
theorem zH (at' y:Int) (v:DG) (l:Cp) (w:DF) (h:gD D w v l) (a4:fv l) (hid: -1125899906842624<=l.id/\l.id<=1125899906842624) (h4:l.kind=4) (h0:0 < l.shown.length):
  DN DE 57 #[v,.int .i64 3,.int .i64 at',.int .i64 y] w fun e w'=>nO D 3 at' y l w e w':=by
 obtain⟨pp,ps,pb,cW,cX,cU,n,n3,P,R,L,Z,rfl,bR,hR,hP,aB,HX,cf,bn,ca,bp,q0,q4,q7,q1,q2,ad⟩:=eV h a4;have cQ:=aa a4;have cT:=aa hid;clear h a4 hid;have H4:=aa h4;obtain⟨i,e2,c3,c4,c5,c6,c7,M,HR⟩:=wR at' aB h0;have cd:=aa (wS 3 y (by decide) (by decide) h4 h0 e2);rw[h4]at q0;clear e2 h0 h4;go_enter FH,Fv
 go_wp2_with (with_reducible refine aA (ty:=41) ?_)
 refine au ?_;rw[<-bR,<-hR,<-hP];clear bR hR hP
 go_wp2_with fail
 refine(HR Z).mono ?_;rintro e w3 ⟨rfl,cH⟩;subst cH;obtain⟨Ho,bu,cM,aV,af⟩:=wT aB bp bn
 go_wp2_with (with_reducible refine ax ?_)
 refine au ?_;refine aZ iJ Ho bu rfl rfl af aV (by unfold DV;omega) (by omega) (by simp) ?_;intro p4 cap T b0 hg hB hK cE cB;obtain⟨g,rfl,c8,cR,aR,cg,b9,cb,aO,HG,aU,cr⟩:=wU aB M HX bp bn ca b0 hB;rw[DY];clear b0 hg hB hK cE cB Ho bu q0 q1 q2 q4 q7 cM;have V:i < L.length/\0 < L.length:=⟨M.2.2.1,M.2.2.2⟩;have a6:=aO.so;have aT:Hid (∀j,j < 3->(aw cS L)[j]? =(cS (L.getD 0 s0))[j]?):=aa fun j hj=>by have h:=dk bz s0 j hj L 0 V.2;rwa[Nat.zero_mul,DY]at h
 have ae:=aa (pV L i V.2 V.1);have cp:=aa (wO L i V.2 V.1);have aI:=(a6 _ (aH s0 V.2)).ok;have aK:=(a6 _ (aH s0 V.1)).ok;obtain⟨x0,be⟩:=exq (L.getD 0 s0);obtain⟨xi,bf⟩:=exq (L.getD i s0);rw[<-be]at aT aI;rw[<-bf]at aU aK;rw[<-be,<-bf]at ae;obtain⟨P0,⟨a1,bi⟩,a2,bg⟩:=x0;obtain⟨Pi,⟨b1,bj⟩,b2,bh⟩:=xi;obtain⟨X,U,ai,_,_⟩:=aI.st.form;obtain⟨F,B,am,_,_⟩:=aK.st.form;obtain⟨S,N,al,_,_⟩:=aI.pa.form;obtain⟨A,t,an,_,_⟩:=aK.pa.form;simp only at ai am al an;obtain⟨W,bV⟩:=exq bi.length;obtain⟨E,bX⟩:=exq bj.length;obtain⟨O,bW⟩:=exq bg.length;obtain⟨z,bY⟩:=exq bh.length;rw[<-bV]at ai;rw[<-bX]at am;rw[<-bW]at al;rw[<-bY]at an;simp only at ae;have a5:∀(j:Nat) (x:Sv),(∀q,q < 3->(aw cS L)[j+q]? =(cS x)[q]?)->T.rangeAt g j (cS x):=fun j x h q v hv=>by
  have hq:q < 3:=by have:=(List.getElem?_eq_some_iff.1 hv).1;rwa[bz]at this
  rw[<-h q hq]at hv;exact aR.cell hv
 have ba:=a5 0 (P0,(a1,bi),a2,bg) (fun q hq=>by rw[DY];exact aT q hq);have bc:=a5 (i*3) (Pi,(b1,bj),b2,bh) aU;have e0:cS (P0,(a1,bi),a2,bg)=[.int .i64 P0,.slice X W U,.slice S O N]:=by rw[<-ai,<-al];rfl
 have ei:cS (Pi,(b1,bj),b2,bh)=[.int .i64 Pi,.slice F E B,.slice A z t]:=by rw[<-am,<-an];rfl
 rw[e0]at ba;rw[ei]at bc;have cl:Hid (∀H,az T H->(Fm 100 (.pointer (some ⟨g,0,none⟩))).run DE H=.ok (.agg #[.int .i64 P0,.slice X W U,.slice S O N]) H):=aa fun H h2=>EX (P:=DE) H g 0 100 _ _ (aJ ba h2) FO rfl (by kernel_rfl)
 have cm:Hid (∀H,az T H->(Fm 100 (.pointer (some ⟨g,i*3,none⟩))).run DE H=.ok (.agg #[.int .i64 Pi,.slice F E B,.slice A z t]) H):=aa fun H h2=>EX (P:=DE) H g (i*3) 100 _ _ (aJ bc h2) FO rfl (by kernel_rfl)
 obtain⟨xs,b5⟩:=exq (aw cS L);rw[<-b5]at ae aR af aV;have ap:Hid (1 < xs.length):=aa (by rw[af.out];have:=M.out;omega);obtain⟨Y,aM⟩:=exq ((xs.set 1 (.slice F E B)).set 2 (.slice A z t));have ct:=aa aM;have bw:Hid (Y.length=n*3):=aa (by rw[aM,Ea,Ea];exact af);have aq:Hid (i*3+1 < Y.length):=aa (by rw[bw.out];have:=M.out;omega);have cq:Hid ((Y.set (i*3+1) (.slice X W U)).set (i*3+2) (.slice S O N)=aw cS (yi L i)):=aa (by rw[aM,<-ai,<-am,<-al,<-an];exact ae);have ab:Hid (2 < xs.length/\i*3+2 < Y.length):=aa (by rw[af.out,bw.out];have:=M.out;omega);obtain⟨BB,bL⟩:=exq T.heap.size;have ac:=aa bL;have cY:0 < n:=M.2.1;clear V a6 aI aK be bf ai am al an bV bX bW bY ae b5 aM aT aU a5 ba bc e0 ei bL cr aV
 go_wp2_with fail
 apply ay (fun a b=>Below BB a b) (JT BB 3 7 8 9 16 17 [.int .i64 P0,.slice X W U,.slice S O N]) 10 [151,152,153,154,155,156,157,16,17] [ar _,ar _,ar _,ar _,ar _,ar _,ar _,bK,bK,ar _] (fun w=>DI _ w) (fun a b c h k=>Ei h k) (by kernel_rfl) (by kernel_rfl) (by kernel_rfl) (by kernel_rfl);case hsteps=>
  refine⟨?_,?_,?_,?_,?_,?_,?_,?_,?_,?_,trivial⟩;all_goals
   intro d ev o r m I J K C f;replace I:=aa I;replace m:=aa m;replace J:=aa J;replace K:=aa K;have aY:=C 13 (by decide);have ah:=C 14 (by decide);clear C;simp only[sB]at aY ah;simp only[sG]at f;have hc:=(aD r).1;have hE:az T o:=by rw[az,<-ac.out];exact r
   simp only[DP,if_true];first
   | ((with_reducible refine fB (fun w=>DI _ w) ?_ (cl.out _ hE) ?_);exact(by first | ((repeat(first | exact f | exact f.2 | replace f:=f.1));done) | ((repeat(first | exact f | exact f.1 | replace f:=f.2));first | done | fail));exact⟨rfl,m.same (by decide)⟩) | ((with_reducible refine fB (fun w=>DI _ w) ?_ (cm.out _ hE) ?_);exact(by first | ((repeat(first | exact f | exact f.2 | replace f:=f.1));done) | ((repeat(first | exact f | exact f.1 | replace f:=f.2));first | done | fail));exact⟨rfl,m.same (by decide)⟩) | (obtain⟨g7,bU,cZ,cG⟩:=m.a7 (I 7 (by kernel_rfl));have cF:=ld (P:=DE) (ty:=100) (cs:=[.int .i64 P0,.slice X W U,.slice S O N]) cG (Ay _ _ _ _ _ _ _) (by kernel_rfl);have bO:=m.Da (by decide) (I 7 (by kernel_rfl)) rfl bU;refine dw bU ?_ cF bO.2 ⟨rfl,bO.1⟩;exact(by first | ((repeat(first | exact f | exact f.2 | replace f:=f.1));done) | ((repeat(first | exact f | exact f.1 | replace f:=f.2));first | done | fail)))
   | (go_simp;first | exact⟨DI _ _,rfl,m.same (by decide)⟩ | exact⟨cV _ _ m.le,trivial,m.Dq (by decide) (J 9 (by kernel_rfl)) rfl (by decide)⟩ | exact⟨cV _ _ m.le,trivial,m.Dr (by decide) (J 9 (by kernel_rfl)) rfl (by decide)⟩ | exact⟨DI _ _,rfl,HJ.same (by decide) m⟩)
 case hmono=>exact mR
 case hR0=>exact(DI _ _).drew
 case hend=>
  intro u o r G hend;simp only[sE]at hend;simp only[sF,hend];obtain⟨g7,e7,cz,b3⟩:=G.a7 rfl;obtain⟨g8,e8,bJ,aL⟩:=G.a8 rfl;obtain⟨cy,a0,bb⟩:=G.s rfl;have bZ:g7≠g8:=fun q=>G.ne rfl rfl (by rw[e7,e8,q])
  have e9:cy=g7:=by rw[e7]at a0;injection a0 with q;injection q with q;injection q with q;exact q.symm
  rw[e9]at bb;rw[e7,e8];have bN:az T o:=by rw[az,<-ac.out];exact r
  have bv:=aa (ld (P:=DE) (ty:=100) (cs:=[.int .i64 Pi,.slice F E B,.slice A z t]) aL (Ay _ _ _ _ _ _ _) (by kernel_rfl));have bk:Hid (av (o.setCells g8 0 [.int .i64 Pi,.slice F E B,.slice A z t]) g7 [.int .i64 P0,.slice X W U,.slice S O N]):=aa ((av.mk bb b3 (by simp)).other bZ [.int .i64 Pi,.slice F E B,.slice A z t]);have bl:Hid (av (o.setCells g8 0 [.int .i64 Pi,.slice F E B,.slice A z t]) g8 [.int .i64 Pi,.slice F E B,.slice A z t]):=aa ⟨World.rangeAt_setCells_same _ _ _ _ aL,World.there_setCells aL _ _ _,by simp⟩;have a3:az T (o.setCells g8 0 [.int .i64 Pi,.slice F E B,.slice A z t]):=aE _ _ _ _ bN (by rw[<-ac.out];exact bJ);have bs:=aa (aR.ext a3);have bo:=aa a3;have aQ:Hid (g7≠g/\g8≠g):=aa (by have:=HG.out;have:=ac.out;omega);clear G hend r bN a3 e7 e8 a0 e9 cz bJ b3 aL bb bZ
  go_wp2_with (with_reducible refine aC (ty:=100) ?_)
  refine au ?_;refine ag rfl rfl bv ?_;obtain⟨W5,bT⟩:=exq (o.setCells g8 0 [.int .i64 Pi,.slice F E B,.slice A z t]);rw[<-bT]at bk bl bs bo⊢;clear bT bv
  go_wp2_with fail
  apply ay (Kq (fun k=>k=g)) (HJ 8 (fun w'=>Pk w' Z.heap.size 3 (.slice (some ⟨g,0,none⟩) n cap) n xs) (fun w'=>Pk w' Z.heap.size 3 (.slice (some ⟨g,0,none⟩) n cap) n (xs.set (1) (.slice F E B)))) 11 [158,159,160,161,162,163,164,165,166,167] [ar _,ar _,ar _,ar _,ar _,ar _,ar _,ar _,ar _,ar _,ar _] (fun w=>Kq.refl w) (fun a b c h k=>Kq.trans h k) (by kernel_rfl) (by kernel_rfl) (by kernel_rfl) (by kernel_rfl);case hsteps=>
   refine⟨?_,?_,?_,?_,?_,?_,?_,?_,?_,?_,?_,trivial⟩;all_goals
    intro d ev o r m I J K C f;replace I:=aa I;replace m:=aa m;replace J:=aa J;replace K:=aa K;have ah:=C 14 (by decide);have cx:=C 17 (by decide);clear C;simp only[sB]at ah cx;simp only[sG]at f;have b8:=r.box aQ.2 bl;have c1:=b8.cell (i:=1) rfl;have c2:=b8.cell (i:=2) rfl;clear b8;rw[if_pos (rfl:DP _ _=true)];first
    | (have p:=HJ.get m K;have q9:=p.cell (DL ap);have f9:=p.fz ap;go_simp;first | exact⟨(Kq.refl o).setCell (Q:=fun k=>k=g) ⟨g,1,none⟩ rfl _,HJ.set (p.put ap _)⟩ | exact⟨(Kq.refl o).setCell (Q:=fun k=>k=g) ⟨g,1,none⟩ rfl _,rfl,HJ.set (p.put ap _)⟩) | (go_simp;exact⟨Kq.refl _,rfl,HJ.same (by decide) m⟩)
    | (go_simp;first | exact⟨Kq.refl _,rfl,HJ.same (by decide) m⟩ | exact⟨DI _ _,rfl,HJ.same (by decide) m⟩)
  case hmono=>exact mR
  case hR0=>exact Kq.drew _
  case hend=>
   intro u o r G hend;simp only[sE]at hend;simp only[sF,hend];have p:=HJ.CE G rfl;have HK:=aa r;have q1:=p.cell (DL (l:=xs.set 1 (.slice F E B)) (i:=2) (by rw[Ea];exact ab.1));have f1:=p.fz (j:=2) (by rw[Ea];exact ab.1);have br:Hid (Pk (o.setCell ⟨g,2,none⟩ (.slice A z t)) Z.heap.size 3 (.slice (some ⟨g,0,none⟩) n cap) n Y):=aa (by rw[ct.out];exact p.put (by rw[Ea];exact ab.1) _);have aP:Hid (Kq (fun k=>k=g) W5 (o.setCell ⟨g,2,none⟩ (.slice A z t))):=aa (r.setCell (Q:=fun k=>k=g) ⟨g,2,none⟩ rfl _);have bm:=aa (aP.box aQ.1 bk);clear r G hend p
   go_wp2_with fail
   obtain⟨wm,b4⟩:=exq (o.setCell ⟨g,2,none⟩ (.slice A z t));rw[<-b4]at br aP bm⊢;clear b4 q1 f1 HK;apply ay (Kq (fun k=>k=g)) (HJ 10 (fun w'=>Pk w' Z.heap.size 3 (.slice (some ⟨g,0,none⟩) n cap) n Y) (fun w'=>Pk w' Z.heap.size 3 (.slice (some ⟨g,0,none⟩) n cap) n (Y.set (i*3+1) (.slice X W U)))) 13 [168,169,170,171,172,173,174,175,176,177,178,179] [ar _,ar _,ar _,ar _,ar _,ar _,ar _,ar _,ar _,ar _,ar _,ar _,ar _] (fun w=>Kq.refl w) (fun a b c h k=>Kq.trans h k) (by kernel_rfl) (by kernel_rfl) (by kernel_rfl) (by kernel_rfl);case hsteps=>
    refine⟨?_,?_,?_,?_,?_,?_,?_,?_,?_,?_,?_,?_,?_,trivial⟩;all_goals
     intro d ev o r m I J K C f;replace I:=aa I;replace m:=aa m;replace J:=aa J;replace K:=aa K;have aY:=C 13 (by decide);have ah:=C 14 (by decide);have cw:=C 16 (by decide);clear C;simp only[sB]at aY ah cw;simp only[sG]at f;have b7:=r.box aQ.1 bm;have c1:=b7.cell (i:=1) rfl;have c2:=b7.cell (i:=2) rfl;clear b7;rw[if_pos (rfl:DP _ _=true)];first
     | (have p:=HJ.get m K;have q9:=p.cell (DL aq);have f9:=p.fz aq;go_simp;first | exact⟨(Kq.refl o).setCell (Q:=fun k=>k=g) ⟨g,i*3+1,none⟩ rfl _,HJ.set (p.put aq _)⟩ | exact⟨(Kq.refl o).setCell (Q:=fun k=>k=g) ⟨g,i*3+1,none⟩ rfl _,rfl,HJ.set (p.put aq _)⟩) | (go_simp;exact⟨Kq.refl _,rfl,HJ.same (by decide) m⟩)
     | (go_simp;first | exact⟨Kq.refl _,rfl,HJ.same (by decide) m⟩ | exact⟨DI _ _,rfl,HJ.same (by decide) m⟩)
   case hmono=>exact mR
   case hR0=>exact Kq.drew _
   case hend=>
    intro u o r G hend;simp only[sE]at hend;simp only[sF,hend];have p:=HJ.CE G rfl;have q1:=p.cell (DL (l:=Y.set (i*3+1) (.slice X W U)) (i:=i*3+2) (by rw[Ea];exact ab.2));have f1:=p.fz (j:=i*3+2) (by rw[Ea];exact ab.2);have co:Hid (Pk (o.setCell ⟨g,i*3+2,none⟩ (.slice S O N)) Z.heap.size 3 (.slice (some ⟨g,0,none⟩) n cap) n (aw cS (yi L i))):=aa (by rw[<-cq.out];exact p.put (by rw[Ea];exact ab.2) _);have cj:Hid (Kq (fun k=>k=g) W5 (o.setCell ⟨g,i*3+2,none⟩ (.slice S O N))):=aa (aP.trans (r.setCell (Q:=fun k=>k=g) ⟨g,i*3+2,none⟩ rfl _));have ad:Hid (Kq (fun k=>k=g\/T.heap.size<=k) T (o.setCell ⟨g,i*3+2,none⟩ (.slice S O N))):=aa ((Kq.AI bo).trans (cj.mono fun _ _ q=>.inl q));clear r G hend p
    obtain⟨dc,f94,ce,ch,cc,ck⟩:=lf (S2:=bS 3 i y l.shown) HX HG b9 cb aO cf cg ad co (by rw[yj,<-aB.out.1]) (fun h=>by
      exact wP M.2.2.2 M.2.2.1 h.so) (by
      rw[cp.out,aO.out.sl];unfold bS
      rw[if_neg (by decide),if_neg (by decide),if_pos rfl])
    clear ad;have ad:=ck;have F9:=aa (eB HX ce ch cc ad cd)
    go_wp2_with first | ((with_reducible refine ak ?_ F9.out.1 ?_);rfl) | ((with_reducible refine ag ?_ ?_ F9.out.2.1 ?_);rfl;rfl)
    exact DK (aj rfl rfl F9.2.2.1 rfl) rfl F9.2.2.2
   case hJ0=>exact HJ.start (br.kept (fun _ _=>rfl) (DH _))
  case hJ0=>exact HJ.start (bs.kept (fun _ _=>rfl) (DH _))
 case hJ0=>exact JT.start (Nat.le_of_eq ac)
def zI:List (List UInt8):=[[],[112,117,116],[97,99,107],[97,115,107],[97,110,115,119,101,114],[102,101,116,99,104],[103,105,118,101],[114,101,102,117,115,101]]
def BC (k:Int):ByteArray:=if 1<=k/\k<=7 then⟨(zI.getD k.toNat []).toArray⟩else⟨#[]⟩
def rR:List (List UInt8):=[[110,111,110,101],[98,108,111,99,107],[112,97,116,104],[115,119,97,112],[99,117,116],[112,108,97,99,101],[114,101,102,117,115,101],[105,100],[111,98,106,101,99,116],[115,105,108,101,110,99,101]]
def qh (k:Int):ByteArray:=if 0<=k/\k<=9 then⟨(rR.getD k.toNat []).toArray⟩else⟨#[]⟩
structure my (w:DF):Prop where
 words:∀i z,rR[i]? =some z->w.cell? ⟨1,i,none⟩=some (.string ⟨z.toArray⟩)
theorem my.ext {w w':DF} (h:my w) (a:az w w'):my w':=⟨fun i z b=>((aD a).1 _ _ (World.block_lt_of_cell? w _ (h.words 0 _ rfl))).trans (h.words i z b)⟩
theorem uG (k:Int) (w:DF) (a:my w):DN DE 34 #[.int .i64 k] w fun e w'=>e=.returned (.string (qh k))/\w=w':=by
 by_cases h1:k < 0
 ·have c:Hid (qh k=⟨#[]⟩):=aa (by unfold qh;rw[if_neg (by omega)]);go_enter Gm,Gb
  go_wp2
  go_ret;exact⟨by rw[c.out];rfl,rfl⟩
 by_cases h2:9 < k
 ·have c:Hid (qh k=⟨#[]⟩):=aa (by unfold qh;rw[if_neg (by omega)]);go_enter Gm,Gb
  go_wp2
  go_ret;exact⟨by rw[c.out];rfl,rfl⟩
 have d:k=0\/k=1\/k=2\/k=3\/k=4\/k=5\/k=6\/k=7\/k=8\/k=9:=by omega
 clear h1 h2;rcases d with rfl | rfl | rfl | rfl | rfl | rfl | rfl | rfl | rfl | rfl
 ·have b:=a.words 0 _ rfl;go_enter Gm,Gb
  go_wp2
  go_ret;exact⟨rfl,rfl⟩
 ·have b:=a.words 1 _ rfl;go_enter Gm,Gb
  go_wp2
  go_ret;exact⟨rfl,rfl⟩
 ·have b:=a.words 2 _ rfl;go_enter Gm,Gb
  go_wp2
  go_ret;exact⟨rfl,rfl⟩
 ·have b:=a.words 3 _ rfl;go_enter Gm,Gb
  go_wp2
  go_ret;exact⟨rfl,rfl⟩
 ·have b:=a.words 4 _ rfl;go_enter Gm,Gb
  go_wp2
  go_ret;exact⟨rfl,rfl⟩
 ·have b:=a.words 5 _ rfl;go_enter Gm,Gb
  go_wp2
  go_ret;exact⟨rfl,rfl⟩
 ·have b:=a.words 6 _ rfl;go_enter Gm,Gb
  go_wp2
  go_ret;exact⟨rfl,rfl⟩
 ·have b:=a.words 7 _ rfl;go_enter Gm,Gb
  go_wp2
  go_ret;exact⟨rfl,rfl⟩
 ·have b:=a.words 8 _ rfl;go_enter Gm,Gb
  go_wp2
  go_ret;exact⟨rfl,rfl⟩
 ·have b:=a.words 9 _ rfl;go_enter Gm,Gb
  go_wp2
  go_ret;exact⟨rfl,rfl⟩
def B8 (L:List Sh):Prop:=∀s∈L,s.2.2.length<=40
theorem mz (k at' y:Int) (v:DG) (l:Cp) (w:DF) (h:dH w v l) (a:fv l) (hid: -1125899906842624<=l.id/\l.id<=1125899906842624):
  DN DE 33 #[v,.agg #[.int .i64 k,.int .i64 at',.int .i64 y]] w fun e w'=>uk k at' y l w e w':=by
 by_cases h1:k=1
 ·subst h1;exact AM at' y v l w h a hid
 by_cases h2:k=2
 ·subst h2;exact AB at' y v l w h a hid
 by_cases b:k=3
 ·subst b;exact AD at' y v l w h a hid
 by_cases c:k=4
 ·subst c;exact AE at' y v l w h a hid
 by_cases d:k=5
 ·subst d;exact AF at' y v l w h a hid
 by_cases f:k=6
 ·subst f;exact AH at' y v l w h a hid
 by_cases g:k=7
 ·subst g;exact AK at' y v l w h a hid
 by_cases i:k=8
 ·subst i;exact AL at' y v l w h a hid
 by_cases j:k=9
 ·subst j;exact AJ at' y v l w h a hid
 exact AG k at' y v l w h a hid h1 h2 b c d f g i j
theorem qj (k at' y:Int) (v:DG) (l:Cp) (w:DF) (h:gD D w v l) (a:fv l) (hid: -1125899906842624<=l.id/\l.id<=1125899906842624):
  DN DE 57 #[v,.int .i64 k,.int .i64 at',.int .i64 y] w fun e w'=>nO D k at' y l w e w':=by
 by_cases g:k=9
 ·subst g;exact AN at' y v l w h a hid
 by_cases c:k=6
 ·subst c;exact AO at' y v l w h a hid
 by_cases d:k=7
 ·subst d;exact AP at' y v l w h a hid
 by_cases f:k=8
 ·subst f;exact AQ at' y v l w h a hid
 by_cases h1:k=1
 ·subst h1;by_cases i:l.kind=6
  ·by_cases h0:l.blocks.length=0
   ·exact zy at' y v l w h a hid i h0
   ·exact zF at' y v l w h a hid i (by omega)
  by_cases b:l.kind=4
  ·by_cases h0:l.shown.length=0
   ·exact zz at' y v l w h a hid b h0
   ·exact zC at' y v l w h a hid b (by omega)
  exact zx at' y v l w h a hid i b
 by_cases b:l.kind=4
 ·by_cases h0:l.shown.length=0
  ·exact zu k at' y v l w h a hid h1 c d f g b h0
  by_cases m:k < 1
  ·exact zv k at' y v l w h a hid h1 c d f g b h0 m
  by_cases n:5 < k
  ·exact zw k at' y v l w h a hid h1 c d f g b h0 n
  have j:k=2\/k=3\/k=4\/k=5:=by omega
  rcases j with rfl | rfl | rfl | rfl
  ·exact zG at' y v l w h a hid b (by omega)
  ·exact zH at' y v l w h a hid b (by omega)
  ·exact zB at' y v l w h a hid b (by omega)
  ·exact zE at' y v l w h a hid b (by omega)
 ·exact zt k at' y v l w h a hid h1 c d f g b
theorem sV (w:DF) (k i:Int):dH w (.agg #[.int .i64 k,.int .i64 i,.int .i64 0,.slice none 0 0,.slice none 0 0,.int .i64 0,.int .i64 0,.slice none 0 0,.int .i64 0]) ⟨k,i,0,[],[],0,0,[],0⟩:=
 ⟨_,_,_,_,[],rfl,rfl,bh.nil _,oe.nil _,rfl,bf.nil _,fun b a=>by cases a⟩
theorem sW (k i:Int):fv ⟨k,i,0,[],[],0,0,[],0⟩:=⟨DZ _,DZ _,DZ _,fun s a=>(by cases a),fun s a=>(by cases a)⟩
theorem yt (w:DF) (D:my w):DN DE 6 #[] w fun e w'=>e=.returned (.bool true)/\az w w':=by
 have F:Hid (∀a,DN DE 33 #[.agg #[.int .i64 2,.int .i64 0,.int .i64 0,.slice none 0 0,.slice none 0 0,.int .i64 0,.int .i64 0,.slice none 0 0,.int .i64 0],.agg #[.int .i64 9,.int .i64 0,.int .i64 0]] a fun e w'=>∃b,e=.returned (.tuple #[b,.bool false])/\dH w' b dI/\az a w'):=aa fun a=>mz 9 0 0 _ ⟨2,0,0,[],[],0,0,[],0⟩ a (sV a 2 0) (sW 2 0) (by decide)
 have E:Hid (∀a,DN DE 33 #[.agg #[.int .i64 2,.int .i64 3,.int .i64 0,.slice none 0 0,.slice none 0 0,.int .i64 0,.int .i64 0,.slice none 0 0,.int .i64 0],.agg #[.int .i64 7,.int .i64 0,.int .i64 0]] a fun e w'=>∃b,e=.returned (.tuple #[b,.bool true])/\dH w' b ⟨2,4,0,[],[],0,0,[],0⟩/\az a w'):=aa fun a=>mz 7 0 0 _ ⟨2,3,0,[],[],0,0,[],0⟩ a (sV a 2 3) (sW 2 3) (by decide)
 have H:Hid (∀a,az w a->DN DE 34 #[.int .i64 9] a fun e w'=>e=.returned (.string ⟨#[115,105,108,101,110,99,101]⟩)/\a=w'):=aa fun a h=>uG 9 a (D.ext h)
 clear D;go_enter Tryz.func6,Tryz.ntmps6
 go_wp2_with fail
 refine(F w).mono ?_;rintro e a ⟨v2,rfl,⟨Q,p2,s2,g,L2,rfl,k⟩,K⟩;obtain rfl:=k.eq;obtain⟨s,y⟩:=av.fresh (cs:=(cL dI p2 s2 g)) a 26 zL rfl (cg _ _ _ _);have q:=aa (aI (P:=DE) (cs:=(cL dI p2 s2 g)) a 26 zL rfl k.one (ty:=26) (by kernel_rfl));have o:=aa s;have p:=aa (K.trans y);clear s y k
 go_wp2_with (with_reducible refine aC (ty:=26) ?_)
 refine au ?_;refine ag rfl rfl q ?_;obtain⟨I,B⟩:=exq ((a.alloc (.cells zL 26)).setCells a.heap.size 0 (cL dI p2 s2 g));obtain⟨M,u⟩:=exq a.heap.size;rw[<-B]at o p⊢;rw[<-u]at o⊢;clear B u q
 go_wp2_with fail
 refine(E I).mono ?_;rintro e c ⟨v4,rfl,⟨R,m,n,j,O,rfl,l⟩,z⟩;obtain rfl:=l.eq;have G:=aa (p.trans z);clear z;obtain⟨t,A⟩:=av.fresh (cs:=(cL ⟨2,4,0,[],[],0,0,[],0⟩ m n j)) c 26 zL rfl (cg _ _ _ _);have r:=aa (aI (P:=DE) (cs:=(cL ⟨2,4,0,[],[],0,0,[],0⟩ m n j)) c 26 zL rfl l.one (ty:=26) (by kernel_rfl));have d:=aa t;have f:=aa (G.trans A);clear t A l
 go_wp2_with (with_reducible refine aC (ty:=26) ?_)
 refine au ?_;refine ag rfl rfl r ?_;obtain⟨J,C⟩:=exq ((c.alloc (.cells zL 26)).setCells c.heap.size 0 (cL ⟨2,4,0,[],[],0,0,[],0⟩ m n j));obtain⟨N,x⟩:=exq c.heap.size;rw[<-C]at d f⊢;rw[<-x]at d⊢;clear C x r;have S:=d.cell (i:=1) (v:=.int .i64 4) rfl
 go_wp2_with fail
 refine(H J f).mono ?_;rintro e T ⟨rfl,L⟩;subst L
 go_wp2_with fail
 go_ret;exact⟨by rfl,f⟩
theorem xl (b:Nat) (N Q:Nat->Prop) (s:eb) (v:DG) (f:List Int) (k at' y:Int) (w:DF) (S:List Nat) (a:Nat->Addr) (hS:lE N Q w b s) (bu:ey s) (bh:∀i,Q i->N i) (bi:∀i,N i->i < w.heap.size) (hR:Rd w .u8 v f) (bo:bA f) (bn:f.length<=9000) (hg:fO w) (he:∀w',Kq Q w w'->kz S a w') (s1:1∈S) (s2:2∈S) (s3:3∈S) (s4:4∈S) (s7:7∈S) (s8:8∈S):
  DN DE 20 #[.pointer (some ⟨b,0,none⟩),v,.agg #[.int .i64 k,.int .i64 at',.int .i64 y]] w fun e w'=>zU Q (fN s k at' y f) w e w':=by
 obtain⟨p,c,bH,_,_⟩:=hR.form;subst bH;have m:=aa (DT hS (DT bu (DT bh bi)));have HR:=aa (DT hR (DT bo bn));have d:=aa (DT hg (DT he (DT s1 (DT s3 (DT s4 (DT s7 s8))))));have bF:=aa s2;obtain⟨nb,aR⟩:=exq f.length;have bD:=aa aR;rw[<-aR];obtain⟨r,G⟩:=exq (w.alloc (.cells #[.int .i64 k,.int .i64 at',.int .i64 y] 65));have aq:Hid (az w r):=aa (by rw[G];exact ae _ _);have R:Hid (av r w.heap.size [.int .i64 k,.int .i64 at',.int .i64 y]):=aa (by rw[G];exact av.box (cs:=[.int .i64 k,.int .i64 at',.int .i64 y]) w 65 (fun q=>by cases q));have bU:Hid (r.heap.size=w.heap.size+1):=aa (by rw[G,World.size_alloc]);obtain⟨T0,ah⟩:=exq w.heap.size;rw[<-ah]at R;have bB:=aa ah;clear hS bu bh bi hR bo bn hg he s1 s2 s3 s4 s7 s8 aR;go_enter Tryz.func20,Tryz.ntmps20
 go_wp2_with fail
 rw[<-G,<-ah];clear G ah;refine(uE (.slice p nb c) f r S a (by rw[bD.out];exact HR.1.ext aq) HR.2.1 HR.2.2 (d.2.1 _ (Kq.AI aq)) d.2.2.1 bF d.2.2.2.1 d.2.2.2.2.1 d.2.2.2.2.2.1 d.2.2.2.2.2.2).mono ?_;rintro e t ⟨v2,pp,ps,pb,L,rfl,rfl,bf,af⟩;have M:=aa bf;have aX:Hid (az w t):=aa (aq.trans af);have a6:=aa (R.ext af);have ba:Hid (T0=w.heap.size/\T0 < r.heap.size/\r.heap.size<=t.heap.size):=aa ⟨bB,R.lt,af.size⟩;obtain⟨l,H⟩:=exq ((dM f).2);obtain⟨pc,aj⟩:=exq ((dM f).1);have HA:Hid (¬pc=0->fN s k at' y f=([],false)):=aa fun q=>by unfold fN;rw[if_neg (by rw[<-aj];exact q)]
 have ao:Hid (pc=0->fN s k at' y f=if (bO s l).2=true then(if (bE k at' y (bO s l).1).2=true then(if aW (bE k at' y (bO s l).1).1=0 then(bL (bE k at' y (bO s l).1).1,true)else([],false))else([],false))else([],false)):=aa fun q=>by unfold fN;rw[if_pos (by rw[<-aj];exact q),<-H]
 rw[<-H]at M⊢;rw[<-aj];clear bf af H aj R;obtain⟨ad,aK⟩:=av.fresh (cs:=cL l pp ps pb) t 26 zL rfl (cg _ _ _ _);have n:=aa (aI (P:=DE) (cs:=cL l pp ps pb) t 26 zL rfl M.Cr.one (ty:=26) (by kernel_rfl))
 go_wp2_with (with_reducible refine aC (ty:=26) ?_)
 refine au ?_;refine ag rfl rfl n ?_;obtain⟨T,bk⟩:=exq ((t.alloc (.cells zL 26)).setCells t.heap.size 0 (cL l pp ps pb));obtain⟨D8,aG⟩:=exq t.heap.size;rw[<-bk]at ad aK⊢;rw[<-aG]at ad⊢;have aV:=aa ad;have K:=aa aK;have bS:=aa aG;clear ad aK bk aG n;have o:Hid (az w T):=aa (aX.trans K);have a7:=aa (a6.ext K);have aZ:Hid (bZ (fun i=>r.heap.size<=i) T l pp ps pb L):=aa (M.kept fun i hi H=>⟨hi,K.block i H⟩);clear M a6 aX K;have br:∀w',az w w'->Kq Q w w':=fun w' h=>Kq.AI h
 have bC:=aa br;clear br;by_cases I:pc=0;case neg=>
  have j:=aa (HA I);rw[dt a pc I];clear I HA ao
  go_wp2_with fail
  go_ret2;unfold zU;rw[j.out];exact⟨none,0,0,rfl,(fun q=>(by cases q)),bC _ o⟩
 have C:=aa (ao I);subst I;rw[ft];clear HA ao;have g:=aa (aV.load (P:=DE) DQ rfl (by kernel_rfl))
 go_wp2_with (with_reducible refine aA (ty:=26) ?_)
 refine au ?_;refine ak rfl g ?_;clear g
 go_wp2_with fail
 refine(qc b N Q s _ l T S a (m.1.ext o) m.2.1 m.2.2.1 (fun i q=>D9 (m.2.2.2 i q) o.size) ⟨_,_,_,_,rfl,aZ.kept fun i hi _=>⟨fun q=>by have:=m.2.2.2 i q;have:=ba.out;omega,rfl⟩⟩ (d.1.ext o) (d.2.1 _ (Kq.AI o)) d.2.2.1 d.2.2.2.1 d.2.2.2.2.1 d.2.2.2.2.2.1 d.2.2.2.2.2.2).mono ?_;rintro e u ⟨ap,W,V,A,rfl,aL,bg⟩;have aM:Kq Q T u:=bg.1;have a0:Hid (Kq Q w u):=aa ((Kq.AI o).trans aM);have bT:Hid (∀w',Kq Q w w'->Kq Q w w'):=aa fun _ h=>h
 have a8:=aa (aM.box (fun q=>by have:=m.2.2.2 _ (m.2.2.1 _ q);have:=ba.out;omega) a7);obtain⟨x,hx⟩:=exq ((bO s l).1);obtain⟨is,aP⟩:=exq ((bO s l).2);have a3:Hid (fv x/\(-1125899906842624<=x.id/\x.id<=1125899906842624)):=aa (by rw[hx];exact⟨sT m.2.1,sU⟩);rw[<-hx,<-aP]at C;rw[<-hx]at aL⊢;rw[<-aP];have aw:=aa aL;clear aL bg aM hx aP aZ a7 aV;obtain⟨ab,aH⟩:=av.fresh (cs:=cL x ap W V) u 26 zL rfl (cg _ _ _ _);have n:=aa (aI (P:=DE) (cs:=cL x ap W V) u 26 zL rfl aw.Cr.one (ty:=26) (by kernel_rfl))
 go_wp2_with (with_reducible refine aC (ty:=26) ?_)
 refine au ?_;refine ag rfl rfl n ?_;obtain⟨W5,bl⟩:=exq ((u.alloc (.cells zL 26)).setCells u.heap.size 0 (cL x ap W V));obtain⟨bM,aE⟩:=exq u.heap.size;rw[<-bl]at ab aH⊢;rw[<-aE]at ab⊢;have aT:=aa ab;have J:=aa aH;have bQ:=aa aE;clear ab aH bl aE n;have ax:Hid (Kq Q w W5):=aa (a0.trans (Kq.AI J));have a9:=aa (a8.ext J);have a4:Hid (dH W5 (.agg (cL x ap W V).toArray) x):=aa (dH.ext ⟨_,_,_,_,_,rfl,aw.Cr⟩ J);clear aw a8 a0 J o;cases is with
 | false=>
  have j:Hid (fN s k at' y f=([],false)):=aa (by rw[C.out];rfl);clear C
  go_wp2_with fail
  go_ret2;unfold zU;rw[j.out];exact⟨none,0,0,rfl,(fun q=>(by cases q)),ax⟩
 | true=>
  have D:Hid (fN s k at' y f=if (bE k at' y x).2=true then(if aW (bE k at' y x).1=0 then(bL (bE k at' y x).1,true)else([],false))else([],false)):=aa (by rw[C.out];rfl);clear C;have g:=aa (aT.load (P:=DE) DQ rfl (by kernel_rfl))
  go_wp2_with (with_reducible refine aA (ty:=26) ?_)
  refine au ?_;refine ak rfl g ?_;clear g;have g:=aa (a9.load (P:=DE) Tryz.underlying65 rfl (by kernel_rfl))
  go_wp2_with (with_reducible refine aA (ty:=65) ?_)
  refine au ?_;refine ak rfl g ?_;clear g
  go_wp2_with fail
  refine(mz k at' y _ x W5 a4 a3.1 a3.2).mono ?_;rintro e B ⟨v6,rfl,⟨bW,Y,Z,X,B6,rfl,ai⟩,bd⟩;obtain rfl:=ai.eq;have a1:Hid (Kq Q w B):=aa (ax.trans (Kq.AI bd));obtain⟨z,hz⟩:=exq ((bE k at' y x).1);obtain⟨iz,aQ⟩:=exq ((bE k at' y x).2);rw[<-hz,<-aQ]at D;rw[<-hz]at ai⊢;rw[<-aQ];have aB:=aa ai;clear ai bd hz aQ a4 a9 aT ax;obtain⟨ac,aJ⟩:=av.fresh (cs:=cL z Y Z X) B 26 zL rfl (cg _ _ _ _);have n:=aa (aI (P:=DE) (cs:=cL z Y Z X) B 26 zL rfl aB.one (ty:=26) (by kernel_rfl))
  go_wp2_with (with_reducible refine aC (ty:=26) ?_)
  refine au ?_;refine ag rfl rfl n ?_;obtain⟨U,bm⟩:=exq ((B.alloc (.cells zL 26)).setCells B.heap.size 0 (cL z Y Z X));obtain⟨bN,aF⟩:=exq B.heap.size;rw[<-bm]at ac aJ⊢;rw[<-aF]at ac⊢;have aU:=aa ac;have ar:=aa aJ;have bR:=aa aF;clear ac aJ bm aF n;have O:Hid (Kq Q w U):=aa (a1.trans (Kq.AI ar));have a5:Hid (dH U (.agg (cL z Y Z X).toArray) z):=aa (dH.ext ⟨_,_,_,_,_,rfl,aB⟩ ar);have aY:Hid (kz S a U):=aa (d.2.1 _ O);clear aB a1 ar;cases iz with
  | false=>
   have j:Hid (fN s k at' y f=([],false)):=aa (by rw[D.out];rfl);clear D
   go_wp2_with fail
   go_ret2;unfold zU;rw[j.out];exact⟨none,0,0,rfl,(fun q=>(by cases q)),O⟩
  | true=>
   have E:Hid (fN s k at' y f=if aW z=0 then(bL z,true)else([],false)):=aa (by rw[D.out];rfl);clear D;have g:=aa (aU.load (P:=DE) DQ rfl (by kernel_rfl))
   go_wp2_with (with_reducible refine aA (ty:=26) ?_)
   refine au ?_;refine ak rfl g ?_;clear g
   go_wp2_with fail
   refine(rO _ z U S a a5 aY d.2.2.1 d.2.2.2.1 d.2.2.2.2.1 d.2.2.2.2.2.1 d.2.2.2.2.2.2).mono ?_;rintro e w8 ⟨v8,rfl,aO,be⟩;have a2:Hid (Kq Q w w8):=aa (O.trans (Kq.AI be));obtain⟨p8,c8,bG,_,_⟩:=aO.form;subst bG;have F:=aa aO;obtain⟨n8,bt⟩:=exq ((if aW z=0 then bL z else []).length);rw[<-bt]at F⊢;clear be aO bt a5 aY aU O;obtain⟨ck,bp⟩:=exq (aW z);rw[<-bp]at F E⊢;clear bp;by_cases h0:ck=0
   ·have j:Hid (fN s k at' y f=(bL z,true)):=aa (by rw[E.out,if_pos h0]);rw[if_pos h0]at F;subst h0;rw[ft];clear E
    go_wp2_with fail
    go_quiet (fail)
    go_wp2_with fail
    go_ret2;unfold zU;rw[j.out];exact⟨_,_,_,rfl,fun _=>F.ext ((DI _ _).drewN _),a2.trans (Kq.AI ((DI _ _).drewN _))⟩
   ·have j:Hid (fN s k at' y f=([],false)):=aa (by rw[E.out,if_neg h0]);rw[dt a ck h0];clear E h0 F
    go_wp2_with fail
    go_quiet (fail)
    go_wp2_with fail
    go_ret2;unfold zU;rw[j.out];exact⟨_,_,_,rfl,(fun q=>(by cases q)),a2.trans (Kq.AI ((DI _ _).drewN _))⟩
end Go.Proofs.Bl
