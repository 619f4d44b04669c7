/- Texts that stood apart, in one: LEp, LE1, LE2, LE3. -/
import Derived.Test.YtglenbikdahgjaaGreatDoorPr23
import Derived.Test.YtglenbikdahgjaaGreatDoorPr17
set_option maxRecDepth 100000
set_option maxHeartbeats 16000000
open And renaming intro->DT
open Bool renaming false_eq_true->Fh,not_true->Ep
open Go renaming Calls->DN,Value->DG,World->DF,bodyPost_ret->DK,maxLen->DV
open Go.Instr renaming loadAt->Fm,storeAt->Fb
open Go.Region renaming wanted->DP
open Go.RowKit.Below renaming refl->DI
open Int renaming eq_ofNat_of_zero_le->En,toNat_natCast->Eo
open List renaming append_assoc->Em,append_nil->Ew,length_append->DS,length_nil->EK,length_singleton->Ez,mem_cons->Es,not_mem_nil->ED,set_set->FZ
open Nat renaming le_of_lt->F7,le_refl->DH
namespace Go.Proofs.Bl
open Go Go.RowKit Go.Proofs
open Go.Proofs.Tryz renaming func56->GK,ntmps56->Gu,prog->DE,underlying43->DU
variable {Y X n:Nat} {r:List Int}
theorem lu {w a:DF} {pr:Nat × Cp} {k:Nat} (b:av a w.heap.size zL.toList) (e:Kq (fun k=>w.heap.size<=k) w a) (h:pr=(k,dI)):
  (Fb 43 (.pointer (some ⟨w.heap.size,0,none⟩)) (.agg zL)).run DE a=.ok () (a.setCells w.heap.size 0 zL.toList)/\
  (loadVar 43 ⟨w.heap.size,0,none⟩).run DE (a.setCells w.heap.size 0 zL.toList)=.ok (.agg zL) (a.setCells w.heap.size 0 zL.toList)/\
  kF pr w (.returned (.tuple #[.agg zL,.int .i64 (k:Nat)])) (a.setCells w.heap.size 0 zL.toList):=by
 subst h;refine⟨b.store (cs':=zL.toList) rfl (fun c d=> ?_) (by kernel_rfl),(b.set (cs':=zL.toList) rfl).loadVar DU rfl (by kernel_rfl),_,rfl,zh.zero _ _,(e.setCells (g:=w.heap.size) (DH _) 0 zL.toList).ext fun k q=>q⟩;simp only[Es,ED,or_false]at d;rcases d with rfl | rfl | rfl | rfl | rfl | rfl | rfl | rfl | rfl<;>rfl
theorem zM {w a:DF} {l:Cp} {vp vs vb:DG} {L:List Sv} {pr:Nat × Cp} (j:X < Y/\w.heap.size < X) (d:av a Y (cL l vp vs vb)) (c:bZ (fun k=>Y<=k) a l vp vs vb L) (b:av a w.heap.size zL.toList) (e:Kq (fun k=>w.heap.size<=k) w a) (h:pr=(0,l)):
  (Fm 43 (.pointer (some ⟨Y,0,none⟩))).run DE a=.ok (.agg (cL l vp vs vb).toArray) a/\
  (Fb 43 (.pointer (some ⟨w.heap.size,0,none⟩)) (.agg (cL l vp vs vb).toArray)).run DE a=.ok () (a.setCells w.heap.size 0 (cL l vp vs vb))/\
  (loadVar 43 ⟨w.heap.size,0,none⟩).run DE (a.setCells w.heap.size 0 (cL l vp vs vb))=.ok (.agg (cL l vp vs vb).toArray) (a.setCells w.heap.size 0 (cL l vp vs vb))/\
  kF pr w (.returned (.tuple #[.agg (cL l vp vs vb).toArray,.int .i64 0])) (a.setCells w.heap.size 0 (cL l vp vs vb)):=by
 subst h;have f:Kq (fun k=>k=w.heap.size) a (a.setCells w.heap.size 0 (cL l vp vs vb)):=(Kq.refl a).setCells (Q:=fun k=>k=w.heap.size) rfl 0 _;exact⟨d.load DU rfl (by kernel_rfl),b.store (cs':=cL l vp vs vb) rfl c.Cr.one (by kernel_rfl),(b.set (cs':=cL l vp vs vb) rfl).loadVar DU rfl (by kernel_rfl),_,rfl,⟨vp,vs,vb,L,rfl,c.kept (F':=fun k=>w.heap.size<=k) fun k m i=>⟨by omega,f.block k i (by omega)⟩⟩,(e.setCells (g:=w.heap.size) (DH _) 0 (cL l vp vs vb)).ext fun k q=>q⟩
theorem r6 (l:Cp) (r:List Int):cy (l,(true,r))=(2,dI):=rfl
theorem r7 {l:Cp} (h:0 < r.length):cy (l,(false,r))=(4,dI):=by
 unfold cy;simp only[Fh,if_false];rw[if_pos h]
theorem r8 {l:Cp} (h:¬0 < r.length):cy (l,(false,r))=if aW l=0 then(0,l)else(aW l,dI):=by
 unfold cy;simp only[Fh,if_false];rw[if_neg h]
theorem r9 {w:DF} {t:bB} (h:fq n w X t):∃at',w.cell? ⟨X,2,none⟩=some (.bool t.1)/\w.cell? ⟨X,1,none⟩=some (.int .i64 (at':Nat))/\Hid (t.2.length=n - at'/\at'<=n):=by
 obtain⟨g,f,at',e,a,c,b,d,_,_,_⟩:=h.ex;exact⟨at',a.cell (i:=2) rfl,a.cell (i:=1) rfl,aa ⟨by rw[d,List.length_drop,c],b⟩⟩
theorem sc {w:DF} {l:Cp} (h:ug w Y Y l):∃vp vs vb L,Hid (av w Y (cL l vp vs vb))/\Hid (bZ (fun k=>Y<=k) w l vp vs vb L)/\Hid ((Fm 43 (.pointer (some ⟨Y,0,none⟩))).run DE w=.ok (.agg (cL l vp vs vb).toArray) w)/\Hid (dH w (.agg (cL l vp vs vb).toArray) l):=by
 obtain⟨vp,vs,vb,L,a,b⟩:=h;exact⟨vp,vs,vb,L,aa a,aa b,aa (a.load DU rfl (by kernel_rfl)),aa ⟨_,vp,vs,vb,L,rfl,b.Cr⟩⟩
theorem sd {w a b:DF} {l:Cp} {vp vs vb:DG} {L:List Sv} (c:az a b) (d:av a Y (cL l vp vs vb)) (e:av a w.heap.size zL.toList) (g:Kq (fun k=>w.heap.size<=k) w a) (f:bZ (fun k=>Y<=k) a l vp vs vb L):
  Hid (av b Y (cL l vp vs vb))/\Hid (av b w.heap.size zL.toList)/\Hid (Kq (fun k=>w.heap.size<=k) w b)/\Hid (bZ (fun k=>Y<=k) b l vp vs vb L):=
 ⟨aa (d.ext c),aa (e.ext c),aa (g.trans (Kq.AI c)),aa (f.kept fun k h i=>⟨h,c.block k i⟩)⟩
theorem kb (n X:Nat) {nb:Nat} {s:bB} (h1:1<=nb) (h2:nb<=9000) (a:bA s.2):∃i s2 y,i=cT 0 (bo nb s).1/\s2=(bo nb s).2/\Hid (sP n X nb s y s2)/\Hid (rz y i)/\bA s2.2:=
 ⟨_,_,_,rfl,rfl,aa (dD n X nb s h1 h2),aa (kG nb s h2 a),(dd (n:=nb) (s:=s) a).2⟩
theorem qx (n X:Nat) {s:bB} (a:bA s.2):∃z s2 y,cj 2 s=(z,s2)/\Hid (sP n X 2 s y s2)/\Hid (rz y z)/\bA s2.2/\0<=z/\z<=65535:=
 ⟨_,_,_,rfl,aa (dD n X 2 s (by decide) (by decide)),aa (kH s a),(dd (n:=2) (s:=s) a).2,sO (s:=s) a⟩
theorem xu (n X:Nat) {s:bB} (a:bA s.2):∃z s2 y,cj 1 s=(z,s2)/\Hid (sP n X 1 s y s2)/\Hid (rz y z)/\bA s2.2/\0<=z/\z<=255:=
 ⟨_,_,_,rfl,aa (dD n X 1 s (by decide) (by decide)),aa (nI s a),(dd (n:=1) (s:=s) a).2,oB (s:=s) a⟩
theorem fQ {w a b:DF} {cs:List DG} (h:X < Y/\w.heap.size < X) (c:Kq (fun k=>k=X) a b) (d:av a Y cs) (f:Kq (fun k=>w.heap.size<=k) w a) (e:av a w.heap.size zL.toList):
  Hid (av b Y cs)/\Hid (Kq (fun k=>w.heap.size<=k) w b)/\Hid (av b w.heap.size zL.toList):=
 ⟨aa (c.box (by omega) d),aa (f.trans (c.mono fun k _ q=>by omega)),aa (c.box (by omega) e)⟩
theorem ik {w a c:DF} {b:Nat} {u:DG} {s:bB} {cs cs':List DG} (l:c=a.setCell ⟨Y,b,none⟩ u) (h:X < Y/\w.heap.size < X) (o:b < cs.length) (m:cs.set b u=cs') (g:fq n a X s) (e:av a Y cs) (i:Kq (fun k=>w.heap.size<=k) w a) (f:av a w.heap.size zL.toList):
  Hid (av c Y cs')/\Hid (fq n c X s)/\Hid (Kq (fun k=>w.heap.size<=k) w c)/\Hid (av c w.heap.size zL.toList):=by
 subst l m;have d:Kq (fun k=>k=Y) a (a.setCell ⟨Y,b,none⟩ u):=(Kq.refl a).setCell (Q:=fun k=>k=Y) ⟨Y,b,none⟩ rfl _;exact⟨aa (e.put o u),aa (g.kept d fun j p q=>by omega),aa (i.trans (d.mono fun k _ q=>by omega)),aa (d.box (by omega) f)⟩
theorem mC {w:DF} {v:DG} (K:Int) (p:Rd w .u8 v (K :: r)) (C:bA r) (J:r.length+1<=8000):∃(g o c n X Y:Nat) (a b:DF),v=.slice (some ⟨g,o,none⟩) n c/\a=(w.alloc (.cells zL 43)).alloc (.cells #[.slice (some ⟨g,o,none⟩) n c,.int .i64 1,.bool false] 160)/\X=w.heap.size+1/\Y=a.heap.size/\
  Hid ((Fb 43 (.pointer (some ⟨a.heap.size,0,none⟩)) (.agg (cK K 0 0 0 0 0).toArray)).run DE (a.alloc (.cells zL 43))=.ok () b)/\Hid (X < Y/\w.heap.size < X)/\Hid (av b Y (cK K 0 0 0 0 0))/\Hid (fq n b X (false,r))/\Hid (av b w.heap.size zL.toList)/\Hid (Kq (fun k=>w.heap.size<=k) w b)/\
  a.cell? ⟨g,o,none⟩=some (.int .u8 K)/\b.cell? ⟨Y,0,none⟩=some (.int .i64 K)/\¬((8000:Int) < (n:Int))/\¬((n:Int)=0)/\¬(n=0)/\(0:Int) < (n:Int)/\Hid (n=r.length+1)/\n<=c/\c<=DV:=by
 obtain⟨g,o,c,x,l,u,I,_,D⟩:=Rd.pos p (by simp);have t:w.cell? ⟨g,o,none⟩=some (.int .u8 K):=D 0 (by simp);have G:(K :: r).length=r.length+1:=rfl;have B:bh w v (r.length+1) (ao .u8 (K :: r)):=p;rw[G]at x l;subst x;have e:=(ae w (.cells zL 43)).trans (ae _ (.cells #[.slice (some ⟨g,o,none⟩) (r.length+1) c,.int .i64 1,.bool false] 160));have y:=(av.box (cs:=zL.toList) w 43 (fun q=>by cases q)).ext (ae _ (.cells #[.slice (some ⟨g,o,none⟩) (r.length+1) c,.int .i64 1,.bool false] 160));have d:=av.box (cs:=[.slice (some ⟨g,o,none⟩) (r.length+1) c,.int .i64 1,.bool false]) (w.alloc (.cells zL 43)) 160 (fun q=>by cases q);rw[World.size_alloc]at d;obtain⟨a,f⟩:=exq ((w.alloc (.cells zL 43)).alloc (.cells #[.slice (some ⟨g,o,none⟩) (r.length+1) c,.int .i64 1,.bool false] 160));have d:av a (w.heap.size+1) [.slice (some ⟨g,o,none⟩) (r.length+1) c,.int .i64 1,.bool false]:=by rw[f];exact d
 rw[<-f]at e;have z:av a w.heap.size zL.toList:=by rw[f];exact y
 have A:fq (r.length+1) a (w.heap.size+1) (false,r):=⟨⟨some ⟨g,o,none⟩,c,1,K :: r,d,rfl,by omega,rfl,(aS.By (F:=fun k=>k < w.heap.size) B (fun _ _ h=>h)).kept fun k E L=>⟨by omega,e.block k E⟩,l,u⟩,C,by omega⟩;have H:∀c∈cK K 0 0 0 0 0,c.oneCell'=true:=fun c s=>by simp only[cK,Es,ED,or_false]at s;rcases s with rfl | rfl | rfl | rfl | rfl | rfl | rfl | rfl | rfl<;>rfl
 obtain⟨m,j⟩:=av.fresh (cs:=cK K 0 0 0 0 0) a 43 zL rfl (fun q=>by cases q);exact⟨g,o,c,r.length+1,_,_,a,_,rfl,f,rfl,rfl,aa (aI (P:=DE) (cs:=cK K 0 0 0 0 0) a 43 zL rfl H (ty:=43) (by kernel_rfl)),aa ⟨d.lt,by omega⟩,aa m,aa (A.ext j),aa (z.ext j),aa (Kq.AI (e.trans j)),((aD e).1 _ _ (World.block_lt_of_cell? _ _ t)).trans t,m.cell (i:=0) rfl,by omega,by omega,by omega,by omega,aa rfl,l,u⟩
theorem yw (v:DG) (r:List Int) (w:DF) (hR:Rd w .u8 v (1 :: r)) (hb:bA r) (hl:r.length+1<=8000):
  DN DE 56 #[v] w fun e w'=>kF (cy (fY 1 (cT 0 (bo 8 (false,r)).1) (cT 0 (bo 8 (bo 8 (false,r)).2).1) (bo 8 (bo 8 (false,r)).2).2)) w e w':=by
 obtain⟨g,o,c,n,X,Y,W1,W3,rfl,b1,hX,hY,bT,E,ba,bp,bh,bO,cw,cH,cR,a3,c0,cZ,Hn,cY,cz⟩:=mC 1 hR hb hl;unfold DV at cz;obtain⟨pr,J⟩:=exq (cy (fY 1 (cT 0 (bo 8 (false,r)).1) (cT 0 (bo 8 (bo 8 (false,r)).2).1) (bo 8 (bo 8 (false,r)).2).2));rw[<-J];have ct:bA ((false,r):bB).2:=hb;obtain⟨i,s1,y0,a3,b7,bF,bv,cu⟩:=kb n X (nb:=8) (s:=((false,r):bB)) (by decide) (by decide) ct;rw[<-a3,<-b7]at J;clear a3 b7;obtain⟨G,s2,y1,cb,b8,bG,bw,cv⟩:=kb n X (nb:=8) (s:=s1) (by decide) (by decide) cu;rw[<-cb,<-b8]at J;clear cb b8;replace J:pr=cy ((⟨1,i,G,[],[],0,0,(bI iZ (cj 2 s2).1.toNat (cj 2 s2).2).1,0⟩:Cp),(bI iZ (cj 2 s2).1.toNat (cj 2 s2).2).2):=J;obtain⟨cI,s3,y2,b9,bH,bx,cU,ca⟩:=qx n X cv;rw[b9]at J;clear b9;obtain⟨cn,rfl⟩:=En ca.1;have cl:Hid (cn<=65535):=aa (by have:=ca.2;omega);simp only[Eo]at J;obtain⟨K,aw⟩:=exq ((bI iZ cn s3).1);obtain⟨t4,a2⟩:=exq ((bI iZ cn s3).2);rw[<-aw,<-a2]at J;have bQ:=aa (DT aw.symm a2.symm);clear aw a2;have D:=aa J;clear J;clear hR hb hl;go_enter GK,Gu
 go_wp2_with (with_reducible refine aA (ty:=5) ?_)
 refine au ?_;rw[<-b1,<-hX];clear b1 hX
 go_wp2_with (with_reducible refine aC (ty:=43) ?_)
 refine au ?_;refine ag rfl rfl bT ?_;rw[<-hY];clear hY bT cw
 go_wp2_with fail
 refine(aY 1 1 7 W3).mono ?_;rintro e c4 ⟨rfl,cE⟩;subst cE;rw[show wi 1 1 7=true from by decide,Ep];clear cH
 go_wp2_with fail
 refine(bF _ bp).mono ?_;rintro e cL ⟨v0,rfl,R,O,P⟩;have bC:=aa R;have bk:=aa O;obtain⟨az,bJ,bc⟩:=fQ E P ba bO bh;clear R O P bp ba bO bh
 go_wp2_with fail
 refine(bv _ _ bC).mono ?_;rintro e w' ⟨rfl,S⟩;rw[S];clear S bC bF bv;have qf:=az.cell (i:=1) (v:=.int .i64 0) rfl;have ff:=az.fz (i:=1) (show 1 < 9 by decide)
 go_wp2_with fail
 obtain⟨c2,Z⟩:=exq (cL.setCell ⟨Y,1,none⟩ (.int .i64 i));obtain⟨a9,bl,bL,be⟩:=ik (cs':=cK 1 i 0 0 0 0) Z E (by show 1 < 9;decide) rfl bk az bJ bc;rw[<-Z];clear Z qf ff bk bJ bc az;refine(bG _ bl).mono ?_;rintro e cM ⟨v1,rfl,R,O,P⟩;have bD:=aa R;have bm:=aa O;obtain⟨aB,bM,bf⟩:=fQ E P a9 bL be;clear R O P bl a9 bL be
 go_wp2_with fail
 refine(bw _ _ bD).mono ?_;rintro e w' ⟨rfl,S⟩;rw[S];clear S bD bG bw;have qf:=aB.cell (i:=2) (v:=.int .i64 0) rfl;have ff:=aB.fz (i:=2) (show 2 < 9 by decide)
 go_wp2_with (with_reducible refine aA (ty:=3) ?_)
 obtain⟨c3,Z⟩:=exq (cM.setCell ⟨Y,2,none⟩ (.int .i64 G));obtain⟨aK,bn,bN,bg⟩:=ik (cs':=cK 1 i G 0 0 0) Z E (by show 2 < 9;decide) rfl bm aB bM bf;rw[<-Z];clear Z qf ff bm bM bf aB;refine au ?_;have qk:=aK.cell (i:=0) (v:=.int .i64 1) rfl
 go_wp2_with fail
 clear qk;refine(bH _ bn).mono ?_;rintro e aJ ⟨v2,rfl,R,O,P⟩;have bE:=aa R;have cg:=aa O;obtain⟨aL,ck,cf⟩:=fQ E P aK bN bg;clear R O P bn aK bN bg
 go_wp2_with fail
 refine(bx _ _ bE).mono ?_;rintro e w' ⟨rfl,S⟩;rw[S];clear S bE bH bx;obtain⟨B,hB⟩:=exq aJ.heap.size;have U:Hid (Y < B/\B=aJ.heap.size):=aa ⟨by rw[hB];exact aL.lt,hB⟩;clear hB;have bt:Hid (GP cB 1 iI B aJ Y 7 ((cK 1 i G 0 0 0).set 7 (.slice none 0 0)) (.slice none 0 0) []):=aa (GP.start aL rfl)
 go_wp2_with fail
 go_loopw [6] (fun x wr=>∃(m:Nat) (f:bB) (F:DG) (M:List Bv),x=.int .i64 m/\Hid (GP cB 1 iI B wr Y 7 ((cK 1 i G 0 0 0).set 7 F) F M/\fq n wr X f/\M.map (fun y:Bv=>y.2)++(bI iZ m f).1=K/\(bI iZ m f).2=t4/\M.length+m<=65535)/\Hid (Kq (fun k=>k=X\/k=Y\/B<=k) aJ wr)) (fun x _=>(intOf x).toNat);case atStart=>exact⟨cn,s3,_,[],rfl,aa ⟨bt,cg,bQ.1,bQ.2,by have:=cl.out;simp only[EK];omega⟩,aa (Kq.refl _)⟩
 case round=>
  obtain⟨m,f,F,M,rfl,t,ad⟩:=hrel;have av:Hid (Kq (fun k=>w.heap.size<=k) w wr):=aa (ck.trans (ad.mono fun k _ q=>by have:=E.out;have:=U.out;omega));have al:=aa (ad.box (by have:=E.out;have:=U.out;omega) cf);have V:=aa t.2.1;have q2:=V.bad;have qk:=t.1.box.cell (i:=0) (v:=.int .i64 1) rfl;obtain⟨sh,a0⟩:=exq f.1;rw[<-a0]at q2;have aE:=aa a0.symm;clear a0 bt aL;by_cases hm:0 < m
  ·have cA:(0:Int) < (m:Int):=by omega
   cases sh
   ·clear qk;have aH:=j6 iZ m f hm aE;have aD:∀T,fq n T X f->DN DE 97 #[.pointer (some ⟨X,0,none⟩),.int .i64 16] T fun e w'=>∃F,e=.returned F/\Rd w' .u8 F (bo 16 f).1/\fq n w' X (bo 16 f).2/\Kq (fun k=>k=X) T w':=dD n X 16 f (by decide) (by decide)
    have hlen:(bo 16 f).1.length=16:=fV;have aZ:=(dd (n:=16) (s:=f) V.Ct).1;have aX:iZ f=([(bo 16 f).1],(bo 16 f).2):=rfl;obtain⟨st,a1⟩:=exq ((bo 16 f).1);obtain⟨sb,b6⟩:=exq ((bo 16 f).2);rw[<-a1,<-b6]at aD aX;rw[<-a1]at hlen aZ;rw[aX]at aH;have HN:Hid (M.map (fun y:Bv=>y.2)++([st]++(bI iZ (m - 1) sb).1)=K/\(bI iZ (m - 1) sb).2=t4):=aa ⟨by have h:=t.2.2.1;rw[aH]at h;exact h,by have h:=t.2.2.2.1;rw[aH]at h;exact h⟩;replace aD:=aa aD;have af:=aa (DT hlen aZ);have HG:=aa t.1;have Hm:=aa t.2.2.2.2;have bS:Hid (M.length+1<=DV/\(M.length+1)*24<=140737488355328):=aa (by have:=Hm.out;unfold DV;omega);have cX:(m:Int)<=65535:=by have:=Hm.out;omega
    have H:Hid (B<=wr.heap.size/\X < wr.heap.size/\X < B):=aa ⟨by have:=ad.size;have:=U.2;omega,V.lt,by have:=E.out;have:=U.out;omega⟩;have co:Hid (∀T,Kq (fun k=>k=X\/B<=k) wr T->T.cell? ⟨Y,7,none⟩=some F):=aa fun T h=>h.cell (by have:=E.out;have:=U.out;omega) HG.cell
    clear t;clear aH aX a1 b6 hlen aZ
    go_wp2_with fail
    clear q2;apply ay (Kq (fun k=>k=X\/B<=k)) (JB n B X Y 7 ((cK 1 i G 0 0 0).set 7 F) F M f sb st wr) 9 [75,76,77,78,79,80,81,82,83] [ar _,ar _,bK,ar _,bK,bK,bK,bK,ar _] (fun w=>Kq.refl w) (fun a b c h k=>Kq.trans h k) (by kernel_rfl) (by kernel_rfl) (by kernel_rfl) (by kernel_rfl);case hsteps=>
     refine⟨?_,?_,?_,?_,?_,?_,?_,?_,?_,trivial⟩;all_goals
      intro d ev w1 ax A z C I hb N;replace z:=aa z;replace A:=aa A;replace C:=aa C;replace I:=aa I;have W:=hb 4 (by decide);have e5:=hb 5 (by decide);clear hb;simp only[sB]at W e5;simp only[sG]at N;have c7:=co _ ax;rw[if_pos (rfl:DP _ _=true)];first
      | (obtain⟨cP,o9,c9,cF,_,_,_,cD,_⟩:=Rd.pos (A.e (z 4 (by kernel_rfl)) I) (by rw[af.out.1];decide);have cC:=A.c (z 2 (by kernel_rfl)) I;have aw:=ax.size;(with_reducible refine dy (m:=st.length) (c:=c9) aO cC cD ?_ (aF _ _) ?_ ?_ ?_ aw ?_ ?_ ?_);rw[ints_length,Nat.mul_one];rw[af.out.1];decide;rw[af.out.1];decide;rw[af.out.1];decide;rfl;exact cF;exact fun F w' k1 k2 k3=>⟨(A.ap (z 2 (by kernel_rfl)) (z 4 (by kernel_rfl)) I (C 6 (by kernel_rfl)) (C 7 (by kernel_rfl)) H.2.1 H.1 k1 k2).1,trivial,(A.ap (z 2 (by kernel_rfl)) (z 4 (by kernel_rfl)) I (C 6 (by kernel_rfl)) (C 7 (by kernel_rfl)) H.2.1 H.1 k1 k2).2⟩) | ((with_reducible refine cG (v:=ev 80) xU (by decide) ?_ (A.out.f1 (z.out 4 (by kernel_rfl)) (z.out 5 (by kernel_rfl)) I.out (C.out 7 (by kernel_rfl)) HG.out H.out.1 E.out.1 H.out.2.2 af.out.2).size ?_);rfl;exact⟨Kq.AI (ae _ _),trivial,A.bd (z 4 (by kernel_rfl)) (z 5 (by kernel_rfl)) I (C 7 (by kernel_rfl)) HG H.1 E.1 H.2.2 af.2 _⟩) | ((with_reducible refine mf xU br H.out.2.2 E.out.1 (A.out.g (z.out 6 (by kernel_rfl)) I.out) ?_ ?_ bS.out.1 bS.out.2 ?_);rfl;exact(by first | ((repeat(first | exact N | exact N.2 | replace N:=N.1));done) | (repeat(first | exact N | exact N.1 | replace N:=N.2)));exact fun F w' k1 k2=>⟨k1,trivial,JB.app (z 4 (by kernel_rfl)) (z 5 (by kernel_rfl)) (z 6 (by kernel_rfl)) k2⟩)
      | (go_simp;first | exact⟨Kq.refl _,rfl,A.same (by decide)⟩ | exact⟨Kq.AI (ae _ _),trivial,A.mk' (C 5 (by kernel_rfl)) (C 6 (by kernel_rfl)) (C 7 (by kernel_rfl)) _⟩ | (go_at_call 97;have cx:=aD w1 (A.a I);(with_reducible refine cx.mono ?_);rintro e T ⟨v9,rfl,k1,k2,k3⟩;exact⟨_,rfl,k3.mono fun _ _ q=>.inl q,trivial,A.tk (C 5 (by kernel_rfl)) (C 6 (by kernel_rfl)) (C 7 (by kernel_rfl)) H.2.1 k1 k2 k3⟩) | exact⟨DI _ _,rfl,HJ.same (by decide) A⟩)
    case hmono=>exact mR
    case hR0=>exact Kq.drew _
    case hend=>
     intro u w1 ax hJ hend;simp only[sE]at hend;simp only[sF,hend];obtain⟨y,p,c9,hu,hp,cV,cW,bX,bU⟩:=hJ.h rfl;have bs:=aa bX;have bj:=aa bU;have HK:=aa ax;have Hp:=aa hp;rw[hu]at bs bj;simp only[hu];clear bX bU ax hend hJ hu hp
     go_wp2_with fail
     go_roundw;case rel=>exact⟨m - 1,sb,.slice p (M.length+1) c9,M++[y],by go_num,aa ⟨by have h:=bs.out;rw[FZ]at h;exact h,bj,by rw[List.map_append,Em];have h:=HN.1;rw[<-Hp.out]at h;exact h,HN.2,by rw[DS,Ez];have:=Hm.out;omega⟩,aa (ad.trans ((HK.mono fun k _ q=>q.elim .inl fun q=>.inr (.inr q)).setCell (Q:=fun k=>k=X\/k=Y\/B<=k) ⟨Y,7,none⟩ (.inr (.inl rfl)) _))⟩
     case measure=>simp[intOf];omega
    case hJ0=>exact JB.start (V.kept (Q:=fun _=>False) (Kq.drew _) (fun _ _ q=>q)) (Kq.drew _)
   ·have ac:=ew iZ m f aE;have HM:Hid (M.map (fun y:Bv=>y.2)=K):=aa (by have h:=t.2.2.1;rw[ac,Ew]at h;exact h);have W:f=t4:=by have h:=t.2.2.2.1;rw[ac]at h;exact h
    have hle:Y<=B:=F7 U.1;have HL:Hid (ug wr Y Y ⟨1,i,G,[],[],0,0,K,0⟩):=aa ⟨_,_,F,[],t.1.box,aS.nil _,aS.nil _,fun x hx=>(by cases hx),rfl,M,t.1.Cy hle,t.1.CQ br hle,HM⟩;have ao:pr=cy ((⟨1,i,G,[],[],0,0,K,0⟩:Cp),f):=by rw[W];exact D
    replace D:=aa ao;clear ao W ac HM hle t ad;have j:=aa (lu (pr:=pr) (k:=2) al av (by rw[D.out];unfold cy;exact if_pos aE));clear D HL V
    go_wp2_with ((with_reducible refine ag ?_ ?_ j.out.1 ?_);rfl;rfl)
    exact DK (aj rfl rfl j.2.1 rfl) rfl j.2.2
  ·have cA:¬((0:Int) < (m:Int)):=by omega
   have ac:bI iZ m f=([],f):=by
    obtain rfl:m=0:=by omega
    rfl
   clear q2 aE;have HM:Hid (M.map (fun y:Bv=>y.2)=K):=aa (by have h:=t.2.2.1;rw[ac,Ew]at h;exact h);have W:f=t4:=by have h:=t.2.2.2.1;rw[ac]at h;exact h
   have hle:Y<=B:=F7 U.1;have HL:Hid (ug wr Y Y ⟨1,i,G,[],[],0,0,K,0⟩):=aa ⟨_,_,F,[],t.1.box,aS.nil _,aS.nil _,fun x hx=>(by cases hx),rfl,M,t.1.Cy hle,t.1.CQ br hle,HM⟩;have ao:pr=cy ((⟨1,i,G,[],[],0,0,K,0⟩:Cp),f):=by rw[W];exact D
   replace D:=aa ao;clear ao W ac HM hle t ad;obtain⟨l,b5⟩:=exq ((⟨1,i,G,[],[],0,0,K,0⟩:Cp));rw[<-b5]at HL D;clear b5;obtain⟨at',qb,qa,aP⟩:=r9 V;obtain⟨sh,rest⟩:=f;simp only at qb aP;clear V;cases sh with
   | true=>
    have j:=aa (lu (pr:=pr) (k:=2) al av (D.trans (r6 _ _)));clear D
    go_wp2_with ((with_reducible refine ag ?_ ?_ j.out.1 ?_);rfl;rfl)
    exact DK (aj rfl rfl j.2.1 rfl) rfl j.2.2
   | false=>
    by_cases h0:at' < n
    ·have cs:(at':Int) < (n:Int):=by omega
     have j:=aa (lu (pr:=pr) (k:=4) al av (D.trans (r7 (by have:=aP.1;omega))));clear D
     go_wp2_with ((with_reducible refine ag ?_ ?_ j.out.1 ?_);rfl;rfl)
     exact DK (aj rfl rfl j.2.1 rfl) rfl j.2.2
    ·have cs:¬((at':Int) < (n:Int)):=by omega
     have aq:=aa (D.trans (r8 (by have:=aP.1;omega)));obtain⟨vp,vs,vb,L,bb,bq,bR,bu⟩:=sc HL;clear D h0 HL
     go_wp2_with ((with_reducible refine ak ?_ bR.out ?_);rfl)
     refine(bV _ l _ bu).mono ?_;rintro e w8 ⟨rfl,bW⟩;obtain⟨ce,bi,bP,ch⟩:=sd bW bb al av bq;clear bW bb al av bq bR bu qb qa;obtain⟨K9,aV⟩:=exq (aW l);rw[<-aV]at aq;rw[<-aV];clear aV;by_cases bZ:K9=0
     ·subst bZ;have j:=aa (zM E ce ch bi bP aq);clear aq;rw[show((0:Nat):Int)=0 from rfl]
      go_wp2_with first | ((with_reducible refine ak ?_ j.out.1 ?_);rfl) | ((with_reducible refine ag ?_ ?_ j.out.2.1 ?_);rfl;rfl)
      exact DK (aj rfl rfl j.2.2.1 rfl) rfl j.2.2.2
     ·have cS:¬((K9:Int)=0):=by omega
      have j:=aa (lu (pr:=pr) (k:=K9) bi bP (by rw[aq.out,if_neg bZ]));clear aq
      go_wp2_with ((with_reducible refine ag ?_ ?_ j.out.1 ?_);rfl;rfl)
      exact DK (aj rfl rfl j.2.1 rfl) rfl j.2.2
theorem yx (v:DG) (r:List Int) (w:DF) (hR:Rd w .u8 v (2 :: r)) (H:bA r) (hl:r.length+1<=8000):
  DN DE 56 #[v] w fun e w'=>kF (cy (fY 2 (cT 0 (bo 8 (false,r)).1) (cT 0 (bo 8 (bo 8 (false,r)).2).1) (bo 8 (bo 8 (false,r)).2).2)) w e w':=by
 obtain⟨g,o,c,n,X,Y,W1,W3,rfl,az,hX,hY,av,j,M,Z,R,ap,aQ,aT,a2,I,a7,a6,Hn,a5,aR⟩:=mC 2 hR H hl;unfold DV at aR;obtain⟨pr,f⟩:=exq (cy (fY 2 (cT 0 (bo 8 (false,r)).1) (cT 0 (bo 8 (bo 8 (false,r)).2).1) (bo 8 (bo 8 (false,r)).2).2));rw[<-f];have aO:bA ((false,r):bB).2:=H;obtain⟨i,s1,y0,I,aG,ai,ad,aP⟩:=kb n X (nb:=8) (s:=((false,r):bB)) (by decide) (by decide) aO;rw[<-I,<-aG]at f;clear I aG;obtain⟨u,s2,y1,aI,aH,al,ae,a4⟩:=kb n X (nb:=8) (s:=s1) (by decide) (by decide) aP;rw[<-aI,<-aH]at f;clear aI aH;replace f:pr=cy ((⟨2,i,u,[],[],0,0,[],0⟩:Cp),s2):=f;have b:=aa f;clear f;clear hR H hl;go_enter GK,Gu
 go_wp2_with (with_reducible refine aA (ty:=5) ?_)
 refine au ?_;rw[<-az,<-hX];clear az hX
 go_wp2_with (with_reducible refine aC (ty:=43) ?_)
 refine au ?_;refine ag rfl rfl av ?_;rw[<-hY];clear hY av aQ
 go_wp2_with fail
 refine(aY 2 1 7 W3).mono ?_;rintro e ba ⟨rfl,aS⟩;subst aS;rw[show wi 2 1 7=true from by decide,Ep];clear aT
 go_wp2_with fail
 refine(ai _ Z).mono ?_;rintro e aV ⟨v0,rfl,q,m,p⟩;have af:=aa q;have T:=aa m;obtain⟨x,am,O⟩:=fQ j p M ap R;clear q m p Z M ap R
 go_wp2_with fail
 refine(ad _ _ af).mono ?_;rintro e w' ⟨rfl,t⟩;rw[t];clear t af ai ad;have J:=x.cell (i:=1) (v:=.int .i64 0) rfl;have F:=x.fz (i:=1) (show 1 < 9 by decide)
 go_wp2_with fail
 obtain⟨a9,d⟩:=exq (aV.setCell ⟨Y,1,none⟩ (.int .i64 i));obtain⟨K,U,an,P⟩:=ik (cs':=cK 2 i 0 0 0 0) d j (by show 1 < 9;decide) rfl T x am O;rw[<-d];clear d J F T am O x;refine(al _ U).mono ?_;rintro e aX ⟨v1,rfl,q,m,p⟩;have ah:=aa q;have V:=aa m;obtain⟨y,ao,Q⟩:=fQ j p K an P;clear q m p U K an P
 go_wp2_with fail
 refine(ae _ _ ah).mono ?_;rintro e w' ⟨rfl,t⟩;rw[t];clear t ah al ae;have J:=y.cell (i:=2) (v:=.int .i64 0) rfl;have F:=y.fz (i:=2) (show 2 < 9 by decide)
 go_wp2_with (with_reducible refine aA (ty:=3) ?_)
 obtain⟨aZ,d⟩:=exq (aX.setCell ⟨Y,2,none⟩ (.int .i64 u));obtain⟨B,W,A,z⟩:=ik (cs':=cK 2 i u 0 0 0) d j (by show 2 < 9;decide) rfl V y ao Q;rw[<-d];clear d J F V ao Q y;refine au ?_;have qk:=B.cell (i:=0) (v:=.int .i64 2) rfl;have C:Hid (ug aZ Y Y ⟨2,i,u,[],[],0,0,[],0⟩):=aa ⟨_,_,_,[],B,bZ.nil _ _ _ _ _ _ _ _⟩;clear B;obtain⟨l,aF⟩:=exq ((⟨2,i,u,[],[],0,0,[],0⟩:Cp));rw[<-aF]at C b;clear aF;obtain⟨at',qb,qa,D⟩:=r9 W;obtain⟨sh,rest⟩:=s2;simp only at qb D;clear W;cases sh with
 | true=>
  have a:=aa (lu (pr:=pr) (k:=2) z A (b.trans (r6 _ _)));clear b
  go_wp2_with ((with_reducible refine ag ?_ ?_ a.out.1 ?_);rfl;rfl)
  exact DK (aj rfl rfl a.2.1 rfl) rfl a.2.2
 | false=>
  by_cases h0:at' < n
  ·have aN:(at':Int) < (n:Int):=by omega
   have a:=aa (lu (pr:=pr) (k:=4) z A (b.trans (r7 (by have:=D.1;omega))));clear b
   go_wp2_with ((with_reducible refine ag ?_ ?_ a.out.1 ?_);rfl;rfl)
   exact DK (aj rfl rfl a.2.1 rfl) rfl a.2.2
  ·have aN:¬((at':Int) < (n:Int)):=by omega
   have h:=aa (b.trans (r8 (by have:=D.1;omega)));obtain⟨vp,vs,vb,L,N,ab,ar,ac⟩:=sc C;clear b h0 C
   go_wp2_with ((with_reducible refine ak ?_ ar.out ?_);rfl)
   refine(bV _ l _ ac).mono ?_;rintro e w8 ⟨rfl,aw⟩;obtain⟨aK,S,aq,aL⟩:=sd aw N z A ab;clear aw N z A ab ar ac qb qa;obtain⟨E,G⟩:=exq (aW l);rw[<-G]at h;rw[<-G];clear G;by_cases ax:E=0
   ·subst ax;have a:=aa (zM j aK aL S aq h);clear h;rw[show((0:Nat):Int)=0 from rfl]
    go_wp2_with first | ((with_reducible refine ak ?_ a.out.1 ?_);rfl) | ((with_reducible refine ag ?_ ?_ a.out.2.1 ?_);rfl;rfl)
    exact DK (aj rfl rfl a.2.2.1 rfl) rfl a.2.2.2
   ·have a3:¬((E:Int)=0):=by omega
    have a:=aa (lu (pr:=pr) (k:=E) S aq (by rw[h.out,if_neg ax]));clear h
    go_wp2_with ((with_reducible refine ag ?_ ?_ a.out.1 ?_);rfl;rfl)
    exact DK (aj rfl rfl a.2.1 rfl) rfl a.2.2
theorem yy (v:DG) (r:List Int) (w:DF) (hR:Rd w .u8 v (3 :: r)) (hb:bA r) (hl:r.length+1<=8000):
  DN DE 56 #[v] w fun e w'=>kF (cy (fY 3 (cT 0 (bo 8 (false,r)).1) (cT 0 (bo 8 (bo 8 (false,r)).2).1) (bo 8 (bo 8 (false,r)).2).2)) w e w':=by
 obtain⟨g,o,c,n,X,Y,W1,W3,rfl,b0,hX,hY,bR,C,a8,bm,bf,bM,cx,cD,cN,aZ,cW,cV,Hn,cU,cz⟩:=mC 3 hR hb hl;unfold DV at cz;obtain⟨pr,H⟩:=exq (cy (fY 3 (cT 0 (bo 8 (false,r)).1) (cT 0 (bo 8 (bo 8 (false,r)).2).1) (bo 8 (bo 8 (false,r)).2).2));rw[<-H];have ct:bA ((false,r):bB).2:=hb;obtain⟨i,s1,y0,aZ,b5,bD,bt,cu⟩:=kb n X (nb:=8) (s:=((false,r):bB)) (by decide) (by decide) ct;rw[<-aZ,<-b5]at H;clear aZ b5;obtain⟨G,s2,y1,b9,b6,bE,bu,cv⟩:=kb n X (nb:=8) (s:=s1) (by decide) (by decide) cu;rw[<-b9,<-b6]at H;clear b9 b6;replace H:pr=cy ((⟨3,i,G,(bI qz (cj 1 s2).1.toNat (cj 1 s2).2).1,[],0,0,[],0⟩:Cp),(bI qz (cj 1 s2).1.toNat (cj 1 s2).2).2):=H;obtain⟨cI,s3,y2,b7,bF,bv,cP,b8⟩:=xu n X cv;rw[b7]at H;clear b7;obtain⟨cn,rfl⟩:=En b8.1;have ck:Hid (cn<=255):=aa (by have:=b8.2;omega);simp only[Eo]at H;obtain⟨I,aP⟩:=exq ((bI qz cn s3).1);obtain⟨t4,aX⟩:=exq ((bI qz cn s3).2);rw[<-aP,<-aX]at H;have bO:=aa (DT aP.symm aX.symm);clear aP aX;have A:=aa H;clear H;clear hR hb hl;go_enter GK,Gu
 go_wp2_with (with_reducible refine aA (ty:=5) ?_)
 refine au ?_;rw[<-b0,<-hX];clear b0 hX
 go_wp2_with (with_reducible refine aC (ty:=43) ?_)
 refine au ?_;refine ag rfl rfl bR ?_;rw[<-hY];clear hY bR cx
 go_wp2_with fail
 refine(aY 3 1 7 W3).mono ?_;rintro e cZ ⟨rfl,cC⟩;subst cC;rw[show wi 3 1 7=true from by decide,Ep];clear cD
 go_wp2_with fail
 refine(bD _ bm).mono ?_;rintro e cF ⟨v0,rfl,T,R,S⟩;have bx:=aa T;have bi:=aa R;obtain⟨ao,bG,ba⟩:=fQ C S a8 bM bf;clear T R S bm a8 bM bf
 go_wp2_with fail
 refine(bt _ _ bx).mono ?_;rintro e w' ⟨rfl,U⟩;rw[U];clear U bx bD bt;have qf:=ao.cell (i:=1) (v:=.int .i64 0) rfl;have ff:=ao.fz (i:=1) (show 1 < 9 by decide)
 go_wp2_with fail
 obtain⟨cX,Z⟩:=exq (cF.setCell ⟨Y,1,none⟩ (.int .i64 i));obtain⟨a7,bj,bH,bb⟩:=ik (cs':=cK 3 i 0 0 0 0) Z C (by show 1 < 9;decide) rfl bi ao bG ba;rw[<-Z];clear Z qf ff bi bG ba ao;refine(bE _ bj).mono ?_;rintro e cH ⟨v1,rfl,T,R,S⟩;have bz:=aa T;have bk:=aa R;obtain⟨ap,bJ,bc⟩:=fQ C S a7 bH bb;clear T R S bj a7 bH bb
 go_wp2_with fail
 refine(bu _ _ bz).mono ?_;rintro e w' ⟨rfl,U⟩;rw[U];clear U bz bE bu;have qf:=ap.cell (i:=2) (v:=.int .i64 0) rfl;have ff:=ap.fz (i:=2) (show 2 < 9 by decide)
 go_wp2_with (with_reducible refine aA (ty:=3) ?_)
 obtain⟨cY,Z⟩:=exq (cH.setCell ⟨Y,2,none⟩ (.int .i64 G));obtain⟨aF,bl,bL,be⟩:=ik (cs':=cK 3 i G 0 0 0) Z C (by show 2 < 9;decide) rfl bk ap bJ bc;rw[<-Z];clear Z qf ff bk bJ bc ap;refine au ?_;have qk:=aF.cell (i:=0) (v:=.int .i64 3) rfl
 go_wp2_with fail
 clear qk;refine(bF _ bl).mono ?_;rintro e aE ⟨v2,rfl,T,R,S⟩;have bC:=aa T;have cf:=aa R;obtain⟨aG,ci,ce⟩:=fQ C S aF bL be;clear T R S bl aF bL be
 go_wp2_with fail
 refine(bv _ _ bC).mono ?_;rintro e w' ⟨rfl,U⟩;rw[U];clear U bC bF bv;obtain⟨B,hB⟩:=exq aE.heap.size;have V:Hid (Y < B/\B=aE.heap.size):=aa ⟨by rw[hB];exact aG.lt,hB⟩;clear hB;have br:Hid (GP cI 1 jb B aE Y 3 ((cK 3 i G 0 0 0).set 3 (.slice none 0 0)) (.slice none 0 0) []):=aa (GP.start aG rfl)
 go_wp2_with fail
 go_loopw [7] (fun x wr=>∃(m:Nat) (j:bB) (D:DG) (M:List Int),x=.int .i64 m/\Hid (GP cI 1 jb B wr Y 3 ((cK 3 i G 0 0 0).set 3 D) D M/\fq n wr X j/\M++(bI qz m j).1=I/\(bI qz m j).2=t4/\M.length+m<=255)/\Hid (Kq (fun k=>k=X\/k=Y\/B<=k) aE wr)) (fun x _=>(intOf x).toNat);case atStart=>exact⟨cn,s3,_,[],rfl,aa ⟨br,cf,bO.1,bO.2,by have:=ck.out;simp only[EK];omega⟩,aa (Kq.refl _)⟩
 case round=>
  obtain⟨m,j,D,M,rfl,z,ad⟩:=hrel;have an:Hid (Kq (fun k=>w.heap.size<=k) w wr):=aa (ci.trans (ad.mono fun k _ q=>by have:=C.out;have:=V.out;omega));have af:=aa (ad.box (by have:=C.out;have:=V.out;omega) ce);have O:=aa z.2.1;have q2:=O.bad;have qk:=z.1.box.cell (i:=0) (v:=.int .i64 3) rfl;obtain⟨sh,aU⟩:=exq j.1;rw[<-aU]at q2;have aw:=aa aU.symm;clear aU br aG;by_cases hm:0 < m
  ·have cA:(0:Int) < (m:Int):=by omega
   cases sh
   ·clear qk;have aB:=j6 qz m j hm aw;have av:∀N,fq n N X j->DN DE 97 #[.pointer (some ⟨X,0,none⟩),.int .i64 2] N fun e w'=>∃D,e=.returned D/\Rd w' .u8 D (bo 2 j).1/\fq n w' X (bo 2 j).2/\Kq (fun k=>k=X) N w':=dD n X 2 j (by decide) (by decide)
    have hlen:(bo 2 j).1.length=2:=fV;have cw:=(dd (n:=2) (s:=j) O.Ct).1;have aO:qz j=([(cj 2 j).1],(bo 2 j).2):=rfl;have aq:rz (bo 2 j).1 (cj 2 j).1:=kH j O.Ct;obtain⟨nn,aR⟩:=exq ((cj 2 j).1);obtain⟨st,aV⟩:=exq ((bo 2 j).1);obtain⟨sb,aT⟩:=exq ((bo 2 j).2);rw[<-aV,<-aT]at av;rw[<-aR,<-aT]at aO;rw[<-aV,<-aR]at aq;rw[aO]at aB;have HN:Hid (M++([nn]++(bI qz (m - 1) sb).1)=I/\(bI qz (m - 1) sb).2=t4):=aa ⟨by have h:=z.2.2.1;rw[aB]at h;exact h,by have h:=z.2.2.2.1;rw[aB]at h;exact h⟩;replace av:=aa av;replace aq:=aa aq;have HG:=aa z.1;have Hm:=aa z.2.2.2.2;have bQ:Hid (M.length+1<=DV/\(M.length+1)*8<=140737488355328):=aa (by have:=Hm.out;unfold DV;omega);have cS:(m:Int)<=255:=by have:=Hm.out;omega
    have aH:Hid (B<=wr.heap.size/\X < wr.heap.size/\X < B):=aa ⟨by have:=ad.size;have:=V.2;omega,O.lt,by have:=C.out;have:=V.out;omega⟩;have cm:Hid (∀N,Kq (fun k=>k=X\/B<=k) wr N->N.cell? ⟨Y,3,none⟩=some D):=aa fun N h=>h.cell (by have:=C.out;have:=V.out;omega) HG.cell
    clear z;clear aB aO aV aT hlen cw aR
    go_wp2_with fail
    clear q2;apply ay (Kq (fun k=>k=X\/B<=k)) (JI n B X Y 3 ((cK 3 i G 0 0 0).set 3 D) D M j sb st nn) 8 [101,102,103,104,105,106,107,108] [ar _,ar _,ar _,bK,bK,bK,bK,ar _] (fun w=>Kq.refl w) (fun a b c h k=>Kq.trans h k) (by kernel_rfl) (by kernel_rfl) (by kernel_rfl) (by kernel_rfl);case hsteps=>
     refine⟨?_,?_,?_,?_,?_,?_,?_,?_,trivial⟩;all_goals
      intro d ev w1 az E F P K hb J;replace F:=aa F;replace E:=aa E;replace P:=aa P;replace K:=aa K;have W:=hb 4 (by decide);have e5:=hb 5 (by decide);clear hb;simp only[sB]at W e5;simp only[sG]at J;have c7:=cm _ az;rw[if_pos (rfl:DP _ _=true)];first
      | ((with_reducible refine cG (v:=ev 105) za (by decide) ?_ (E.out.c (F.out 4 (by kernel_rfl)) K.out).size ?_);rfl;exact⟨Kq.AI (ae _ _),trivial,E.bd (F 3 (by kernel_rfl)) (F 4 (by kernel_rfl)) K (P 6 (by kernel_rfl)) _⟩) | ((with_reducible refine mf za bX aH.out.2.2 C.out.1 (E.out.e (F.out 5 (by kernel_rfl)) K.out) ?_ ?_ bQ.out.1 bQ.out.2 ?_);rfl;exact(by first | ((repeat(first | exact J | exact J.2 | replace J:=J.1));done) | (repeat(first | exact J | exact J.1 | replace J:=J.2)));exact fun D w' k1 k2=>⟨k1,trivial,JI.app (F 3 (by kernel_rfl)) (F 4 (by kernel_rfl)) (F 5 (by kernel_rfl)) k2⟩)
      | (go_simp;first | exact⟨Kq.refl _,rfl,E.same (by decide)⟩ | (go_at_call 97;have aQ:=av w1 (E.a K).1;(with_reducible refine aQ.mono ?_);rintro e N ⟨v9,rfl,k1,k2,k3⟩;exact⟨_,rfl,k3.mono fun _ _ q=>.inl q,trivial,E.tk K (P 4 (by kernel_rfl)) (P 5 (by kernel_rfl)) (P 6 (by kernel_rfl)) C.1 aH.2.2 k1 k2 k3⟩) | (go_at_call 96;have aQ:=aq _ w1 (E.b (F 3 (by kernel_rfl)) K).1;(with_reducible refine aQ.mono ?_);rintro e N ⟨rfl,cB⟩;rw[cB];exact⟨_,rfl,Kq.refl _,trivial,E.nm (F 3 (by kernel_rfl)) K (P 5 (by kernel_rfl)) (P 6 (by kernel_rfl))⟩) | exact⟨DI _ _,rfl,HJ.same (by decide) E⟩)
    case hmono=>exact mR
    case hR0=>exact Kq.drew _
    case hend=>
     intro u w1 az hJ hend;simp only[sE]at hend;simp only[sF,hend];obtain⟨y,p,c9,hu,hp,cQ,cR,bU,bS⟩:=hJ.f rfl;have bq:=aa bU;have bh:=aa bS;have HK:=aa az;have Hp:=aa hp;rw[hu]at bq bh;simp only[hu];clear bU bS az hend hJ hu hp
     go_wp2_with fail
     go_roundw;case rel=>exact⟨m - 1,sb,.slice p (M.length+1) c9,M++[y],by go_num,aa ⟨by have h:=bq.out;rw[FZ]at h;exact h,bh,by rw[Em];have h:=HN.1;rw[<-Hp.out]at h;exact h,HN.2,by rw[DS,Ez];have:=Hm.out;omega⟩,aa (ad.trans ((HK.mono fun k _ q=>q.elim .inl fun q=>.inr (.inr q)).setCell (Q:=fun k=>k=X\/k=Y\/B<=k) ⟨Y,3,none⟩ (.inr (.inl rfl)) _))⟩
     case measure=>simp[intOf];omega
    case hJ0=>exact JI.start ⟨O.kept (Q:=fun _=>False) (Kq.drew _) (fun _ _ q=>q),HG.kept (Q:=fun _=>False) bX (Kq.drew _) (fun q=>q) (fun _ _ q=>q),aH.1⟩
   ·have ac:=ew qz m j aw;have HM:Hid (M=I):=aa (by have h:=z.2.2.1;rw[ac,Ew]at h;exact h);have W:j=t4:=by have h:=z.2.2.2.1;rw[ac]at h;exact h
    have hle:Y<=B:=F7 V.1;have HL:Hid (ug wr Y Y ⟨3,i,G,I,[],0,0,[],0⟩):=aa ⟨D,_,_,[],z.1.box,(by have h:=z.1.Cy hle;rw[qU]at h;have hm:=HM.out;rw[<-hm];exact h),aS.nil _,fun x hx=>(by cases hx),rfl,[],aS.nil _,fun x hx=>(by cases hx),rfl⟩;have al:pr=cy ((⟨3,i,G,I,[],0,0,[],0⟩:Cp),j):=by rw[W];exact A
    replace A:=aa al;clear al W ac HM hle z ad;have t:=aa (lu (pr:=pr) (k:=2) af an (by rw[A.out];unfold cy;exact if_pos aw));clear A HL O
    go_wp2_with ((with_reducible refine ag ?_ ?_ t.out.1 ?_);rfl;rfl)
    exact DK (aj rfl rfl t.2.1 rfl) rfl t.2.2
  ·have cA:¬((0:Int) < (m:Int)):=by omega
   have ac:bI qz m j=([],j):=by
    obtain rfl:m=0:=by omega
    rfl
   clear q2 aw;have HM:Hid (M=I):=aa (by have h:=z.2.2.1;rw[ac,Ew]at h;exact h);have W:j=t4:=by have h:=z.2.2.2.1;rw[ac]at h;exact h
   have hle:Y<=B:=F7 V.1;have HL:Hid (ug wr Y Y ⟨3,i,G,I,[],0,0,[],0⟩):=aa ⟨D,_,_,[],z.1.box,(by have h:=z.1.Cy hle;rw[qU]at h;have hm:=HM.out;rw[<-hm];exact h),aS.nil _,fun x hx=>(by cases hx),rfl,[],aS.nil _,fun x hx=>(by cases hx),rfl⟩;have al:pr=cy ((⟨3,i,G,I,[],0,0,[],0⟩:Cp),j):=by rw[W];exact A
   replace A:=aa al;clear al W ac HM hle z ad;obtain⟨l,b4⟩:=exq ((⟨3,i,G,I,[],0,0,[],0⟩:Cp));rw[<-b4]at HL A;clear b4;obtain⟨at',qb,qa,aJ⟩:=r9 O;obtain⟨sh,rest⟩:=j;simp only at qb aJ;clear O;cases sh with
   | true=>
    have t:=aa (lu (pr:=pr) (k:=2) af an (A.trans (r6 _ _)));clear A
    go_wp2_with ((with_reducible refine ag ?_ ?_ t.out.1 ?_);rfl;rfl)
    exact DK (aj rfl rfl t.2.1 rfl) rfl t.2.2
   | false=>
    by_cases h0:at' < n
    ·have cs:(at':Int) < (n:Int):=by omega
     have t:=aa (lu (pr:=pr) (k:=4) af an (A.trans (r7 (by have:=aJ.1;omega))));clear A
     go_wp2_with ((with_reducible refine ag ?_ ?_ t.out.1 ?_);rfl;rfl)
     exact DK (aj rfl rfl t.2.1 rfl) rfl t.2.2
    ·have cs:¬((at':Int) < (n:Int)):=by omega
     have am:=aa (A.trans (r8 (by have:=aJ.1;omega)));obtain⟨vp,vs,vb,L,a9,bn,bP,bs⟩:=sc HL;clear A h0 HL
     go_wp2_with ((with_reducible refine ak ?_ bP.out ?_);rfl)
     refine(bV _ l _ bs).mono ?_;rintro e w8 ⟨rfl,bT⟩;obtain⟨cd,bg,bN,cg⟩:=sd bT a9 af an bn;clear bT a9 af an bn bP bs qb qa;obtain⟨K9,aN⟩:=exq (aW l);rw[<-aN]at am;rw[<-aN];clear aN;by_cases bY:K9=0
     ·subst bY;have t:=aa (zM C cd cg bg bN am);clear am;rw[show((0:Nat):Int)=0 from rfl]
      go_wp2_with first | ((with_reducible refine ak ?_ t.out.1 ?_);rfl) | ((with_reducible refine ag ?_ ?_ t.out.2.1 ?_);rfl;rfl)
      exact DK (aj rfl rfl t.2.2.1 rfl) rfl t.2.2.2
     ·have cO:¬((K9:Int)=0):=by omega
      have t:=aa (lu (pr:=pr) (k:=K9) bg bN (by rw[am.out,if_neg bY]));clear am
      go_wp2_with ((with_reducible refine ag ?_ ?_ t.out.1 ?_);rfl;rfl)
      exact DK (aj rfl rfl t.2.1 rfl) rfl t.2.2
end Go.Proofs.Bl
