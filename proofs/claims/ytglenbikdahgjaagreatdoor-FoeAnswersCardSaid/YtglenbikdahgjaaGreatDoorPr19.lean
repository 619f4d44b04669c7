/- Texts that stood apart, in one: FoeBp, FoeBa, FoeBb, FoeBc. -/
import Derived.Test.YtglenbikdahgjaaGreatDoorPr18
set_option maxRecDepth 100000
set_option maxHeartbeats 16000000
open And renaming intro->DT
open Go renaming Calls->DN,Value->DG,World->DF,bodyPost_ret->DK,maxLen->DV
open Go.Instr renaming loadAt->Fm,storeAt->Fb
open Go.Region renaming wanted->DP
open Go.RowKit.Below renaming refl->DI,trans->Ei
open Go.World renaming size_alloc->DO
open List renaming eraseIdx_eq_take_drop_succ->E5,getD_eq_getElem?_getD->DJ,length_eq_zero_iff->Ed,length_eraseIdx_of_lt->Ht,length_map->D2,map_append->EF,mem_cons->Es,mem_of_mem_eraseIdx->Iq,not_mem_nil->ED
open Nat renaming le_of_eq->E9,le_refl->DH,zero_add->DY
namespace Go.Proofs.Bl
open Go Go.RowKit Go.Proofs
open Go.Proofs.Tryz renaming func33->GJ,func57->FH,ntmps33->Gt,ntmps57->Fv,prog->DE,underlying26->DQ,underlying43->DU,underlying65->FK
variable {D P Q R:Nat} {at' y:Int}
theorem jl {w:DF} {v:DG} {l:Cp} (K at' y:Int) (h:dH w v l):∃(vp vs vb:DG) (P Q R:Nat) (a:DF),v=.agg #[.int .i64 l.kind,.int .i64 l.id,.int .i64 l.obj,vp,vs,.int .i64 l.Cq,.int .i64 l.Cs,vb,.int .i64 l.code]/\
  a=((w.alloc (.cells #[.int .i64 l.kind,.int .i64 l.id,.int .i64 l.obj,vp,vs,.int .i64 l.Cq,.int .i64 l.Cs,vb,.int .i64 l.code] 26)).alloc (.cells #[.int .i64 K,.int .i64 at',.int .i64 y] 65)).alloc (.cells zL 26)/\R=w.heap.size+1+1/\Q=w.heap.size+1/\P=w.heap.size/\
  Hid (P=w.heap.size/\Q=w.heap.size+1/\R=w.heap.size+1+1/\R < a.heap.size)/\Hid (az w a)/\Hid (av a P (cL l vp vs vb))/\Hid (av a Q [.int .i64 K,.int .i64 at',.int .i64 y])/\Hid (av a R zL.toList)/\Hid (dH a (.agg (cL l vp vs vb).toArray) l)/\
  Hid ((Fm 26 (.pointer (some ⟨P,0,none⟩))).run DE a=.ok (.agg (cL l vp vs vb).toArray) a):=by
 obtain⟨j,vp,vs,vb,g,rfl,f⟩:=h;obtain rfl:=f.eq;have i:=(ae w (.cells (cL l vp vs vb).toArray 26)).trans (ae _ (.cells #[.int .i64 K,.int .i64 at',.int .i64 y] 65));have e:=i.trans (ae _ (.cells zL 26));have c:=((av.box w 26 (cg l vp vs vb)).ext (ae _ (.cells #[.int .i64 K,.int .i64 at',.int .i64 y] 65))).ext (ae _ (.cells zL 26));have d:=(av.box (cs:=[.int .i64 K,.int .i64 at',.int .i64 y]) (w.alloc (.cells (cL l vp vs vb).toArray 26)) 65 (fun q=>by cases q)).ext (ae _ (.cells zL 26));have b:=av.box (cs:=zL.toList) ((w.alloc (.cells (cL l vp vs vb).toArray 26)).alloc (.cells #[.int .i64 K,.int .i64 at',.int .i64 y] 65)) 26 (fun q=>by cases q);rw[DO]at d;rw[DO,DO]at b;exact⟨vp,vs,vb,_,_,_,_,rfl,rfl,rfl,rfl,rfl,aa ⟨rfl,rfl,rfl,b.lt⟩,aa e,aa c,aa d,aa b,aa ⟨_,vp,vs,vb,g,rfl,f.ext e⟩,aa (c.load DQ rfl (by kernel_rfl))⟩
theorem jm {w a d:DF} {m n o p r:Nat} {l:Cp} {K:Int} {F G E vp vs vb:DG} {L:List Sv} {M:List Bv} (v:fv l) (f:P=w.heap.size/\Q=w.heap.size+1/\R=w.heap.size+1+1/\R < a.heap.size) (D:az w a) (z:av a P (cL l F G E)) (A:av a Q [.int .i64 K,.int .i64 at',.int .i64 y]) (C:av a R zL.toList) (g:jD d a.heap.size m n o p r l vp vs vb L M) (j:az a d):
  ∃B c,Hid ((Fb 26 (.pointer (some ⟨P,0,none⟩)) (.agg (cL l vp vs vb).toArray)).run DE d=.ok () c)/\Hid (P=w.heap.size/\Q=w.heap.size+1/\R=w.heap.size+1+1/\R < B/\B=a.heap.size)/\Hid (av c P (cL l vp vs vb))/\Hid (av c Q [.int .i64 K,.int .i64 at',.int .i64 y])/\Hid (av c R zL.toList)/\
  Hid (jD c B m n o p r l vp vs vb L M)/\Hid (az w c)/\Hid (Kq (fun k=>w.heap.size<=k) w c)/\Hid (L.length<=30/\∀x∈L,x.2.1.2.length<=100)/\c.cell? ⟨Q,0,none⟩=some (.int .i64 K):=by
 have s:=z.ext j;have e:Kq (fun k=>k=P) d (d.setCells P 0 (cL l vp vs vb)):=(Kq.refl d).setCells (Q:=fun k=>k=P) rfl 0 _;have t:=e.box (by omega) (A.ext j);have u:az w (d.setCells P 0 (cL l vp vs vb)):=(D.trans j).trans' (N:=w.heap.size) (e.mono fun k H q=>by omega) (DH _);exact⟨_,_,aa (s.store (cs':=cL l vp vs vb) rfl g.CR.Cr.one (by kernel_rfl)),aa ⟨f.1,f.2.1,f.2.2.1,f.2.2.2,rfl⟩,aa (s.set rfl),aa t,aa (e.box (by omega) (C.ext j)),aa (g.kept (fun b h1 h2=>e.block b h2 (by omega)) e.size (DH _)),aa u,aa (Kq.AI u),aa ⟨by have h:=v.sh;rw[<-g.sl,D2]at h;exact h,fun x hx=>(v.st (cf x) (by rw[<-g.sl];exact List.mem_map_of_mem hx)).1⟩,t.cell (i:=0) rfl⟩
theorem mV {w c j:DF} {B:Nat} {l a:Cp} {vp vs vb:DG} {k:Int} {L:List Sv} (p:P=w.heap.size/\Q=w.heap.size+1/\R=w.heap.size+1+1/\R < B/\B=j.heap.size) (h:av c P (cL a vp vs vb)) (e:bZ (fun b=>B<=b) c a vp vs vb L) (d:av c R zL.toList) (i:Kq (fun k=>w.heap.size<=k) w c) (o:bE k at' y l=(a,true)):
  (Fm 26 (.pointer (some ⟨P,0,none⟩))).run DE c=.ok (.agg (cL a vp vs vb).toArray) c/\
  (Fb 26 (.pointer (some ⟨R,0,none⟩)) (.agg (cL a vp vs vb).toArray)).run DE c=.ok () (c.setCells R 0 (cL a vp vs vb))/\
  (loadVar 26 ⟨R,0,none⟩).run DE (c.setCells R 0 (cL a vp vs vb))=.ok (.agg (cL a vp vs vb).toArray) (c.setCells R 0 (cL a vp vs vb))/\
  uk k at' y l w (.returned (.tuple #[.agg (cL a vp vs vb).toArray,.bool true])) (c.setCells R 0 (cL a vp vs vb)):=by
 have f:=(Kq.refl c).setCells (Q:=fun k=>k=R) rfl 0 (cL a vp vs vb);have m:=i.trans (f.mono (Q':=fun k=>w.heap.size<=k) fun k g q=>by omega);refine⟨h.load DQ rfl (by kernel_rfl),d.store (cs':=cL a vp vs vb) rfl e.Cr.one (by kernel_rfl),(d.set (cs':=cL a vp vs vb) rfl).loadVar DQ rfl (by kernel_rfl),?_⟩;unfold uk;rw[o];exact⟨_,rfl,⟨_,_,_,_,_,rfl,(e.kept (F':=fun k=>B<=k) fun k g n=>⟨g,f.block k n (by omega)⟩).Cr⟩,m.ext fun k q=>q⟩
theorem AB (at' y:Int) (v:DG) (l:Cp) (w:DF) (h:dH w v l) (d:fv l) (hid: -1125899906842624<=l.id/\l.id<=1125899906842624):
  DN DE 33 #[v,.agg #[.int .i64 2,.int .i64 at',.int .i64 y]] w fun e w'=>uk 2 at' y l w e w':=by
 obtain⟨ai,al,ah,P,Q,R,Y,rfl,D,C,A,z,n,m,g,i,j,HV,p⟩:=jl 2 at' y h;have S:=aa d;have ad:=aa hid;have f:=aa (dE _ l Y HV d);clear h d hid HV;go_enter GJ,Gt
 go_wp2_with (with_reducible refine aA (ty:=26) ?_)
 refine au ?_;rw[<-D,<-C,<-A,<-z];clear D C A z;refine ak rfl p ?_
 go_wp2_with fail
 refine f.mono ?_;rintro e w4 ⟨vp,vs,vb,L,M,T,U,V,W,X,rfl,s,u⟩;obtain⟨B,Z,r,b,F,G,H,E,ac,N,o,qk⟩:=jm S n m g i j s u;clear s u n m g i j p f
 go_wp2_with (with_reducible refine aC (ty:=26) ?_)
 refine au ?_;refine ag rfl rfl r ?_;clear r
 go_wp2_with ((with_reducible refine ak ?_ (G.out.load (P:=DE) FK rfl (by kernel_rfl)) ?_);rfl)
 refine(eJ 2 at' y P B T U V W X l vp vs vb L M Z F E (by have:=b.out;omega) o.1 o.2).mono ?_;rintro e w6 ⟨rfl,vs2,L2,t,x,c⟩;have J:=aa t;have K:=aa x;have I:=aa (c.box (by have:=b.out;omega) H);have O:Hid (Kq (fun k=>w.heap.size<=k) w w6):=aa (N.trans (c.mono fun k hk q=>by have:=b.out;omega));clear t x c;have a:=aa (mV b J K I O (show bE 2 at' y l=(dN 2 at' y l,true)from rfl))
 go_wp2_with first | ((with_reducible refine ak ?_ a.out.1 ?_);rfl) | ((with_reducible refine ag ?_ ?_ a.out.2.1 ?_);rfl;rfl)
 exact DK (aj rfl rfl a.2.2.1 rfl) rfl a.2.2.2
theorem AD (at' y:Int) (v:DG) (l:Cp) (w:DF) (h:dH w v l) (d:fv l) (hid: -1125899906842624<=l.id/\l.id<=1125899906842624):
  DN DE 33 #[v,.agg #[.int .i64 3,.int .i64 at',.int .i64 y]] w fun e w'=>uk 3 at' y l w e w':=by
 obtain⟨ai,al,ah,P,Q,R,Y,rfl,D,C,A,z,n,m,g,i,j,HV,p⟩:=jl 3 at' y h;have S:=aa d;have ad:=aa hid;have f:=aa (dE _ l Y HV d);clear h d hid HV;go_enter GJ,Gt
 go_wp2_with (with_reducible refine aA (ty:=26) ?_)
 refine au ?_;rw[<-D,<-C,<-A,<-z];clear D C A z;refine ak rfl p ?_
 go_wp2_with fail
 refine f.mono ?_;rintro e w4 ⟨vp,vs,vb,L,M,T,U,V,W,X,rfl,s,u⟩;obtain⟨B,Z,r,b,F,G,H,E,ac,N,o,qk⟩:=jm S n m g i j s u;clear s u n m g i j p f
 go_wp2_with (with_reducible refine aC (ty:=26) ?_)
 refine au ?_;refine ag rfl rfl r ?_;clear r
 go_wp2_with ((with_reducible refine ak ?_ (G.out.load (P:=DE) FK rfl (by kernel_rfl)) ?_);rfl)
 refine(eJ 3 at' y P B T U V W X l vp vs vb L M Z F E (by have:=b.out;omega) o.1 o.2).mono ?_;rintro e w6 ⟨rfl,vs2,L2,t,x,c⟩;have J:=aa t;have K:=aa x;have I:=aa (c.box (by have:=b.out;omega) H);have O:Hid (Kq (fun k=>w.heap.size<=k) w w6):=aa (N.trans (c.mono fun k hk q=>by have:=b.out;omega));clear t x c;have a:=aa (mV b J K I O (show bE 3 at' y l=(dN 3 at' y l,true)from rfl))
 go_wp2_with first | ((with_reducible refine ak ?_ a.out.1 ?_);rfl) | ((with_reducible refine ag ?_ ?_ a.out.2.1 ?_);rfl;rfl)
 exact DK (aj rfl rfl a.2.2.1 rfl) rfl a.2.2.2
theorem AE (at' y:Int) (v:DG) (l:Cp) (w:DF) (h:dH w v l) (d:fv l) (hid: -1125899906842624<=l.id/\l.id<=1125899906842624):
  DN DE 33 #[v,.agg #[.int .i64 4,.int .i64 at',.int .i64 y]] w fun e w'=>uk 4 at' y l w e w':=by
 obtain⟨ai,al,ah,P,Q,R,Y,rfl,D,C,A,z,n,m,g,i,j,HV,p⟩:=jl 4 at' y h;have S:=aa d;have ad:=aa hid;have f:=aa (dE _ l Y HV d);clear h d hid HV;go_enter GJ,Gt
 go_wp2_with (with_reducible refine aA (ty:=26) ?_)
 refine au ?_;rw[<-D,<-C,<-A,<-z];clear D C A z;refine ak rfl p ?_
 go_wp2_with fail
 refine f.mono ?_;rintro e w4 ⟨vp,vs,vb,L,M,T,U,V,W,X,rfl,s,u⟩;obtain⟨B,Z,r,b,F,G,H,E,ac,N,o,qk⟩:=jm S n m g i j s u;clear s u n m g i j p f
 go_wp2_with (with_reducible refine aC (ty:=26) ?_)
 refine au ?_;refine ag rfl rfl r ?_;clear r
 go_wp2_with ((with_reducible refine ak ?_ (G.out.load (P:=DE) FK rfl (by kernel_rfl)) ?_);rfl)
 refine(eJ 4 at' y P B T U V W X l vp vs vb L M Z F E (by have:=b.out;omega) o.1 o.2).mono ?_;rintro e w6 ⟨rfl,vs2,L2,t,x,c⟩;have J:=aa t;have K:=aa x;have I:=aa (c.box (by have:=b.out;omega) H);have O:Hid (Kq (fun k=>w.heap.size<=k) w w6):=aa (N.trans (c.mono fun k hk q=>by have:=b.out;omega));clear t x c;have a:=aa (mV b J K I O (show bE 4 at' y l=(dN 4 at' y l,true)from rfl))
 go_wp2_with first | ((with_reducible refine ak ?_ a.out.1 ?_);rfl) | ((with_reducible refine ag ?_ ?_ a.out.2.1 ?_);rfl;rfl)
 exact DK (aj rfl rfl a.2.2.1 rfl) rfl a.2.2.2
theorem AF (at' y:Int) (v:DG) (l:Cp) (w:DF) (h:dH w v l) (d:fv l) (hid: -1125899906842624<=l.id/\l.id<=1125899906842624):
  DN DE 33 #[v,.agg #[.int .i64 5,.int .i64 at',.int .i64 y]] w fun e w'=>uk 5 at' y l w e w':=by
 obtain⟨ai,al,ah,P,Q,R,Y,rfl,D,C,A,z,n,m,g,i,j,HV,p⟩:=jl 5 at' y h;have S:=aa d;have ad:=aa hid;have f:=aa (dE _ l Y HV d);clear h d hid HV;go_enter GJ,Gt
 go_wp2_with (with_reducible refine aA (ty:=26) ?_)
 refine au ?_;rw[<-D,<-C,<-A,<-z];clear D C A z;refine ak rfl p ?_
 go_wp2_with fail
 refine f.mono ?_;rintro e w4 ⟨vp,vs,vb,L,M,T,U,V,W,X,rfl,s,u⟩;obtain⟨B,Z,r,b,F,G,H,E,ac,N,o,qk⟩:=jm S n m g i j s u;clear s u n m g i j p f
 go_wp2_with (with_reducible refine aC (ty:=26) ?_)
 refine au ?_;refine ag rfl rfl r ?_;clear r
 go_wp2_with ((with_reducible refine ak ?_ (G.out.load (P:=DE) FK rfl (by kernel_rfl)) ?_);rfl)
 refine(eJ 5 at' y P B T U V W X l vp vs vb L M Z F E (by have:=b.out;omega) o.1 o.2).mono ?_;rintro e w6 ⟨rfl,vs2,L2,t,x,c⟩;have J:=aa t;have K:=aa x;have I:=aa (c.box (by have:=b.out;omega) H);have O:Hid (Kq (fun k=>w.heap.size<=k) w w6):=aa (N.trans (c.mono fun k hk q=>by have:=b.out;omega));clear t x c;have a:=aa (mV b J K I O (show bE 5 at' y l=(dN 5 at' y l,true)from rfl))
 go_wp2_with first | ((with_reducible refine ak ?_ a.out.1 ?_);rfl) | ((with_reducible refine ag ?_ ?_ a.out.2.1 ?_);rfl;rfl)
 exact DK (aj rfl rfl a.2.2.1 rfl) rfl a.2.2.2
theorem AG (k:Int) (at' y:Int) (v:DG) (l:Cp) (w:DF) (h:dH w v l) (b:fv l) (hid: -1125899906842624<=l.id/\l.id<=1125899906842624) (x:¬k=1) (N:¬k=2) (O:¬k=3) (S:¬k=4) (T:¬k=5) (U:¬k=6) (V:¬k=7) (W:¬k=8) (X:¬k=9):
  DN DE 33 #[v,.agg #[.int .i64 k,.int .i64 at',.int .i64 y]] w fun e w'=>uk k at' y l w e w':=by
 obtain⟨an,ao,am,P,Q,R,K,rfl,u,t,s,r,j,i,d,f,g,HV,m⟩:=jl k at' y h;have I:=aa b;have ac:=aa hid;have c:=aa (dE _ l K HV b);clear h b hid HV;go_enter GJ,Gt
 go_wp2_with (with_reducible refine aA (ty:=26) ?_)
 refine au ?_;rw[<-u,<-t,<-s,<-r];clear u t s r;refine ak rfl m ?_
 go_wp2_with fail
 refine c.mono ?_;rintro e w4 ⟨vp,vs,vb,L,M,N1,N2,N3,N4,N5,rfl,o,p⟩;obtain⟨B,w5,n,J,A,Y,C,z,Z,G,ab,qk⟩:=jm I j i d f g o p;clear o p j i d f g m c
 go_wp2_with (with_reducible refine aC (ty:=26) ?_)
 refine au ?_;refine ag rfl rfl n ?_;clear n;have E:=A;have F:=aa z.CR;have D:=C;have H:=G
 have a:=aa (mV J E F D H (show bE k at' y l=(l,true)from by
  unfold bE
  rw[if_neg X,if_neg U,if_neg V,if_neg W,if_neg (fun q=>x q.1),qe x N O S T]))
 go_wp2_with first | ((with_reducible refine ak ?_ a.out.1 ?_);rfl) | ((with_reducible refine ag ?_ ?_ a.out.2.1 ?_);rfl;rfl)
 exact DK (aj rfl rfl a.2.2.1 rfl) rfl a.2.2.2
theorem AH (at' y:Int) (v:DG) (l:Cp) (w:DF) (h:dH w v l) (b:fv l) (hid: -1125899906842624<=l.id/\l.id<=1125899906842624):
  DN DE 33 #[v,.agg #[.int .i64 6,.int .i64 at',.int .i64 y]] w fun e w'=>uk 6 at' y l w e w':=by
 obtain⟨ai,al,ah,P,Q,R,O,rfl,z,x,u,t,n,m,d,f,i,HV,o⟩:=jl 6 at' y h;have H:=aa b;have Y:=aa hid;have c:=aa (dE _ l O HV b);clear h b hid HV;go_enter GJ,Gt
 go_wp2_with (with_reducible refine aA (ty:=26) ?_)
 refine au ?_;rw[<-z,<-x,<-u,<-t];clear z x u t;refine ak rfl o ?_
 go_wp2_with fail
 refine c.mono ?_;rintro e w4 ⟨vp,vs,vb,L,M,Z,N2,N3,N4,N5,rfl,r,s⟩;obtain⟨B,S,p,J,A,V,C,U,W,F,X,qk⟩:=jm H n m d f i r s;clear r s n m d f i o c
 go_wp2_with (with_reducible refine aC (ty:=26) ?_)
 refine au ?_;refine ag rfl rfl p ?_;clear p;have K:=aa (A.load (P:=DE) DQ rfl (by kernel_rfl));have I:=aa (qg 1 l vp vs vb S)
 go_wp2_with ((with_reducible refine ak ?_ K.out ?_);rfl)
 refine I.mono ?_;rintro e T ⟨rfl,a⟩;have j:=aa (C.ext a);have G:Hid (Kq (fun k=>w.heap.size<=k) w T):=aa (F.trans (Kq.AI a));have N:=aa (j.store (P:=DE) (cs':=cL ⟨7,l.id,l.obj,[],[],0,0,[],1⟩ (.slice none 0 0) (.slice none 0 0) (.slice none 0 0)) rfl (bk ⟨_,_,_,rfl⟩ ⟨_,_,_,rfl⟩ ⟨_,_,_,rfl⟩) (ty:=26) (by kernel_rfl));have D:=aa (j.set (cs':=cL ⟨7,l.id,l.obj,[],[],0,0,[],1⟩ (.slice none 0 0) (.slice none 0 0) (.slice none 0 0)) rfl);have E:=aa (G.setCells (g:=R) (by have:=J.out;omega) 0 (cL ⟨7,l.id,l.obj,[],[],0,0,[],1⟩ (.slice none 0 0) (.slice none 0 0) (.slice none 0 0)));clear a
 go_wp2_with ((with_reducible refine ag ?_ ?_ N.out ?_);rfl;rfl)
 refine DK (v:=.tuple #[.agg (cL ⟨7,l.id,l.obj,[],[],0,0,[],1⟩ (.slice none 0 0) (.slice none 0 0) (.slice none 0 0)).toArray,.bool true]) (aj rfl rfl (D.loadVar (P:=DE) DQ rfl (by kernel_rfl)) rfl) rfl ?_;exact⟨_,rfl,⟨_,_,_,_,[],rfl,(bZ.nil (fun _=>True) _ _ _ _ _ _ _).Cr⟩,E.ext fun k q=>q⟩
theorem AJ (at' y:Int) (v:DG) (l:Cp) (w:DF) (h:dH w v l) (a:fv l) (hid: -1125899906842624<=l.id/\l.id<=1125899906842624):
  DN DE 33 #[v,.agg #[.int .i64 9,.int .i64 at',.int .i64 y]] w fun e w'=>uk 9 at' y l w e w':=by
 obtain⟨ad,ae,ac,P,Q,R,J,rfl,z,x,u,t,n,m,d,f,i,HV,o⟩:=jl 9 at' y h;have G:=aa a;have U:=aa hid;have b:=aa (dE _ l J HV a);clear h a hid HV;go_enter GJ,Gt
 go_wp2_with (with_reducible refine aA (ty:=26) ?_)
 refine au ?_;rw[<-z,<-x,<-u,<-t];clear z x u t;refine ak rfl o ?_
 go_wp2_with fail
 refine b.mono ?_;rintro e w4 ⟨vp,vs,vb,L,M,V,W,X,Y,Z,rfl,r,s⟩;obtain⟨B,w5,p,H,N,O,j,K,S,F,T,qk⟩:=jm G n m d f i r s;clear r s n m d f i o b
 go_wp2_with (with_reducible refine aC (ty:=26) ?_)
 refine au ?_;refine ag rfl rfl p ?_;clear p;have C:∀c∈zL.toList,c.oneCell'=true:=fun c A=>by simp only[Es,ED,or_false]at A;rcases A with rfl | rfl | rfl | rfl | rfl | rfl | rfl | rfl | rfl<;>rfl
 have I:=aa (j.store (P:=DE) (cs':=zL.toList) rfl C (ty:=26) (by kernel_rfl));have D:=aa (j.set (cs':=zL.toList) rfl);have E:=aa (F.setCells (g:=R) (by have:=H.out;omega) 0 zL.toList);clear C
 go_wp2_with ((with_reducible refine ag ?_ ?_ I.out ?_);rfl;rfl)
 refine DK (v:=.tuple #[.agg zL,.bool false]) (aj rfl rfl (D.loadVar (P:=DE) DQ rfl (by kernel_rfl)) rfl) rfl ?_;exact⟨_,rfl,dH.zero _,E.ext fun k q=>q⟩
theorem AK (at' y:Int) (v:DG) (l:Cp) (w:DF) (h:dH w v l) (j:fv l) (hid: -1125899906842624<=l.id/\l.id<=1125899906842624):
  DN DE 33 #[v,.agg #[.int .i64 7,.int .i64 at',.int .i64 y]] w fun e w'=>uk 7 at' y l w e w':=by
 obtain⟨ar,aw,aq,P,Q,R,U,rfl,F,E,D,C,s,r,n,o,p,HV,u⟩:=jl 7 at' y h;have S:=aa j;have t:=aa hid;have m:=aa (dE _ l U HV j);clear h j hid HV;go_enter GJ,Gt
 go_wp2_with (with_reducible refine aA (ty:=26) ?_)
 refine au ?_;rw[<-F,<-E,<-D,<-C];clear F E D C;refine ak rfl u ?_
 go_wp2_with fail
 refine m.mono ?_;rintro e w4 ⟨vp,vs,vb,L,M,N1,N2,N3,N4,N5,rfl,z,A⟩;obtain⟨B,a,x,d,g,ab,H,G,ac,N,ad,qk⟩:=jm S s r n o p z A;clear z A s r n o p u m
 go_wp2_with (with_reducible refine aC (ty:=26) ?_)
 refine au ?_;refine ag rfl rfl x ?_;clear x;have qi:=g.cell (i:=1) rfl;have fi:=g.fz (i:=1) (show 1 < 9 by decide);have T:=aa (iP (l.id+1) 1099511627777 a (by decide) (by decide));have W:=t.1;have X:=t.2
 go_wp2_with fail
 refine T.mono ?_;rintro e w6 ⟨rfl,Z⟩;subst Z;clear W X;have J:Hid (av (a.setCell ⟨P,1,none⟩ (.int .i64 ((l.id+1) % 1099511627777))) P (cL {l with id:=(l.id+1) % 1099511627777} vp vs vb)):=aa (g.put (i:=1) (show 1 < 9 by decide) (.int .i64 ((l.id+1) % 1099511627777)));have f:Kq (fun k=>k=P) a (a.setCell ⟨P,1,none⟩ (.int .i64 ((l.id+1) % 1099511627777))):=(Kq.refl a).setCell (Q:=fun k=>k=P) ⟨P,1,none⟩ rfl _
 have K:Hid (bZ (fun b=>B<=b) (a.setCell ⟨P,1,none⟩ (.int .i64 ((l.id+1) % 1099511627777))) {l with id:=(l.id+1) % 1099511627777} vp vs vb L):=aa (by
  have h:=G.CR.kept (w':=a.setCell ⟨P,1,none⟩ (.int .i64 ((l.id+1) % 1099511627777))) (F':=fun b=>B<=b) fun b V Y=>⟨V,f.block b Y (by have:=d.out;omega)⟩
  exact⟨h.pl,h.sh,h.so,h.sl,h.bl⟩)
 have I:=aa (f.box (by have:=d.out;omega) H);have O:Hid (Kq (fun k=>w.heap.size<=k) w (a.setCell ⟨P,1,none⟩ (.int .i64 ((l.id+1) % 1099511627777)))):=aa (N.trans (f.mono fun k hk q=>by have:=d.out;omega));clear f;have c:=aa (mV d J K I O (show bE 7 at' y l=({l with id:=(l.id+1) % 1099511627777},true)from rfl))
 go_wp2_with first | ((with_reducible refine ak ?_ c.out.1 ?_);rfl) | ((with_reducible refine ag ?_ ?_ c.out.2.1 ?_);rfl;rfl)
 exact DK (aj rfl rfl c.2.2.1 rfl) rfl c.2.2.2
theorem AL (at' y:Int) (v:DG) (l:Cp) (w:DF) (h:dH w v l) (j:fv l) (hid: -1125899906842624<=l.id/\l.id<=1125899906842624):
  DN DE 33 #[v,.agg #[.int .i64 8,.int .i64 at',.int .i64 y]] w fun e w'=>uk 8 at' y l w e w':=by
 obtain⟨ao,ap,an,P,Q,R,T,rfl,E,D,C,A,s,r,n,o,p,HV,t⟩:=jl 8 at' y h;have S:=aa j;have Y:=aa hid;have m:=aa (dE _ l T HV j);clear h j hid HV;go_enter GJ,Gt
 go_wp2_with (with_reducible refine aA (ty:=26) ?_)
 refine au ?_;rw[<-E,<-D,<-C,<-A];clear E D C A;refine ak rfl t ?_
 go_wp2_with fail
 refine m.mono ?_;rintro e w4 ⟨vp,vs,vb,L,M,Z,N2,N3,N4,N5,rfl,x,z⟩;obtain⟨B,a,u,d,g,G,H,F,W,N,X,qk⟩:=jm S s r n o p x z;clear x z s r n o p t m
 go_wp2_with (with_reducible refine aC (ty:=26) ?_)
 refine au ?_;refine ag rfl rfl u ?_;clear u;have qi:=g.cell (i:=2) rfl;have fi:=g.fz (i:=2) (show 2 < 9 by decide);have qa:=G.cell (i:=1) rfl;have J:Hid (av (a.setCell ⟨P,2,none⟩ (.int .i64 at')) P (cL {l with obj:=at'} vp vs vb)):=aa (g.put (i:=2) (show 2 < 9 by decide) (.int .i64 at'));have f:Kq (fun k=>k=P) a (a.setCell ⟨P,2,none⟩ (.int .i64 at')):=(Kq.refl a).setCell (Q:=fun k=>k=P) ⟨P,2,none⟩ rfl _
 have K:Hid (bZ (fun b=>B<=b) (a.setCell ⟨P,2,none⟩ (.int .i64 at')) {l with obj:=at'} vp vs vb L):=aa (by
  have h:=F.CR.kept (w':=a.setCell ⟨P,2,none⟩ (.int .i64 at')) (F':=fun b=>B<=b) fun b U V=>⟨U,f.block b V (by have:=d.out;omega)⟩
  exact⟨h.pl,h.sh,h.so,h.sl,h.bl⟩)
 have I:=aa (f.box (by have:=d.out;omega) H);have O:Hid (Kq (fun k=>w.heap.size<=k) w (a.setCell ⟨P,2,none⟩ (.int .i64 at'))):=aa (N.trans (f.mono fun k hk q=>by have:=d.out;omega));clear f;have c:=aa (mV d J K I O (show bE 8 at' y l=({l with obj:=at'},true)from rfl))
 go_wp2_with first | ((with_reducible refine ak ?_ c.out.1 ?_);rfl) | ((with_reducible refine ag ?_ ?_ c.out.2.1 ?_);rfl;rfl)
 exact DK (aj rfl rfl c.2.2.1 rfl) rfl c.2.2.2
theorem AM (at' y:Int) (v:DG) (l:Cp) (w:DF) (h:dH w v l) (aE:fv l) (hid: -1125899906842624<=l.id/\l.id<=1125899906842624):
  DN DE 33 #[v,.agg #[.int .i64 1,.int .i64 at',.int .i64 y]] w fun e w'=>uk 1 at' y l w e w':=by
 obtain⟨cC,cD,cA,P,Q,R,W3,rfl,bj,hR,hQ,hP,aW,aU,aR,aS,aT,HV,a0⟩:=jl 1 at' y h;have aB:=aa aE;have ck:=aa hid;have aQ:=aa (dE _ l W3 HV aE);clear h aE hid HV;go_enter GJ,Gt
 go_wp2_with (with_reducible refine aA (ty:=26) ?_)
 refine au ?_;rw[<-bj,<-hR,<-hQ,<-hP];clear bj hR hQ hP;refine ak rfl a0 ?_
 go_wp2_with fail
 refine aQ.mono ?_;rintro e w4 ⟨vp,vs,vb,L,M,N1,N2,N3,N4,N5,rfl,hA,bd⟩;obtain⟨B,W,a1,p,D,X,aq,r,ch,az,ah,qk⟩:=jm aB aW aU aR aS aT hA bd;clear hA bd aW aU aR aS aT a0 aQ
 go_wp2_with (with_reducible refine aC (ty:=26) ?_)
 refine au ?_;refine ag rfl rfl a1 ?_;clear a1;obtain⟨pb,T,b9,_,_⟩:=r.bl.1.AT.form;subst b9;obtain⟨o,z⟩:=exq M.length;rw[<-z]at D r;have cm:=aa z;have q7:=D.cell (i:=7) (v:=.slice pb o T) rfl;have q0:=D.cell (i:=0) (v:=.int .i64 l.kind) rfl;have N:l.blocks.length=o:=by rw[z,<-r.out.bm,D2]
 by_cases hc:l.kind=6/\0 < o
 ·obtain⟨I,h0⟩:=hc;rw[I]at q0;obtain⟨j,hj,e1,e2⟩:=fK at' h0;have b6:o<=600:=by rw[<-N];exact aB.bl
  have F:Hid (bE 1 at' y l=({l with blocks:=l.blocks.set j (fZ (l.blocks.getD j []) y)},true)):=aa (by
   unfold bE
   rw[if_neg (by decide),if_neg (by decide),if_neg (by decide),if_neg (by decide),if_pos ⟨rfl,I,by rw[N];exact h0⟩,N,e2])
  obtain⟨g,cap,hf,b0,b1,b2,b3,b7⟩:=r.bl.1.form (by rw[<-z];exact h0);injection hf with bW bY bX;subst bW bX;clear bY;have HR:Hid (∀m,DN DE 65 #[.int .i64 at',.int .i64 o] m fun e w'=>e=.returned (.int .i64 (j:Nat))/\m=w'):=aa fun m=>by have h:=iP at' o m (by omega) (by omega);rw[e1]at h;exact h
  obtain⟨m1,m2,k1,k2,k3,k4,k5⟩:=r.Dd (i:=j) (by rw[<-z];exact hj);have bk:(aw cB M)[j]? =some (M.getD j (.slice none 0 0,[])).1:=by have h:=dk (f:=cB) (s:=1) (fun _=>rfl) (.slice none 0 0,[]) 0 (by decide) M j (by rw[<-z];exact hj);rw[Nat.mul_one,Nat.add_zero]at h;exact h
  have aJ:=r.bl.1;rw[<-z]at aJ;have an:=aJ.cell bk;have aF:l.blocks.getD j []=(M.getD j (.slice none 0 0,[])).2:=by rw[<-r.out.bm,DJ,DJ,List.getElem?_map];cases M[j]? <;>rfl
  have ae:=aB.bs (l.blocks.getD j []) (aH [] (by rw[N];exact hj));rw[aF]at ae F;obtain⟨o1,o2,o3,o4,o5,o6⟩:=r.CL;have Y:=aa (DT o1 (DT o2 (DT o3 (DT o4 (DT k1 (DT k2 (DT k3 o6)))))));obtain⟨x0,hx⟩:=exq (M.getD j (.slice none 0 0,[]));rw[<-hx]at k4 k5 an ae F;obtain⟨S,st⟩:=x0;simp only at an ae F;have K4:=aa k4;have K5:=aa k5;have bI:=aa ae;have cu:(0:Int)<=(j:Int):=by omega
  have cv:(j:Int) < (o:Int):=by omega
  have cx:(0:Int) < (o:Int):=by omega
  have aX:Hid (∀m,Kq (fun _=>False) W m->m.cell? ⟨P,7,none⟩=some (.slice (some ⟨g,0,none⟩) o T)/\m.cell? ⟨Q,1,none⟩=some (.int .i64 at')/\m.cell? ⟨Q,2,none⟩=some (.int .i64 y)/\m.cell? ⟨g,j,none⟩=some S):=aa fun m x=>⟨(x.box (fun q=>q) D).cell (i:=7) rfl,(x.box (fun q=>q) X).cell (i:=1) rfl,(x.box (fun q=>q) X).cell (i:=2) rfl,x.cell (fun q=>q) an⟩
  have ba:¬({l with blocks:=l.blocks.set j (fZ st y)}:Cp).kind=4:=by show ¬l.kind=4;omega
  have bC:=aa ba;have cj:=aa aF;clear k1 k2 k3 k4 k5 bk aJ an ae hx b0 b1 b2 b3 b7 o1 o2 o3 o4 o5 o6 e1 e2 N b6 hj h0 ba aF I z;obtain⟨pu,U,O,_,_⟩:=K4.1.1.AT.form;have O:S=.slice pu st.length U:=O;have aV:Hid (∀m,Kq (fun _=>False) W m->DN DE 64 #[.slice pu st.length U,.int .i64 y] m fun e w'=>e=.returned (.tuple #[])/\EB m1 m2 w' (S,fZ st y)/\Kq (fun k=>m1<=k/\k < m2) m w'):=aa fun m x=>by
   have t:EB m1 m2 m (S,st):=pO _ _ _ _ _ _ _ K4 (DH _) (DH _) (fun b' h1 h2=>x.block b' (by have:=Y.out;omega) (fun q=>q)) x.size;by_cases h0:0 < st.length
   ·obtain⟨b,c1,hf,bR,cr,cs,ct,bT⟩:=t.1.1.form h0;have bn:S=.slice (some ⟨b,0,none⟩) st.length c1:=hf;rw[O]at bn;injection bn with f1 f3 f2;subst f1 f2;clear f3;have bg:Pk m m1 1 (.slice (some ⟨b,0,none⟩) st.length U) st.length (ao .u8 st):=by rw[<-O];exact t.1.1
    refine(kI b 0 U st.length st y m rfl h0 bT (bg.there (by omega)) t.2 (by have:=bI.out;omega)).mono ?_;rintro e w' ⟨rfl,i,hi,aK,bZ⟩;rw[DY]at aK;have bS:b < m2:=t.1.2 b (by show S.ownBlock=some b;rw[O];rfl);have bP:Kq (fun k=>k=b) m w':=by rw[aK];exact(Kq.refl m).setCell (Q:=fun k=>k=b) ⟨b,i,none⟩ rfl _
    refine⟨rfl,⟨⟨?_,fun b' bQ=>t.1.2 b' bQ⟩,lD t.2 y⟩,bP.mono fun k _ q=>by rw[q];exact⟨bR,bS⟩⟩;have h9:=bg.put (j:=i) (by rw[ints_length];exact hi) (.int .u8 (rA (st.getD i 0)));rw[dA,<-bZ,<-aK]at h9;show Pk w' m1 1 S (fZ st y).length _;rw[lC,O];exact h9
   ·have b8:st=[]:=Ed.1 (by omega);subst b8;refine(nK pu U y m).mono ?_;rintro e w' ⟨rfl,rfl⟩;exact⟨rfl,t,Kq.refl _⟩
  subst O;have ci:Hid (EB m1 m2 W (.slice pu st.length U,st)):=K4;obtain⟨cz,bq⟩:=exq st.length;rw[<-bq]at aV aX K5;clear bq K4
  go_wp2_with fail
  clear q7 q0 qk;apply ay (Kq (fun _=>False)) (fun _ _ _=>True) 10 [36,37,38,39,40,41,42,43,44,45] [ar _,ar _,ar _,ar _,ar _,ar _,ar _,ar _,ar _,ar _] (fun w=>Kq.refl w) (fun a b c h k=>Kq.trans h k) (by kernel_rfl) (by kernel_rfl) (by kernel_rfl) (by kernel_rfl);case hsteps=>
   refine⟨?_,?_,?_,?_,?_,?_,?_,?_,?_,?_,trivial⟩;all_goals
    intro d ev w1 ad ax aY aZ bp V hd;replace aY:=aa aY;replace ax:=aa ax;replace aZ:=aa aZ;replace bp:=aa bp;have e2:=V 2 (by decide);have e3:=V 3 (by decide);have e6:=V 6 (by decide);clear V;simp only[sB]at e2 e3 e6;simp only[sG]at hd;have q3:=aX _ ad;have c0:=q3.1;have c1:=q3.2.1;have c2:=q3.2.2.1;have c3:=q3.2.2.2;clear q3;rw[if_pos (rfl:DP _ _=true)];go_simp;first | exact⟨Kq.refl _,rfl,trivial⟩ | exact⟨Kq.refl _,rfl⟩ | (go_at_call 65;have bU:=HR w1;(with_reducible refine bU.mono ?_);rintro e m ⟨rfl,cb⟩;subst cb;first | exact⟨_,rfl,Kq.refl _,rfl⟩ | exact⟨_,rfl,Kq.refl _,rfl,trivial⟩) | exact⟨DI _ _,rfl,HJ.same (by decide) ax⟩
  case hmono=>exact mR
  case hR0=>exact Kq.drew _
  case hend=>
   intro u w1 ad hJ hend;simp only[sE]at hend;simp only[sF,hend];have HK:=aa ad;have HF:=aa (aV w1 ad);clear ad hJ hend
   go_wp2_with fail
   refine HF.mono ?_;rintro e A ⟨rfl,t,be⟩;have J:Kq (fun k=>m1<=k/\k < m2) W A:=(HK.mono fun _ _ q=>False.elim q).trans be;have bo:=K5 A (fZ st y) (fun b h1 h2 h3=>J.block b h2 h3) J.size t;have C:Hid (av A P (cL {l with blocks:=l.blocks.set j (fZ st y)} vp vs (.slice (some ⟨g,0,none⟩) o T))):=aa (J.box (by have:=p.out;have:=Y.out;omega) D);have G:=aa bo;have E:=aa (J.box (by have:=p.out;have:=Y.out;omega) aq);have bD:=aa (J.box (by have:=p.out;have:=Y.out;omega) X);have H:Hid (Kq (fun k=>w.heap.size<=k) w A):=aa (az.trans (J.mono fun k x q=>by have:=p.out;have:=Y.out;omega));clear t be J bo
   go_wp2_with ((with_reducible refine ak ?_ (bD.out.load (P:=DE) FK rfl (by kernel_rfl)) ?_);rfl)
   obtain⟨ps,bK,ca,_,_⟩:=r.sh.1.AT.form;subst ca;refine(mw 1 at' y P L.length ps bK _ vp (.slice (some ⟨g,0,none⟩) o T) A C (.inl bC)).mono ?_;rintro e w7 ⟨rfl,ab⟩;replace C:=aa (C.ext ab);replace G:=aa (G.kept (F':=fun k=>B<=k) fun b V hl=>⟨V,ab.block b hl⟩);replace E:=aa (E.ext ab);replace H:Hid (Kq (fun k=>w.heap.size<=k) w w7):=aa (H.trans (Kq.AI ab));clear ab;have n:=aa (mV p C G E H F)
   go_wp2_with first | ((with_reducible refine ak ?_ n.out.1 ?_);rfl) | ((with_reducible refine ag ?_ ?_ n.out.2.1 ?_);rfl;rfl)
   exact DK (aj rfl rfl n.2.2.1 rfl) rfl n.2.2.2
  case hJ0=>trivial
 ·have F:Hid (bE 1 at' y l=(dN 1 at' y l,true)):=aa (by
   unfold bE
   rw[if_neg (by decide),if_neg (by decide),if_neg (by decide),if_neg (by decide),if_neg (by rw[N];exact fun q=>hc q.2)])
  have br:¬l.kind=6\/(l.kind=6/\o=0):=by
   by_cases I:l.kind=6
   ·exact .inr ⟨I,by have:¬0 < o:=fun q=>hc ⟨I,q⟩;omega⟩
   ·exact .inl I
  clear hc N z;obtain⟨kd,aI⟩:=exq l.kind;rw[<-aI]at q0 br;have cl:=aa aI;clear aI;rcases br with cw | ⟨rfl,rfl⟩
  ·skip
   go_wp2_with ((with_reducible refine ak ?_ (X.out.load (P:=DE) FK rfl (by kernel_rfl)) ?_);rfl)
   refine(eJ 1 at' y P B N1 N2 N3 N4 N5 l vp vs (.slice pb o T) L M W D r (by have:=p.out;omega) ah.1 ah.2).mono ?_;rintro e A ⟨rfl,vs2,L2,Z,ac,K⟩;have C:=aa Z;have G:=aa ac;have E:=aa (K.box (by have:=p.out;omega) aq);have H:Hid (Kq (fun k=>w.heap.size<=k) w A):=aa (az.trans (K.mono fun k x q=>by have:=p.out;omega));clear Z ac K;have n:=aa (mV p C G E H F)
   go_wp2_with first | ((with_reducible refine ak ?_ n.out.1 ?_);rfl) | ((with_reducible refine ag ?_ ?_ n.out.2.1 ?_);rfl;rfl)
   exact DK (aj rfl rfl n.2.2.1 rfl) rfl n.2.2.2
  ·skip
   go_wp2_with ((with_reducible refine ak ?_ (X.out.load (P:=DE) FK rfl (by kernel_rfl)) ?_);rfl)
   refine(eJ 1 at' y P B N1 N2 N3 N4 N5 l vp vs (.slice pb 0 T) L M W D r (by have:=p.out;omega) ah.1 ah.2).mono ?_;rintro e A ⟨rfl,vs2,L2,Z,ac,K⟩;have C:=aa Z;have G:=aa ac;have E:=aa (K.box (by have:=p.out;omega) aq);have H:Hid (Kq (fun k=>w.heap.size<=k) w A):=aa (az.trans (K.mono fun k x q=>by have:=p.out;omega));clear Z ac K;have n:=aa (mV p C G E H F)
   go_wp2_with first | ((with_reducible refine ak ?_ n.out.1 ?_);rfl) | ((with_reducible refine ag ?_ ?_ n.out.2.1 ?_);rfl;rfl)
   exact DK (aj rfl rfl n.2.2.1 rfl) rfl n.2.2.2
theorem zt (k:Int) (at' y:Int) (v:DG) (l:Cp) (w:DF) (h:gD D w v l) (b:fv l) (hid: -1125899906842624<=l.id/\l.id<=1125899906842624) (u:¬k=1) (x:¬k=6) (z:¬k=7) (A:¬k=8) (B:¬k=9) (t:¬l.kind=4):
  DN DE 57 #[v,.int .i64 k,.int .i64 at',.int .i64 y] w fun e w'=>nO D k at' y l w e w':=by
 obtain⟨pp,ps,N,J,K,I,n,M,P,R,L,H,rfl,f,d,c,G,s,C,g,i,o,O,T,U,Q,S,r⟩:=eV h b;have E:=aa b;have F:=aa hid;clear h b hid;go_enter FH,Fv
 go_wp2_with (with_reducible refine aA (ty:=41) ?_)
 refine au ?_;rw[<-f,<-d,<-c];clear f d c;have m:=g;have p:=o;have j:=i;have a:=aa (eB s m p j r (show bE k at' y l=(l,true)from by rw[eU x z A B (fun q=>u q.1),fM (.inl t)]))
 go_wp2_with first | ((with_reducible refine ak ?_ a.out.1 ?_);rfl) | ((with_reducible refine ag ?_ ?_ a.out.2.1 ?_);rfl;rfl)
 exact DK (aj rfl rfl a.2.2.1 rfl) rfl a.2.2.2
theorem zu (k:Int) (at' y:Int) (v:DG) (l:Cp) (w:DF) (h:gD D w v l) (c:fv l) (hid: -1125899906842624<=l.id/\l.id<=1125899906842624) (z:¬k=1) (A:¬k=6) (B:¬k=7) (C:¬k=8) (E:¬k=9) (b:l.kind=4) (h0:l.shown.length=0):
  DN DE 57 #[v,.int .i64 k,.int .i64 at',.int .i64 y] w fun e w'=>nO D k at' y l w e w':=by
 obtain⟨pp,ps,S,N,O,M,n,Q,P,R,L,K,rfl,g,f,d,x,u,H,j,m,r,F,V,W,T,U,t⟩:=eV h c;have I:=aa c;have J:=aa hid;clear h c hid;have i:=aa h0;obtain rfl:n=0:=by rw[x.out.2.1];exact h0
 clear h0;have G:=aa b;rw[b]at F;clear b;go_enter FH,Fv
 go_wp2_with (with_reducible refine aA (ty:=41) ?_)
 refine au ?_;rw[<-g,<-f,<-d];clear g f d;have p:=j;have s:=r;have o:=m;have a:=aa (eB u p s o t (show bE k at' y l=(l,true)from by rw[eU A B C E (fun q=>z q.1),fM (.inr (.inl i.out))]))
 go_wp2_with first | ((with_reducible refine ak ?_ a.out.1 ?_);rfl) | ((with_reducible refine ag ?_ ?_ a.out.2.1 ?_);rfl;rfl)
 exact DK (aj rfl rfl a.2.2.1 rfl) rfl a.2.2.2
theorem zv (k:Int) (at' y:Int) (v:DG) (l:Cp) (w:DF) (h:gD D w v l) (c:fv l) (hid: -1125899906842624<=l.id/\l.id<=1125899906842624) (z:¬k=1) (A:¬k=6) (B:¬k=7) (C:¬k=8) (E:¬k=9) (b:l.kind=4) (h0:¬l.shown.length=0) (x:k < 1):
  DN DE 57 #[v,.int .i64 k,.int .i64 at',.int .i64 y] w fun e w'=>nO D k at' y l w e w':=by
 obtain⟨pp,ps,U,N,O,M,n,T,P,R,L,K,rfl,g,f,d,u,t,H,i,j,p,F,X,Y,V,W,s⟩:=eV h c;have I:=aa c;have J:=aa hid;clear h c hid;have Q:¬(n=0):=by rw[u.out.2.1];exact h0
 have S:¬((n:Int)=0):=by omega
 clear h0;have G:=aa b;rw[b]at F;clear b;go_enter FH,Fv
 go_wp2_with (with_reducible refine aA (ty:=41) ?_)
 refine au ?_;rw[<-g,<-f,<-d];clear g f d;have o:=i;have r:=p;have m:=j;have a:=aa (eB t o r m s (show bE k at' y l=(l,true)from by rw[eU A B C E (fun q=>z q.1),fM (.inr (.inr (.inl x)))]))
 go_wp2_with first | ((with_reducible refine ak ?_ a.out.1 ?_);rfl) | ((with_reducible refine ag ?_ ?_ a.out.2.1 ?_);rfl;rfl)
 exact DK (aj rfl rfl a.2.2.1 rfl) rfl a.2.2.2
theorem zw (k:Int) (at' y:Int) (v:DG) (l:Cp) (w:DF) (h:gD D w v l) (c:fv l) (hid: -1125899906842624<=l.id/\l.id<=1125899906842624) (z:¬k=1) (A:¬k=6) (B:¬k=7) (C:¬k=8) (E:¬k=9) (b:l.kind=4) (h0:¬l.shown.length=0) (x:5 < k):
  DN DE 57 #[v,.int .i64 k,.int .i64 at',.int .i64 y] w fun e w'=>nO D k at' y l w e w':=by
 obtain⟨pp,ps,V,N,O,M,n,U,P,R,L,K,rfl,g,f,d,u,t,H,i,j,p,F,Y,Z,W,X,s⟩:=eV h c;have I:=aa c;have J:=aa hid;clear h c hid;have S:¬(n=0):=by rw[u.out.2.1];exact h0
 have T:¬((n:Int)=0):=by omega
 have Q:¬(k < 1):=by omega
 clear h0;have G:=aa b;rw[b]at F;clear b;go_enter FH,Fv
 go_wp2_with (with_reducible refine aA (ty:=41) ?_)
 refine au ?_;rw[<-g,<-f,<-d];clear g f d;have o:=i;have r:=p;have m:=j;have a:=aa (eB t o r m s (show bE k at' y l=(l,true)from by rw[eU A B C E (fun q=>z q.1),fM (.inr (.inr (.inr x)))]))
 go_wp2_with first | ((with_reducible refine ak ?_ a.out.1 ?_);rfl) | ((with_reducible refine ag ?_ ?_ a.out.2.1 ?_);rfl;rfl)
 exact DK (aj rfl rfl a.2.2.1 rfl) rfl a.2.2.2
theorem zx (at' y:Int) (v:DG) (l:Cp) (w:DF) (h:gD D w v l) (b:fv l) (hid: -1125899906842624<=l.id/\l.id<=1125899906842624) (g:¬l.kind=6) (f:¬l.kind=4):
  DN DE 57 #[v,.int .i64 1,.int .i64 at',.int .i64 y] w fun e w'=>nO D 1 at' y l w e w':=by
 obtain⟨pp,ps,M,H,I,G,n,K,P,R,L,F,rfl,k,j,i,E,x,A,m,o,s,z,Q,S,N,O,u⟩:=eV h b;have B:=aa b;have C:=aa hid;clear h b hid;obtain⟨J,c⟩:=exq l.kind;rw[<-c]at z g f;have d:=aa c;clear c;go_enter FH,Fv
 go_wp2_with (with_reducible refine fE (ty:=3) ?_)
 refine au ?_;rw[<-k,<-j,<-i];clear k j i;have r:=m;have t:=s;have p:=o;have a:=aa (eB x r t p u (show bE 1 at' y l=(l,true)from by rw[eU (by decide) (by decide) (by decide) (by decide) (fun q=>g (by rw[d.out];exact q.2.1)),fM (.inl (by rw[<-d.out];exact f))]))
 go_wp2_with first | ((with_reducible refine ak ?_ a.out.1 ?_);rfl) | ((with_reducible refine ag ?_ ?_ a.out.2.1 ?_);rfl;rfl)
 exact DK (aj rfl rfl a.2.2.1 rfl) rfl a.2.2.2
theorem zy (at' y:Int) (v:DG) (l:Cp) (w:DF) (h:gD D w v l) (c:fv l) (hid: -1125899906842624<=l.id/\l.id<=1125899906842624) (b:l.kind=6) (h0:l.blocks.length=0):
  DN DE 57 #[v,.int .i64 1,.int .i64 at',.int .i64 y] w fun e w'=>nO D 1 at' y l w e w':=by
 obtain⟨pp,ps,J,H,I,G,n,z,P,R,L,F,rfl,g,f,d,x,u,B,k,m,r,A,N,O,K,M,t⟩:=eV h c;have C:=aa c;have E:=aa hid;clear h c hid;have j:=aa b;have i:=aa h0;obtain rfl:z=0:=by rw[x.out.2.2.1];exact h0
 clear h0;rw[b]at A;try clear h4
 try clear b
 go_enter FH,Fv
 go_wp2_with (with_reducible refine fE (ty:=3) ?_)
 refine au ?_;rw[<-g,<-f,<-d];clear g f d;have p:=k;have s:=r;have o:=m;have a:=aa (eB u p s o t (show bE 1 at' y l=(l,true)from by rw[eU (by decide) (by decide) (by decide) (by decide) (fun q=>by have:=i.out;omega),fM (.inl (by have:=j.out;omega))]))
 go_wp2_with first | ((with_reducible refine ak ?_ a.out.1 ?_);rfl) | ((with_reducible refine ag ?_ ?_ a.out.2.1 ?_);rfl;rfl)
 exact DK (aj rfl rfl a.2.2.1 rfl) rfl a.2.2.2
theorem zz (at' y:Int) (v:DG) (l:Cp) (w:DF) (h:gD D w v l) (c:fv l) (hid: -1125899906842624<=l.id/\l.id<=1125899906842624) (b:l.kind=4) (h0:l.shown.length=0):
  DN DE 57 #[v,.int .i64 1,.int .i64 at',.int .i64 y] w fun e w'=>nO D 1 at' y l w e w':=by
 obtain⟨pp,ps,J,G,H,F,n,I,P,R,L,E,rfl,g,f,d,x,u,A,k,m,r,z,N,O,K,M,t⟩:=eV h c;have B:=aa c;have C:=aa hid;clear h c hid;have j:=aa b;have i:=aa h0;obtain rfl:n=0:=by rw[x.out.2.1];exact h0
 clear h0;rw[b]at z;try clear b
 try clear h6
 go_enter FH,Fv
 go_wp2_with (with_reducible refine fE (ty:=3) ?_)
 refine au ?_;rw[<-g,<-f,<-d];clear g f d;have p:=k;have s:=r;have o:=m;have a:=aa (eB u p s o t (show bE 1 at' y l=(l,true)from by rw[eU (by decide) (by decide) (by decide) (by decide) (fun q=>by have:=j.out;omega),fM (.inr (.inl i.out))]))
 go_wp2_with first | ((with_reducible refine ak ?_ a.out.1 ?_);rfl) | ((with_reducible refine ag ?_ ?_ a.out.2.1 ?_);rfl;rfl)
 exact DK (aj rfl rfl a.2.2.1 rfl) rfl a.2.2.2
theorem zB (at' y:Int) (v:DG) (l:Cp) (w:DF) (h:gD D w v l) (aL:fv l) (hid: -1125899906842624<=l.id/\l.id<=1125899906842624) (h4:l.kind=4) (h0:0 < l.shown.length):
  DN DE 57 #[v,.int .i64 4,.int .i64 at',.int .i64 y] w fun e w'=>nO D 4 at' y l w e w':=by
 obtain⟨pp,ps,pb,cp,bQ,cb,n,n3,P,R,L,W2,rfl,ba,hR,hP,E,T,aC,aX,bg,a0,q0,q4,q7,q1,q2,r⟩:=eV h aL;have bI:=aa aL;have bL:=aa hid;clear h aL hid;have H4:=aa h4;obtain⟨i,e2,bW,bb,bc,bw,bx,W,HR⟩:=wR at' E h0;have av:=aa (wS 4 y (by decide) (by decide) h4 h0 e2);rw[h4]at q0;clear e2 h0 h4;go_enter FH,Fv
 go_wp2_with (with_reducible refine aA (ty:=41) ?_)
 refine au ?_;rw[<-ba,<-hR,<-hP];clear ba hR hP
 go_wp2_with fail
 refine(HR W2).mono ?_;rintro e w3 ⟨rfl,bB⟩;subst bB;obtain⟨Ho,a4,bG,aG,bn⟩:=wT E a0 aX
 go_wp2_with (with_reducible refine ax ?_)
 refine au ?_;refine aZ iJ Ho a4 rfl rfl bn aG (by unfold DV;omega) (by omega) (by simp) ?_;intro p4 cap B bd hg hB hK bv bs;obtain⟨g,rfl,bA,a1,bj,aE,ap,aq,K,S,bJ,bN⟩:=wU E W T a0 aX bg bd hB;rw[DY];clear bd hg hB hK bv bs Ho a4 q0 q1 q2 q4 q7 bG;by_cases ao:1 < n
 ·have aN:(1:Int) < (n:Int):=by omega
  have ad:=aa ao;obtain⟨m,hm⟩:∃m,n=i+1+m:=⟨n - (i+1),by have:=W.out;omega⟩;obtain⟨A,hA⟩:=exq (aw cS (L.take i));obtain⟨C,hC⟩:=exq (aw cS (L.drop (i+1)));have aU:Hid (A++C=aw cS (L.eraseIdx i)):=aa (by rw[fL,hA,hC]);have aV:Hid (A.length=i*3):=aa (by rw[hA,dj,List.length_take,Nat.min_eq_left (by have:=W.out;omega)]);have aB:Hid (C.length=m*3):=aa (by rw[hC,dj,List.length_drop,<-E.out.1];omega);have aM:=eQ (s:=3) (f:=cS) (fun x _=>bz x) (i+1) (L:=L);have aS:=iH (s:=3) (f:=cS) (fun x _=>bz x) i (L:=L);have aW:Hid (∀c∈A,c.oneCell'=true):=aa fun c M=>by rw[hA,<-aS]at M;exact aG c (List.mem_of_mem_take M)
  have aY:Hid (∀c∈C,c.oneCell'=true):=aa fun c M=>by rw[hC,<-aM]at M;exact aG c (List.mem_of_mem_drop M)
  have a2:Hid (∀J,az B J->J.rangeAt g 0 A):=aa fun J h2=>by have h:=cU (aJ a1 h2) (i*3);rw[aS,<-hA]at h;exact h
  have bl:Hid (∀J,az B J->J.rangeAt g ((i+1)*3) C):=aa fun J h2=>by have h:=ch (aJ a1 h2) ((i+1)*3);rw[aM,<-hC,DY]at h;exact h
  obtain⟨BB,a7⟩:=exq B.heap.size;have O:=aa a7;have Q:Hid (i<=30/\i+m<=30):=aa (by have:=E.out;have:=W.out;omega);have Hm:=aa hm;have h1:(i:Int)+1<=(i:Int)+1+(m:Int):=by omega
  have h2:(i:Int)+1+(m:Int)<=(cap:Int):=by have:=S.out;omega
  have h3:(i:Int)+1+(m:Int)<=30:=by have:=E.out;omega
  have h4:(0:Int)<=(i:Int)+1:=by omega
  have h5:i<=cap:=by have:=S.out;omega
  have h6:(i:Int)<=(cap:Int):=by omega
  clear hA hC aM aS a7 ao bA bx aN bc bw bb;subst hm;have aN:(1:Int) < (i:Int)+1+(m:Int):=by have:=ad.out;omega
  have bc:¬((i:Int)+1+(m:Int)=0):=by omega
  have bb:(i:Int) < (i:Int)+1+(m:Int):=by omega
  have hw:IntKind.i64.wrap ((i:Int)+1)=(i:Int)+1:=Av _ (by omega) (by omega);by_cases M:cap=i+1
  ·obtain rfl:m=0:=by omega
   subst M;have bh:Hid (C=[]):=aa (Ed.1 (by have:=aB.out;omega));have bm:Hid (∀J:DF,J.rangeAt g 0 C):=aa fun J=>by rw[bh.out];exact fun j u hu=>by simp at hu
   have h7:(i:Int)+1<=30:=by omega
   have h8:(i:Int)<=(i:Int)+1:=by omega
   clear h1 h2 h3 h6
   go_wp2_with fail
   apply ay (fun a b=>Below BB a b) (JC BB i 0 A C) 10 [186,187,188,189,190,191,192,193,194,195] [bK,ar _,ar _,ar _,bK,ar _,ar _,ar _,ar _,bK] (fun w=>DI _ w) (fun a b c h k=>Ei h k) (by kernel_rfl) (by kernel_rfl) (by kernel_rfl) (by kernel_rfl);case hsteps=>
    refine⟨?_,?_,?_,?_,?_,?_,?_,?_,?_,?_,trivial⟩;all_goals
     intro d ev t H q F G N U p;replace F:=aa F;replace q:=aa q;replace G:=aa G;replace N:=aa N;have aI:=U 13 (by decide);have aK:=U 14 (by decide);clear U;simp only[sB]at aI aK;simp only[sG]at p;have M:=(aD H).1;have hE:az B t:=by rw[az,<-O.out];exact H
     simp only[DP,if_true];first
     | (have hp:=q.a (F 0 (by kernel_rfl)) N;(with_reducible refine eO (m:=i) (c:=i+1) (b:=g) (o:=0) iJ hp (a2.out t hE) aV.out aW.out ?_ ?_ q.out.le ?_ ?_ ?_);(unfold DV;have:=Q.out;omega);(have:=Q.out;omega);rfl;exact(by first | ((repeat(first | exact p | exact p.2 | replace p:=p.1));done) | (repeat(first | exact p | exact p.1 | replace p:=p.2)));exact fun v' w' V I=>⟨hp.Cx q.le I,trivial,q.CN (G 9 (by kernel_rfl)) V (hp.Cx q.le I)⟩) | (have hp:=q.b (F 4 (by kernel_rfl)) N;(with_reducible refine eO (m:=0) (c:=0) (b:=g) (o:=0) iJ hp (bm.out t) aB.out aY.out ?_ ?_ q.out.le ?_ ?_ ?_);(unfold DV;have:=Q.out;omega);(have:=Q.out;omega);rfl;exact(by first | ((repeat(first | exact p | exact p.2 | replace p:=p.1));done) | (repeat(first | exact p | exact p.1 | replace p:=p.2)));exact fun v' w' V I=>⟨hp.Cx q.le I,trivial,q.CO (F 4 (by kernel_rfl)) V (hp.Cx q.le I)⟩)
     | (go_simp;first | exact⟨DI _ _,rfl,q.same (by decide)⟩ | exact⟨cV _ _ q.le,trivial,q.new (G 4 (by kernel_rfl)) (G 9 (by kernel_rfl))⟩ | exact⟨DI _ _,rfl,HJ.same (by decide) q⟩)
   case hmono=>exact mR
   case hR0=>exact(DI _ _).drew
   case hend=>
    intro u t H hJ hend;simp only[sE]at hend;simp only[sF,hend];have hp:=hJ.c rfl;obtain⟨g2,c2,am,aO,aP,aQ,aR,_⟩:=hp.form (by have:=ad.out;omega);rw[am]at hp⊢;have ai:az B t:=by rw[az,<-O.out];exact H
    have ac:Hid (Pk t W2.heap.size 3 (.slice (some ⟨g2,0,none⟩) (i+0) c2) (i+0) (aw cS (L.eraseIdx i))):=aa (by rw[<-aU.out];exact hp.mono (by have:=O.out;have:=S.out;omega));have r:Hid (Kq (fun k=>k=g\/B.heap.size<=k) B t):=aa (Kq.AI ai);have aF:Hid ((L.eraseIdx i).length=i+0):=aa (by rw[Ht (by have:=W.out;omega),<-E.out.1];omega);have bt:(i:Int)+(0:Int)<=(c2:Int):=by omega
    clear hp am aO aP aQ aR ai hJ hend H
    obtain⟨bf,f94,Y,Z,X,ab⟩:=lf (S2:=bS 4 i y l.shown) T S ap aq K aC aE r ac (by rw[aF.out]) (fun h=>by
      exact fun x hx=>h.so x (Iq hx)) (by
      unfold bS;rw[if_neg (by decide),if_neg (by decide),if_neg (by decide),if_pos rfl,if_pos (by rw[<-K.out.sl,D2,<-E.out.1];exact ad.out),<-K.out.sl]
      rw[E5,E5,EF,List.map_take,List.map_drop])
    clear r;have r:=ab;have z:=aa (eB T Y Z X r av)
    go_wp2_with first | ((with_reducible refine ak ?_ z.out.1 ?_);rfl) | ((with_reducible refine ag ?_ ?_ z.out.2.1 ?_);rfl;rfl)
    exact DK (aj rfl rfl z.2.2.1 rfl) rfl z.2.2.2
   case hJ0=>exact JC.start (E9 O)
  ·have h9:¬(cap - (i+1)=0):=by omega
   go_wp2_with fail
   apply ay (fun a b=>Below BB a b) (JC BB i m A C) 10 [186,187,188,189,190,191,192,193,194,195] [bK,ar _,ar _,ar _,bK,ar _,ar _,ar _,ar _,bK] (fun w=>DI _ w) (fun a b c h k=>Ei h k) (by kernel_rfl) (by kernel_rfl) (by kernel_rfl) (by kernel_rfl);case hsteps=>
    refine⟨?_,?_,?_,?_,?_,?_,?_,?_,?_,?_,trivial⟩;all_goals
     intro d ev t H q F G N U p;replace F:=aa F;replace q:=aa q;replace G:=aa G;replace N:=aa N;have aI:=U 13 (by decide);have aK:=U 14 (by decide);clear U;simp only[sB]at aI aK;simp only[sG]at p;have M:=(aD H).1;have hE:az B t:=by rw[az,<-O.out];exact H
     simp only[DP,if_true];first
     | (have hp:=q.a (F 0 (by kernel_rfl)) N;(with_reducible refine eO (m:=i) (c:=cap) (b:=g) (o:=0) iJ hp (a2.out t hE) aV.out aW.out ?_ ?_ q.out.le ?_ ?_ ?_);(unfold DV;have:=Q.out;omega);(have:=Q.out;omega);rfl;exact(by first | ((repeat(first | exact p | exact p.2 | replace p:=p.1));done) | (repeat(first | exact p | exact p.1 | replace p:=p.2)));exact fun v' w' V I=>⟨hp.Cx q.le I,trivial,q.CN (G 9 (by kernel_rfl)) V (hp.Cx q.le I)⟩) | (have hp:=q.b (F 4 (by kernel_rfl)) N;(with_reducible refine eO (m:=m) (c:=cap - (i+1)) (b:=g) (o:=(i+1)*3) iJ hp (bl.out t hE) aB.out aY.out ?_ ?_ q.out.le ?_ ?_ ?_);(unfold DV;have:=Q.out;omega);(have:=Q.out;omega);rfl;exact(by first | ((repeat(first | exact p | exact p.2 | replace p:=p.1));done) | (repeat(first | exact p | exact p.1 | replace p:=p.2)));exact fun v' w' V I=>⟨hp.Cx q.le I,trivial,q.CO (F 4 (by kernel_rfl)) V (hp.Cx q.le I)⟩)
     | (go_simp;first | exact⟨DI _ _,rfl,q.same (by decide)⟩ | exact⟨cV _ _ q.le,trivial,q.new (G 4 (by kernel_rfl)) (G 9 (by kernel_rfl))⟩ | exact⟨DI _ _,rfl,HJ.same (by decide) q⟩)
   case hmono=>exact mR
   case hR0=>exact(DI _ _).drew
   case hend=>
    intro u t H hJ hend;simp only[sE]at hend;simp only[sF,hend];have hp:=hJ.c rfl;obtain⟨g2,c2,am,aO,aP,aQ,aR,_⟩:=hp.form (by have:=ad.out;omega);rw[am]at hp⊢;have ai:az B t:=by rw[az,<-O.out];exact H
    have ac:Hid (Pk t W2.heap.size 3 (.slice (some ⟨g2,0,none⟩) (i+m) c2) (i+m) (aw cS (L.eraseIdx i))):=aa (by rw[<-aU.out];exact hp.mono (by have:=O.out;have:=S.out;omega));have r:Hid (Kq (fun k=>k=g\/B.heap.size<=k) B t):=aa (Kq.AI ai);have aF:Hid ((L.eraseIdx i).length=i+m):=aa (by rw[Ht (by have:=W.out;omega),<-E.out.1];omega);have bt:(i:Int)+(m:Int)<=(c2:Int):=by omega
    clear hp am aO aP aQ aR ai hJ hend H
    obtain⟨bf,f94,Y,Z,X,ab⟩:=lf (S2:=bS 4 i y l.shown) T S ap aq K aC aE r ac (by rw[aF.out]) (fun h=>by
      exact fun x hx=>h.so x (Iq hx)) (by
      unfold bS;rw[if_neg (by decide),if_neg (by decide),if_neg (by decide),if_pos rfl,if_pos (by rw[<-K.out.sl,D2,<-E.out.1];exact ad.out),<-K.out.sl]
      rw[E5,E5,EF,List.map_take,List.map_drop])
    clear r;have r:=ab;have z:=aa (eB T Y Z X r av)
    go_wp2_with first | ((with_reducible refine ak ?_ z.out.1 ?_);rfl) | ((with_reducible refine ag ?_ ?_ z.out.2.1 ?_);rfl;rfl)
    exact DK (aj rfl rfl z.2.2.1 rfl) rfl z.2.2.2
   case hJ0=>exact JC.start (E9 O)
 ·have aN:¬((1:Int) < (n:Int)):=by omega
  have HS:Hid (bS 4 i y l.shown=l.shown):=aa (by
   unfold bS
   rw[if_neg (by decide),if_neg (by decide),if_neg (by decide),if_pos rfl,if_neg (by rw[<-K.out.sl,D2,<-E.out.1];exact ao)])
  have r:Hid (Kq (fun k=>k=g\/B.heap.size<=k) B B):=aa (Kq.refl _);have ac:=bj;clear ao
  obtain⟨bf,f94,Y,Z,X,ab⟩:=lf (S2:=bS 4 i y l.shown) T S ap aq K aC aE r ac (by rw[<-E.out.1]) (fun h=>by
    exact h.so) (by
    rw[K.out.sl,HS.out])
  clear r;have r:=ab;have z:=aa (eB T Y Z X r av)
  go_wp2_with first | ((with_reducible refine ak ?_ z.out.1 ?_);rfl) | ((with_reducible refine ag ?_ ?_ z.out.2.1 ?_);rfl;rfl)
  exact DK (aj rfl rfl z.2.2.1 rfl) rfl z.2.2.2
theorem AN (at' y:Int) (v:DG) (l:Cp) (w:DF) (h:gD D w v l) (a:fv l) (hid: -1125899906842624<=l.id/\l.id<=1125899906842624):
  DN DE 57 #[v,.int .i64 9,.int .i64 at',.int .i64 y] w fun e w'=>nO D 9 at' y l w e w':=by
 obtain⟨pp,ps,J,G,H,F,n,I,P,R,L,E,rfl,f,d,t,C,r,o,u,b,x,K,O,S,M,N,z⟩:=eV h a;have A:=aa a;have B:=aa hid;clear h a hid;go_enter FH,Fv
 go_wp2_with (with_reducible refine aC (ty:=43) ?_)
 refine au ?_;rw[<-f,<-d];clear f d t;have j:∀c∈zL.toList,c.oneCell'=true:=fun c i=>by simp only[Es,ED,or_false]at i;rcases i with rfl | rfl | rfl | rfl | rfl | rfl | rfl | rfl | rfl<;>rfl
 have s:=aa (b.store (P:=DE) (cs':=zL.toList) rfl j (ty:=43) (by kernel_rfl));have m:=aa (b.set (cs':=zL.toList) rfl);have p:=aa ((Kq.AI (Q:=fun k=>w.heap.size<=k) o).setCells (g:=R) (by have:=r.out;omega) 0 zL.toList);clear j;refine ag rfl rfl s ?_
 go_wp2_with fail
 refine DK (v:=.tuple #[.agg zL,.bool false]) (aj rfl rfl (m.loadVar (P:=DE) DU rfl (by kernel_rfl)) rfl) rfl ?_;exact⟨_,rfl,⟨_,_,_,[],rfl,bZ.nil _ _ 0 0 0 0 0 0⟩,p.ext fun k q=>q⟩
theorem AO (at' y:Int) (v:DG) (l:Cp) (w:DF) (h:gD D w v l) (a:fv l) (hid: -1125899906842624<=l.id/\l.id<=1125899906842624):
  DN DE 57 #[v,.int .i64 6,.int .i64 at',.int .i64 y] w fun e w'=>nO D 6 at' y l w e w':=by
 obtain⟨pp,ps,G,C,E,B,n,F,P,R,L,A,rfl,f,d,c,z,o,j,r,b,s,H,K,M,I,J,t⟩:=eV h a;have u:=aa a;have x:=aa hid;clear h a hid;go_enter FH,Fv
 go_wp2_with (with_reducible refine aA (ty:=3) ?_)
 refine au ?_;rw[<-f,<-d,<-c];clear f d c;have p:=aa (b.store (P:=DE) (cs':=cL ⟨7,l.id,l.obj,[],[],0,0,[],1⟩ (.slice none 0 0) (.slice none 0 0) (.slice none 0 0)) rfl (bk ⟨_,_,_,rfl⟩ ⟨_,_,_,rfl⟩ ⟨_,_,_,rfl⟩) (ty:=43) (by kernel_rfl));have i:=aa (b.set (cs':=cL ⟨7,l.id,l.obj,[],[],0,0,[],1⟩ (.slice none 0 0) (.slice none 0 0) (.slice none 0 0)) rfl);have m:=aa ((Kq.AI (Q:=fun k=>w.heap.size<=k) j).setCells (g:=R) (by have:=o.out;omega) 0 (cL ⟨7,l.id,l.obj,[],[],0,0,[],1⟩ (.slice none 0 0) (.slice none 0 0) (.slice none 0 0)))
 go_wp2_with ((with_reducible refine ag ?_ ?_ p.out ?_);rfl;rfl)
 refine DK (v:=.tuple #[.agg (cL ⟨7,l.id,l.obj,[],[],0,0,[],1⟩ (.slice none 0 0) (.slice none 0 0) (.slice none 0 0)).toArray,.bool true]) (aj rfl rfl (i.loadVar (P:=DE) DU rfl (by kernel_rfl)) rfl) rfl ?_;exact⟨_,rfl,⟨_,_,_,[],rfl,bZ.nil _ _ _ _ _ _ _ _⟩,m.ext fun k q=>q⟩
theorem AP (at' y:Int) (v:DG) (l:Cp) (w:DF) (h:gD D w v l) (m:fv l) (hid: -1125899906842624<=l.id/\l.id<=1125899906842624):
  DN DE 57 #[v,.int .i64 7,.int .i64 at',.int .i64 y] w fun e w'=>nO D 7 at' y l w e w':=by
 obtain⟨pp,ps,A,r,s,p,n,z,P,R,L,a,rfl,x,u,t,T,d,O,g,B,F,W,Z,q7,X,Y,j⟩:=eV h m;have S:=aa m;have o:=aa hid;clear h m hid;go_enter FH,Fv
 go_wp2_with (with_reducible refine aA (ty:=3) ?_)
 refine au ?_;rw[<-x,<-u,<-t];clear x u t;have H:=aa (ej (l.id+1) 1099511627777 a (by decide) (by decide));have J:=o.1;have K:=o.2
 go_wp2_with fail
 refine H.mono ?_;rintro e w6 ⟨rfl,N⟩;subst N;clear J K;have qi:=g.cell (i:=1) rfl;have U:=g.fz (i:=1) (show 1 < 9 by decide);have E:Hid (av (a.setCell ⟨P,1,none⟩ (.int .i64 ((l.id+1) % 1099511627777))) P (cL {l with id:=(l.id+1) % 1099511627777} (.slice pp l.places.length r) (.slice ps n s) (.slice A z p))):=aa (g.put (i:=1) (show 1 < 9 by decide) (.int .i64 ((l.id+1) % 1099511627777)));have f:Kq (fun k=>k=P) a (a.setCell ⟨P,1,none⟩ (.int .i64 ((l.id+1) % 1099511627777))):=(Kq.refl a).setCell (Q:=fun k=>k=P) ⟨P,1,none⟩ rfl _
 have G:Hid (bZ (fun b=>(b < w.heap.size/\b≠D)\/w.heap.size+2<=b) (a.setCell ⟨P,1,none⟩ (.int .i64 ((l.id+1) % 1099511627777))) {l with id:=(l.id+1) % 1099511627777} (.slice pp l.places.length r) (.slice ps n s) (.slice A z p) L):=aa (by
  have h:=F.kept (w':=a.setCell ⟨P,1,none⟩ (.int .i64 ((l.id+1) % 1099511627777))) (F':=fun b=>(b < w.heap.size/\b≠D)\/w.heap.size+2<=b) fun b I M=>⟨I,f.block b M (by have:=d.out;omega)⟩
  exact⟨h.pl,h.sh,h.so,h.sl,h.bl⟩)
 have C:=aa (f.box (by have:=d.out;omega) B);replace j:Hid (Kq (fun k=>w.heap.size<=k) w (a.setCell ⟨P,1,none⟩ (.int .i64 ((l.id+1) % 1099511627777)))):=aa (j.trans (f.mono fun k V q=>by have:=d.out;omega));clear f;have c:=aa (eB d E G C j (show bE 7 at' y l=({l with id:=(l.id+1) % 1099511627777},true)from rfl))
 go_wp2_with first | ((with_reducible refine ak ?_ c.out.1 ?_);rfl) | ((with_reducible refine ag ?_ ?_ c.out.2.1 ?_);rfl;rfl)
 exact DK (aj rfl rfl c.2.2.1 rfl) rfl c.2.2.2
theorem AQ (at' y:Int) (v:DG) (l:Cp) (w:DF) (h:gD D w v l) (m:fv l) (hid: -1125899906842624<=l.id/\l.id<=1125899906842624):
  DN DE 57 #[v,.int .i64 8,.int .i64 at',.int .i64 y] w fun e w'=>nO D 8 at' y l w e w':=by
 obtain⟨pp,ps,z,p,r,o,n,x,P,R,L,a,rfl,u,t,s,M,d,I,g,A,E,S,V,W,T,U,j⟩:=eV h m;have J:=aa m;have K:=aa hid;clear h m hid;go_enter FH,Fv
 go_wp2_with (with_reducible refine aC (ty:=3) ?_)
 refine au ?_;rw[<-u,<-t,<-s];clear u t s;have X:=g.cell (i:=2) rfl;have N:=g.fz (i:=2) (show 2 < 9 by decide);have C:Hid (av (a.setCell ⟨P,2,none⟩ (.int .i64 at')) P (cL {l with obj:=at'} (.slice pp l.places.length p) (.slice ps n r) (.slice z x o))):=aa (g.put (i:=2) (show 2 < 9 by decide) (.int .i64 at'));have f:Kq (fun k=>k=P) a (a.setCell ⟨P,2,none⟩ (.int .i64 at')):=(Kq.refl a).setCell (Q:=fun k=>k=P) ⟨P,2,none⟩ rfl _
 have F:Hid (bZ (fun b=>(b < w.heap.size/\b≠D)\/w.heap.size+2<=b) (a.setCell ⟨P,2,none⟩ (.int .i64 at')) {l with obj:=at'} (.slice pp l.places.length p) (.slice ps n r) (.slice z x o) L):=aa (by
  have h:=E.kept (w':=a.setCell ⟨P,2,none⟩ (.int .i64 at')) (F':=fun b=>(b < w.heap.size/\b≠D)\/w.heap.size+2<=b) fun b G H=>⟨G,f.block b H (by have:=d.out;omega)⟩
  exact⟨h.pl,h.sh,h.so,h.sl,h.bl⟩)
 have B:=aa (f.box (by have:=d.out;omega) A);replace j:Hid (Kq (fun k=>w.heap.size<=k) w (a.setCell ⟨P,2,none⟩ (.int .i64 at'))):=aa (j.trans (f.mono fun k O q=>by have:=d.out;omega));clear f;have c:=aa (eB d C F B j (show bE 8 at' y l=({l with obj:=at'},true)from rfl))
 go_wp2_with first | ((with_reducible refine ak ?_ c.out.1 ?_);rfl) | ((with_reducible refine ag ?_ ?_ c.out.2.1 ?_);rfl;rfl)
 exact DK (aj rfl rfl c.2.2.1 rfl) rfl c.2.2.2
end Go.Proofs.Bl
