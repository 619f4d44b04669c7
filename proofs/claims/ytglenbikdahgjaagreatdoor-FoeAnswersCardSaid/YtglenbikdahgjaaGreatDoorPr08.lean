/- Walks of tree.Inner, Leaf, Node, baileeref12.Leaf, Node. -/
import Derived.Test.YtglenbikdahgjaaGreatDoorPr07
set_option maxRecDepth 100000
set_option maxHeartbeats 16000000
open Array renaming replicate_succ->G8,replicate_zero->G9
open Go renaming Calls->DN,TypeId->Ec,Value->DG,World->DF,bodyPost_ret->DK,maxLen->DV,run_loadVar_mid->Fe,undef->EI
open Go.Addr renaming add_mid->Ft
open Go.Fence renaming wide->GS
open Go.Instr renaming loadAt->Fm,storeAt->Fb
open Go.Lib renaming run_eql_slice_nil->ES
open Go.Oper renaming semAt_some->Is
open Go.Region renaming wanted->DP
open Go.RowKit renaming Below->EZ,intOf->Ef
open Go.RowKit.Below renaming refl->DI,trans->Ei
open Go.Value renaming int->Ej,slice->FE
open Go.World renaming block_lt_of_cell?->DM,ownsRow_nil->EU,rangeAt_setCells_same->Eb,size_alloc->DO
open List renaming append_toArray->Il,cons_append->GN,finRange->F5,getD_eq_getElem?_getD->DJ,getElem?_eq_getElem->DL,getElem_mem->Fc,length_cons->Eu,length_drop->DR,length_eq_zero_iff->Ed,length_nil->EK,length_set->Ea,length_take->DX,map_append->EF,nil_append->EG,size_toArray->GD,take_length->Ge,take_succ_eq_append_getElem->E1
open Nat renaming le_refl->DH,le_succ->FW,le_trans->D0,lt_of_lt_of_le->D9,not_lt_zero->Gr,zero_add->DY,zero_le->DZ
namespace Go.Proofs.Bl
open Go Go.RowKit Go.Proofs
open Go.Proofs.Tryz renaming prog->DE,underlying52->FJ,underlying54->EC,underlying55->G6
variable {g c i b o n B:Nat} {d:Nat->Bool}
theorem tP (l r:List Int) (w:DF) (n:l.length=32) (o:r.length=32):
  DN DE 92 #[.agg (ao .u8 l).toArray,.agg (ao .u8 r).toArray] w fun e w'=>∃f,e=.returned f/\w'.ownsRow w.heap.size 5 1 f ((l++r).length+1) (ao .u8 (1 :: (l++r)))/\az w w':=by
 have g:=aa n;have i:=aa o;clear n o;go_enter Tryz.func92,Tryz.ntmps92
 go_wp2_with fail
 have h1:=aJ (fu w l 54) (ae _ (.cells (ao .u8 r).toArray 54));have h2:=fu (w.alloc (.cells (ao .u8 l).toArray 54)) r 54;rw[DO]at h2;have b:Hid (az w ((w.alloc (.cells (ao .u8 l).toArray 54)).alloc (.cells (ao .u8 r).toArray 54))):=aa ((ae _ _).trans (ae _ _));obtain⟨W,m⟩:=exq ((w.alloc (.cells (ao .u8 l).toArray 54)).alloc (.cells (ao .u8 r).toArray 54));rw[<-m]at h1 h2 b⊢;have s:=aa (n6 h1 g (by decide));have t:=aa (n6 h2 i (by decide));clear m h1 h2;apply aL 5 [5,6,7,8,9] [(fun v w'=>dC w' v [1]),ar _,ar _,(fun v w'=>bf w' v [[1],l,r]),(fun v w'=>w'.ownsRow w.heap.size 5 1 v ((l++r).length+1) (ao .u8 (1 :: (l++r))))] (by kernel_rfl) (by kernel_rfl) (by kernel_rfl) (by kernel_rfl);case hsteps=>
  refine⟨?_,?_,?_,?_,?_,trivial⟩;all_goals
   intro E C a c d;have y:=c 2 (by decide);have z:=c 3 (by decide);clear c;simp only[sB]at y z;simp only[sD]at d;have H:=(aD a).1;try (obtain⟨⟨I,D,B,j⟩,F,G⟩:=d;rw[B]at j)
   simp only[dJ,DP,if_true];go_simp;first | exact⟨ae _ _,n7 _ _ _⟩ | exact⟨ae _ _,jw j (s.ext a) (t.ext a) _⟩ | (go_at_call 100;refine(kB _ [[1],l,r] _ d (by simp) (by simp[g.out,i.out])).mono ?_;rintro e J ⟨f,rfl,h1,h2⟩;exact⟨_,rfl,h2,(by have A:=dQ h1 (D0 b.size a.size);simpa using A)⟩) | exact⟨DI _ _,rfl⟩
 case hmono=>exact⟨(fun _ _ _ h k=>dC.ext h k),aB _,aB _,(fun _ _ _ h k=>bf.ext h k),(fun _ _ _ h k=>aR h k),trivial⟩
 case hend=>
  intro u C a hend;simp only[sE]at hend;simp only[sF,hend];have p:=hend.2;have q:=aa (b.trans a);have x:=aa p;clear hend a p
  go_wp2_with fail
  go_ret;exact⟨_,rfl,x,q⟩
theorem tQ (l r:List Int) (w:DF) (c:l.length=32) (d:r.length=32):
  DN DE 92 #[.agg (ao .u8 l).toArray,.agg (ao .u8 r).toArray] w fun e w'=>∃a,e=.returned a/\Rd w' .u8 a (1 :: (l++r))/\az w w':=
 (tP l r w c d).mono fun _ _ ⟨a,h1,h2,b⟩=>⟨a,h1,bh.AS h2,b⟩
theorem vT (v:DG) (l:List Int) (w:DF) (h:Rd w .u8 v l) (t:fO w) (s:bA l) (hlen:l.length<=1099511627000):
  DN DE 91 #[v] w fun e w'=>e=.returned (.agg (ao .u8 (im l)).toArray)/\az w w':=by
 obtain⟨p,c,F,I,H⟩:=h.form;subst F;have A:=aa h;have x:=aa t;have u:=aa s;clear h t s;go_enter Tryz.func91,Tryz.ntmps91
 go_wp2_with fail
 have f:=aa (dq w 32 .u8 54 zA rfl);have b:=aa (ae w (.cells zA 54));obtain⟨n,r⟩:=exq (w.alloc (.cells zA 54));rw[<-r]at f b⊢;clear r;refine(tF _ l n (A.ext b) hlen).mono ?_;rintro e G ⟨v1,rfl,i,o⟩;obtain⟨p1,B,C,_,_⟩:=i.form;subst C;have H1:=aa (u6 i 27);have d:Hid (az n (G.alloc (.cells #[.slice p1 (0 :: l).length B] 27))):=aa (o.trans (ae _ _));clear i o
 go_wp2_with fail
 refine(qY _ [0 :: l] _ H1 (x.ext (b.trans d)) (by simpa using jU (by decide) (by decide) u) (by simp;omega)).mono ?_;rintro e J ⟨rfl,q⟩;have a:sha ([0 :: l]:List (List Int)).flatten=im l:=by unfold im;rw[List.flatten_singleton]
 rw[a];obtain⟨sh,a⟩:=exq (im l);have g:Hid (sh.length=32):=aa (by rw[a];rfl);have y:=aa a;rw[<-a];have j:=aa (d.trans q);clear q H1 d a;have m:=aa (f.below j (DM _ _ (f.1 0 (by decide))));have z:=aa (bu (P:=DE) (k:=.u8) (ty:=54) (l:=sh) m.there (by kernel_rfl) g)
 go_wp2_with (((with_reducible refine bM ?_ ?_ z.out ?_);rfl;rfl))
 have D:=Eb _ (w.heap.size) 0 (ao .u8 sh) (by rw[ints_length,g.out];exact m.there);have E:=Fe (P:=DE) _ (w.heap.size) 0 54 (ao .u8 sh) _ D EC rfl (by rw[ints_length,g.out];kernel_rfl);refine DK (v:=.agg (ao .u8 sh).toArray) (aG rfl rfl E) rfl ⟨by rw[y.out],aE _ _ _ _ (b.trans j) (DH _)⟩
theorem vU (l r:List Int) (w:DF) (A:l.length=32) (C:r.length=32) (u:bA l) (x:bA r) (z:fO w):
  DN DE 131 #[.agg (ao .u8 l).toArray,.agg (ao .u8 r).toArray] w fun e w'=>e=.returned (.agg (ao .u8 (eo l r)).toArray)/\az w w':=by
 have f:=aa A;have g:=aa C;have D:Hid (bA (1 :: (l++r))):=aa (jU (by decide) (by decide) (u.append x));have E:=aa z;clear A C u x z;go_enter Tryz.func131,Tryz.ntmps131
 go_wp2_with (with_reducible refine aA (ty:=54) ?_)
 refine au ?_;have h1:=aJ (aJ (fu w l 54) (ae _ (.cells (ao .u8 r).toArray 54))) (ae _ (.cells zA 54));have h2:=aJ (fu (w.alloc (.cells (ao .u8 l).toArray 54)) r 54) (ae _ (.cells zA 54));rw[DO]at h2;have b:=dq ((w.alloc (.cells (ao .u8 l).toArray 54)).alloc (.cells (ao .u8 r).toArray 54)) 32 .u8 54 zA rfl;simp only[DO]at b;have c:Hid (az w (((w.alloc (.cells (ao .u8 l).toArray 54)).alloc (.cells (ao .u8 r).toArray 54)).alloc (.cells zA 54))):=aa (((ae _ _).trans (ae _ _)).trans (ae _ _));obtain⟨W,t⟩:=exq (((w.alloc (.cells (ao .u8 l).toArray 54)).alloc (.cells (ao .u8 r).toArray 54)).alloc (.cells zA 54));rw[<-t]at h1 h2 b c⊢;have o:=aa (bC (P:=DE) (ty:=54) h1 EC (by kernel_rfl) f);have p:=aa (bC (P:=DE) (ty:=54) h2 EC (by kernel_rfl) g);have m:=aa b;clear t h1 h2 b;refine ak rfl o ?_
 go_wp2_with (with_reducible refine aA (ty:=54) ?_)
 refine au ?_;refine ak rfl p ?_;clear o p
 go_wp2_with fail
 refine(tQ l r W f g).mono ?_;rintro e L ⟨v1,rfl,i,q⟩;obtain⟨p1,H,y,_,_⟩:=i.form;obtain⟨K,B⟩:=exq ((1 :: (l++r)).length);rw[<-B]at y;clear B;subst y;have H1:=aa (u6 i 27);have d:Hid (az W (L.alloc (.cells #[.slice p1 K H] 27))):=aa (q.trans (ae _ _));clear i q
 go_wp2_with fail
 refine(qY _ [1 :: (l++r)] _ H1 (E.ext (c.trans d)) (by simpa using D.out) (by simp[f.out,g.out])).mono ?_;rintro e M ⟨rfl,s⟩;have a:sha ([1 :: (l++r)]:List (List Int)).flatten=eo l r:=by unfold eo;rw[List.flatten_singleton]
 rw[a];obtain⟨sh,a⟩:=exq (eo l r);have h:Hid (sh.length=32):=aa (by rw[a];rfl);have F:=aa a;rw[<-a];have j:=aa (d.trans s);clear s H1 d a;have n:=aa (m.below j (DM _ _ (m.1 0 (by decide))));have G:=aa (bu (P:=DE) (k:=.u8) (ty:=54) (l:=sh) n.there (by kernel_rfl) h)
 go_wp2_with (((with_reducible refine bM ?_ ?_ G.out ?_);rfl;rfl))
 have I:=Eb _ (w.heap.size+1+1) 0 (ao .u8 sh) (by rw[ints_length,h.out];exact n.there);have J:=Fe (P:=DE) _ (w.heap.size+1+1) 0 54 (ao .u8 sh) _ I EC rfl (by rw[ints_length,h.out];kernel_rfl);refine DK (v:=.agg (ao .u8 sh).toArray) (aG rfl rfl J) rfl ⟨by rw[F.out],aE _ _ _ _ (c.trans j) (by omega)⟩
theorem pG (v:DG) (l:List Int) (w:DF) (o:Rd w .u8 v l) (E:dX w) (D:bA l) (hlen:l.length<=1099511627000):
  DN DE 79 #[v] w fun e w'=>e=.returned (.agg (ao .u8 (im l)).toArray)/\az w w':=by
 obtain⟨p,c,S,W,V⟩:=o.form;subst S;have L:=aa o;have I:=aa E;have H:=aa D;clear o E D;go_enter Tryz.func79,Tryz.ntmps79
 go_wp2_with (with_reducible refine ax ?_)
 refine au ?_;have j:=aa (dq w 32 .u8 52 zA rfl);have b:=aa (ae w (.cells zA 52));have f:=bW (w.alloc (.cells zA 52)) 5 #[.int .u8 0] (w.heap.size+1) 1 1 (by simp) (by decide) rfl;simp only[DO]at f;have n:=ae (w.alloc (.cells zA 52)) (.cells #[.int .u8 0] 5);have r:(w.alloc (.cells zA 52)).heap.size=w.heap.size+1:=by simp
 obtain⟨M,C⟩:=exq (w.alloc (.cells zA 52));rw[<-C]at j b f n r⊢;have x:=aa f;have g:=aa n;have z:=aa r;clear C f n r;refine aZ aO x ((L.ext b).ext g) rfl rfl (by simp) (aF _ _) (by unfold DV;omega) (by omega) (by simp;rw[z.out];omega) ?_;intro q d s F O A N U T;have G:Rd s .u8 (.slice q (1+l.length) d) (0 :: l):=by have h:=bh.AS F;show bh _ _ (l.length+1) _;rw[Nat.add_comm l.length 1];exact h
 have i:Hid (az M s):=aa (Ei g (by rw[z.out];exact A));have y:=aa G;clear F O A N G g x
 go_wp2_with fail
 refine(kC _ (0 :: l) s y (I.ext (b.trans i)) (jU (by decide) (by decide) H) (by simp;omega)).mono ?_;rintro e X ⟨rfl,B⟩;have a:sha (0 :: l)=im l:=rfl;rw[a];obtain⟨sh,a⟩:=exq (im l);have m:Hid (sh.length=32):=aa (by rw[a];rfl);have J:=aa a;rw[<-a];have t:=aa (i.trans B);clear B i a y;have u:=aa (j.below t (DM _ _ (j.1 0 (by decide))));have K:=aa (bu (P:=DE) (k:=.u8) (ty:=52) (l:=sh) u.there (by kernel_rfl) m)
 go_wp2_with (((with_reducible refine bM ?_ ?_ K.out ?_);rfl;rfl))
 have Q:=Eb _ (w.heap.size) 0 (ao .u8 sh) (by rw[ints_length,m.out];exact u.there);have R:=Fe (P:=DE) _ (w.heap.size) 0 52 (ao .u8 sh) _ Q FJ rfl (by rw[ints_length,m.out];kernel_rfl);refine DK (v:=.agg (ao .u8 sh).toArray) (aG rfl rfl R) rfl ⟨by rw[J.out],aE _ _ _ _ (b.trans t) (DH _)⟩
theorem pH (l r:List Int) (w:DF) (Q:l.length=32) (S:r.length=32) (M:bA l) (N:bA r) (O:dX w):
  DN DE 86 #[.agg (ao .u8 l).toArray,.agg (ao .u8 r).toArray] w fun e w'=>e=.returned (.agg (ao .u8 (eo l r)).toArray)/\az w w':=by
 have o:=aa Q;have f:=aa S;have V:Hid (bA (1 :: (l++r))):=aa (jU (by decide) (by decide) (M.append N));have X:=aa O;clear Q S M N O;go_enter Tryz.func86,Tryz.ntmps86
 go_wp2_with fail
 have h1:=aJ (aJ (fu w l 52) (ae _ (.cells (ao .u8 r).toArray 52))) (ae _ (.cells zA 52));have h2:=aJ (fu (w.alloc (.cells (ao .u8 l).toArray 52)) r 52) (ae _ (.cells zA 52));rw[DO]at h2;have g:=dq ((w.alloc (.cells (ao .u8 l).toArray 52)).alloc (.cells (ao .u8 r).toArray 52)) 32 .u8 52 zA rfl;simp only[DO]at g;have j:Hid (az w (((w.alloc (.cells (ao .u8 l).toArray 52)).alloc (.cells (ao .u8 r).toArray 52)).alloc (.cells zA 52))):=aa (((ae _ _).trans (ae _ _)).trans (ae _ _));obtain⟨W,L⟩:=exq (((w.alloc (.cells (ao .u8 l).toArray 52)).alloc (.cells (ao .u8 r).toArray 52)).alloc (.cells zA 52));rw[<-L]at h1 h2 g j⊢;have T:=aa h1;have U:=aa h2;have E:=aa g;obtain⟨B,J⟩:=exq W.heap.size;have i:=aa J;clear L h1 h2 g J;apply aL 4 [5,6,7,8] [(fun v w'=>tu w' v 1),ar _,(fun v w'=>ll w' v B 5 (1+32) (1 :: l)),ar _] (by kernel_rfl) (by kernel_rfl) (by kernel_rfl) (by kernel_rfl);case hsteps=>
  refine⟨?_,?_,?_,?_,trivial⟩;all_goals
   intro ev w1 a x y;have e2:=x 2 (by decide);have e3:=x 3 (by decide);clear x;simp only[sB]at e2 e3;simp only[sD]at y;have hc:=(aD a).1;simp only[dJ,DP,if_true];first
   | (obtain⟨c,w3,q1,q2,q3⟩:=AY aO (DH 1) (B:=B) y.1 ⟨w.heap.size,y.2,aJ T a⟩ o (by decide) (by decide) (by rw[i.out];exact a.size);refine qL q1 rfl rfl q2 ⟨_,c,rfl,q3⟩)
   | (go_simp;first | exact⟨ae _ _,u9 _ _ _⟩ | exact⟨DI _ _,rfl⟩)
 case hmono=>exact⟨(fun _ _ _ h k=>tu.ext h k),aB _,(fun _ _ _ h k=>ll.ext h k),aB _,trivial⟩
 case hend=>
  intro u w1 a hend;simp only[sE]at hend;simp only[sF,hend];obtain⟨⟨⟨_,_⟩,p,c,R,z⟩,_⟩:=hend;rw[R]at z⊢;have H:=aa z;have G:=aa ((n6 U f (by decide)).ext a);have m:=aa a;clear z R a
  go_wp2_with (with_reducible refine ax ?_)
  refine au ?_;refine aZ aO H G rfl rfl (by simp) (aF _ _) (by rw[f.out];decide) (by rw[f.out];decide) (by rw[i.out];exact m.size) ?_;intro q d C A af t ad av aq;rw[<-aT]at A;have n:Hid (az W C):=aa (Ei m (by rw[i.out]at t;exact t))
  have I:Hid (Rd C .u8 (.slice q (1+32+r.length) d) (1 :: (l++r))):=aa (by
   have h:=bh.AS A;show bh _ _ ((l++r).length+1) _
   rw[List.length_append,o.out,show 32+r.length+1=1+32+r.length from by omega];exact h)
  clear A af t ad H G m
  go_wp2_with fail
  refine(kC _ (1 :: (l++r)) C I (X.ext (j.trans n)) V (by simp[o.out,f.out])).mono ?_;rintro e w3 ⟨rfl,K⟩;have b:sha (1 :: (l++r))=eo l r:=rfl;rw[b];obtain⟨sh,b⟩:=exq (eo l r);have s:Hid (sh.length=32):=aa (by rw[b];rfl);have Y:=aa b;rw[<-b];have D:=aa (n.trans K);clear K n b I;have F:=aa (E.below D (DM _ _ (E.1 0 (by decide))));have Z:=aa (bu (P:=DE) (k:=.u8) (ty:=52) (l:=sh) F.there (by kernel_rfl) s)
  go_wp2_with (((with_reducible refine bM ?_ ?_ Z.out ?_);rfl;rfl))
  have ag:=Eb _ (w.heap.size+1+1) 0 (ao .u8 sh) (by rw[ints_length,s.out];exact F.there);have ah:=Fe (P:=DE) _ (w.heap.size+1+1) 0 52 (ao .u8 sh) _ ag FJ rfl (by rw[ints_length,s.out];kernel_rfl);refine DK (v:=.agg (ao .u8 sh).toArray) (aG rfl rfl ah) rfl ⟨by rw[Y.out],aE _ _ _ _ (j.trans D) (by omega)⟩
theorem rj (v:DG) (ps:List (List Int)) (w:DF) (hR:bf w v ps) (K:fO w) (I:∀p∈ps,bA p) (L:∀p∈ps,p.length<=1099511627000) (hn:ps.length<=1048576):
  DN DE 81 #[v] w fun e w'=>∃p c,e=.returned (.slice p ps.length c)/\w'.ownsRow w.heap.size 54 32 (.slice p ps.length c) ps.length (aN (ps.map im))/\az w w':=by
 obtain⟨ws,x,O,P⟩:=hR;obtain⟨p,c,al,aD,aC⟩:=x.form;subst al;have Hv:=aa x;have af:=aa P;have ad:=aa O;have V:=aa K;have T:=aa I;have W:=aa L;obtain⟨B,q⟩:=exq w.heap.size;rw[<-q];have z:=aa q;clear x P K I O L q;go_enter Tryz.func81,Tryz.ntmps81
 go_wp2_with fail
 go_loopw [3,8] (fun o i wr=>∃(k n:Nat) (p1:Option Addr),k<=ps.length/\i=.int .i64 k/\o=.slice p1 k n/\wr.ownsRow B 54 32 (.slice p1 k n) k (aN ((ps.take k).map im))/\az w wr) (fun _ i _=>ps.length - (Ef i).toNat);case atStart=>exact⟨0,0,none,DZ _,rfl,rfl,EU _ _ _ _,DI _ _⟩
 case round=>
  obtain⟨k,n,p1,hk,rfl,rfl,g,G⟩:=hrel;have E:=aa g;have h:=aa G;clear g G;by_cases f:k < ps.length
  ·obtain⟨b,o,aj,ap,J⟩:=bf.Cv (Hv.ext h) ad k f;subst aj;have j:=af k f;obtain⟨a,l⟩:=exq (ps.getD k []);have M:a∈ps:=by rw[l,DJ,DL f];exact Fc f
   rw[<-l]at j;obtain⟨Q,F,u,aB,av⟩:=j.form;have ar:wr.cell? ⟨b,o+k,none⟩=some (.slice Q a.length F):=by rw[J,u]
   have H:Rd wr .u8 (.slice Q a.length F) a:=by rw[<-u];exact j.ext h
   have S:=aa H;have D:=aa M;have ak:Hid ((ps.take (k+1)).map im=(ps.take k).map im++[im a]):=by show _=_;rw[l,DJ,DL f,E1 f,EF];rfl
   clear j u J H l M
   go_wp2_with fail
   refine(vT _ a wr S (V.ext h) (T _ D) (W _ D)).mono ?_;rintro e y ⟨rfl,s⟩;have m:(im a).length=32:=jv a;obtain⟨d,t⟩:=exq (im a);rw[<-t]at m⊢;have C:=aa m;have U:=aa t;have Z:=aa (aR (aR E s) (ae y (.cells (ao .u8 d).toArray 54)));have X:=aa (fS y 54 d m);have A:Hid (az w (y.alloc (.cells (ao .u8 d).toArray 54))):=aa ((h.trans s).trans (ae _ _));clear s m t
   go_wp2_with (with_reducible refine db ?_)
   refine au ?_;refine da jS (by decide) rfl (by simp[C.out]) ?_
   go_wp2_with (with_reducible refine ax ?_)
   refine au ?_;refine aZ jS Z X rfl rfl (by rw[cZ,ints_length,C.out]) (cH _) (by unfold DV;omega) (by omega) (by rw[z.out];exact A.size) ?_;intro q3 d3 w3 N ai r ag aA aq;have ab:=aa N;have R:Hid (az w w3):=aa (Ei A (by rw[z.out]at r;exact r));clear N ai r ag
   go_wp2_with fail
   go_roundw;case rel=>refine⟨k+1,d3,q3,by omega,by go_num,rfl,?_,R⟩;rw[ak.out,cE,<-U.out];exact ab
   case measure=>simp[Ef];omega
  ·obtain rfl:k=ps.length:=by omega
   have g:=E.out;rw[Ge]at g;have Y:=aa g;clear g
   go_wp2_with fail
   go_ret;exact⟨_,_,rfl,Y,h⟩
theorem mM (v:DG) (ps:List (List Int)) (w:DF) (hR:bf w v ps) (I:dX w) (G:∀p∈ps,bA p) (J:∀p∈ps,p.length<=1099511627000) (hn:ps.length<=1048576):
  DN DE 44 #[v] w fun e w'=>∃p c,e=.returned (.slice p ps.length c)/\w'.ownsRow w.heap.size 52 32 (.slice p ps.length c) ps.length (aN (ps.map im))/\az w w':=by
 obtain⟨ws,t,N,O⟩:=hR;obtain⟨p,c,am,aE,aD⟩:=t.form;subst am;have Hv:=aa t;have ag:=aa O;have af:=aa N;have V:=aa I;have T:=aa G;have W:=aa J;have L:=et w 52 w.heap.size (DH _) 32;have E:=ae w (.cells #[] 52);have Y:=aa L;have Q:=aa E;clear t O I G N J L E;go_enter Tryz.func44,Tryz.ntmps44
 go_wp2_with fail
 go_loopw [3,9] (fun o i wr=>∃(k n:Nat) (p1:Option Addr),k<=ps.length/\i=.int .i64 k/\o=.slice p1 k n/\wr.ownsRow w.heap.size 52 32 (.slice p1 k n) k (aN ((ps.take k).map im))/\az w wr) (fun _ i _=>ps.length - (Ef i).toNat);case atStart=>exact⟨0,0,_,DZ _,rfl,rfl,Y,Q⟩
 case round=>
  obtain⟨k,n,p1,hk,rfl,rfl,g,D⟩:=hrel;have A:=aa g;have h:=aa D;clear g D;by_cases f:k < ps.length
  ·obtain⟨b,o,ak,aq,H⟩:=bf.Cv (Hv.ext h) af k f;subst ak;have j:=ag k f;obtain⟨a,l⟩:=exq (ps.getD k []);have K:a∈ps:=by rw[l,DJ,DL f];exact Fc f
   rw[<-l]at j;obtain⟨P,B,s,aC,aw⟩:=j.form;have av:wr.cell? ⟨b,o+k,none⟩=some (.slice P a.length B):=by rw[H,s]
   have F:Rd wr .u8 (.slice P a.length B) a:=by rw[<-s];exact j.ext h
   have S:=aa F;have z:=aa K;have al:Hid ((ps.take (k+1)).map im=(ps.take k).map im++[im a]):=by show _=_;rw[l,DJ,DL f,E1 f,EF];rfl
   clear j s H F l K
   go_wp2_with fail
   refine(pG _ a wr S (V.ext h) (T _ z) (W _ z)).mono ?_;rintro e u ⟨rfl,q⟩;have m:(im a).length=32:=jv a;obtain⟨d,r⟩:=exq (im a);rw[<-r]at m⊢;have y:=aa m;have U:=aa r;have ab:=aa (aR (aR A q) (ae u (.cells (ao .u8 d).toArray 52)));have X:=aa (fS u 52 d m);have x:Hid (az w (u.alloc (.cells (ao .u8 d).toArray 52))):=aa ((h.trans q).trans (ae _ _));clear q m r
   go_wp2_with (with_reducible refine db ?_)
   refine au ?_;refine da lP (by decide) rfl (by simp[y.out]) ?_
   go_wp2_with (with_reducible refine ax ?_)
   refine au ?_;refine aZ lP ab X rfl rfl (by rw[cZ,ints_length,y.out]) (cH _) (by unfold DV;omega) (by omega) x.size ?_;intro q3 d3 w3 M aj C ah aB ar;have ac:=aa M;have R:Hid (az w w3):=aa (Ei x C);clear M aj C ah
   go_wp2_with fail
   go_roundw;case rel=>refine⟨k+1,d3,q3,by omega,by go_num,rfl,?_,R⟩;rw[al.out,cE,<-U.out];exact ac
   case measure=>simp[Ef];omega
  ·obtain rfl:k=ps.length:=by omega
   have g:=A.out;rw[Ge]at g;have Z:=aa g;clear g
   go_wp2_with fail
   go_ret;exact⟨_,_,rfl,Z,h⟩
section
attribute [local go_sem] Is
theorem rk (w:DF) (p:Option Addr) (n c:Nat):
  DN DE 130 #[.slice p n c,.int .i64 2] w fun e w'=>e=.returned (.func (.func 150) #[] #[.pointer (some ⟨w.heap.size,0,none⟩),.pointer (some ⟨w.heap.size+1,0,none⟩)])/\w'=(w.alloc (.cells #[.slice p n c] 55)).alloc (.cells #[.int .i64 2] 3):=by
 go_enter Tryz.func130,Tryz.ntmps130
 go_wp2
 go_ret;exact⟨rfl,rfl⟩
theorem rl (n lr q p o g b off N m cap:Nat) (hn:1<=n) (hm:2*m<=N+1) (aB:N<=2*m) (au:N<=cap) (aC:N<=1048576) (ai:cap<=DV) (C:q < g) (z:p < g) (D:q≠o) (A:p≠o) (J Y:List (Fin m)->DF->Prop) (B0:Nat) (Z:AbidesFrom B0 J)
  (hY:∀pre x W,J pre W->pre.length < m->YieldAt GS (n - 1) DE lr #[.slice (some ⟨b,off+2*x.val*32,none⟩) (ln N x.val) (ln N x.val)] W fun e l=>
   (e=.returned (.bool true)/\J (pre++[x]) l/\dc o g W l)\/(e=.returned (.bool false)/\Y (pre++[x]) l))
  (W:DF) (ac:W.cell? ⟨q,0,none⟩=some (.slice (some ⟨b,off,none⟩) N cap)) (ab:W.cell? ⟨p,0,none⟩=some (.int .i64 2)) (h0:J [] W) (ap:g<=W.heap.size):
  CallsIn GS n DE 150 #[.func (.yield lr) #[] #[],.pointer (some ⟨q,0,none⟩),.pointer (some ⟨p,0,none⟩)] W fun e l=>(∃v,e=.returned v)/\
   ((∃xs,xs=F5 m/\J xs l)\/(∃pre,(∃k,k<=m/\pre=dV m k)/\Y pre l)):=by
 unfold DV at ai;refine callsIn_of_wp Tryz.func150 rfl trivial ?_ rfl;simp only[Tryz.ntmps150,GD,Eu,EK,Nat.reduceAdd,Nat.reduceSub,G8,G9,List.push_toArray,Il,EG,GN]
 gi_wp2
 gi_loopw [4] (fun i wr=>∃k:Nat,k<=m/\i=.int .i64 (2*k:Nat)/\J (dV m k) wr/\dc o g W wr)
  (fun i _=>2*m - (Ef i).toNat)
 case atStart=>exact⟨0,DZ _,rfl,h0,dc.refl _ _ _⟩
 case round=>
  obtain⟨k,hk,rfl,Q,j⟩:=hrel;have ae:g<=wr.heap.size:=D0 ap j.1;have E:q < wr.heap.size:=DM _ _ ((j.cell (i:=0) C D).trans ac);have B:p < wr.heap.size:=DM _ _ ((j.cell (i:=0) z A).trans ab);have G:=(j.cell (i:=0) C D).trans ac;have F:=(j.cell (i:=0) z A).trans ab;by_cases d:k < m
  ·have al:((2*k:Nat):Int) < (N:Int):=by omega
   have hle:((2*k:Nat):Int)<=(N:Int):=by omega
   have aA:((2*k:Nat):Int)<=(cap:Int):=by omega
   have I:(2*(k:Int)).toNat=2*k:=by omega
   have av:(0:Int)<=2*(k:Int):=by omega
   have ax:2*(k:Int)<=(N:Int):=by omega
   have aw:2*(k:Int)<=(cap:Int):=by omega
   have az:2*(k:Int) < (N:Int):=by omega
   by_cases H:2*k+2<=N
   ·have X:ln N k=2:=if_pos H;have aq:(2:Int)<=((N - 2*k:Nat):Int):=by omega
    clear H
    gi_wp2
    refine wpIn_wide.2 ?_;apply aL 6 [13,14,15,16,17,18] [ar (.int .i64 2),ar (.slice (some ⟨b,off,none⟩) N cap),ar (.int .i64 (2*k:Nat)),ar (.slice (some ⟨b,off+2*k*32,none⟩) (N - 2*k) (cap - 2*k)),ar (.int .i64 (N - 2*k:Nat)),ar (.int .i64 2)] (by kernel_rfl) (by kernel_rfl) (by kernel_rfl) (by rfl);case hsteps=>
     refine⟨?_,?_,?_,?_,?_,?_,trivial⟩;all_goals
      intro ev c a f U;have K:=f 1 (by decide);have L:=f 2 (by decide);have M:=f 4 (by decide);clear f;simp only[sB]at K L M;simp only[sD]at U;have t:=(aD a).1;have y:=(t _ 0 E).trans G;have w:=(t _ 0 B).trans F;simp only[dJ,DP,if_true];go_simp;first
       | exact⟨DI _ _,rfl⟩
       | exact⟨DI _ _,by show Ej _ _=Ej _ _;congr 1;omega⟩
       | exact⟨DI _ _,by rw[if_neg (by omega)];rfl⟩
       | exact⟨DI _ _,by rw[if_neg (by omega),I];rfl⟩
       | exact⟨DI _ _,by rw[if_neg (by omega),I,show 2*k+1 - 2*k=1 from by omega];rfl⟩
    case hend=>
     intro u c a hend;simp only[sE]at hend;simp only[sF,hend];have y:=((aD a).1 _ 0 E).trans G;have w:=((aD a).1 _ 0 B).trans F;have O:J (dV m k) c:=Z _ wr c none Q (kv a) (fun r e=>by cases e);have S:dc o g wr c:=⟨a.size,fun i V _=>a.block i (D9 V ae)⟩
     go_wp2_with fail
     have s:=hY _ ⟨k,d⟩ c O (by rw[fW _ _ hk];exact d);rw[show ln N (⟨k,d⟩:Fin m).val=2 from X]at s;obtain⟨fn,tmps,assign,body,hy,T⟩:=s;dsimp only at hy;have am:((2*k:Nat):Int)+2<=(cap:Int):=by omega
     have an:(2*(k:Int)+2).toNat=2*k+2:=by omega
     gi_wp2
     refine T.mono ?_;rintro e W3 (⟨rfl,P,h⟩ | ⟨rfl,R⟩)
     ·have ak:=(h.cell (i:=0) C D).trans y;have aj:=(h.cell (i:=0) z A).trans w;have ao:2*(k:Int)+2=((2*(k+1):Nat):Int):=by omega
      gi_wp2
      go_roundw;case rel=>exact⟨k+1,by omega,by simp,by rw[ef _ _ d];exact P,(j.trans S).trans h⟩
      case measure=>simp[Ef];omega
     ·gi_wp2
      refine DK (results_none rfl _ _ _) rfl ?_;exact⟨⟨_,rfl⟩,.inr ⟨_,⟨k+1,by omega,(ef _ _ d).symm⟩,R⟩⟩
    case hmono=>exact mL
   ·obtain rfl:N=2*k+1:=by omega
    have X:ln (2*k+1) k=1:=if_neg H;have ay:2*(k:Int)<=2*(k:Int)+1:=by omega
    clear H
    gi_wp2
    refine wpIn_wide.2 ?_;apply aL 6 [13,14,15,16,17,18] [ar (.int .i64 2),ar (.slice (some ⟨b,off,none⟩) (2*k+1) cap),ar (.int .i64 (2*k:Nat)),ar (.slice (some ⟨b,off+2*k*32,none⟩) (1) (cap - 2*k)),ar (.int .i64 (1:Nat)),ar (.int .i64 1)] (by kernel_rfl) (by kernel_rfl) (by kernel_rfl) (by rfl);case hsteps=>
     refine⟨?_,?_,?_,?_,?_,?_,trivial⟩;all_goals
      intro ev c a f U;have K:=f 1 (by decide);have L:=f 2 (by decide);have M:=f 4 (by decide);clear f;simp only[sB]at K L M;simp only[sD]at U;have t:=(aD a).1;have y:=(t _ 0 E).trans G;have w:=(t _ 0 B).trans F;simp only[dJ,DP,if_true];go_simp;first
       | exact⟨DI _ _,rfl⟩
       | exact⟨DI _ _,by show Ej _ _=Ej _ _;congr 1;omega⟩
       | exact⟨DI _ _,by rw[if_neg (by omega)];rfl⟩
       | exact⟨DI _ _,by rw[if_neg (by omega),I];rfl⟩
       | exact⟨DI _ _,by rw[if_neg (by omega),I,show 2*k+1 - 2*k=1 from by omega];rfl⟩
    case hend=>
     intro u c a hend;simp only[sE]at hend;simp only[sF,hend];have y:=((aD a).1 _ 0 E).trans G;have w:=((aD a).1 _ 0 B).trans F;have O:J (dV m k) c:=Z _ wr c none Q (kv a) (fun r e=>by cases e);have S:dc o g wr c:=⟨a.size,fun i V _=>a.block i (D9 V ae)⟩
     go_wp2_with fail
     have s:=hY _ ⟨k,d⟩ c O (by rw[fW _ _ hk];exact d);rw[show ln (2*k+1) (⟨k,d⟩:Fin m).val=1 from X]at s;obtain⟨fn,tmps,assign,body,hy,T⟩:=s;dsimp only at hy;have am:((2*k:Nat):Int)+1<=(cap:Int):=by omega
     have an:(2*(k:Int)+1).toNat=2*k+1:=by omega
     gi_wp2
     refine T.mono ?_;rintro e W3 (⟨rfl,P,h⟩ | ⟨rfl,R⟩)
     ·have ak:=(h.cell (i:=0) C D).trans y;have aj:=(h.cell (i:=0) z A).trans w;have ao:2*(k:Int)+2=((2*(k+1):Nat):Int):=by omega
      gi_wp2
      go_roundw;case rel=>exact⟨k+1,by omega,by simp,by rw[ef _ _ d];exact P,(j.trans S).trans h⟩
      case measure=>simp[Ef];omega
     ·gi_wp2
      refine DK (results_none rfl _ _ _) rfl ?_;exact⟨⟨_,rfl⟩,.inr ⟨_,⟨k+1,by omega,(ef _ _ d).symm⟩,R⟩⟩
    case hmono=>exact mL
  ·obtain rfl:k=m:=by omega
   have al:¬(((2*k:Nat):Int) < (N:Int)):=by omega
   gi_wp2
   go_end0
   exact⟨⟨_,rfl⟩,.inl (by rw[<-lO];exact Q)⟩
theorem oy (n c a d b off N m cap:Nat) (z:1<=n) (hm:2*m<=N+1) (v:N<=2*m) (r:N<=cap) (y:N<=1048576) (s:cap<=DV) (w:DF) (g:c < w.heap.size) (f:a < w.heap.size) (j:c≠d) (i:a≠d)
  (u:w.cell? ⟨c,0,none⟩=some (.slice (some ⟨b,off,none⟩) N cap)) (t:w.cell? ⟨a,0,none⟩=some (.int .i64 2)):
  SeqStopsK GS n DE 150 #[.pointer (some ⟨c,0,none⟩),.pointer (some ⟨a,0,none⟩)] (fun x:Fin m=>#[FE (some ⟨b,off+2*x.val*32,none⟩) (ln N x.val) (ln N x.val)]) (dc d w.heap.size) (fun xs=>xs=F5 m) (fun pre=>∃k,k<=m/\pre=dV m k) m w:=
 fun l J h W e o _ q h0=>
  rl n l c a d w.heap.size b off N m cap z hm v r y s g f j i J h W.heap.size o q W ((e.cell (p:=⟨c,0,none⟩) g).trans u) ((e.cell (p:=⟨a,0,none⟩) f).trans t) h0 e.size
end
section
attribute [local go_sem] Is
theorem kS (ad:Addr) (c:Nat) (ds:List (List Int)) (w:DF) (h2:eY w (.slice (some ad) ds.length c) ds) (f:dm ds) (g:ds.length<=1048576):
  DN DE 111 #[.slice (some ad) ds.length c] w fun e w'=>∃a,e=.returned a/\w'.ownsRow w.heap.size 54 32 a ds.length (aN ds)/\az w w':=by
 have m:=ES (P:=DE) w 55 54 (some ad) ds.length c 0 0 G6;have d:az w (w.alloc (.cells #[] 54)):=ae _ _;have k:Hid ((w.alloc (.cells #[] 54)).ownsRow w.heap.size 54 32 (.slice (some ⟨w.heap.size,0,none⟩) 0 0) 0 []):=aa (bW w 54 #[] w.heap.size 0 32 (DH _) (by decide) rfl);have i:Hid (eY (w.alloc (.cells #[] 54)) (.slice (some ad) ds.length c) ds):=aa (bh.ext h2 d);have b:=aa g;have j:=aa f;clear h2 d g f;go_enter Tryz.func111,Tryz.ntmps111
 go_wp2_with ((with_reducible refine cY jS k.out i.out (bF j.out) (cH _) (by have:=b.out;unfold DV;omega) (by have:=b.out;omega) (by simp) ?_ ?_ ?_);rfl;rfl;intro a w' h o l n)
 go_ret;rw[DY,EG]at h;exact⟨_,rfl,h,((DI _ _).alloc (DH _) _).trans l⟩
theorem rm (v:DG) (ds:List (List Int)) (w:DF) (h:eY w v ds) (a:dm ds) (d:ds.length<=1048576):
  DN DE 111 #[v] w fun e w'=>∃g,e=.returned g/\w'.ownsRow w.heap.size 54 32 g ds.length (aN ds)/\az w w':=by
 have h2:=h;rcases h with ⟨⟨p,rfl⟩,f,i⟩ | ⟨b,o,c,rfl,l,k,m⟩
 ·obtain rfl:ds=[]:=Ed.1 f;cases p with
  | some ad=>exact kS ad 0 [] w h2 a d
  | none=>
   have j:=ES (P:=DE) w 55 54 none 0 0 0 0 G6;clear f i h2;go_enter Tryz.func111,Tryz.ntmps111
   go_wp2
   go_ret;exact⟨_,rfl,EU _ _ _ _,DI _ _⟩
 ·exact kS _ c ds w h2 a d
theorem pI (v:DG) (ds:List (List Int)) (w:DF) (bt:ds.length<=1048576) (y:dm ds) (hR:eY w v ds) (hg:fO w):
  DN DE 83 #[v] w fun e w'=>e=.returned (.agg (ao .u8 (cD ds)).toArray)/\az w w':=by
 obtain⟨p,c,rfl,ca,b8⟩:=hR.form;have Hd:=aa y;have HR:=aa hR;have Hg:=aa hg;have R:=aa (dq w 32 .u8 54 zA rfl);have I:=aa (ae w (.cells zA 54));have bB:(w.alloc (.cells zA 54)).heap.size=w.heap.size+1:=DO _ _;clear y hR hg;refine(callsIn_wide (n:=9)).1 ?_;refine callsIn_of_wp_marks Tryz.func83 rfl trivial ?_ rfl;simp only[Tryz.ntmps83,GD,Eu,EK,Nat.reduceAdd,Nat.reduceSub,G8,G9,List.push_toArray,Il,EG,GN];refine wpIn_wide.2 ?_;by_cases h0:ds.length=0
 ·obtain rfl:=Ed.1 h0;clear ca b8 HR h0
  go_wp2_with fail
  obtain⟨Z,ac⟩:=exq (w.alloc (.cells zA 54));rw[<-ac]at R I⊢;clear ac bB;refine(qY _ [] Z ⟨[],bh.nil _,rfl,fun k hk=>absurd hk (Gr _)⟩ (Hg.ext I) bA.nil (by decide)).mono ?_;rintro e g ⟨rfl,bg⟩;have a4:=aa bg;have V:sha [].flatten=cD []:=rfl;rw[V];obtain⟨sh,V⟩:=exq (cD []);have aF:Hid (sh.length=32):=aa (by rw[V];rfl);have bS:=aa V;rw[<-V];clear bg V;have Y:=aa (R.below a4 (DM _ _ (R.1 0 (by decide))));have aH:=aa (bu (P:=DE) (k:=.u8) (ty:=54) (l:=sh) Y.there (by kernel_rfl) aF)
  go_wp2_with (((with_reducible refine bM ?_ ?_ aH.out ?_);rfl;rfl))
  have aT:=Eb _ (w.heap.size) 0 (ao .u8 sh) (by rw[ints_length,aF.out];exact Y.there);refine gN (B:=w.heap.size+1) _ 0 _ (trivial) ?_;intro w' ai;have aU:w'.rangeAt (w.heap.size) 0 (ao .u8 sh):=fun j v hv=>((aD ai).1 _ _ (Nat.lt_succ_self _)).trans (aT j v hv)
  have aW:=Fe (P:=DE) _ (w.heap.size) 0 54 (ao .u8 sh) _ aU EC rfl (by rw[ints_length,aF.out];kernel_rfl);exact⟨_,aG rfl rfl aW,by rw[bS.out],(aE _ _ _ _ (I.trans a4) (DH _)).trans (ai.mono (FW _))⟩
 ·have cn:((ds.length:Int)==0)=false:=by rw[beq_eq_false_iff_ne];omega
  go_wp2_with fail
  obtain⟨Z,ac⟩:=exq (w.alloc (.cells zA 54));rw[<-ac]at R I bB⊢;clear ac;refine(rm _ ds Z (bh.ext HR I) Hd bt).mono ?_;rintro e w2 ⟨v2,rfl,aY,av⟩;obtain⟨p2,c2,rfl,b7,bX⟩:=(bh.AS aY).form;have bL:Hid (eY w2 (.slice p2 ds.length c2) ds):=aa (bh.AS aY);have bK:=aa av;clear aY av b7 bX
  go_wp2_with fail
  refine wp_loop (fun a wr=>∃(r:List (List Int)) (n:Nat) (q:Option Addr) (S:Nat) (defs:List Deferred) (u4 bD bE bF bG u16 bH:DG),
   (Hid (0 < r.length/\r.length<=1048576/\dm r/\cD r=cD ds/\eY wr (.slice q r.length S) r/\fF (w.heap.size+1) wr wr.heap.size defs/\az Z wr/\r.length=n))/\
   a= {tmps:=#[.slice p ds.length c,EI,.pointer (some ⟨w.heap.size,0,none⟩),.slice q n S,u4,EI,.slice p ds.length c,.int .i64 ds.length,.bool false,EI,.slice p ds.length c,.slice p2 ds.length c2,bD,bE,bF,bG,u16,EI,EI,EI,EI,EI,EI,EI,EI,EI,EI,EI,EI,EI,EI,EI,EI,EI,EI,EI,EI,bH,EI,EI,EI],defers:=defs})
   (fun a _=>AX (a.tmps.getD 3 EI)) ?_ ?_
  ·refine⟨ds,ds.length,p2,c2,[],_,_,_,_,_,_,_,aa ⟨by omega,bt,Hd,rfl,bL,trivial,bK,rfl⟩,rfl⟩
  ·intro a wr hinv;obtain⟨r,n,q,S,defs,u4,bD,bE,bF,bG,u16,bH,ba,rfl⟩:=hinv;obtain⟨bw,a0,C,bv,bz,hM,hE,ce⟩:=ba.out;subst ce;obtain⟨b,o,cj,cc,cd,cb,cl,bx⟩:=eY.pos bz C bw;cases cc;have z:=aa C;have bb:=aa bv;have aC:=aa bx;have HM:=aa hM;have X:=aa hE;clear C bv bz bx hM hE ba;have cp:w.heap.size+1<=wr.heap.size:=by have:=X.size;omega
   by_cases h1:r.length=1
   ·obtain⟨d,rfl⟩:∃d,r=[d]:=by
     match r,h1 with
     | [d],_=>exact⟨d,rfl⟩
    obtain⟨bo,_⟩:=z d (by simp);have aq:=aa bo;have bR:Hid (wr.rangeAt b o (ao .u8 d)):=aa (by have:=aC.out;rw[cZ]at this;exact this);have bN:Hid (d=cD ds):=aa (by rw[<-bb.out];exact(jO _ _ d).symm);clear bo bw a0 h1 z aC
    go_wp2_with (with_reducible refine aA (ty:=54) ?_)
    refine au ?_;refine ak rfl (bC bR EC (by kernel_rfl) aq) ?_;have Y:=aa (R.below X (DM _ _ (R.1 0 (by decide))));have aH:=aa (bu (P:=DE) (k:=.u8) (ty:=54) (l:=d) Y.there (by kernel_rfl) aq)
    go_wp2_with (((with_reducible refine bM ?_ ?_ aH.out ?_);rfl;rfl))
    have aT:=Eb _ (w.heap.size) 0 (ao .u8 d) (by rw[ints_length,aq.out];exact Y.there);refine gN (B:=w.heap.size+1) _ wr.heap.size _ (fF.CI _ _ (fun k hk _ _=>dx _ _ _ (mX.refl w.heap.size wr) k (by omega)) HM) ?_;intro w' ai;have aU:w'.rangeAt (w.heap.size) 0 (ao .u8 d):=fun j v hv=>((aD ai).1 _ _ (Nat.lt_succ_self _)).trans (aT j v hv)
    have aW:=Fe (P:=DE) _ (w.heap.size) 0 54 (ao .u8 d) _ aU EC rfl (by rw[ints_length,aq.out];kernel_rfl);exact⟨_,aG rfl rfl aW,by rw[bN.out],(aE _ _ _ _ (I.trans X) (DH _)).trans (ai.mono (FW _))⟩
   ·have cm:(1:Int) < (r.length:Int):=by omega
    go_wp2_with fail
    have bl:=ku wr (.slice none 0 0) 55;have bp:(wr.alloc (.cells #[.slice none 0 0] 55)).frozen? ⟨wr.heap.size,0,none⟩=false:=by simp
    refine(rk _ _ _ _).mono ?_;rintro e t ⟨rfl,aj⟩;rw[DO];have aw:az (wr.alloc (.cells #[.slice none 0 0] 55)) t:=by rw[aj];exact((DI _ _).alloc (DH _) _).alloc (by simp) _
    have bW:az wr t:=(ae _ _).trans (aw.mono (by simp));have aM:EZ wr.heap.size wr t:=bW;have b1:t.cell? ⟨wr.heap.size+1,0,none⟩=some (.slice (some ⟨b,o,none⟩) r.length S):=by rw[aj];exact((aD ((DI _ _).alloc (DH _) _)).1 _ _ (by simp)).trans (by simp)
    have b0:t.cell? ⟨wr.heap.size+1+1,0,none⟩=some (.int .i64 2):=by rw[aj];have:=ku ((wr.alloc (.cells #[.slice none 0 0] 55)).alloc (.cells #[.slice (some ⟨b,o,none⟩) r.length S] 55)) (.int .i64 2) 3;simpa using this
    have co:t.heap.size=wr.heap.size+3:=by rw[aj];simp
    have bZ:t.cell? ⟨wr.heap.size,0,none⟩=some (.slice none 0 0):=((aD aw).1 _ _ (by simp)).trans bl;have b4:t.frozen? ⟨wr.heap.size,0,none⟩=false:=((aD aw).2 _ _ (by simp)).trans bp;obtain⟨m,hm⟩:=exq ((r.length+1) / 2);clear aj aw bl bp
    go_wp2_with fail
    refine(wpIn_wide (n:=9)).1 ?_;apply wpIn_rangeFunc_ownF (F:=GS) (encs:=fun x:Fin m=>#[FE (some ⟨b,o+2*x.val*32,none⟩) (ln r.length x.val) (ln r.length x.val)]) (Kp:=dc wr.heap.size t.heap.size) rfl (by decide) (gf:=150) (lb:=#[.pointer (some ⟨wr.heap.size+1,0,none⟩),.pointer (some ⟨wr.heap.size+1+1,0,none⟩)]) rfl trivial (enters_of Tryz.func150 (by kernel_rfl) rfl)
     (oy 8 (wr.heap.size+1) (wr.heap.size+1+1) wr.heap.size b o r.length m S (by decide) (by omega) (by omega) cd a0 cb t (by omega) (by omega) (by omega) (by omega) b1 b0)
     (fun h k=>dc.trans h k) (dc.putObj (DH _)) (DI _ _) (fun _=>rfl)
     (fun pre W=>vi 54 wr.heap.size t.heap.size (fun x:Fin m=>sx r x.val) pre W/\(dc wr.heap.size t.heap.size t W/\EZ wr.heap.size t W))
     (fun _ _ _=>False)
    case hI=>exact OwnFrom.and (vi.from (by omega)) (OwnFrom.and (jQ (DH _) (DH _)) (ownFrom_below (by omega) (by omega)))
    case hIx=>exact fun _ _ _ _ _ hs _ _=>hs
    case h0=>exact⟨⟨none,0,bZ,b4,EU _ _ _ _⟩,dc.refl _ _ _,DI _ _⟩
    case hassign=>
     intro lr x W K hK
     gi_wp2
     exact hK
    case hbody=>
     rintro lr pre x W ⟨⟨pu,G,H,ag,U⟩,ax,L⟩ hlen;have T:wr.heap.size < W.heap.size:=DM _ _ H;have hx:x.val < m:=x.isLt;have Q:W.rangeAt b o (aN r):=aJ aC (aM.trans L);have bs:fO W:=Hg.ext ((I.trans X).trans (show az wr W from aM.trans L));have bc:=aa U;have am:=aa ax;have a3:=aa L;have bP:=aa bs;have an:Hid (∀g,az W g->(Fm 54 (.pointer (some ⟨b,o+2*x.val*32,none⟩))).run DE g=.ok (.agg (ao .u8 (r.getD (2*x.val) [])).toArray) g):=aa fun g h1=>bC (aJ (dW Q z (by omega)) h1) EC (by kernel_rfl) (z.get (by omega)).1
     obtain⟨ad,aP⟩:=z.get (i:=2*x.val) (by omega);clear U ax L bs;by_cases N:2*x.val+2<=r.length
     ·have aX:ln r.length x.val=2:=if_pos N;have a5:Hid (∀g,az W g->(Fm 54 (.pointer (some ⟨b,o+2*x.val*32+32,none⟩))).run DE g=.ok (.agg (ao .u8 (r.getD (2*x.val+1) [])).toArray) g):=aa fun g h1=>by have h:=dW Q z (i:=2*x.val+1) (by omega);rw[show o+(2*x.val+1)*32=o+2*x.val*32+32 from by omega]at h;exact bC (aJ h h1) EC (by kernel_rfl) (z.get (by omega)).1
      obtain⟨bm,bk⟩:=z.get (i:=2*x.val+1) (by omega);have HN:Hid (∀g,az W g->DN DE 131 #[.agg (ao .u8 (r.getD (2*x.val) [])).toArray,.agg (ao .u8 (r.getD (2*x.val+1) [])).toArray] g fun e w'=>e=.returned (.agg (ao .u8 (sx r x.val)).toArray)/\az g w'):=aa fun g h1=>by rw[show sx r x.val=eo (r.getD (2*x.val) []) (r.getD (2*x.val+1) [])from if_pos N];exact vU _ _ g ad bm aP bk (bP.ext h1)
      have E:Hid ((sx r x.val).length=32):=aa (by rw[show sx r x.val=eo (r.getD (2*x.val) []) (r.getD (2*x.val+1) [])from if_pos N];exact ju _ _);obtain⟨d0,af⟩:=exq (r.getD (2*x.val) []);obtain⟨d1,bn⟩:=exq (r.getD (2*x.val+1) []);obtain⟨dn,aS⟩:=exq (sx r x.val);rw[<-af]at an HN;rw[<-bn]at a5 HN;rw[<-aS]at HN E;have bO:=aa aS;clear ad aP bm bk af bn aS Q N;simp only[aX]
      gi_wp2
      apply iw 9 [21,22,23,24,25,26,27,28,29] [ar _,ar _,ar _,ar _,ar _,ar _,ar _,ar _,(fun v w'=>bh w' v 1 (aN [dn]))] (by kernel_rfl) (by kernel_rfl) (by kernel_rfl) (by kernel_rfl) (by kernel_rfl);case hsteps=>
       refine⟨?_,?_,?_,?_,?_,?_,?_,?_,?_,trivial⟩;all_goals
        intro ev g s M y;have e4:=M 4 (by decide);have e5:=M 5 (by decide);clear M;simp only[sB]at e4 e5;simp only[sD]at y;have hc:=(aD s).1;have b2:=(hc _ 0 T).trans H;have aV:=an g s;have b5:=a5 g s;simp only[dJ,DP,if_true];first
        | ((with_reducible refine dY ?_ aV ?_);exact y;exact rfl) | ((with_reducible refine dY ?_ b5 ?_);exact y;exact rfl) | exact fg jS (by decide) y (by simp[E.out]) (fS g 54 dn E)
        | (go_simp;first | (go_at_call 131;(with_reducible refine(HN.out _ s).mono ?_);rintro e w2 ⟨rfl,av⟩;exact⟨_,rfl,av,rfl⟩) | exact⟨DI _ _,rfl⟩)
      case hmono=>exact⟨aB _,aB _,aB _,aB _,aB _,aB _,aB _,aB _,(fun _ _ _ h k=>bh.ext h k),trivial⟩
      case hend=>
       intro u g s hend;simp only[sE]at hend;simp only[sF,hend];have C:=hend.2;have J:=aa (aR bc s);have cg:=am.1;have ch:W.heap.size<=g.heap.size:=s.size;have b9:pre.length<=1048576:=by omega
       refine nv jS J C rfl rfl (by rw[cZ,ints_length,E.out]) (cH _) (by unfold DV;omega) (by omega) (by omega) ?_;intro p6 c6 w6 O A;have ah:some wr.heap.size≠(FE pu pre.length G).ownBlock:=fun e=>by have:=(J.lt _ e.symm).1;omega
       have bY:w6.cell? ⟨wr.heap.size,0,none⟩=some (.slice pu pre.length G):=(A.cell_far ⟨wr.heap.size,0,none⟩ (show wr.heap.size < _ by omega) ah).trans (((aD s).1 _ 0 T).trans H);have b3:w6.frozen? ⟨wr.heap.size,0,none⟩=false:=(A.frozen_far ⟨wr.heap.size,0,none⟩ (show wr.heap.size < _ by omega) ah).trans (((aD s).2 _ 0 T).trans ag);rw[bO.out]at O;have aZ:=aa (sw (f:=fun x:Fin m=>sx r x.val) (x:=x) (by omega) am a3 s A J O H ag);clear O A hend C
       gi_wp2
       exact aZ
     ·have aX:ln r.length x.val=1:=if_neg N;have bd:Hid (sx r x.val=r.getD (2*x.val) []):=aa (if_neg N);obtain⟨d0,af⟩:=exq (r.getD (2*x.val) []);rw[<-af]at an bd ad;have E:=aa ad;clear ad aP af Q N;simp only[aX]
      gi_wp2
      apply iw 5 [31,32,33,34,35] [ar _,ar _,ar _,ar _,(fun v w'=>bh w' v 1 (aN [d0]))] (by kernel_rfl) (by kernel_rfl) (by kernel_rfl) (by kernel_rfl) (by kernel_rfl);case hsteps=>
       refine⟨?_,?_,?_,?_,?_,trivial⟩;all_goals
        intro ev g s M y;have e4:=M 4 (by decide);have e5:=M 5 (by decide);clear M;simp only[sB]at e4 e5;simp only[sD]at y;have hc:=(aD s).1;have b2:=(hc _ 0 T).trans H;have aV:=an g s;simp only[dJ,DP,if_true];first
        | ((with_reducible refine dY ?_ aV ?_);exact y;exact rfl) | exact fg jS (by decide) y (by simp[E.out]) (fS g 54 d0 E)
        | (go_simp;first | exact⟨DI _ _,rfl⟩)
      case hmono=>exact⟨aB _,aB _,aB _,aB _,(fun _ _ _ h k=>bh.ext h k),trivial⟩
      case hend=>
       intro u g s hend;simp only[sE]at hend;simp only[sF,hend];have C:=hend.2;have J:=aa (aR bc s);have cg:=am.1;have ch:W.heap.size<=g.heap.size:=s.size;have b9:pre.length<=1048576:=by omega
       refine nv jS J C rfl rfl (by rw[cZ,ints_length,E.out]) (cH _) (by unfold DV;omega) (by omega) (by omega) ?_;intro p6 c6 w6 O A;have ah:some wr.heap.size≠(FE pu pre.length G).ownBlock:=fun e=>by have:=(J.lt _ e.symm).1;omega
       have bY:w6.cell? ⟨wr.heap.size,0,none⟩=some (.slice pu pre.length G):=(A.cell_far ⟨wr.heap.size,0,none⟩ (show wr.heap.size < _ by omega) ah).trans (((aD s).1 _ 0 T).trans H);have b3:w6.frozen? ⟨wr.heap.size,0,none⟩=false:=(A.frozen_far ⟨wr.heap.size,0,none⟩ (show wr.heap.size < _ by omega) ah).trans (((aD s).2 _ 0 T).trans ag);rw[<-bd.out]at O;have aZ:=aa (sw (f:=fun x:Fin m=>sx r x.val) (x:=x) (by omega) am a3 s A J O H ag);clear O A hend C
       gi_wp2
       exact aZ
    case hdone=>
     rintro D ys W hD rfl ⟨⟨pu,G,H,ag,U⟩,ax,L⟩ hK;have bV:D < W.heap.size:=(Array.getElem?_eq_some_iff.1 hK).1;have Q:az wr W:=aM.trans L;rw[Al r m hm]at U;have a1:=gn eo r;have bq:(F5 m).length=m:=by simp
     have hN:(Bl.up eo r).length=(F5 m).length:=by rw[a1,bq];exact hm.symm
     have bQ:Hid (0 < (Bl.up eo r).length/\(Bl.up eo r).length<=1048576/\dm (Bl.up eo r)/\cD (Bl.up eo r)=cD ds/\eY W (.slice pu (Bl.up eo r).length G) (Bl.up eo r)/\fF (w.heap.size+1) W W.heap.size ({target:=.collected D,args:=#[]} :: defs)/\az Z W/\(Bl.up eo r).length=(r.length+1) / 2):=aa
      ⟨by omega,by omega,vk r z,by rw[vl r a0,bb.out],by show bh W (.slice pu (Bl.up eo r).length G) (Bl.up eo r).length _;rw[hN];exact bh.AS U,
       ⟨D,rfl,by omega,bV,hK,fF.mono _ (by omega) (fF.CI _ _ (fun k _ hk _=>Q.block k hk) HM)⟩,X.trans Q,a1⟩
     have b6:(r.length+1) / 2 < r.length:=by omega
     clear U hN a1 bq ax L hK
     go_wp2_with fail
     refine⟨⟨Bl.up eo r,(r.length+1) / 2,pu,G,_,_,_,_,_,_,_,_,bQ,rfl⟩,?_⟩;exact b6
    case hstop=>rintro D c pre W _ _ h _;exact h.elim
end
theorem kT:∀(n:Nat) (ds:List (List Int)) (v:DG) (w:DF),ds.length=n->n<=1048576->dm ds->eY w v ds->dX w->
  DN DE 49 #[v] w fun e w'=>e=.returned (.agg (ao .u8 (cD ds)).toArray)/\az w w':=by
 intro n;induction n using Nat.strongRecOn with
 | _ n ih=>
  intro ds v w B an G F S;have O:=aa ih;have j:=aa G;have D:=aa S;have i:=aa (dq w 32 .u8 52 zA rfl);have g:=aa (ae w (.cells zA 52));clear ih G S;by_cases h0:n=0
  ·subst h0;obtain rfl:=Ed.1 B;obtain⟨p,c,rfl,_,_⟩:=F.form;clear F B an;go_enter Tryz.func49,Tryz.ntmps49
   go_wp2_with fail
   obtain⟨m,r⟩:=exq (w.alloc (.cells zA 52));rw[<-r]at i g⊢;clear r;refine(kC _ [] m (Rd.nil _ _) (D.ext g) bA.nil (by decide)).mono ?_;rintro e a ⟨rfl,Q⟩;have s:=aa Q;have h:sha []=cD []:=rfl;rw[h];obtain⟨sh,h⟩:=exq (cD []);have K:Hid (sh.length=32):=aa (by rw[h];rfl);have J:=aa h;rw[<-h];clear Q h;have q:=aa (i.below s (DM _ _ (i.1 0 (by decide))));have x:=aa (bu (P:=DE) (k:=.u8) (ty:=52) (l:=sh) q.there (by kernel_rfl) K)
   go_wp2_with (((with_reducible refine bM ?_ ?_ x.out ?_);rfl;rfl))
   have z:=Eb _ (w.heap.size) 0 (ao .u8 sh) (by rw[ints_length,K.out];exact q.there);have A:=Fe (P:=DE) _ (w.heap.size) 0 52 (ao .u8 sh) _ z FJ rfl (by rw[ints_length,K.out];kernel_rfl);refine DK (v:=.agg (ao .u8 sh).toArray) (aG rfl rfl A) rfl ⟨by rw[J.out],aE _ _ _ _ (g.trans s) (DH _)⟩
  ·obtain⟨b,o,c,rfl,aj,al,aw,W⟩:=eY.pos F j (by omega);have I:=aa W;clear F W;rw[B]at aj⊢;have f:=aa B;clear B;by_cases h1:n=1
   ·subst h1;obtain⟨d,rfl⟩:∃d,ds=[d]:=by
     match ds,f with
     | [d],_=>exact⟨d,rfl⟩
    obtain⟨R,am⟩:=j d (by simp);have C:=aa R;have ag:Hid (w.rangeAt b o (ao .u8 d)):=aa (by have:=I.out;rw[cZ]at this;exact this);clear R am;go_enter Tryz.func49,Tryz.ntmps49
    go_wp2_with (with_reducible refine aA (ty:=52) ?_)
    refine au ?_;obtain⟨m,r⟩:=exq (w.alloc (.cells zA 52));rw[<-r]at i g⊢;clear r;refine ak rfl (bC (aJ ag g) FJ (by kernel_rfl) C) ?_;have s:=aa (DI m.heap.size m);have H:Hid (cD [d]=d):=aa (jO _ _ d);have q:=aa (i.below s (DM _ _ (i.1 0 (by decide))));have x:=aa (bu (P:=DE) (k:=.u8) (ty:=52) (l:=d) q.there (by kernel_rfl) C)
    go_wp2_with (((with_reducible refine bM ?_ ?_ x.out ?_);rfl;rfl))
    have z:=Eb _ (w.heap.size) 0 (ao .u8 d) (by rw[ints_length,C.out];exact q.there);have A:=Fe (P:=DE) _ (w.heap.size) 0 52 (ao .u8 d) _ z FJ rfl (by rw[ints_length,C.out];kernel_rfl);refine DK (v:=.agg (ao .u8 d).toArray) (aG rfl rfl A) rfl ⟨by rw[H.out],aE _ _ _ _ g (DH _)⟩
   ·obtain⟨s1,s2,s3⟩:=bR n (by omega) (by omega);have N:cD ds=eo (cD (ds.take (sp n))) (cD (ds.drop (sp n))):=by unfold cD;rw[jP _ _ ds (by rw[f.out];omega) (by rw[f.out];omega),f.out]
    obtain⟨k,M⟩:=exq (sp n);rw[<-M]at s1 s2 s3 N;have Hk:=aa M;have H:=aa N;have aF:(k:Int) < (n:Int):=by omega
    have aM:(n:Int)<=(c:Int):=by omega
    have aI:((n:Int)==0)=false:=by simp;omega
    have aK:((n:Int)==1)=false:=by simp;omega
    clear M N;unfold DV at al;go_enter Tryz.func49,Tryz.ntmps49
    go_wp2_with fail
    obtain⟨m,r⟩:=exq (w.alloc (.cells zA 52));rw[<-r]at i g⊢;clear r;refine(jT _ m (by omega) (by omega)).mono ?_;rintro e a ⟨rfl,rfl⟩;rw[Int.toNat_natCast,<-Hk.out];have HL:Hid (∀a,az m a->DN DE 49 #[.slice (some ⟨b,o,none⟩) k c] a fun e w'=>e=.returned (.agg (ao .u8 (cD (ds.take k))).toArray)/\az a w'):=aa fun a h1=>by
     refine O k (by omega) (ds.take k) _ a (by rw[DX,f.out];omega) (by omega) (j.take k) ?_ (D.ext (g.trans h1));refine .inr ⟨b,o,c,?_,?_,by unfold DV;omega,?_⟩
     ·rw[DX,f.out,Nat.min_eq_left (by omega)]
     ·rw[DX,f.out];omega
     ·have:=gJ (aJ I (g.trans h1)) j 0 k;simpa using this
    have ad:Hid (∀a,az m a->DN DE 49 #[.slice (some ⟨b,o+k*32,none⟩) (n - k) (c - k)] a fun e w'=>e=.returned (.agg (ao .u8 (cD (ds.drop k))).toArray)/\az a w'):=aa fun a h1=>by refine O (n - k) (by omega) (ds.drop k) _ a (by rw[DR,f.out]) (by omega) (j.drop k) ?_ (D.ext (g.trans h1));refine .inr ⟨b,o+k*32,c - k,by rw[DR,f.out],by rw[DR,f.out];omega,by unfold DV;omega,?_⟩;have:=gJ (aJ I (g.trans h1)) j k (ds.drop k).length;rwa[Ge]at this
    obtain⟨U,T⟩:=dS k (ds.take k) (by rw[DX,f.out];omega) (j.take k) (by rw[DX,f.out];omega);obtain⟨Y,X⟩:=dS (n - k) (ds.drop k) (by rw[DR,f.out]) (j.drop k) (by rw[DR,f.out];omega);have HN:Hid (∀a,az m a->DN DE 86 #[.agg (ao .u8 (cD (ds.take k))).toArray,.agg (ao .u8 (cD (ds.drop k))).toArray] a fun e w'=>e=.returned (.agg (ao .u8 (cD ds)).toArray)/\az a w'):=aa fun a h1=>by rw[H.out];exact pH _ _ a U Y T X (D.ext (g.trans h1))
    obtain⟨V,ap⟩:=dS n ds f j (by rw[f.out];omega);have E:=aa V;clear U T Y X V ap;have aB:¬(k=c):=by omega
    have ay:(0:Int)<=(k:Int):=by omega
    have aH:(k:Int)<=(n:Int):=by omega
    have aC:(k:Int)<=(c:Int):=by omega
    go_wp2_with fail
    apply aL 9 [17,18,19,20,21,22,23,24,25] [ar _,ar _,ar _,ar _,ar _,ar _,ar (.slice (some ⟨b,o+k*32,none⟩) (n - k) (c - k)),ar _,ar _] (by kernel_rfl) (by kernel_rfl) (by kernel_rfl) (by kernel_rfl);case hsteps=>
     refine⟨?_,?_,?_,?_,?_,?_,?_,?_,?_,trivial⟩;all_goals
      intro ev a t L G;have e0:=L 0 (by decide);have e3:=L 3 (by decide);clear L;simp only[sB]at e0 e3;simp only[sD]at G;have hc:=(aD t).1;simp only[dJ,DP,if_true];go_simp;first | (go_at_call 49;(with_reducible refine(HL.out _ t).mono ?_);rintro e Z ⟨rfl,y⟩;exact⟨_,rfl,y,rfl⟩) | (go_at_call 49;(with_reducible refine(ad.out _ t).mono ?_);rintro e Z ⟨rfl,y⟩;exact⟨_,rfl,y,rfl⟩) | (go_at_call 86;(with_reducible refine(HN.out _ t).mono ?_);rintro e Z ⟨rfl,y⟩;exact⟨_,rfl,y,rfl⟩) | exact⟨DI _ _,by rw[if_neg (by omega)];rfl⟩ | exact⟨DI _ _,rfl⟩
    case hmono=>exact mL
    case hend=>
     intro u a t hend;simp only[sE]at hend;simp only[sF,hend];have s:=aa t;obtain⟨sh,h⟩:=exq (cD ds);rw[<-h]at E⊢;have J:=aa h;clear t hend h;have q:=aa (i.below s (DM _ _ (i.1 0 (by decide))));have x:=aa (bu (P:=DE) (k:=.u8) (ty:=52) (l:=sh) q.there (by kernel_rfl) E)
     go_wp2_with (((with_reducible refine bM ?_ ?_ x.out ?_);rfl;rfl))
     have z:=Eb _ (w.heap.size) 0 (ao .u8 sh) (by rw[ints_length,E.out];exact q.there);have A:=Fe (P:=DE) _ (w.heap.size) 0 52 (ao .u8 sh) _ z FJ rfl (by rw[ints_length,E.out];kernel_rfl);refine DK (v:=.agg (ao .u8 sh).toArray) (aG rfl rfl A) rfl ⟨by rw[J.out],aE _ _ _ _ (g.trans s) (DH _)⟩
theorem vV (v:DG) (ps:List (List Int)) (w:DF) (most:Int) (z:bf w v ps):
  DN DE 7 #[v,.int .i64 most] w fun e w'=>w'=w/\(e=.returned (.bool true)\/(e=.returned (.bool false)/\(ps.length:Int)<=most/\∀p∈ps,p.length<=200)):=by
 obtain⟨ws,g,n,r⟩:=z;obtain⟨p,c,F,O,E⟩:=g.form;subst F;have t:=aa g;have x:=aa r;have u:=aa n;clear g r n;unfold DV at E;by_cases M:most < (ps.length:Int)
 ·go_enter Tryz.func7,Tryz.ntmps7
  go_wp2_with fail
  go_ret;exact⟨rfl,.inl rfl⟩
 ·go_enter Tryz.func7,Tryz.ntmps7
  go_wp2_with fail
  go_loopw [13] (fun i wr=>∃k:Nat,k<=ps.length/\i=.int .i64 k/\wr=w/\Hid (∀j,j < k->(ps.getD j []).length<=200)) (fun i _=>ps.length - (Ef i).toNat);case atStart=>exact⟨0,DZ _,rfl,rfl,aa fun j a=>absurd a (Gr _)⟩
  case round=>
   obtain⟨k,L,rfl,G,h⟩:=hrel;subst G;by_cases m:k < ps.length
   ·obtain⟨b,o,C,J,A⟩:=bf.Cv t u k m;subst C;have d:=x k m;obtain⟨y,f⟩:=exq (ps.getD k []);rw[<-f]at d;obtain⟨P,H,l,N,K⟩:=d.form;rw[l]at A;have s:=aa f;clear d l f;by_cases I:(200:Int) < (y.length:Int)
    ·go_wp2_with fail
     go_ret;exact⟨rfl,.inl rfl⟩
    ·go_wp2_with fail
     go_roundw;case rel=>
      refine⟨k+1,by omega,by go_num,trivial,aa fun j a=> ?_⟩;by_cases B:j=k
      ·subst B;rw[<-s.out];omega
      ·exact h j (by omega)
     case measure=>simp[Ef];omega
   ·obtain rfl:k=ps.length:=by omega
    go_wp2_with fail
    go_ret;refine⟨rfl,.inr ⟨rfl,by omega,fun q D=> ?_⟩⟩;obtain⟨j,a,rfl⟩:=List.getElem_of_mem D;have:=h j a;rwa[DJ,DL a]at this
structure HD (w:DF) (g:Nat) (L:List (List Int)):Prop where
 len:∀i,i < L.length->(L.getD i []).length=32
 at':∀i,i < L.length->w.rangeAt g (i*32) (ao .u8 (L.getD i []))
 th:w.there g 0 (L.length*32)
theorem j4 (L:List (List Int)) (i j:Nat) (d:List Int) (h:i < L.length):(L.set i d).getD j []=if j=i then d else L.getD j []:=by
 rw[DJ,DJ,List.getElem?_set];by_cases e:i=j
 ·subst e;simp[h]
 ·have a:¬j=i:=fun q=>e q.symm
  rw[if_neg e,if_neg a]
theorem HD.set {w:DF} {L:List (List Int)} (h:HD w g L) (c:i < L.length) {d:List Int} (b:d.length=32):HD (w.setCells g (i*32) (ao .u8 d)) g (L.set i d):=by
 have f:w.there g (i*32) 32:=fun j a=>by have:=h.th (i*32+j) (by omega);rw[DY]at this;exact this
 refine⟨fun j a=> ?_,fun j a=> ?_,?_⟩
 ·rw[j4 _ _ _ _ c];rw[Ea]at a;split
  ·exact b
  ·exact h.len j a
 ·rw[j4 _ _ _ _ c];rw[Ea]at a;by_cases e:j=i
  ·rw[if_pos e,e];exact Eb w g (i*32) (ao .u8 d) (by rw[ints_length,b];exact f)
  ·rw[if_neg e];exact World.rangeAt_setCells_apart (h.at' j a) g (i*32) (ao .u8 d) (.inr (by rw[ints_length,ints_length,b,h.len j a];omega))
 ·rw[Ea];exact World.there_setCells h.th _ _ _
theorem HD.drew {w:DF} {L:List (List Int)} (h:HD w g L):HD w.drew g L:=⟨h.len,h.at',h.th⟩
theorem HD.congr {w:DF} {L M:List (List Int)} (h:HD w g L) (e:M=L):HD w g M:=by rw[e];exact h
def jc (g:Nat) (L0 L1 L2:List (List Int)) (d:Nat->Bool) (_u:Nat->DG) (w:DF):Prop:=HD w g (if d 15=true then L2 else if d 13=true then L1 else L0)
theorem jc.same {b c L2:List (List Int)} {u e:Nat->DG} {w:DF} (a:(decide (15=i)||decide (13=i))=false) (h:jc g b c L2 d u w):jc g b c L2 (bD d i) e w:=by
 simp only[Bool.or_eq_false_iff,decide_eq_false_iff_not]at a;unfold jc bD at*;rw[if_neg a.1,if_neg a.2];exact h
theorem jc.DC {b a L2:List (List Int)} {u:Nat->DG} {w:DF} (c:d 15=false) (h:HD w g a):jc g b a L2 (bD d 13) u w:=by
 show HD w g (if bD d 13 15=true then L2 else if bD d 13 13=true then a else b);rw[show bD d 13 15=false from c,show bD d 13 13=true from rfl];exact h
def j5 (L:List (List Int)) (k:Nat):List (List Int):=(List.range L.length).map fun i=>if i < k\/L.length<=i+k then L.getD (L.length - 1 - i) []else L.getD i []
theorem cJ (L:List (List Int)) (k:Nat):(j5 L k).length=L.length:=by simp[j5]
theorem gz (L:List (List Int)) (k i:Nat) (h:i < L.length):(j5 L k).getD i []=if i < k\/L.length<=i+k then L.getD (L.length - 1 - i) []else L.getD i []:=by
 unfold j5;rw[DJ,List.getElem?_map,List.getElem?_range h];rfl
theorem lZ {A B:List (List Int)} (h:A.length=B.length) (k:∀i,i < A.length->A.getD i []=B.getD i []):A=B:=by
 apply List.ext_getElem h;intro i h1 h2;have:=k i h1;rw[DJ,DJ,DL h1,DL h2]at this;exact this
theorem tR (L:List (List Int)):j5 L 0=L:=lZ (cJ L 0) fun i a=>by
 rw[cJ]at a;rw[gz L 0 i a,if_neg (by omega)]
theorem tT (L:List (List Int)) (k:Nat) (h:2*k+1 < L.length):j5 L (k+1)=((j5 L k).set k (L.getD (L.length - 1 - k) [])).set (L.length - 1 - k) (L.getD k []):=by
 refine lZ (by rw[cJ,Ea,Ea,cJ]) fun i c=> ?_
 rw[cJ]at c;rw[j4 _ _ _ _ (by rw[Ea,cJ];omega),j4 _ _ _ _ (by rw[cJ];omega),gz _ _ _ c,gz _ _ _ c];by_cases a:i=L.length - 1 - k
 ·rw[if_pos a,if_pos (by omega),a,show L.length - 1 - (L.length - 1 - k)=k from by omega]
 ·rw[if_neg a];by_cases b:i=k
  ·rw[if_pos b,if_pos (by omega),b]
  ·rw[if_neg b];by_cases d:i < k\/L.length<=i+k
   ·rw[if_pos d,if_pos (by omega)]
   ·rw[if_neg d,if_neg (by omega)]
theorem vW (L:List (List Int)) (k:Nat) (h:L.length<=2*k+1) (h2:2*k<=L.length+1):j5 L k=L.reverse:=lZ (by rw[cJ,List.length_reverse]) fun i a=>by
 rw[cJ]at a;rw[gz L k i a];have e:L.reverse.getD i []=L.getD (L.length - 1 - i) []:=by rw[DJ,DJ,List.getElem?_reverse a]
 rw[e];by_cases c:i < k\/L.length<=i+k
 ·rw[if_pos c]
 ·rw[if_neg c,show L.length - 1 - i=i from by omega]
theorem eY.take {w:DF} {ds:List (List Int)} (h:eY w (.slice (some ⟨b,o,none⟩) n c) ds) (l:dm ds) (k:Nat) (s:k<=ds.length):eY w (.slice (some ⟨b,o,none⟩) k c) (ds.take k):=by
 have m:(ds.take k).length=k:=by rw[DX];omega
 show bh w _ (ds.take k).length _;rw[m];rcases h with ⟨⟨p,h1⟩,h2,e⟩ | ⟨q,t,r,h1,h2,e,j⟩
 ·injection h1 with a f d;obtain rfl:k=0:=by omega
  exact .inl ⟨⟨_,by rw[d]⟩,rfl,by rw[List.take_zero];rfl⟩
 ·injection h1 with a f d;injection a with a;injection a with g i;subst g i d;refine .inr ⟨_,_,_,rfl,by omega,e,?_⟩;have:=gJ j l 0 k;rw[Nat.zero_mul,Nat.add_zero,List.drop_zero]at this;exact this
theorem eY.drop {w:DF} {ds:List (List Int)} (h:eY w (.slice (some ⟨b,o,none⟩) n c) ds) (m:dm ds) (k:Nat) (s:k < ds.length):eY w (.slice (some ⟨b,o+k*32,none⟩) (n - k) (c - k)) (ds.drop k):=by
 have d:(ds.drop k).length=ds.length - k:=by rw[DR]
 show bh w _ (ds.drop k).length _;rcases h with ⟨⟨p,h1⟩,h2,j⟩ | ⟨q,t,r,h1,h2,j,l⟩
 ·omega
 ·injection h1 with a e f;injection a with a;injection a with g i;subst g i f e;refine .inr ⟨_,_,_,by rw[d],by rw[d];omega,by omega,?_⟩;have:=gJ l m k (ds.length - k);rw[List.take_of_length_le (by rw[d];exact DH _)]at this;exact this
theorem HD.AT {w:DF} {L:List (List Int)} (h:HD w g L) (b:dm L) (i:L.length<=c) (hm:c<=DV):eY w (.slice (some ⟨g,0,none⟩) L.length c) L:=by
 refine .inr ⟨g,0,c,rfl,i,hm,fun j v d=> ?_⟩;have k:j < L.length*32:=by have:=(List.getElem?_eq_some_iff.1 d).1;rwa[bF b]at this
 have a:j / 32 < L.length:=by omega
 have h1:=ch (cs:=ao .u8 (L.getD (j / 32) [])) (h.at' (j / 32) a) 0;have e:(aN L)[j]? =(ao .u8 (L.getD (j / 32) []))[j % 32]? :=by
  have h2:(aN L).drop (j / 32*32)=aN (L.drop (j / 32)):=ix b _;have f:(aN L)[j]? =((aN L).drop (j / 32*32))[j % 32]? :=by rw[List.getElem?_drop];congr 1;omega
  rw[f,h2,List.drop_eq_getElem_cons a];show(ao .u8 L[j / 32]++aN _)[j % 32]? =_;rw[List.getElem?_append_left (by rw[ints_length,(b _ (Fc a)).1];omega),DJ,DL a];rfl
 rw[e]at d;have:=h.at' (j / 32) a (j % 32) v d;rw[show j / 32*32+j % 32=0+j from by omega]at this;exact this
theorem HD.AS {w:DF} {base:Nat} {e:Ec} {L:List (List Int)} (h:w.ownsRow base e 32 (.slice (some ⟨g,0,none⟩) L.length c) L.length (aN L)) (d:dm L):HD w g L:=by
 have h2:=h;refine⟨fun i f=>(d.get f).1,fun i f=> ?_,fun j p=> ?_⟩
 ·have:=dW (o:=0) (fun j v b=>by
   have:=h.cells (g:=g) rfl j v b
   rw[Ft]at this;exact this) d f
  rw[DY]at this;exact this
 ·have hlen:=bF d;have n:j < (aN L).length:=by omega
  have l:=h.cells (g:=g) rfl j _ (DL n);rw[Ft]at l;refine⟨by rw[l];rfl,?_⟩;rcases h2.2 with ⟨b,_⟩ | ⟨k,cap,cur,b,q,m,r⟩
  ·cases b
  ·injection b with a _ _;injection a with a;injection a with a;subst a;simp[World.frozen?,m]
def jd (w:DF) (v:DG) (B:Nat) (e:Ec) (ds:List (List Int)):Prop:=∃p c,v=.slice p ds.length c/\w.ownsRow B e 32 (.slice p ds.length c) ds.length (aN ds)
theorem jd.ext {w w':DF} {v:DG} {e:Ec} {ds:List (List Int)} (h:jd w v B e ds) (k:az w w'):jd w' v B e ds:=by
 obtain⟨p,c,h1,h2⟩:=h;exact⟨p,c,h1,aR h2 k⟩
theorem jd.mono {w:DF} {v:DG} {a:Nat} {e:Ec} {ds:List (List Int)} (h:jd w v B e ds) (k:a<=B):jd w v a e ds:=by
 obtain⟨p,c,h1,h2⟩:=h;exact⟨p,c,h1,dQ h2 k⟩
theorem jd.nil (w:DF) (B:Nat) (e:Ec):jd w (.slice none 0 0) B e []:=⟨none,0,rfl,EU _ _ _ _⟩
theorem vX (g c n:Nat) (L:List (List Int)) (w:DF) (X:n=L.length) (h:HD w g L) (hl:n<=1099511627776) (_hc:n<=c) (_hcm:c<=DV):
  DN DE 84 #[.slice (some ⟨g,0,none⟩) n c] w fun e w'=>e=.returned (.tuple #[])/\HD w' g L.reverse/\EZ g w w':=by
 have H:=aa h;have o:=aa X;clear h X;go_enter Tryz.func84,Tryz.ntmps84
 go_wp2_with fail
 go_loopw [2,3] (fun i j wr=>∃k:Nat,i=.int .i64 k/\j=.int .i64 ((n:Int) - 1 - k)/\2*k<=n+1/\HD wr g (j5 L k)/\EZ g w wr) (fun i _ _=>n+1 - (Ef i).toNat);case atStart=>exact⟨0,rfl,by simp,by omega,H.congr (tR L),DI _ _⟩
 case round=>
  obtain⟨k,rfl,rfl,hk,T,S⟩:=hrel;have t:=aa T;have P:=aa S;clear T S;by_cases am:(k:Int) < (n:Int) - 1 - (k:Int)
  ·obtain⟨m,hm⟩:=exq (n - 1 - k);have W:(n:Int) - 1 - (k:Int)=(m:Int):=by omega
   rw[W]at am⊢;have Hm:Hid (m=L.length - 1 - k):=aa (by rw[hm,o.out]);have aB:k < m:=by omega
   have aF:m < n:=by omega
   have ax:2*k+1 < n:=by omega
   have an:(m:Int) - 1=(n:Int) - 1 - ((k+1:Nat):Int):=by omega
   have ah:=aa an;have N:k < (j5 L k).length:=by rw[cJ,<-o.out];omega
   have O:m < (j5 L k).length:=by rw[cJ,<-o.out];omega
   have C:=aa (tT L k (by rw[<-o.out];omega));have v:(j5 L k).getD k []=L.getD k []:=by rw[gz L k k (by rw[<-o.out];omega),if_neg (by rw[<-o.out];omega)]
   have z:(j5 L k).getD m []=L.getD m []:=by rw[gz L k m (by rw[<-o.out];omega),if_neg (by rw[<-o.out];omega)]
   rw[<-Hm.out]at C;have G:=t.len k N;have I:=t.len m O;rw[v]at G;rw[z]at I;have A:=aa N;have B:=aa O;obtain⟨f,V⟩:=exq (j5 L k);obtain⟨x,hx⟩:=exq (L.getD k []);obtain⟨y,hy⟩:=exq (L.getD m []);rw[<-V]at t A B C v z;rw[<-hx,<-hy]at C;rw[<-hx]at G v;rw[<-hy]at I z;have ae:=aa v;have af:=aa z;have K:=aa G;have M:=aa I;clear N O G I V hx hy v z W hm;have ac:Hid (∀w',HD w' g f->(Fm 54 (.pointer (some ⟨g,m*32,none⟩))).run DE w'=.ok (.agg (ao .u8 y).toArray) w'):=aa fun w' h=>by have h1:=h.at' m B;rw[af.out]at h1;exact bC h1 EC (by kernel_rfl) M
   have ab:Hid (∀w',HD w' g f->(Fm 54 (.pointer (some ⟨g,k*32,none⟩))).run DE w'=.ok (.agg (ao .u8 x).toArray) w'):=aa fun w' h=>by have h1:=h.at' k A;rw[ae.out]at h1;exact bC h1 EC (by kernel_rfl) K
   have Q:Hid (∀w',HD w' g f->(Fb 54 (.pointer (some ⟨g,k*32,none⟩)) (.agg (ao .u8 y).toArray)).run DE w'=.ok () (w'.setCells g (k*32) (ao .u8 y))/\HD (w'.setCells g (k*32) (ao .u8 y)) g (f.set k y)):=aa fun w' h=>⟨bu (n:=32) (fun j hj=>by
    have:=h.th (k*32+j) (by have:=A.out;omega)
    rw[DY]at this;exact this) (by kernel_rfl) M,h.set A M⟩
   have R:Hid (∀w',HD w' g (f.set k y)->(Fb 54 (.pointer (some ⟨g,m*32,none⟩)) (.agg (ao .u8 x).toArray)).run DE w'=.ok () (w'.setCells g (m*32) (ao .u8 x))/\HD (w'.setCells g (m*32) (ao .u8 x)) g ((f.set k y).set m x)):=aa fun w' h=>⟨bu (n:=32) (fun j hj=>by
    have:=h.th (m*32+j) (by rw[Ea];have:=B.out;omega)
    rw[DY]at this;exact this) (by kernel_rfl) K,h.set (by rw[Ea];exact B) K⟩
   have e4:(k:Int) < (n:Int):=by omega
   have e5:(m:Int) < (n:Int):=by omega
   have e6:(0:Int)<=(k:Int):=by omega
   have e7:(0:Int)<=(m:Int):=by omega
   go_wp2_with fail
   apply ay (fun a b=>EZ g a b) (jc g f (f.set k y) ((f.set k y).set m x)) 16 [14,15,16,17,18,19,20,21,22,23,24,25,26,27] [ar _,ar _,ar _,ar _,ar _,ar _,ar _,ar _,ar _,ar _,ar _,ar _,ar (.pointer (some ⟨g,k*32,none⟩)),ar _,ar (.pointer (some ⟨g,m*32,none⟩)),ar _] (fun w=>DI _ w) (fun a b c h k=>Ei h k) (by kernel_rfl) (by kernel_rfl) (by kernel_rfl) (by kernel_rfl);case hsteps=>
    refine⟨?_,?_,?_,?_,?_,?_,?_,?_,?_,?_,?_,?_,?_,?_,?_,?_,trivial⟩;all_goals
     intro d ev s E l J q F D r;replace J:=aa J;replace l:=aa l;replace q:=aa q;replace F:=aa F;have e0:=D 0 (by decide);have e2:=D 2 (by decide);have e3:=D 3 (by decide);clear D;simp only[sB]at e0 e2 e3;simp only[sG]at r;have hc:=(aD E).1;simp only[DP,if_true];first
     | (have p:HD s g f:=(by have h:=l.out;unfold jc at h;rw[q.out 15 (by kernel_rfl),q.out 13 (by kernel_rfl)]at h;exact h);(with_reducible refine fB (fun w=>DI _ w) ?_ (ac.out _ p) ?_);exact r;exact⟨rfl,jc.same (by decide) l⟩) | (have p:HD s g f:=(by have h:=l.out;unfold jc at h;rw[q.out 15 (by kernel_rfl),q.out 13 (by kernel_rfl)]at h;exact h);(with_reducible refine fB (fun w=>DI _ w) ?_ (ab.out _ p) ?_);exact r;exact⟨rfl,jc.same (by decide) l⟩) | (have p:HD s g f:=(by have h:=l.out;unfold jc at h;rw[q.out 15 (by kernel_rfl),F.out]at h;exact h);(with_reducible refine dw ?_ ?_ (Q.out _ p).1 ?_ ?_);exact r.1;exact r.2.1;exact aE _ _ _ _ (DI _ _) (DH _);exact⟨rfl,jc.DC (q 15 (by kernel_rfl)) (Q _ p).2⟩) | (have p:HD s g (f.set k y):=(by have h:=l.out;unfold jc at h;rw[F.out,J.out 13 (by kernel_rfl)]at h;exact h);(with_reducible refine dw ?_ ?_ (R.out _ p).1 ?_ ?_);exact r.1;exact r.2.1;exact aE _ _ _ _ (DI _ _) (DH _);exact⟨rfl,(by unfold jc bD;exact(R _ p).2)⟩)
     | (go_simp;first | exact⟨DI _ _,rfl,jc.same (by decide) l⟩ | exact⟨DI _ _,rfl,HJ.same (by decide) l⟩)
   case hmono=>exact mR
   case hR0=>exact(DI _ _).drew
   case hend=>
    intro u s E U hend;simp only[sE]at hend;simp only[sF,hend];have Z:Hid (HD s g ((f.set k y).set m x)):=aa U;have Y:=aa (P.trans E);clear U E hend
    go_wp2_with fail
    go_roundw;case rel=>exact⟨k+1,by simp,by show Ej _ _=Ej _ _;first | (congr 1;done) | (congr 1;have:=ah.out;omega),by omega,by rw[C.out];exact Z,Y⟩
    case measure=>simp[Ef];omega
   case hJ0=>exact t.drew
  ·have ad:=aa (vW L k (by rw[<-o.out];omega) (by rw[<-o.out];omega))
   go_wp2_with fail
   go_end0
   exact⟨rfl,by rw[<-ad.out];exact t,P⟩
theorem vY (p:Option Addr) (c:Nat) (w:DF):
  DN DE 84 #[.slice p 0 c] w fun e w'=>e=.returned (.tuple #[])/\w=w':=by
 go_enter Tryz.func84,Tryz.ntmps84
 go_wp2_with fail
 go_loop [2,3] (fun i j=>i=.int .i64 0/\j=.int .i64 (-1)) (fun _ _=>0);case atStart=>exact⟨rfl,rfl⟩
 case round=>
  obtain⟨rfl,rfl⟩:=hrel
  go_wp2_with fail
  go_end0
  exact⟨rfl,rfl⟩
end Go.Proofs.Bl
