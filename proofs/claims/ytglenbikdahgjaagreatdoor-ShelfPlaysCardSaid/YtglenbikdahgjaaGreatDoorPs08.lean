/- Walks of tree.Inner, Leaf, Node, baileeref12.Leaf, Node. -/
import Derived.Test.YtglenbikdahgjaaGreatDoorPs07
set_option maxRecDepth 100000
set_option maxHeartbeats 16000000
open Array renaming replicate_succ->FI,replicate_zero->FJ
open Go renaming Calls->CZ,Value->CQ,World->CP,bodyPost_ret->De,maxLen->Dc,run_loadVar_mid->Ep,undef->DT
open Go.Fence renaming wide->E4
open Go.Instr renaming loadAt->EX
open Go.Lib renaming run_eql_slice_nil->F8
open Go.Oper renaming semAt_some->Gy
open Go.Region renaming wanted->C8
open Go.RowKit.Below renaming refl->CT,trans->DC
open Go.Value renaming int->Dx,slice->EG
open Go.World renaming block_lt_of_cell?->CW,ownsRow_nil->ES,rangeAt_setCells_same->Dr,size_alloc->C4
open List renaming append_toArray->FR,cons_append->Fy,finRange->E9,getD_eq_getElem?_getD->CR,getElem?_eq_getElem->CV,getElem_mem->DW,length_cons->DB,length_drop->C6,length_eq_zero_iff->DI,length_nil->DY,length_take->Da,map_append->D3,nil_append->Eh,push_toArray->Ga,size_toArray->Fv,take_length->Fl,take_succ_eq_append_getElem->Ee
open Nat renaming le_refl->CU,le_succ->ET,le_trans->Dk,lt_of_lt_of_le->Dd,zero_le->C9
namespace Go.Proofs.Bl
open Go Go.RowKit Go.Proofs
open Go.Proofs.Tryz renaming prog->CO,underlying52->EA,underlying54->DF
theorem sj (l r:List Int) (w:CP) (n:l.length=32) (o:r.length=32):
  CZ CO 92 #[.agg (aj .u8 l).toArray,.agg (aj .u8 r).toArray] w fun e w'=>∃f,e=.returned f/\w'.ownsRow w.heap.size 5 1 f ((l++r).length+1) (aj .u8 (1 :: (l++r)))/\au w w':=by
 have g:=aa n;have i:=aa o;clear n o;go_enter Tryz.func92,Tryz.ntmps92
 go_wp2_with fail
 have h1:=aL (ff w l 54) (ae _ (.cells (aj .u8 r).toArray 54));have h2:=ff (w.alloc (.cells (aj .u8 l).toArray 54)) r 54;rw[C4]at h2;have b:Hid (au w ((w.alloc (.cells (aj .u8 l).toArray 54)).alloc (.cells (aj .u8 r).toArray 54))):=aa ((ae _ _).trans (ae _ _));obtain⟨W,m⟩:=exq ((w.alloc (.cells (aj .u8 l).toArray 54)).alloc (.cells (aj .u8 r).toArray 54));rw[<-m]at h1 h2 b⊢;have s:=aa (mW h1 g (by decide));have t:=aa (mW h2 i (by decide));clear m h1 h2;apply aG 5 [5,6,7,8,9] [(fun v w'=>dD w' v [1]),ar _,ar _,(fun v w'=>aU w' v [[1],l,r]),(fun v w'=>w'.ownsRow w.heap.size 5 1 v ((l++r).length+1) (aj .u8 (1 :: (l++r))))] (by kernel_rfl) (by kernel_rfl) (by kernel_rfl) (by kernel_rfl);case hsteps=>
  refine⟨?_,?_,?_,?_,?_,trivial⟩;all_goals
   intro E C a c d;have y:=c 2 (by decide);have z:=c 3 (by decide);clear c;simp only[sB]at y z;simp only[sD]at d;have H:=(ay a).1;try (obtain⟨⟨I,D,B,j⟩,F,G⟩:=d;rw[B]at j)
   simp only[dw,C8,if_true];go_simp;first | exact⟨ae _ _,mX _ _ _⟩ | exact⟨ae _ _,ji j (s.ext a) (t.ext a) _⟩ | (go_at_call 100;refine(ke _ [[1],l,r] _ d (by simp) (by simp[g.out,i.out])).mono ?_;rintro e J ⟨f,rfl,h1,h2⟩;exact⟨_,rfl,h2,(by have A:=dX h1 (Dk b.size a.size);simpa using A)⟩) | exact⟨CT _ _,rfl⟩
 case hmono=>exact⟨(fun _ _ _ h k=>dD.ext h k),ah _,ah _,(fun _ _ _ h k=>aU.ext h k),(fun _ _ _ h k=>aN h k),trivial⟩
 case hend=>
  intro u C a hend;simp only[sE]at hend;simp only[sF,hend];have p:=hend.2;have q:=aa (b.trans a);have x:=aa p;clear hend a p
  go_wp2_with fail
  go_ret;exact⟨_,rfl,x,q⟩
theorem sk (l r:List Int) (w:CP) (c:l.length=32) (d:r.length=32):
  CZ CO 92 #[.agg (aj .u8 l).toArray,.agg (aj .u8 r).toArray] w fun e w'=>∃a,e=.returned a/\Bu w' .u8 a (1 :: (l++r))/\au w w':=
 (sj l r w c d).mono fun _ _ ⟨a,h1,h2,b⟩=>⟨a,h1,aX.AS h2,b⟩
theorem uM (v:CQ) (l:List Int) (w:CP) (h:Bu w .u8 v l) (t:eZ w) (s:bI l) (hlen:l.length<=1099511627000):
  CZ CO 91 #[v] w fun e w'=>e=.returned (.agg (aj .u8 (ij l)).toArray)/\au w w':=by
 obtain⟨p,c,F,I,H⟩:=h.form;subst F;have A:=aa h;have x:=aa t;have u:=aa s;clear h t s;go_enter Tryz.func91,Tryz.ntmps91
 go_wp2_with fail
 have f:=aa (dk w 32 .u8 54 zA rfl);have b:=aa (ae w (.cells zA 54));obtain⟨n,r⟩:=exq (w.alloc (.cells zA 54));rw[<-r]at f b⊢;clear r;refine(rZ _ l n (A.ext b) hlen).mono ?_;rintro e G ⟨v1,rfl,i,o⟩;obtain⟨p1,B,C,_,_⟩:=i.form;subst C;have H1:=aa (tY i 27);have d:Hid (au n (G.alloc (.cells #[.slice p1 (0 :: l).length B] 27))):=aa (o.trans (ae _ _));clear i o
 go_wp2_with fail
 refine(pV _ [0 :: l] _ H1 (x.ext (b.trans d)) (by simpa using jH (by decide) (by decide) u) (by simp;omega)).mono ?_;rintro e J ⟨rfl,q⟩;have a:sha ([0 :: l]:List (List Int)).flatten=ij l:=by unfold ij;rw[List.flatten_singleton]
 rw[a];obtain⟨sh,a⟩:=exq (ij l);have g:Hid (sh.length=32):=aa (by rw[a];rfl);have y:=aa a;rw[<-a];have j:=aa (d.trans q);clear q H1 d a;have m:=aa (f.below j (CW _ _ (f.1 0 (by decide))));have z:=aa (bo (P:=CO) (k:=.u8) (ty:=54) (l:=sh) m.there (by kernel_rfl) g)
 go_wp2_with (((with_reducible refine bG ?_ ?_ z.out ?_);rfl;rfl))
 have D:=Dr _ (w.heap.size) 0 (aj .u8 sh) (by rw[ints_length,g.out];exact m.there);have E:=Ep (P:=CO) _ (w.heap.size) 0 54 (aj .u8 sh) _ D DF rfl (by rw[ints_length,g.out];kernel_rfl);refine De (v:=.agg (aj .u8 sh).toArray) (aB rfl rfl E) rfl ⟨by rw[y.out],aA _ _ _ _ (b.trans j) (CU _)⟩
theorem uN (l r:List Int) (w:CP) (A:l.length=32) (C:r.length=32) (u:bI l) (x:bI r) (z:eZ w):
  CZ CO 131 #[.agg (aj .u8 l).toArray,.agg (aj .u8 r).toArray] w fun e w'=>e=.returned (.agg (aj .u8 (ej l r)).toArray)/\au w w':=by
 have f:=aa A;have g:=aa C;have D:Hid (bI (1 :: (l++r))):=aa (jH (by decide) (by decide) (u.append x));have E:=aa z;clear A C u x z;go_enter Tryz.func131,Tryz.ntmps131
 go_wp2_with (with_reducible refine aV (ty:=54) ?_)
 refine ax ?_;have h1:=aL (aL (ff w l 54) (ae _ (.cells (aj .u8 r).toArray 54))) (ae _ (.cells zA 54));have h2:=aL (ff (w.alloc (.cells (aj .u8 l).toArray 54)) r 54) (ae _ (.cells zA 54));rw[C4]at h2;have b:=dk ((w.alloc (.cells (aj .u8 l).toArray 54)).alloc (.cells (aj .u8 r).toArray 54)) 32 .u8 54 zA rfl;simp only[C4]at b;have c:Hid (au w (((w.alloc (.cells (aj .u8 l).toArray 54)).alloc (.cells (aj .u8 r).toArray 54)).alloc (.cells zA 54))):=aa (((ae _ _).trans (ae _ _)).trans (ae _ _));obtain⟨W,t⟩:=exq (((w.alloc (.cells (aj .u8 l).toArray 54)).alloc (.cells (aj .u8 r).toArray 54)).alloc (.cells zA 54));rw[<-t]at h1 h2 b c⊢;have o:=aa (aZ (P:=CO) (ty:=54) h1 DF (by kernel_rfl) f);have p:=aa (aZ (P:=CO) (ty:=54) h2 DF (by kernel_rfl) g);have m:=aa b;clear t h1 h2 b;refine ao rfl o ?_
 go_wp2_with (with_reducible refine aV (ty:=54) ?_)
 refine ax ?_;refine ao rfl p ?_;clear o p
 go_wp2_with fail
 refine(sk l r W f g).mono ?_;rintro e L ⟨v1,rfl,i,q⟩;obtain⟨p1,H,y,_,_⟩:=i.form;obtain⟨K,B⟩:=exq ((1 :: (l++r)).length);rw[<-B]at y;clear B;subst y;have H1:=aa (tY i 27);have d:Hid (au W (L.alloc (.cells #[.slice p1 K H] 27))):=aa (q.trans (ae _ _));clear i q
 go_wp2_with fail
 refine(pV _ [1 :: (l++r)] _ H1 (E.ext (c.trans d)) (by simpa using D.out) (by simp[f.out,g.out])).mono ?_;rintro e M ⟨rfl,s⟩;have a:sha ([1 :: (l++r)]:List (List Int)).flatten=ej l r:=by unfold ej;rw[List.flatten_singleton]
 rw[a];obtain⟨sh,a⟩:=exq (ej l r);have h:Hid (sh.length=32):=aa (by rw[a];rfl);have F:=aa a;rw[<-a];have j:=aa (d.trans s);clear s H1 d a;have n:=aa (m.below j (CW _ _ (m.1 0 (by decide))));have G:=aa (bo (P:=CO) (k:=.u8) (ty:=54) (l:=sh) n.there (by kernel_rfl) h)
 go_wp2_with (((with_reducible refine bG ?_ ?_ G.out ?_);rfl;rfl))
 have I:=Dr _ (w.heap.size+1+1) 0 (aj .u8 sh) (by rw[ints_length,h.out];exact n.there);have J:=Ep (P:=CO) _ (w.heap.size+1+1) 0 54 (aj .u8 sh) _ I DF rfl (by rw[ints_length,h.out];kernel_rfl);refine De (v:=.agg (aj .u8 sh).toArray) (aB rfl rfl J) rfl ⟨by rw[F.out],aA _ _ _ _ (c.trans j) (by omega)⟩
theorem ov (v:CQ) (l:List Int) (w:CP) (o:Bu w .u8 v l) (E:dT w) (D:bI l) (hlen:l.length<=1099511627000):
  CZ CO 79 #[v] w fun e w'=>e=.returned (.agg (aj .u8 (ij l)).toArray)/\au w w':=by
 obtain⟨p,c,S,W,V⟩:=o.form;subst S;have L:=aa o;have I:=aa E;have H:=aa D;clear o E D;go_enter Tryz.func79,Tryz.ntmps79
 go_wp2_with (with_reducible refine av ?_)
 refine ax ?_;have j:=aa (dk w 32 .u8 52 zA rfl);have b:=aa (ae w (.cells zA 52));have f:=cX (w.alloc (.cells zA 52)) 5 #[.int .u8 0] (w.heap.size+1) 1 1 (by simp) (by decide) rfl;simp only[C4]at f;have n:=ae (w.alloc (.cells zA 52)) (.cells #[.int .u8 0] 5);have r:(w.alloc (.cells zA 52)).heap.size=w.heap.size+1:=by simp
 obtain⟨M,C⟩:=exq (w.alloc (.cells zA 52));rw[<-C]at j b f n r⊢;have x:=aa f;have g:=aa n;have z:=aa r;clear C f n r;refine bg aQ x ((L.ext b).ext g) rfl rfl (by simp) (aE _ _) (by unfold Dc;omega) (by omega) (by simp;rw[z.out];omega) ?_;intro q d s F O A N U T;have G:Bu s .u8 (.slice q (1+l.length) d) (0 :: l):=by have h:=aX.AS F;show aX _ _ (l.length+1) _;rw[Nat.add_comm l.length 1];exact h
 have i:Hid (au M s):=aa (DC g (by rw[z.out];exact A));have y:=aa G;clear F O A N G g x
 go_wp2_with fail
 refine(kg _ (0 :: l) s y (I.ext (b.trans i)) (jH (by decide) (by decide) H) (by simp;omega)).mono ?_;rintro e X ⟨rfl,B⟩;have a:sha (0 :: l)=ij l:=rfl;rw[a];obtain⟨sh,a⟩:=exq (ij l);have m:Hid (sh.length=32):=aa (by rw[a];rfl);have J:=aa a;rw[<-a];have t:=aa (i.trans B);clear B i a y;have u:=aa (j.below t (CW _ _ (j.1 0 (by decide))));have K:=aa (bo (P:=CO) (k:=.u8) (ty:=52) (l:=sh) u.there (by kernel_rfl) m)
 go_wp2_with (((with_reducible refine bG ?_ ?_ K.out ?_);rfl;rfl))
 have Q:=Dr _ (w.heap.size) 0 (aj .u8 sh) (by rw[ints_length,m.out];exact u.there);have R:=Ep (P:=CO) _ (w.heap.size) 0 52 (aj .u8 sh) _ Q EA rfl (by rw[ints_length,m.out];kernel_rfl);refine De (v:=.agg (aj .u8 sh).toArray) (aB rfl rfl R) rfl ⟨by rw[J.out],aA _ _ _ _ (b.trans t) (CU _)⟩
theorem oy (l r:List Int) (w:CP) (Q:l.length=32) (S:r.length=32) (M:bI l) (N:bI r) (O:dT w):
  CZ CO 86 #[.agg (aj .u8 l).toArray,.agg (aj .u8 r).toArray] w fun e w'=>e=.returned (.agg (aj .u8 (ej l r)).toArray)/\au w w':=by
 have o:=aa Q;have f:=aa S;have V:Hid (bI (1 :: (l++r))):=aa (jH (by decide) (by decide) (M.append N));have X:=aa O;clear Q S M N O;go_enter Tryz.func86,Tryz.ntmps86
 go_wp2_with fail
 have h1:=aL (aL (ff w l 52) (ae _ (.cells (aj .u8 r).toArray 52))) (ae _ (.cells zA 52));have h2:=aL (ff (w.alloc (.cells (aj .u8 l).toArray 52)) r 52) (ae _ (.cells zA 52));rw[C4]at h2;have g:=dk ((w.alloc (.cells (aj .u8 l).toArray 52)).alloc (.cells (aj .u8 r).toArray 52)) 32 .u8 52 zA rfl;simp only[C4]at g;have j:Hid (au w (((w.alloc (.cells (aj .u8 l).toArray 52)).alloc (.cells (aj .u8 r).toArray 52)).alloc (.cells zA 52))):=aa (((ae _ _).trans (ae _ _)).trans (ae _ _));obtain⟨W,L⟩:=exq (((w.alloc (.cells (aj .u8 l).toArray 52)).alloc (.cells (aj .u8 r).toArray 52)).alloc (.cells zA 52));rw[<-L]at h1 h2 g j⊢;have T:=aa h1;have U:=aa h2;have E:=aa g;obtain⟨B,J⟩:=exq W.heap.size;have i:=aa J;clear L h1 h2 g J;apply aG 4 [5,6,7,8] [(fun v w'=>rR w' v 1),ar _,(fun v w'=>kQ w' v B 5 (1+32) (1 :: l)),ar _] (by kernel_rfl) (by kernel_rfl) (by kernel_rfl) (by kernel_rfl);case hsteps=>
  refine⟨?_,?_,?_,?_,trivial⟩;all_goals
   intro ev w1 a x y;have e2:=x 2 (by decide);have e3:=x 3 (by decide);clear x;simp only[sB]at e2 e3;simp only[sD]at y;have hc:=(ay a).1;simp only[dw,C8,if_true];first
   | (obtain⟨c,w3,q1,q2,q3⟩:=zm aQ (CU 1) (B:=B) y.1 ⟨w.heap.size,y.2,aL T a⟩ o (by decide) (by decide) (by rw[i.out];exact a.size);refine pI q1 rfl rfl q2 ⟨_,c,rfl,q3⟩)
   | (go_simp;first | exact⟨ae _ _,ua _ _ _⟩ | exact⟨CT _ _,rfl⟩)
 case hmono=>exact⟨(fun _ _ _ h k=>rR.ext h k),ah _,(fun _ _ _ h k=>kQ.ext h k),ah _,trivial⟩
 case hend=>
  intro u w1 a hend;simp only[sE]at hend;simp only[sF,hend];obtain⟨⟨⟨_,_⟩,p,c,R,z⟩,_⟩:=hend;rw[R]at z⊢;have H:=aa z;have G:=aa ((mW U f (by decide)).ext a);have m:=aa a;clear z R a
  go_wp2_with (with_reducible refine av ?_)
  refine ax ?_;refine bg aQ H G rfl rfl (by simp) (aE _ _) (by rw[f.out];decide) (by rw[f.out];decide) (by rw[i.out];exact m.size) ?_;intro q d C A af t ad az aw;rw[<-aP]at A;have n:Hid (au W C):=aa (DC m (by rw[i.out]at t;exact t))
  have I:Hid (Bu C .u8 (.slice q (1+32+r.length) d) (1 :: (l++r))):=aa (by
   have h:=aX.AS A;show aX _ _ ((l++r).length+1) _
   rw[List.length_append,o.out,show 32+r.length+1=1+32+r.length from by omega];exact h)
  clear A af t ad H G m
  go_wp2_with fail
  refine(kg _ (1 :: (l++r)) C I (X.ext (j.trans n)) V (by simp[o.out,f.out])).mono ?_;rintro e w3 ⟨rfl,K⟩;have b:sha (1 :: (l++r))=ej l r:=rfl;rw[b];obtain⟨sh,b⟩:=exq (ej l r);have s:Hid (sh.length=32):=aa (by rw[b];rfl);have Y:=aa b;rw[<-b];have D:=aa (n.trans K);clear K n b I;have F:=aa (E.below D (CW _ _ (E.1 0 (by decide))));have Z:=aa (bo (P:=CO) (k:=.u8) (ty:=52) (l:=sh) F.there (by kernel_rfl) s)
  go_wp2_with (((with_reducible refine bG ?_ ?_ Z.out ?_);rfl;rfl))
  have ag:=Dr _ (w.heap.size+1+1) 0 (aj .u8 sh) (by rw[ints_length,s.out];exact F.there);have ai:=Ep (P:=CO) _ (w.heap.size+1+1) 0 52 (aj .u8 sh) _ ag EA rfl (by rw[ints_length,s.out];kernel_rfl);refine De (v:=.agg (aj .u8 sh).toArray) (aB rfl rfl ai) rfl ⟨by rw[Y.out],aA _ _ _ _ (j.trans D) (by omega)⟩
theorem qi (v:CQ) (ps:List (List Int)) (w:CP) (hR:aU w v ps) (K:eZ w) (I:∀p∈ps,bI p) (L:∀p∈ps,p.length<=1099511627000) (hn:ps.length<=1048576):
  CZ CO 81 #[v] w fun e w'=>∃p c,e=.returned (.slice p ps.length c)/\w'.ownsRow w.heap.size 54 32 (.slice p ps.length c) ps.length (aO (ps.map ij))/\au w w':=by
 obtain⟨ws,x,O,P⟩:=hR;obtain⟨p,c,am,aD,aC⟩:=x.form;subst am;have Hv:=aa x;have af:=aa P;have ad:=aa O;have V:=aa K;have T:=aa I;have W:=aa L;obtain⟨B,q⟩:=exq w.heap.size;rw[<-q];have z:=aa q;clear x P K I O L q;go_enter Tryz.func81,Tryz.ntmps81
 go_wp2_with fail
 go_loopw [3,8] (fun o i wr=>∃(k n:Nat) (p1:Option Addr),k<=ps.length/\i=.int .i64 k/\o=.slice p1 k n/\wr.ownsRow B 54 32 (.slice p1 k n) k (aO ((ps.take k).map ij))/\au w wr) (fun _ i _=>ps.length - (intOf i).toNat);case atStart=>exact⟨0,0,none,C9 _,rfl,rfl,ES _ _ _ _,CT _ _⟩
 case round=>
  obtain⟨k,n,p1,hk,rfl,rfl,g,G⟩:=hrel;have E:=aa g;have h:=aa G;clear g G;by_cases f:k < ps.length
  ·obtain⟨b,o,ak,ap,J⟩:=aU.BK (Hv.ext h) ad k f;subst ak;have j:=af k f;obtain⟨a,l⟩:=exq (ps.getD k []);have M:a∈ps:=by rw[l,CR,CV f];exact DW f
   rw[<-l]at j;obtain⟨Q,F,u,aB,aw⟩:=j.form;have ar:wr.cell? ⟨b,o+k,none⟩=some (.slice Q a.length F):=by rw[J,u]
   have H:Bu wr .u8 (.slice Q a.length F) a:=by rw[<-u];exact j.ext h
   have S:=aa H;have D:=aa M;have al:Hid ((ps.take (k+1)).map ij=(ps.take k).map ij++[ij a]):=by show _=_;rw[l,CR,CV f,Ee f,D3];rfl
   clear j u J H l M
   go_wp2_with fail
   refine(uM _ a wr S (V.ext h) (T _ D) (W _ D)).mono ?_;rintro e y ⟨rfl,s⟩;have m:(ij a).length=32:=jh a;obtain⟨d,t⟩:=exq (ij a);rw[<-t]at m⊢;have C:=aa m;have U:=aa t;have Z:=aa (aN (aN E s) (ae y (.cells (aj .u8 d).toArray 54)));have X:=aa (fI y 54 d m);have A:Hid (au w (y.alloc (.cells (aj .u8 d).toArray 54))):=aa ((h.trans s).trans (ae _ _));clear s m t
   go_wp2_with (with_reducible refine df ?_)
   refine ax ?_;refine de kb (by decide) rfl (by simp[C.out]) ?_
   go_wp2_with (with_reducible refine av ?_)
   refine ax ?_;refine bg kb Z X rfl rfl (by rw[cM,ints_length,C.out]) (cY _) (by unfold Dc;omega) (by omega) (by rw[z.out];exact A.size) ?_;intro q3 d3 w3 N ai r ag aA aq;have ab:=aa N;have R:Hid (au w w3):=aa (DC A (by rw[z.out]at r;exact r));clear N ai r ag
   go_wp2_with fail
   go_roundw;case rel=>refine⟨k+1,d3,q3,by omega,by go_num,rfl,?_,R⟩;rw[al.out,cf,<-U.out];exact ab
   case measure=>simp[intOf];omega
  ·obtain rfl:k=ps.length:=by omega
   have g:=E.out;rw[Fl]at g;have Y:=aa g;clear g
   go_wp2_with fail
   go_ret;exact⟨_,_,rfl,Y,h⟩
theorem mi (v:CQ) (ps:List (List Int)) (w:CP) (hR:aU w v ps) (I:dT w) (G:∀p∈ps,bI p) (J:∀p∈ps,p.length<=1099511627000) (hn:ps.length<=1048576):
  CZ CO 44 #[v] w fun e w'=>∃p c,e=.returned (.slice p ps.length c)/\w'.ownsRow w.heap.size 52 32 (.slice p ps.length c) ps.length (aO (ps.map ij))/\au w w':=by
 obtain⟨ws,t,N,O⟩:=hR;obtain⟨p,c,an,aE,aD⟩:=t.form;subst an;have Hv:=aa t;have ag:=aa O;have af:=aa N;have V:=aa I;have T:=aa G;have W:=aa J;have L:=gB w 52 w.heap.size (CU _) 32;have E:=ae w (.cells #[] 52);have Y:=aa L;have Q:=aa E;clear t O I G N J L E;go_enter Tryz.func44,Tryz.ntmps44
 go_wp2_with fail
 go_loopw [3,9] (fun o i wr=>∃(k n:Nat) (p1:Option Addr),k<=ps.length/\i=.int .i64 k/\o=.slice p1 k n/\wr.ownsRow w.heap.size 52 32 (.slice p1 k n) k (aO ((ps.take k).map ij))/\au w wr) (fun _ i _=>ps.length - (intOf i).toNat);case atStart=>exact⟨0,0,_,C9 _,rfl,rfl,Y,Q⟩
 case round=>
  obtain⟨k,n,p1,hk,rfl,rfl,g,D⟩:=hrel;have A:=aa g;have h:=aa D;clear g D;by_cases f:k < ps.length
  ·obtain⟨b,o,al,aq,H⟩:=aU.BK (Hv.ext h) af k f;subst al;have j:=ag k f;obtain⟨a,l⟩:=exq (ps.getD k []);have K:a∈ps:=by rw[l,CR,CV f];exact DW f
   rw[<-l]at j;obtain⟨P,B,s,aC,ay⟩:=j.form;have aw:wr.cell? ⟨b,o+k,none⟩=some (.slice P a.length B):=by rw[H,s]
   have F:Bu wr .u8 (.slice P a.length B) a:=by rw[<-s];exact j.ext h
   have S:=aa F;have z:=aa K;have am:Hid ((ps.take (k+1)).map ij=(ps.take k).map ij++[ij a]):=by show _=_;rw[l,CR,CV f,Ee f,D3];rfl
   clear j s H F l K
   go_wp2_with fail
   refine(ov _ a wr S (V.ext h) (T _ z) (W _ z)).mono ?_;rintro e u ⟨rfl,q⟩;have m:(ij a).length=32:=jh a;obtain⟨d,r⟩:=exq (ij a);rw[<-r]at m⊢;have y:=aa m;have U:=aa r;have ab:=aa (aN (aN A q) (ae u (.cells (aj .u8 d).toArray 52)));have X:=aa (fI u 52 d m);have x:Hid (au w (u.alloc (.cells (aj .u8 d).toArray 52))):=aa ((h.trans q).trans (ae _ _));clear q m r
   go_wp2_with (with_reducible refine df ?_)
   refine ax ?_;refine de mf (by decide) rfl (by simp[y.out]) ?_
   go_wp2_with (with_reducible refine av ?_)
   refine ax ?_;refine bg mf ab X rfl rfl (by rw[cM,ints_length,y.out]) (cY _) (by unfold Dc;omega) (by omega) x.size ?_;intro q3 d3 w3 M ak C ah aB ar;have ac:=aa M;have R:Hid (au w w3):=aa (DC x C);clear M ak C ah
   go_wp2_with fail
   go_roundw;case rel=>refine⟨k+1,d3,q3,by omega,by go_num,rfl,?_,R⟩;rw[am.out,cf,<-U.out];exact ac
   case measure=>simp[intOf];omega
  ·obtain rfl:k=ps.length:=by omega
   have g:=A.out;rw[Fl]at g;have Z:=aa g;clear g
   go_wp2_with fail
   go_ret;exact⟨_,_,rfl,Z,h⟩
section
attribute [local go_sem] Gy
theorem qj (w:CP) (p:Option Addr) (n c:Nat):
  CZ CO 130 #[.slice p n c,.int .i64 2] w fun e w'=>e=.returned (.func (.func 150) #[] #[.pointer (some ⟨w.heap.size,0,none⟩),.pointer (some ⟨w.heap.size+1,0,none⟩)])/\w'=(w.alloc (.cells #[.slice p n c] 55)).alloc (.cells #[.int .i64 2] 3):=by
 go_enter Tryz.func130,Tryz.ntmps130
 go_wp2
 go_ret;exact⟨rfl,rfl⟩
theorem ql (n lr q p o g b off N m cap:Nat) (hn:1<=n) (hm:2*m<=N+1) (aB:N<=2*m) (aq:N<=cap) (aC:N<=1048576) (ah:cap<=Dc) (C:q < g) (z:p < g) (D:q≠o) (A:p≠o) (J Y:List (Fin m)->CP->Prop) (B0:Nat) (Z:AbidesFrom B0 J)
  (hY:∀pre x W,J pre W->pre.length < m->YieldAt E4 (n - 1) CO lr #[.slice (some ⟨b,off+2*x.val*32,none⟩) (ln N x.val) (ln N x.val)] W fun e l=>
   (e=.returned (.bool true)/\J (pre++[x]) l/\cP o g W l)\/(e=.returned (.bool false)/\Y (pre++[x]) l))
  (W:CP) (ac:W.cell? ⟨q,0,none⟩=some (.slice (some ⟨b,off,none⟩) N cap)) (ab:W.cell? ⟨p,0,none⟩=some (.int .i64 2)) (h0:J [] W) (ao:g<=W.heap.size):
  CallsIn E4 n CO 150 #[.func (.yield lr) #[] #[],.pointer (some ⟨q,0,none⟩),.pointer (some ⟨p,0,none⟩)] W fun e l=>(∃v,e=.returned v)/\
   ((∃xs,xs=E9 m/\J xs l)\/(∃pre,(∃k,k<=m/\pre=dS m k)/\Y pre l)):=by
 unfold Dc at ah;refine callsIn_of_wp Tryz.func150 rfl trivial ?_ rfl;simp only[Tryz.ntmps150,Fv,DB,DY,Nat.reduceAdd,Nat.reduceSub,FI,FJ,Ga,FR,Eh,Fy]
 gi_wp2
 gi_loopw [4] (fun i wr=>∃k:Nat,k<=m/\i=.int .i64 (2*k:Nat)/\J (dS m k) wr/\cP o g W wr)
  (fun i _=>2*m - (intOf i).toNat)
 case atStart=>exact⟨0,C9 _,rfl,h0,cP.refl _ _ _⟩
 case round=>
  obtain⟨k,hk,rfl,Q,j⟩:=hrel;have ae:g<=wr.heap.size:=Dk ao j.1;have E:q < wr.heap.size:=CW _ _ ((j.cell (i:=0) C D).trans ac);have B:p < wr.heap.size:=CW _ _ ((j.cell (i:=0) z A).trans ab);have G:=(j.cell (i:=0) C D).trans ac;have F:=(j.cell (i:=0) z A).trans ab;by_cases d:k < m
  ·have ak:((2*k:Nat):Int) < (N:Int):=by omega
   have hle:((2*k:Nat):Int)<=(N:Int):=by omega
   have aA:((2*k:Nat):Int)<=(cap:Int):=by omega
   have I:(2*(k:Int)).toNat=2*k:=by omega
   have au:(0:Int)<=2*(k:Int):=by omega
   have aw:2*(k:Int)<=(N:Int):=by omega
   have av:2*(k:Int)<=(cap:Int):=by omega
   have az:2*(k:Int) < (N:Int):=by omega
   by_cases H:2*k+2<=N
   ·have X:ln N k=2:=if_pos H;have ap:(2:Int)<=((N - 2*k:Nat):Int):=by omega
    clear H
    gi_wp2
    refine wpIn_wide.2 ?_;apply aG 6 [13,14,15,16,17,18] [ar (.int .i64 2),ar (.slice (some ⟨b,off,none⟩) N cap),ar (.int .i64 (2*k:Nat)),ar (.slice (some ⟨b,off+2*k*32,none⟩) (N - 2*k) (cap - 2*k)),ar (.int .i64 (N - 2*k:Nat)),ar (.int .i64 2)] (by kernel_rfl) (by kernel_rfl) (by kernel_rfl) (by rfl);case hsteps=>
     refine⟨?_,?_,?_,?_,?_,?_,trivial⟩;all_goals
      intro ev c a f U;have K:=f 1 (by decide);have L:=f 2 (by decide);have M:=f 4 (by decide);clear f;simp only[sB]at K L M;simp only[sD]at U;have t:=(ay a).1;have y:=(t _ 0 E).trans G;have w:=(t _ 0 B).trans F;simp only[dw,C8,if_true];go_simp;first
       | exact⟨CT _ _,rfl⟩
       | exact⟨CT _ _,by show Dx _ _=Dx _ _;congr 1;omega⟩
       | exact⟨CT _ _,by rw[if_neg (by omega)];rfl⟩
       | exact⟨CT _ _,by rw[if_neg (by omega),I];rfl⟩
       | exact⟨CT _ _,by rw[if_neg (by omega),I,show 2*k+1 - 2*k=1 from by omega];rfl⟩
    case hend=>
     intro u c a hend;simp only[sE]at hend;simp only[sF,hend];have y:=((ay a).1 _ 0 E).trans G;have w:=((ay a).1 _ 0 B).trans F;have O:J (dS m k) c:=Z _ wr c none Q (j9 a) (fun r e=>by cases e);have S:cP o g wr c:=⟨a.size,fun i V _=>a.block i (Dd V ae)⟩
     go_wp2_with fail
     have s:=hY _ ⟨k,d⟩ c O (by rw[fP _ _ hk];exact d);rw[show ln N (⟨k,d⟩:Fin m).val=2 from X]at s;obtain⟨fn,tmps,assign,body,hy,T⟩:=s;dsimp only at hy;have al:((2*k:Nat):Int)+2<=(cap:Int):=by omega
     have am:(2*(k:Int)+2).toNat=2*k+2:=by omega
     gi_wp2
     refine T.mono ?_;rintro e W3 (⟨rfl,P,h⟩ | ⟨rfl,R⟩)
     ·have aj:=(h.cell (i:=0) C D).trans y;have ai:=(h.cell (i:=0) z A).trans w;have an:2*(k:Int)+2=((2*(k+1):Nat):Int):=by omega
      gi_wp2
      go_roundw;case rel=>exact⟨k+1,by omega,by simp,by rw[ee _ _ d];exact P,(j.trans S).trans h⟩
      case measure=>simp[intOf];omega
     ·gi_wp2
      refine De (results_none rfl _ _ _) rfl ?_;exact⟨⟨_,rfl⟩,.inr ⟨_,⟨k+1,by omega,(ee _ _ d).symm⟩,R⟩⟩
    case hmono=>exact mL
   ·obtain rfl:N=2*k+1:=by omega
    have X:ln (2*k+1) k=1:=if_neg H;have ax:2*(k:Int)<=2*(k:Int)+1:=by omega
    clear H
    gi_wp2
    refine wpIn_wide.2 ?_;apply aG 6 [13,14,15,16,17,18] [ar (.int .i64 2),ar (.slice (some ⟨b,off,none⟩) (2*k+1) cap),ar (.int .i64 (2*k:Nat)),ar (.slice (some ⟨b,off+2*k*32,none⟩) (1) (cap - 2*k)),ar (.int .i64 (1:Nat)),ar (.int .i64 1)] (by kernel_rfl) (by kernel_rfl) (by kernel_rfl) (by rfl);case hsteps=>
     refine⟨?_,?_,?_,?_,?_,?_,trivial⟩;all_goals
      intro ev c a f U;have K:=f 1 (by decide);have L:=f 2 (by decide);have M:=f 4 (by decide);clear f;simp only[sB]at K L M;simp only[sD]at U;have t:=(ay a).1;have y:=(t _ 0 E).trans G;have w:=(t _ 0 B).trans F;simp only[dw,C8,if_true];go_simp;first
       | exact⟨CT _ _,rfl⟩
       | exact⟨CT _ _,by show Dx _ _=Dx _ _;congr 1;omega⟩
       | exact⟨CT _ _,by rw[if_neg (by omega)];rfl⟩
       | exact⟨CT _ _,by rw[if_neg (by omega),I];rfl⟩
       | exact⟨CT _ _,by rw[if_neg (by omega),I,show 2*k+1 - 2*k=1 from by omega];rfl⟩
    case hend=>
     intro u c a hend;simp only[sE]at hend;simp only[sF,hend];have y:=((ay a).1 _ 0 E).trans G;have w:=((ay a).1 _ 0 B).trans F;have O:J (dS m k) c:=Z _ wr c none Q (j9 a) (fun r e=>by cases e);have S:cP o g wr c:=⟨a.size,fun i V _=>a.block i (Dd V ae)⟩
     go_wp2_with fail
     have s:=hY _ ⟨k,d⟩ c O (by rw[fP _ _ hk];exact d);rw[show ln (2*k+1) (⟨k,d⟩:Fin m).val=1 from X]at s;obtain⟨fn,tmps,assign,body,hy,T⟩:=s;dsimp only at hy;have al:((2*k:Nat):Int)+1<=(cap:Int):=by omega
     have am:(2*(k:Int)+1).toNat=2*k+1:=by omega
     gi_wp2
     refine T.mono ?_;rintro e W3 (⟨rfl,P,h⟩ | ⟨rfl,R⟩)
     ·have aj:=(h.cell (i:=0) C D).trans y;have ai:=(h.cell (i:=0) z A).trans w;have an:2*(k:Int)+2=((2*(k+1):Nat):Int):=by omega
      gi_wp2
      go_roundw;case rel=>exact⟨k+1,by omega,by simp,by rw[ee _ _ d];exact P,(j.trans S).trans h⟩
      case measure=>simp[intOf];omega
     ·gi_wp2
      refine De (results_none rfl _ _ _) rfl ?_;exact⟨⟨_,rfl⟩,.inr ⟨_,⟨k+1,by omega,(ee _ _ d).symm⟩,R⟩⟩
    case hmono=>exact mL
  ·obtain rfl:k=m:=by omega
   have ak:¬(((2*k:Nat):Int) < (N:Int)):=by omega
   gi_wp2
   go_end0
   exact⟨⟨_,rfl⟩,.inl (by rw[<-lx];exact Q)⟩
theorem nA (n c a d b off N m cap:Nat) (z:1<=n) (hm:2*m<=N+1) (v:N<=2*m) (r:N<=cap) (y:N<=1048576) (s:cap<=Dc) (w:CP) (g:c < w.heap.size) (f:a < w.heap.size) (j:c≠d) (i:a≠d)
  (u:w.cell? ⟨c,0,none⟩=some (.slice (some ⟨b,off,none⟩) N cap)) (t:w.cell? ⟨a,0,none⟩=some (.int .i64 2)):
  SeqStopsK E4 n CO 150 #[.pointer (some ⟨c,0,none⟩),.pointer (some ⟨a,0,none⟩)] (fun x:Fin m=>#[EG (some ⟨b,off+2*x.val*32,none⟩) (ln N x.val) (ln N x.val)]) (cP d w.heap.size) (fun xs=>xs=E9 m) (fun pre=>∃k,k<=m/\pre=dS m k) m w:=
 fun l J h W e o _ q h0=>
  ql n l c a d w.heap.size b off N m cap z hm v r y s g f j i J h W.heap.size o q W ((e.cell (p:=⟨c,0,none⟩) g).trans u) ((e.cell (p:=⟨a,0,none⟩) f).trans t) h0 e.size
end
section
attribute [local go_sem] Gy
theorem kH (ad:Addr) (c:Nat) (ds:List (List Int)) (w:CP) (h2:et w (.slice (some ad) ds.length c) ds) (f:dd ds) (g:ds.length<=1048576):
  CZ CO 111 #[.slice (some ad) ds.length c] w fun e w'=>∃a,e=.returned a/\w'.ownsRow w.heap.size 54 32 a ds.length (aO ds)/\au w w':=by
 have l:=F8 (P:=CO) w 55 54 (some ad) ds.length c 0 0 Tryz.underlying55;have d:au w (w.alloc (.cells #[] 54)):=ae _ _;have j:Hid ((w.alloc (.cells #[] 54)).ownsRow w.heap.size 54 32 (.slice (some ⟨w.heap.size,0,none⟩) 0 0) 0 []):=aa (cX w 54 #[] w.heap.size 0 32 (CU _) (by decide) rfl);have H2:Hid (et (w.alloc (.cells #[] 54)) (.slice (some ad) ds.length c) ds):=aa (aX.ext h2 d);have b:=aa g;have i:=aa f;clear h2 d g f;go_enter Tryz.func111,Tryz.ntmps111
 go_wp2_with ((with_reducible refine dV kb j.out H2.out (bT i.out) (cY _) (by have:=b.out;unfold Dc;omega) (by have:=b.out;omega) (by simp) ?_ ?_ ?_);rfl;rfl;intro a w' h n k m)
 go_ret;rw[Nat.zero_add,Eh]at h;exact⟨_,rfl,h,((CT _ _).alloc (CU _) _).trans k⟩
theorem qo (v:CQ) (ds:List (List Int)) (w:CP) (h:et w v ds) (a:dd ds) (d:ds.length<=1048576):
  CZ CO 111 #[v] w fun e w'=>∃g,e=.returned g/\w'.ownsRow w.heap.size 54 32 g ds.length (aO ds)/\au w w':=by
 have h2:=h;rcases h with ⟨⟨p,rfl⟩,f,i⟩ | ⟨b,o,c,rfl,l,k,m⟩
 ·obtain rfl:ds=[]:=DI.1 f;cases p with
  | some ad=>exact kH ad 0 [] w h2 a d
  | none=>
   have j:=F8 (P:=CO) w 55 54 none 0 0 0 0 Tryz.underlying55;clear f i h2;go_enter Tryz.func111,Tryz.ntmps111
   go_wp2
   go_ret;exact⟨_,rfl,ES _ _ _ _,CT _ _⟩
 ·exact kH _ c ds w h2 a d
theorem oz (v:CQ) (ds:List (List Int)) (w:CP) (bv:ds.length<=1048576) (y:dd ds) (hR:et w v ds) (hg:eZ w):
  CZ CO 83 #[v] w fun e w'=>e=.returned (.agg (aj .u8 (bZ ds)).toArray)/\au w w':=by
 obtain⟨p,c,rfl,cc,ca⟩:=hR.form;have Hd:=aa y;have HR:=aa hR;have Hg:=aa hg;have R:=aa (dk w 32 .u8 54 zA rfl);have I:=aa (ae w (.cells zA 54));have bB:(w.alloc (.cells zA 54)).heap.size=w.heap.size+1:=C4 _ _;clear y hR hg;refine(callsIn_wide (n:=9)).1 ?_;refine callsIn_of_wp_marks Tryz.func83 rfl trivial ?_ rfl;simp only[Tryz.ntmps83,Fv,DB,DY,Nat.reduceAdd,Nat.reduceSub,FI,FJ,Ga,FR,Eh,Fy];refine wpIn_wide.2 ?_;by_cases h0:ds.length=0
 ·obtain rfl:=DI.1 h0;clear cc ca HR h0
  go_wp2_with fail
  obtain⟨Z,ac⟩:=exq (w.alloc (.cells zA 54));rw[<-ac]at R I⊢;clear ac bB;refine(pV _ [] Z ⟨[],aX.nil _,rfl,fun k hk=>absurd hk (Nat.not_lt_zero _)⟩ (Hg.ext I) bI.nil (by decide)).mono ?_;rintro e g ⟨rfl,bi⟩;have a6:=aa bi;have V:sha [].flatten=bZ []:=rfl;rw[V];obtain⟨sh,V⟩:=exq (bZ []);have aF:Hid (sh.length=32):=aa (by rw[V];rfl);have bS:=aa V;rw[<-V];clear bi V;have Y:=aa (R.below a6 (CW _ _ (R.1 0 (by decide))));have aG:=aa (bo (P:=CO) (k:=.u8) (ty:=54) (l:=sh) Y.there (by kernel_rfl) aF)
  go_wp2_with (((with_reducible refine bG ?_ ?_ aG.out ?_);rfl;rfl))
  have aS:=Dr _ (w.heap.size) 0 (aj .u8 sh) (by rw[ints_length,aF.out];exact Y.there);refine gK (B:=w.heap.size+1) _ 0 _ (trivial) ?_;intro w' ak;have aT:w'.rangeAt (w.heap.size) 0 (aj .u8 sh):=fun j v hv=>((ay ak).1 _ _ (Nat.lt_succ_self _)).trans (aS j v hv)
  have aW:=Ep (P:=CO) _ (w.heap.size) 0 54 (aj .u8 sh) _ aT DF rfl (by rw[ints_length,aF.out];kernel_rfl);exact⟨_,aB rfl rfl aW,by rw[bS.out],(aA _ _ _ _ (I.trans a6) (CU _)).trans (ak.mono (ET _))⟩
 ·have cp:((ds.length:Int)==0)=false:=by rw[beq_eq_false_iff_ne];omega
  go_wp2_with fail
  obtain⟨Z,ac⟩:=exq (w.alloc (.cells zA 54));rw[<-ac]at R I bB⊢;clear ac;refine(qo _ ds Z (aX.ext HR I) Hd bv).mono ?_;rintro e w2 ⟨v2,rfl,a0,aw⟩;obtain⟨p2,c2,rfl,b9,bY⟩:=(aX.AS a0).form;have bM:Hid (et w2 (.slice p2 ds.length c2) ds):=aa (aX.AS a0);have bL:=aa aw;clear a0 aw b9 bY
  go_wp2_with fail
  refine wp_loop (fun a wr=>∃(r:List (List Int)) (n:Nat) (q:Option Addr) (S:Nat) (defs:List Deferred) (u4 bC bD bE bF u16 bH:CQ),
   (Hid (0 < r.length/\r.length<=1048576/\dd r/\bZ r=bZ ds/\et wr (.slice q r.length S) r/\ft (w.heap.size+1) wr wr.heap.size defs/\au Z wr/\r.length=n))/\
   a= {tmps:=#[.slice p ds.length c,DT,.pointer (some ⟨w.heap.size,0,none⟩),.slice q n S,u4,DT,.slice p ds.length c,.int .i64 ds.length,.bool false,DT,.slice p ds.length c,.slice p2 ds.length c2,bC,bD,bE,bF,u16,DT,DT,DT,DT,DT,DT,DT,DT,DT,DT,DT,DT,DT,DT,DT,DT,DT,DT,DT,DT,bH,DT,DT,DT],defers:=defs})
   (fun a _=>zl (a.tmps.getD 3 DT)) ?_ ?_
  ·refine⟨ds,ds.length,p2,c2,[],_,_,_,_,_,_,_,aa ⟨by omega,bv,Hd,rfl,bM,trivial,bL,rfl⟩,rfl⟩
  ·intro a wr hinv;obtain⟨r,n,q,S,defs,u4,bC,bD,bE,bF,u16,bH,bc,rfl⟩:=hinv;obtain⟨bx,a2,C,bw,bA,hM,hE,cg⟩:=bc.out;subst cg;obtain⟨b,o,cl,ce,cf,cd,cn,bz⟩:=et.pos bA C bx;cases ce;have z:=aa C;have bd:=aa bw;have aE:=aa bz;have HM:=aa hM;have X:=aa hE;clear C bw bA bz hM hE bc;have cr:w.heap.size+1<=wr.heap.size:=by have:=X.size;omega
   by_cases h1:r.length=1
   ·obtain⟨d,rfl⟩:∃d,r=[d]:=by
     match r,h1 with
     | [d],_=>exact⟨d,rfl⟩
    obtain⟨bq,_⟩:=z d (by simp);have av:=aa bq;have bR:Hid (wr.rangeAt b o (aj .u8 d)):=aa (by have:=aE.out;rw[cM]at this;exact this);have bN:Hid (d=bZ ds):=aa (by rw[<-bd.out];exact(jC _ _ d).symm);clear bq bx a2 h1 z aE
    go_wp2_with (with_reducible refine aV (ty:=54) ?_)
    refine ax ?_;refine ao rfl (aZ bR DF (by kernel_rfl) av) ?_;have Y:=aa (R.below X (CW _ _ (R.1 0 (by decide))));have aG:=aa (bo (P:=CO) (k:=.u8) (ty:=54) (l:=d) Y.there (by kernel_rfl) av)
    go_wp2_with (((with_reducible refine bG ?_ ?_ aG.out ?_);rfl;rfl))
    have aS:=Dr _ (w.heap.size) 0 (aj .u8 d) (by rw[ints_length,av.out];exact Y.there);refine gK (B:=w.heap.size+1) _ wr.heap.size _ (ft.BU _ _ (fun k hk _ _=>dO _ _ _ (mK.refl w.heap.size wr) k (by omega)) HM) ?_;intro w' ak;have aT:w'.rangeAt (w.heap.size) 0 (aj .u8 d):=fun j v hv=>((ay ak).1 _ _ (Nat.lt_succ_self _)).trans (aS j v hv)
    have aW:=Ep (P:=CO) _ (w.heap.size) 0 54 (aj .u8 d) _ aT DF rfl (by rw[ints_length,av.out];kernel_rfl);exact⟨_,aB rfl rfl aW,by rw[bN.out],(aA _ _ _ _ (I.trans X) (CU _)).trans (ak.mono (ET _))⟩
   ·have co:(1:Int) < (r.length:Int):=by omega
    go_wp2_with fail
    have bm:=j8 wr (.slice none 0 0) 55;have br:(wr.alloc (.cells #[.slice none 0 0] 55)).frozen? ⟨wr.heap.size,0,none⟩=false:=by simp
    refine(qj _ _ _ _).mono ?_;rintro e t ⟨rfl,al⟩;rw[C4];have az:au (wr.alloc (.cells #[.slice none 0 0] 55)) t:=by rw[al];exact((CT _ _).alloc (CU _) _).alloc (by simp) _
    have bW:au wr t:=(ae _ _).trans (az.mono (by simp));have aK:Below wr.heap.size wr t:=bW;have b3:t.cell? ⟨wr.heap.size+1,0,none⟩=some (.slice (some ⟨b,o,none⟩) r.length S):=by rw[al];exact((ay ((CT _ _).alloc (CU _) _)).1 _ _ (by simp)).trans (by simp)
    have b2:t.cell? ⟨wr.heap.size+1+1,0,none⟩=some (.int .i64 2):=by rw[al];have:=j8 ((wr.alloc (.cells #[.slice none 0 0] 55)).alloc (.cells #[.slice (some ⟨b,o,none⟩) r.length S] 55)) (.int .i64 2) 3;simpa using this
    have cq:t.heap.size=wr.heap.size+3:=by rw[al];simp
    have b1:t.cell? ⟨wr.heap.size,0,none⟩=some (.slice none 0 0):=((ay az).1 _ _ (by simp)).trans bm;have b6:t.frozen? ⟨wr.heap.size,0,none⟩=false:=((ay az).2 _ _ (by simp)).trans br;obtain⟨m,hm⟩:=exq ((r.length+1) / 2);clear al az bm br
    go_wp2_with fail
    refine(wpIn_wide (n:=9)).1 ?_;apply wpIn_rangeFunc_ownF (F:=E4) (encs:=fun x:Fin m=>#[EG (some ⟨b,o+2*x.val*32,none⟩) (ln r.length x.val) (ln r.length x.val)]) (Kp:=cP wr.heap.size t.heap.size) rfl (by decide) (gf:=150) (lb:=#[.pointer (some ⟨wr.heap.size+1,0,none⟩),.pointer (some ⟨wr.heap.size+1+1,0,none⟩)]) rfl trivial (enters_of Tryz.func150 (by kernel_rfl) rfl)
     (nA 8 (wr.heap.size+1) (wr.heap.size+1+1) wr.heap.size b o r.length m S (by decide) (by omega) (by omega) cf a2 cd t (by omega) (by omega) (by omega) (by omega) b3 b2)
     (fun h k=>cP.trans h k) (cP.putObj (CU _)) (CT _ _) (fun _=>rfl)
     (fun pre W=>ub 54 wr.heap.size t.heap.size (fun x:Fin m=>rm r x.val) pre W/\(cP wr.heap.size t.heap.size t W/\Below wr.heap.size t W))
     (fun _ _ _=>False)
    case hI=>exact OwnFrom.and (ub.from (by omega)) (OwnFrom.and (jE (CU _) (CU _)) (ownFrom_below (by omega) (by omega)))
    case hIx=>exact fun _ _ _ _ _ hs _ _=>hs
    case h0=>exact⟨⟨none,0,b1,b6,ES _ _ _ _⟩,cP.refl _ _ _,CT _ _⟩
    case hassign=>
     intro lr x W K hK
     gi_wp2
     exact hK
    case hbody=>
     rintro lr pre x W ⟨⟨pu,G,H,ag,U⟩,aC,L⟩ hlen;have T:wr.heap.size < W.heap.size:=CW _ _ H;have hx:x.val < m:=x.isLt;have Q:W.rangeAt b o (aO r):=aL aE (aK.trans L);have bu:eZ W:=Hg.ext ((I.trans X).trans (show au wr W from aK.trans L));have be:=aa U;have an:=aa aC;have a5:=aa L;have bP:=aa bu;have ap:Hid (∀g,au W g->(EX 54 (.pointer (some ⟨b,o+2*x.val*32,none⟩))).run CO g=.ok (.agg (aj .u8 (r.getD (2*x.val) [])).toArray) g):=aa fun g h1=>aZ (aL (dI Q z (by omega)) h1) DF (by kernel_rfl) (z.get (by omega)).1
     obtain⟨ad,aP⟩:=z.get (i:=2*x.val) (by omega);clear U aC L bu;by_cases N:2*x.val+2<=r.length
     ·have aY:ln r.length x.val=2:=if_pos N;have a7:Hid (∀g,au W g->(EX 54 (.pointer (some ⟨b,o+2*x.val*32+32,none⟩))).run CO g=.ok (.agg (aj .u8 (r.getD (2*x.val+1) [])).toArray) g):=aa fun g h1=>by have h:=dI Q z (i:=2*x.val+1) (by omega);rw[show o+(2*x.val+1)*32=o+2*x.val*32+32 from by omega]at h;exact aZ (aL h h1) DF (by kernel_rfl) (z.get (by omega)).1
      obtain⟨bn,bl⟩:=z.get (i:=2*x.val+1) (by omega);have HN:Hid (∀g,au W g->CZ CO 131 #[.agg (aj .u8 (r.getD (2*x.val) [])).toArray,.agg (aj .u8 (r.getD (2*x.val+1) [])).toArray] g fun e w'=>e=.returned (.agg (aj .u8 (rm r x.val)).toArray)/\au g w'):=aa fun g h1=>by rw[show rm r x.val=ej (r.getD (2*x.val) []) (r.getD (2*x.val+1) [])from if_pos N];exact uN _ _ g ad bn aP bl (bP.ext h1)
      have E:Hid ((rm r x.val).length=32):=aa (by rw[show rm r x.val=ej (r.getD (2*x.val) []) (r.getD (2*x.val+1) [])from if_pos N];exact jg _ _);obtain⟨d0,af⟩:=exq (r.getD (2*x.val) []);obtain⟨d1,bp⟩:=exq (r.getD (2*x.val+1) []);obtain⟨dn,aR⟩:=exq (rm r x.val);rw[<-af]at ap HN;rw[<-bp]at a7 HN;rw[<-aR]at HN E;have bO:=aa aR;clear ad aP bn bl af bp aR Q N;simp only[aY]
      gi_wp2
      apply im 9 [21,22,23,24,25,26,27,28,29] [ar _,ar _,ar _,ar _,ar _,ar _,ar _,ar _,(fun v w'=>aX w' v 1 (aO [dn]))] (by kernel_rfl) (by kernel_rfl) (by kernel_rfl) (by kernel_rfl) (by kernel_rfl);case hsteps=>
       refine⟨?_,?_,?_,?_,?_,?_,?_,?_,?_,trivial⟩;all_goals
        intro ev g s M y;have e4:=M 4 (by decide);have e5:=M 5 (by decide);clear M;simp only[sB]at e4 e5;simp only[sD]at y;have hc:=(ay s).1;have b4:=(hc _ 0 T).trans H;have aU:=ap g s;have b7:=a7 g s;simp only[dw,C8,if_true];first
        | ((with_reducible refine bX ?_ aU ?_);exact y;exact rfl) | ((with_reducible refine bX ?_ b7 ?_);exact y;exact rfl) | exact eW kb (by decide) y (by simp[E.out]) (fI g 54 dn E)
        | (go_simp;first | (go_at_call 131;(with_reducible refine(HN.out _ s).mono ?_);rintro e w2 ⟨rfl,aw⟩;exact⟨_,rfl,aw,rfl⟩) | exact⟨CT _ _,rfl⟩)
      case hmono=>exact⟨ah _,ah _,ah _,ah _,ah _,ah _,ah _,ah _,(fun _ _ _ h k=>aX.ext h k),trivial⟩
      case hend=>
       intro u g s hend;simp only[sE]at hend;simp only[sF,hend];have C:=hend.2;have J:=aa (aN be s);have ci:=an.1;have cj:W.heap.size<=g.heap.size:=s.size;have cb:pre.length<=1048576:=by omega
       refine mC kb J C rfl rfl (by rw[cM,ints_length,E.out]) (cY _) (by unfold Dc;omega) (by omega) (by omega) ?_;intro p6 c6 w6 O A;have ai:some wr.heap.size≠(EG pu pre.length G).ownBlock:=fun e=>by have:=(J.lt _ e.symm).1;omega
       have b0:w6.cell? ⟨wr.heap.size,0,none⟩=some (.slice pu pre.length G):=(A.cell_far ⟨wr.heap.size,0,none⟩ (show wr.heap.size < _ by omega) ai).trans (((ay s).1 _ 0 T).trans H);have b5:w6.frozen? ⟨wr.heap.size,0,none⟩=false:=(A.frozen_far ⟨wr.heap.size,0,none⟩ (show wr.heap.size < _ by omega) ai).trans (((ay s).2 _ 0 T).trans ag);rw[bO.out]at O;have a1:=aa (rl (f:=fun x:Fin m=>rm r x.val) (x:=x) (by omega) an a5 s A J O H ag);clear O A hend C
       gi_wp2
       exact a1
     ·have aY:ln r.length x.val=1:=if_neg N;have bf:Hid (rm r x.val=r.getD (2*x.val) []):=aa (if_neg N);obtain⟨d0,af⟩:=exq (r.getD (2*x.val) []);rw[<-af]at ap bf ad;have E:=aa ad;clear ad aP af Q N;simp only[aY]
      gi_wp2
      apply im 5 [31,32,33,34,35] [ar _,ar _,ar _,ar _,(fun v w'=>aX w' v 1 (aO [d0]))] (by kernel_rfl) (by kernel_rfl) (by kernel_rfl) (by kernel_rfl) (by kernel_rfl);case hsteps=>
       refine⟨?_,?_,?_,?_,?_,trivial⟩;all_goals
        intro ev g s M y;have e4:=M 4 (by decide);have e5:=M 5 (by decide);clear M;simp only[sB]at e4 e5;simp only[sD]at y;have hc:=(ay s).1;have b4:=(hc _ 0 T).trans H;have aU:=ap g s;simp only[dw,C8,if_true];first
        | ((with_reducible refine bX ?_ aU ?_);exact y;exact rfl) | exact eW kb (by decide) y (by simp[E.out]) (fI g 54 d0 E)
        | (go_simp;first | exact⟨CT _ _,rfl⟩)
      case hmono=>exact⟨ah _,ah _,ah _,ah _,(fun _ _ _ h k=>aX.ext h k),trivial⟩
      case hend=>
       intro u g s hend;simp only[sE]at hend;simp only[sF,hend];have C:=hend.2;have J:=aa (aN be s);have ci:=an.1;have cj:W.heap.size<=g.heap.size:=s.size;have cb:pre.length<=1048576:=by omega
       refine mC kb J C rfl rfl (by rw[cM,ints_length,E.out]) (cY _) (by unfold Dc;omega) (by omega) (by omega) ?_;intro p6 c6 w6 O A;have ai:some wr.heap.size≠(EG pu pre.length G).ownBlock:=fun e=>by have:=(J.lt _ e.symm).1;omega
       have b0:w6.cell? ⟨wr.heap.size,0,none⟩=some (.slice pu pre.length G):=(A.cell_far ⟨wr.heap.size,0,none⟩ (show wr.heap.size < _ by omega) ai).trans (((ay s).1 _ 0 T).trans H);have b5:w6.frozen? ⟨wr.heap.size,0,none⟩=false:=(A.frozen_far ⟨wr.heap.size,0,none⟩ (show wr.heap.size < _ by omega) ai).trans (((ay s).2 _ 0 T).trans ag);rw[<-bf.out]at O;have a1:=aa (rl (f:=fun x:Fin m=>rm r x.val) (x:=x) (by omega) an a5 s A J O H ag);clear O A hend C
       gi_wp2
       exact a1
    case hdone=>
     rintro D ys W hD rfl ⟨⟨pu,G,H,ag,U⟩,aC,L⟩ hK;have bV:D < W.heap.size:=(Array.getElem?_eq_some_iff.1 hK).1;have Q:au wr W:=aK.trans L;rw[yU r m hm]at U;have a3:=gh ej r;have bs:(E9 m).length=m:=by simp
     have hN:(Bl.up ej r).length=(E9 m).length:=by rw[a3,bs];exact hm.symm
     have bQ:Hid (0 < (Bl.up ej r).length/\(Bl.up ej r).length<=1048576/\dd (Bl.up ej r)/\bZ (Bl.up ej r)=bZ ds/\et W (.slice pu (Bl.up ej r).length G) (Bl.up ej r)/\ft (w.heap.size+1) W W.heap.size ({target:=.collected D,args:=#[]} :: defs)/\au Z W/\(Bl.up ej r).length=(r.length+1) / 2):=aa
      ⟨by omega,by omega,ud r z,by rw[ue r a2,bd.out],by show aX W (.slice pu (Bl.up ej r).length G) (Bl.up ej r).length _;rw[hN];exact aX.AS U,
       ⟨D,rfl,by omega,bV,hK,ft.mono _ (by omega) (ft.BU _ _ (fun k _ hk _=>Q.block k hk) HM)⟩,X.trans Q,a3⟩
     have b8:(r.length+1) / 2 < r.length:=by omega
     clear U hN a3 bs aC L hK
     go_wp2_with fail
     refine⟨⟨Bl.up ej r,(r.length+1) / 2,pu,G,_,_,_,_,_,_,_,_,bQ,rfl⟩,?_⟩;exact b8
    case hstop=>rintro D c pre W _ _ h _;exact h.elim
end
theorem kI:∀(n:Nat) (ds:List (List Int)) (v:CQ) (w:CP),ds.length=n->n<=1048576->dd ds->et w v ds->dT w->
  CZ CO 49 #[v] w fun e w'=>e=.returned (.agg (aj .u8 (bZ ds)).toArray)/\au w w':=by
 intro n;induction n using Nat.strongRecOn with
 | _ n ih=>
  intro ds v w B an G F S;have O:=aa ih;have j:=aa G;have D:=aa S;have i:=aa (dk w 32 .u8 52 zA rfl);have g:=aa (ae w (.cells zA 52));clear ih G S;by_cases h0:n=0
  ·subst h0;obtain rfl:=DI.1 B;obtain⟨p,c,rfl,_,_⟩:=F.form;clear F B an;go_enter Tryz.func49,Tryz.ntmps49
   go_wp2_with fail
   obtain⟨m,r⟩:=exq (w.alloc (.cells zA 52));rw[<-r]at i g⊢;clear r;refine(kg _ [] m (Bu.nil _ _) (D.ext g) bI.nil (by decide)).mono ?_;rintro e a ⟨rfl,Q⟩;have s:=aa Q;have h:sha []=bZ []:=rfl;rw[h];obtain⟨sh,h⟩:=exq (bZ []);have K:Hid (sh.length=32):=aa (by rw[h];rfl);have J:=aa h;rw[<-h];clear Q h;have q:=aa (i.below s (CW _ _ (i.1 0 (by decide))));have x:=aa (bo (P:=CO) (k:=.u8) (ty:=52) (l:=sh) q.there (by kernel_rfl) K)
   go_wp2_with (((with_reducible refine bG ?_ ?_ x.out ?_);rfl;rfl))
   have z:=Dr _ (w.heap.size) 0 (aj .u8 sh) (by rw[ints_length,K.out];exact q.there);have A:=Ep (P:=CO) _ (w.heap.size) 0 52 (aj .u8 sh) _ z EA rfl (by rw[ints_length,K.out];kernel_rfl);refine De (v:=.agg (aj .u8 sh).toArray) (aB rfl rfl A) rfl ⟨by rw[J.out],aA _ _ _ _ (g.trans s) (CU _)⟩
  ·obtain⟨b,o,c,rfl,ak,al,aw,W⟩:=et.pos F j (by omega);have I:=aa W;clear F W;rw[B]at ak⊢;have f:=aa B;clear B;by_cases h1:n=1
   ·subst h1;obtain⟨d,rfl⟩:∃d,ds=[d]:=by
     match ds,f with
     | [d],_=>exact⟨d,rfl⟩
    obtain⟨R,am⟩:=j d (by simp);have C:=aa R;have ag:Hid (w.rangeAt b o (aj .u8 d)):=aa (by have:=I.out;rw[cM]at this;exact this);clear R am;go_enter Tryz.func49,Tryz.ntmps49
    go_wp2_with (with_reducible refine aV (ty:=52) ?_)
    refine ax ?_;obtain⟨m,r⟩:=exq (w.alloc (.cells zA 52));rw[<-r]at i g⊢;clear r;refine ao rfl (aZ (aL ag g) EA (by kernel_rfl) C) ?_;have s:=aa (CT m.heap.size m);have H:Hid (bZ [d]=d):=aa (jC _ _ d);have q:=aa (i.below s (CW _ _ (i.1 0 (by decide))));have x:=aa (bo (P:=CO) (k:=.u8) (ty:=52) (l:=d) q.there (by kernel_rfl) C)
    go_wp2_with (((with_reducible refine bG ?_ ?_ x.out ?_);rfl;rfl))
    have z:=Dr _ (w.heap.size) 0 (aj .u8 d) (by rw[ints_length,C.out];exact q.there);have A:=Ep (P:=CO) _ (w.heap.size) 0 52 (aj .u8 d) _ z EA rfl (by rw[ints_length,C.out];kernel_rfl);refine De (v:=.agg (aj .u8 d).toArray) (aB rfl rfl A) rfl ⟨by rw[H.out],aA _ _ _ _ g (CU _)⟩
   ·obtain⟨s1,s2,s3⟩:=bN n (by omega) (by omega);have N:bZ ds=ej (bZ (ds.take (sp n))) (bZ (ds.drop (sp n))):=by unfold bZ;rw[jD _ _ ds (by rw[f.out];omega) (by rw[f.out];omega),f.out]
    obtain⟨k,M⟩:=exq (sp n);rw[<-M]at s1 s2 s3 N;have Hk:=aa M;have H:=aa N;have aF:(k:Int) < (n:Int):=by omega
    have aK:(n:Int)<=(c:Int):=by omega
    have aI:((n:Int)==0)=false:=by simp;omega
    have aJ:((n:Int)==1)=false:=by simp;omega
    clear M N;unfold Dc at al;go_enter Tryz.func49,Tryz.ntmps49
    go_wp2_with fail
    obtain⟨m,r⟩:=exq (w.alloc (.cells zA 52));rw[<-r]at i g⊢;clear r;refine(jG _ m (by omega) (by omega)).mono ?_;rintro e a ⟨rfl,rfl⟩;rw[Int.toNat_natCast,<-Hk.out];have HL:Hid (∀a,au m a->CZ CO 49 #[.slice (some ⟨b,o,none⟩) k c] a fun e w'=>e=.returned (.agg (aj .u8 (bZ (ds.take k))).toArray)/\au a w'):=aa fun a h1=>by
     refine O k (by omega) (ds.take k) _ a (by rw[Da,f.out];omega) (by omega) (j.take k) ?_ (D.ext (g.trans h1));refine .inr ⟨b,o,c,?_,?_,by unfold Dc;omega,?_⟩
     ·rw[Da,f.out,Nat.min_eq_left (by omega)]
     ·rw[Da,f.out];omega
     ·have:=gG (aL I (g.trans h1)) j 0 k;simpa using this
    have ad:Hid (∀a,au m a->CZ CO 49 #[.slice (some ⟨b,o+k*32,none⟩) (n - k) (c - k)] a fun e w'=>e=.returned (.agg (aj .u8 (bZ (ds.drop k))).toArray)/\au a w'):=aa fun a h1=>by refine O (n - k) (by omega) (ds.drop k) _ a (by rw[C6,f.out]) (by omega) (j.drop k) ?_ (D.ext (g.trans h1));refine .inr ⟨b,o+k*32,c - k,by rw[C6,f.out],by rw[C6,f.out];omega,by unfold Dc;omega,?_⟩;have:=gG (aL I (g.trans h1)) j k (ds.drop k).length;rwa[Fl]at this
    obtain⟨U,T⟩:=dP k (ds.take k) (by rw[Da,f.out];omega) (j.take k) (by rw[Da,f.out];omega);obtain⟨Y,X⟩:=dP (n - k) (ds.drop k) (by rw[C6,f.out]) (j.drop k) (by rw[C6,f.out];omega);have HN:Hid (∀a,au m a->CZ CO 86 #[.agg (aj .u8 (bZ (ds.take k))).toArray,.agg (aj .u8 (bZ (ds.drop k))).toArray] a fun e w'=>e=.returned (.agg (aj .u8 (bZ ds)).toArray)/\au a w'):=aa fun a h1=>by rw[H.out];exact oy _ _ a U Y T X (D.ext (g.trans h1))
    obtain⟨V,ap⟩:=dP n ds f j (by rw[f.out];omega);have E:=aa V;clear U T Y X V ap;have aD:¬(k=c):=by omega
    have aC:(0:Int)<=(k:Int):=by omega
    have aH:(k:Int)<=(n:Int):=by omega
    have aE:(k:Int)<=(c:Int):=by omega
    go_wp2_with fail
    apply aG 9 [17,18,19,20,21,22,23,24,25] [ar _,ar _,ar _,ar _,ar _,ar _,ar (.slice (some ⟨b,o+k*32,none⟩) (n - k) (c - k)),ar _,ar _] (by kernel_rfl) (by kernel_rfl) (by kernel_rfl) (by kernel_rfl);case hsteps=>
     refine⟨?_,?_,?_,?_,?_,?_,?_,?_,?_,trivial⟩;all_goals
      intro ev a t L G;have e0:=L 0 (by decide);have e3:=L 3 (by decide);clear L;simp only[sB]at e0 e3;simp only[sD]at G;have hc:=(ay t).1;simp only[dw,C8,if_true];go_simp;first | (go_at_call 49;(with_reducible refine(HL.out _ t).mono ?_);rintro e Z ⟨rfl,y⟩;exact⟨_,rfl,y,rfl⟩) | (go_at_call 49;(with_reducible refine(ad.out _ t).mono ?_);rintro e Z ⟨rfl,y⟩;exact⟨_,rfl,y,rfl⟩) | (go_at_call 86;(with_reducible refine(HN.out _ t).mono ?_);rintro e Z ⟨rfl,y⟩;exact⟨_,rfl,y,rfl⟩) | exact⟨CT _ _,by rw[if_neg (by omega)];rfl⟩ | exact⟨CT _ _,rfl⟩
    case hmono=>exact mL
    case hend=>
     intro u a t hend;simp only[sE]at hend;simp only[sF,hend];have s:=aa t;obtain⟨sh,h⟩:=exq (bZ ds);rw[<-h]at E⊢;have J:=aa h;clear t hend h;have q:=aa (i.below s (CW _ _ (i.1 0 (by decide))));have x:=aa (bo (P:=CO) (k:=.u8) (ty:=52) (l:=sh) q.there (by kernel_rfl) E)
     go_wp2_with (((with_reducible refine bG ?_ ?_ x.out ?_);rfl;rfl))
     have z:=Dr _ (w.heap.size) 0 (aj .u8 sh) (by rw[ints_length,E.out];exact q.there);have A:=Ep (P:=CO) _ (w.heap.size) 0 52 (aj .u8 sh) _ z EA rfl (by rw[ints_length,E.out];kernel_rfl);refine De (v:=.agg (aj .u8 sh).toArray) (aB rfl rfl A) rfl ⟨by rw[J.out],aA _ _ _ _ (g.trans s) (CU _)⟩
end Go.Proofs.Bl
