/- What the calls of a server and of the document's leave of both. -/
import Derived.Test.YtglenbikdahgjaaGreatDoorPs18
import Derived.Test.YtglenbikdahgjaaGreatDoorPs23
set_option maxRecDepth 100000
set_option maxHeartbeats 16000000
open Go renaming Calls->CZ,Program->Ds,TypeId->Dn,Value->CQ,World->CP,maxLen->Dc,run_loadAt_mid->DS
open Go.DataW renaming trod->Fk,trod_int->Fg
open Go.RowKit.Below renaming refl->CT,setCell->E0,trans->DC
open Go.World renaming block_lt_of_cell?->CW,cell?_of_block->Dp
open List renaming getD_eq_getElem?_getD->CR,getElem?_cons_succ->DU,getElem?_eq_getElem->CV,getElem?_eq_some_iff->Dt,getElem?_map->DE,getElem_of_mem->Ev,length_map->CY,length_take->Da,mem_append->Dz,mem_cons->DA,take_append_drop->D5,take_of_length_le->CX
open Nat renaming le_refl->CU,lt_succ_iff_lt_or_eq->ED,zero_le->C9
namespace Go.Proofs.Bl
open Go Go.RowKit Go.Proofs
open Go.Proofs.Tryz renaming prog->CO,underlying26->C5,underlying27->Ef,underlying3->DP,underlying43->Db,underlying5->Ex,underlying54->DF,underlying57->Er
section
variable {B0:Nat} {H:Nat->Prop} {b d:Nat} {s t:bL} {w:CP}
theorem tv (h:Pl B0 H b d s t w) (n at':Int) (vb:CQ) (x:List Int) (hx:Bu w .u8 vb x) (a:bI x):
  CZ CO 24 #[.pointer (some ⟨b,0,none⟩),.int .i64 n,.int .i64 at',vb] w fun e w'=>e=.returned (.bool (jq s n at' x))/\Pl B0 H b d (gZ s n at' x) t w'/\Kh B0 H w w':=by
 obtain⟨N,Q,F,h⟩:=h;refine(qH b N Q s n at' vb x w h.sv h.qn (fun i q=>(h.nl i q).2) hx a).mono ?_;rintro e w' ⟨rfl,c⟩;exact⟨rfl,h.go c (h.so.Cs n at' a)⟩
theorem tz (h:Pl B0 H b d s t w) (n at':Int) (vb:CQ) (x:List Int) (hx:Bu w .u8 vb x) (a:bI x):
  CZ CO 25 #[.pointer (some ⟨d,0,none⟩),.int .i64 n,.int .i64 at',vb] w fun e w'=>e=.returned (.bool (jq t n at' x))/\Pl B0 H b d s (gZ t n at' x) w'/\Kh B0 H w w':=by
 obtain⟨N,Q,F,h⟩:=h;refine(qK B0 F d t n at' vb x w h.dv h.ow h.to hx a).mono ?_;rintro e w' c;exact h.CC a c
theorem xg {c:CP} (g:c.heap.size<=B0) (j:au c w) (h:Pl B0 H b d s t w) (l:BC) (vp vs vb:CQ) (L:List Sv) (f:iE c (cL l vp vs vb) l vp vs vb L) (S:List Nat) (a:Nat->Addr) (o:eZ w) (he:ix S a w) (s1:1∈S) (x:3∈S) (y:4∈S) (z:7∈S) (A:8∈S):
  CZ CO 10 #[.pointer (some ⟨b,0,none⟩),.agg (cL l vp vs vb).toArray] w fun e w'=>(∃vp vs vb L,e=.returned (.tuple #[.agg (cL (bC s l).1 vp vs vb).toArray,.bool (bC s l).2])/\cn (fun k=>w.heap.size<=k) w' (bC s l).1 vp vs vb L)/\Pl B0 H b d (cm s l) t w'/\Kh B0 H w w':=by
 obtain⟨N,Q,F,h⟩:=h;refine(oX b N Q s _ l w S a h.sv h.so h.qn (fun i q=>(h.nl i q).2) (f.CF j fun i q=>Nat.le_trans g (h.nl i q).1) o he s1 x y z A).mono ?_;rintro e w' ⟨p,r,u,v,rfl,m,n⟩;exact⟨⟨p,r,u,v,rfl,m⟩,h.go n (h.so.CE f.BJ)⟩
theorem xh {a:CP} (h:Pl B0 H b d s t a) (g:au a w) (l:BC) (vp vs vb:CQ) (L:List Sv) {B:Nat} (c:B<=B0) (j:cn (fun k=>k < B\/a.heap.size<=k) w l vp vs vb L) (m:∀x∈l.blocks,bI x) (o:t.ids.length<=1048576) (n:dT w):
  CZ CO 11 #[.pointer (some ⟨d,0,none⟩),.agg (cL l vp vs vb).toArray] w fun e w'=>(∃vp vs vb L,e=.returned (.tuple #[.agg (cL (bC t l).1 vp vs vb).toArray,.bool (bC t l).2])/\cn (fun k=>¬H k) w' (bC t l).1 vp vs vb L)/\Pl B0 H b d s (cm t l) w'/\Kq (fun i=>i=d) w w':=by
 obtain⟨N,Q,F,h⟩:=h;have h2:=h.wide g;refine(vN _ d t l vp vs vb L w h2.dv h2.to (j.kept fun i q p=>⟨?_,rfl⟩) o n).mono ?_
 ·rcases q with q | q
  ·exact .inl (h.bf i (Nat.lt_of_lt_of_le q c))
  ·exact .inr ⟨q,p⟩
 ·rintro e w' f;exact h2.CB m f
theorem xi (h:Pl B0 H b d s t w):
  CZ CO 26 #[.pointer (some ⟨b,0,none⟩)] w fun e w'=>∃c,e=.returned (.pointer (some ⟨c,0,none⟩))/\Pl B0 (fun i=>H i\/(w.heap.size<=i/\i < w'.heap.size)) b d s t w'/\qE (fun i=>w.heap.size<=i/\i < w'.heap.size) c s w'/\au w w':=by
 obtain⟨N,Q,F,h⟩:=h;refine(sY b N Q s w h.sv h.so).mono ?_;rintro e w' ⟨c,Q',rfl,h1,h2,f,g,a⟩;exact⟨c,rfl,⟨_,_,_,h.hole a⟩,qE.new h1 h2 f g,a⟩
theorem xj {G:Nat->Prop} {c:Nat} (h:qE G c s w) (o:cH s) (v:CQ) (b:List Int) (S:List Nat) (a:Nat->Addr) (g:Bu w .u8 v b) (l:bI b) (j:b.length<=9000) (m:eZ w) (he:∀w',Kq G w w'->ix S a w') (s1:1∈S) (s2:2∈S) (u:3∈S) (x:4∈S) (y:7∈S) (z:8∈S):
  CZ CO 28 #[.pointer (some ⟨c,0,none⟩),v] w fun e w'=>yC G (kR s b) w e w':=by
 obtain⟨N,Q,h1,h2,f,d⟩:=h.at';refine(tl c N Q s v b w S a h1 o h2 f g l j m (fun w' k=>he w' (k.mono fun i _ q=>d i q)) s1 s2 u x y z).mono ?_;rintro e w' ⟨p,n,c,rfl,r,t⟩;exact⟨p,n,c,rfl,r,t.mono fun i _ q=>d i q⟩
def zG (s:bL) (x:Int) (w:CP) (e:Ending) (w':CP):Prop:=∃p n c,e=.returned (.tuple #[.slice p n c,.bool (bn s x).isSome])/\aU w' (.slice p n c) ((bn s x).getD [])/\au w w'
theorem tC (h:Pl B0 H b d s t w) (x:Int):
  CZ CO 16 #[.pointer (some ⟨b,0,none⟩),.int .i64 x] w fun e w'=>zG s x w e w':=by
 obtain⟨N,Q,F,h⟩:=h;unfold zG;cases hg:bn s x with
 | none=>refine(nJ b N Q s x w h.sv hg).mono ?_;rintro e w' ⟨rfl,a⟩;exact⟨none,0,0,rfl,aU.nil _,a⟩
 | some all=>refine(nK b N Q s x all w h.sv h.so hg).mono ?_;rintro e w' ⟨g0,c,rfl,_,i,f,g,a⟩;exact⟨_,_,_,rfl,di.BF (F:=fun _=>True) ⟨c,aY.By i.BD fun _ _ _=>trivial,fun y hy=>bQ _ _ _ _ _ (f y hy) fun b j k=>⟨trivial,rfl⟩,g⟩,a⟩
theorem l6 (h:Pl B0 H b d s t w) (x:Int):
  CZ CO 30 #[.pointer (some ⟨d,0,none⟩),.int .i64 x] w fun e w'=>zG t x w e w':=by
 obtain⟨N,Q,F,h⟩:=h;refine(oI F d t x w h.dv).mono ?_;rintro e w' ⟨⟨v,st,rfl,a,i⟩,g⟩;obtain⟨p,c,f,_,_⟩:=a.BF.form;subst f;exact⟨_,_,_,rfl,by rw[i];exact a.BF,g⟩
theorem rE (h:Pl B0 H b d s t w) (i:mn s):
  CZ CO 32 #[.pointer (some ⟨b,0,none⟩)] w fun e w'=>∃p c,e=.returned (.slice p (dA s).length c)/\Bu w' .i64 (.slice p (dA s).length c) (dA s)/\au w w':=by
 obtain⟨N,Q,F,h⟩:=h;refine(vG b N Q s w h.sv h.so i).mono ?_;rintro e w' ⟨v,rfl,a,g⟩;obtain⟨p,c,f,_,_⟩:=a.form;subst f;exact⟨_,_,rfl,a,g⟩
end
theorem vO {s:bL} (h:mn s) (n at':Int) (x:List Int):mn (gZ s n at' x):=by
 unfold gZ;split
 ·intro p hp;have h1:p.1∈(iT s n at'.toNat x).AT.map (·.1):=List.mem_map_of_mem (f:=fun x:Int × List (List Int)=>x.1) hp;rw[oL]at h1;obtain⟨q,a,e⟩:=List.mem_map.1 h1;rw[<-e];exact h q a
 ·exact h
theorem xk (s:bL) (n at':Int) (x:List Int):(gZ s n at' x).ids=s.ids:=by
 unfold gZ;split<;>rfl
theorem vP {s:bL} (h:mn s) (l:BC):mn (cm s l):=by
 unfold cm;split
 ·next hc=>
  have h1:=(fg hc.1).2.1;unfold br at h1;simp only[Bool.and_eq_true]at h1;have h2:=h1.1.2;have a:0<=l.obj/\l.obj<=1099511627776:=by simpa[wi] using h2
  intro p hp;unfold fF at hp;split at hp
  ·exact h p hp
  ·split at hp
   ·exact h p hp
   ·rcases Dz.1 hp with hp | hp
    ·exact h p hp
    ·obtain rfl:p=(l.obj,l.blocks):=by simpa using hp
     exact a
 ·exact h
def yt:List (List UInt8):=[[],[112,117,116],[97,99,107],[97,115,107],[97,110,115,119,101,114],[102,101,116,99,104],[103,105,118,101],[114,101,102,117,115,101]]
def Af (k:Int):ByteArray:=if 1<=k/\k<=7 then⟨(yt.getD k.toNat []).toArray⟩else⟨#[]⟩
def vQ:List (List UInt8):=[[110,111,110,101],[98,108,111,99,107],[112,97,116,104],[115,119,97,112],[99,117,116],[112,108,97,99,101],[114,101,102,117,115,101],[105,100],[111,98,106,101,99,116],[115,105,108,101,110,99,101]]
def Ag (k:Int):ByteArray:=if 0<=k/\k<=9 then⟨(vQ.getD k.toNat []).toArray⟩else⟨#[]⟩
structure Ah (w:CP):Prop where
 words:∀i z,vQ[i]? =some z->w.cell? ⟨1,i,none⟩=some (.string ⟨z.toArray⟩)
section
open Go.ChangeAt Go.ChangeShapes Go.Deep Go.WideShapes
section
variable {H:Type} {enc:Dn × CQ->H} {P:Ds} {w:CP} {n:Nat} {t:Dn} {cs:List CQ} {y:DataW H × List MemPlace}
theorem xl {e:Dn} (k:P.underlying t=some (.slice e)) (he:P.underlying e=some (.int .i64)) (d:P.cellsOf e=1) (h:Fk enc P w 0 (fun _=>true) true n t cs=some y):∃v l,cs=[v]/\Bu w .i64 v l:=by
 rcases open_ints k he d h with ⟨b,_⟩ | ⟨a,len,cap,m,b,_,j,hm,f,_,i,hw⟩
 ·exact⟨_,[],b,Bu.nil _ _⟩
 ·simp only[if_true]at f;exact⟨_,m.take len,b,pP j hm f (fun q=>by cases q) (fun o g c d=>by cases g;exact i c (by omega))⟩
theorem tD {e q:Dn} (H:P.underlying t=some (.slice e)) (he:P.underlying e=some (.slice q)) (G:P.underlying q=some (.int .u8)) (ce:P.cellsOf e=1) (A:P.cellsOf q=1) (h:Fk enc P w 0 (fun _=>true) true n t cs=some y):∃v ps,cs=[v]/\aU w v ps/\∀b∈ps,bI b:=by
 obtain⟨v,m,g,I,E⟩:=jJ H ce (by decide) h;rcases I with ⟨p,rfl,rfl⟩ | ⟨b,o,c,rfl,u,z⟩
 ·exact⟨_,[],g,⟨[],.inl ⟨⟨p,rfl⟩,rfl,rfl⟩,rfl,fun i a=>by cases a⟩,fun b f=>by cases f⟩
 ·by_cases h0:m=0
  ·subst h0;exact⟨_,[],g,⟨[],.inr ⟨b,o,c,rfl,u,z,fun j v d=>by simp at d⟩,rfl,fun i a=>by cases a⟩,fun b f=>by cases f⟩
  ·obtain⟨L,s,r⟩:=iO ((.slice none 0 0,[]):CQ × List Int) (fun i x=>w.rangeAt b (o+i*1) [x.1]/\Bu w .u8 x.1 x.2/\bI x.2) m (fun i a=>by
    obtain⟨cs',k,M,_,h2,B⟩:=E b o ⟨c,rfl,by omega⟩ i a;obtain⟨v,l,rfl,C,D⟩:=lB he G A B
    exact⟨(v,l),h2,C,D⟩)
   have J:∀i,i < L.length->L.getD i (.slice none 0 0,[])=L[i]?.getD (.slice none 0 0,[]):=fun i _=>by rw[CR]
   refine⟨_,L.map (·.2),g,⟨L.map (·.1),.inr ⟨b,o,c,by rw[CY,s],by rw[CY,s];exact u,z,fun j v d=> ?_⟩,by simp,fun i a=> ?_⟩,fun l F=> ?_⟩
   ·rw[DE]at d;cases hx:L[j]? with
    | none=>rw[hx]at d;cases d
    | some x=>rw[hx]at d;have K:=(Dt.1 hx).1;have h1:=(r j (by omega)).1;rw[CR,hx,Nat.mul_one]at h1;have h2:=h1 0 x.1 rfl;rw[Nat.add_zero]at h2;rw[h2];exact d
   ·rw[CY]at a;have h1:=(r i (by omega)).2.1;rw[CR,CV a]at h1;rw[CR,CR,DE,DE,CV a];exact h1
   ·obtain⟨x,hx,rfl⟩:=List.mem_map.1 F;obtain⟨i,a,rfl⟩:=Ev hx;have h1:=(r i (by omega)).2.2;rw[CR,CV a]at h1;exact h1
theorem eU {j:Nat} {x:CQ} (h:(cs.drop j).take 1=[x]):cs[j]? =some x:=by
 have:=congrArg (fun l=>l[0]?) h;simpa[List.getElem?_take,List.getElem?_drop] using this
theorem zc {a b c:CQ} (h:cs.length=3) (h0:cs[0]? =some a) (h1:cs[1]? =some b) (h2:cs[2]? =some c):cs=[a,b,c]:=by
 match cs,h with
 | [x,y,z],_=>simp at h0 h1 h2;rw[h0,h1,h2]
theorem zd {a b c d e f g i j:CQ} (h:cs.length=9) (h0:cs[0]? =some a) (h1:cs[1]? =some b) (h2:cs[2]? =some c) (k:cs[3]? =some d) (l:cs[4]? =some e) (m:cs[5]? =some f) (n:cs[6]? =some g) (o:cs[7]? =some i) (p:cs[8]? =some j):cs=[a,b,c,d,e,f,g,i,j]:=by
 match cs,h with
 | [x0,x1,x2,x3,x4,x5,x6,x7,x8],_=>simp at h0 h1 h2 k l m n o p;rw[h0,h1,h2,k,l,m,n,o,p]
theorem vR {s l g q r u:Dn} {f0 f1 f2:Field} (O:P.underlying t=some (.slice s)) (ht:P.underlying s=some (.struct #[f0,f1,f2])) (J:f0.type=l) (K:f1.type=g) (M:f2.type=q) (o0:f0.offset=0) (o1:f1.offset=1) (o2:f2.offset=2)
  (V:P.underlying l=some (.int .i64)) (Q:P.underlying g=some (.slice u)) (hp:P.underlying q=some (.slice r)) (Z:P.underlying r=some (.array 32 u)) (hu:P.underlying u=some (.int .u8))
  (A:P.cellsOf u=1) (H:P.cellsOf r=32) (ci:P.cellsOf l=1) (F:P.cellsOf g=1) (G:P.cellsOf q=1) (I:P.cellsOf s=3) (h:Fk enc P w 0 (fun _=>true) true n t cs=some y):∃v L,cs=[v]/\ng w v L:=by
 obtain⟨v,m,d,hv,U⟩:=jJ O I (by decide) h;rcases hv with ⟨p,rfl,rfl⟩ | ⟨b,o,c,rfl,C,D⟩
 ·exact⟨_,[],d,.inl ⟨⟨p,rfl⟩,rfl,rfl⟩,fun x hx=>by cases hx⟩
 ·by_cases h0:m=0
  ·subst h0;exact⟨_,[],d,.inr ⟨b,o,c,rfl,C,D,fun j v W=>by simp[aD]at W⟩,fun x hx=>by cases hx⟩
  ·obtain⟨L,B,E⟩:=iO s0 (fun i x=>w.rangeAt b (o+i*3) (cS x)/\rU w x) m (fun i a=>by
    obtain⟨cs',k,y',X,h2,N⟩:=U b o ⟨c,rfl,by omega⟩ i a;obtain⟨_,k2,f⟩:=kc ht N;obtain⟨_,g0⟩:=f 0 f0 rfl;obtain⟨_,g1⟩:=f 1 f1 rfl;obtain⟨_,g2⟩:=f 2 f2 rfl;rw[J,o0,ci]at g0;rw[K,o1,F]at g1;rw[M,o2,G]at g2;obtain⟨z,hz,_⟩:=Fg V g0;obtain⟨vb,lb,ad,Y,R⟩:=lB Q hu A g1;obtain⟨vp,ds,ae,S,T⟩:=wB hp Z hu A H g2;refine⟨(z,(vb,lb),vp,ds),?_,Y,R,S,T⟩;have e:cs'=cS (z,(vb,lb),vp,ds):=zc X (eU hz) (eU ad) (eU ae)
    rw[<-e];exact h2)
   have hs:∀x∈L,rU w x:=fun x hx=>by obtain⟨i,a,rfl⟩:=Ev hx;have:=(E i (by omega)).2;rw[CR,CV a]at this;exact this
   exact⟨_,L,d,.inr ⟨b,o,c,by rw[B],by rw[B];exact C,D,jK s0 (by decide) (fun x _=>bU x) (fun i a=>(E i (by omega)).1)⟩,hs⟩
structure yu (P:Ds) (t ti tpl tsl ts tb tbb tp tr u:Dn) (f0 f1 f2:Field) (g0 g1 g2 g3 g4 g5 g6 g7 g8:Field):Prop where
 st:P.underlying t=some (.struct #[g0,g1,g2,g3,g4,g5,g6,g7,g8])
 ty:g0.type=ti/\g1.type=ti/\g2.type=ti/\g3.type=tpl/\g4.type=tsl/\g5.type=ti/\g6.type=ti/\g7.type=tbb/\g8.type=ti
 of:g0.offset=0/\g1.offset=1/\g2.offset=2/\g3.offset=3/\g4.offset=4/\g5.offset=5/\g6.offset=6/\g7.offset=7/\g8.offset=8
 fs:P.underlying ts=some (.struct #[f0,f1,f2])/\(f0.type=ti/\f1.type=tb/\f2.type=tp)/\(f0.offset=0/\f1.offset=1/\f2.offset=2)
 i:P.underlying ti=some (.int .i64)
 pl:P.underlying tpl=some (.slice ti)
 sl:P.underlying tsl=some (.slice ts)
 b:P.underlying tb=some (.slice u)
 bb:P.underlying tbb=some (.slice tb)
 p:P.underlying tp=some (.slice tr)
 r:P.underlying tr=some (.array 32 u)
 uu:P.underlying u=some (.int .u8)
 c:P.cellsOf u=1/\P.cellsOf tr=32/\P.cellsOf ti=1/\P.cellsOf tb=1/\P.cellsOf tp=1/\P.cellsOf ts=3/\P.cellsOf tpl=1/\P.cellsOf tsl=1/\P.cellsOf tbb=1/\P.cellsOf t=9
theorem tE {ti ao ar ts tb al tp tr u:Dn} {f0 f1 f2 g0 g1 g2 g3 g4 g5 g6 g7 g8:Field} (S:yu P t ti ao ar ts tb al tp tr u f0 f1 f2 g0 g1 g2 g3 g4 g5 g6 g7 g8) (h:Fk enc P w 0 (fun _=>true) true n t cs=some y):
  ∃l vp vs vb L,iE w cs l vp vs vb L:=by
 obtain⟨Z,⟨t0,t1,t2,t3,t4,t5,t6,t7,t8⟩,⟨o0,o1,o2,o3,o4,o5,o6,o7,o8⟩,⟨V,⟨y0,y1,y2⟩,z0,z1,z2⟩,b,W,Y,o,T,hp,X,hu,d,x,ci,c,s,C,v,z,q,A⟩:=S;obtain⟨hlen,k,a⟩:=kc Z h;obtain⟨_,h0⟩:=a 0 g0 rfl;obtain⟨_,h1⟩:=a 1 g1 rfl;obtain⟨_,h2⟩:=a 2 g2 rfl;obtain⟨_,e⟩:=a 3 g3 rfl;obtain⟨_,f⟩:=a 4 g4 rfl;obtain⟨_,g⟩:=a 5 g5 rfl;obtain⟨_,i⟩:=a 6 g6 rfl;obtain⟨_,j⟩:=a 7 g7 rfl;obtain⟨_,m⟩:=a 8 g8 rfl;rw[t0,o0,ci]at h0;rw[t1,o1,ci]at h1;rw[t2,o2,ci]at h2;rw[t3,o3,v]at e;rw[t4,o4,z]at f;rw[t5,o5,ci]at g;rw[t6,o6,ci]at i;rw[t7,o7,q]at j;rw[t8,o8,ci]at m;obtain⟨kd,D,_⟩:=Fg b h0;obtain⟨id,E,_⟩:=Fg b h1;obtain⟨oj,F,_⟩:=Fg b h2;obtain⟨vp,pl,G,Q⟩:=xl W b ci e;obtain⟨vs,L,H,R⟩:=vR Y V y0 y1 y2 z0 z1 z2 b o hp X hu d x ci c s C f;obtain⟨N,I,_⟩:=Fg b g;obtain⟨B,J,_⟩:=Fg b i;obtain⟨vb,p,K,O,U⟩:=tD T o hu c d j;obtain⟨r,M,_⟩:=Fg b m;refine⟨⟨kd,id,oj,pl,L.map cC,N,B,p,r⟩,vp,vs,vb,L,?_,Q,R,rfl,O,U⟩;exact zd (hlen.trans A) (eU D) (eU E) (eU F) (eU G) (eU H) (eU I) (eU J) (eU K) (eU M)
end
end
section
open Go.ChangeAt Go.ChangeShapes Go.WideShapes
theorem zH:∃f0 f1 f2 g0 g1 g2 g3 g4 g5 g6 g7 g8,yu CO 26 3 23 24 57 27 22 55 54 5 f0 f1 f2 g0 g1 g2 g3 g4 g5 g6 g7 g8:=
 ⟨_,_,_,_,_,_,_,_,_,_,_,_,C5,⟨rfl,rfl,rfl,rfl,rfl,rfl,rfl,rfl,rfl⟩,⟨rfl,rfl,rfl,rfl,rfl,rfl,rfl,rfl,rfl⟩,⟨Er,⟨rfl,rfl,rfl⟩,rfl,rfl,rfl⟩,DP,Tryz.underlying23,Tryz.underlying24,Ef,Tryz.underlying22,Tryz.underlying55,DF,Ex,
  ⟨by kernel_rfl,by kernel_rfl,by kernel_rfl,by kernel_rfl,by kernel_rfl,by kernel_rfl,by kernel_rfl,by kernel_rfl,by kernel_rfl,by kernel_rfl⟩⟩
end
section
open Go.ChangeAt Go.ChangeShapes Go.Deep Go.WideShapes
abbrev Lv:=BC × CQ × CQ × CQ
def cV (x:Lv):List CQ:=cL x.1 x.2.1 x.2.2.1 x.2.2.2
abbrev AX:Lv:=(dW,.slice none 0 0,.slice none 0 0,.slice none 0 0)
def ze (w:CP) (x:Lv):Prop:=∃L,iE w (cV x) x.1 x.2.1 x.2.2.1 x.2.2.2 L
theorem ze.ext {w w':CP} {x:Lv} (h:ze w x) (k:au w w'):ze w' x:=by
 obtain⟨L,h⟩:=h;exact⟨L,h.ext k⟩
structure Bq (w:CP) (v:CQ) (X:List Lv):Prop where
 rd:aX w v X.length (aD cV X)
 ok:∀x∈X,ze w x
section
variable {H:Type} {enc:Dn × CQ->H} {P:Ds} {w:CP}
end
end
section
open Go.ChangeAt Go.ChangeShapes Go.Deep Go.WideShapes
abbrev Sa:=(Int × Int × Int) × Lv × CQ × List Int
def cW (x:Sa):List CQ:=.int .i64 x.1.1 :: .int .i64 x.1.2.1 :: .int .i64 x.1.2.2 :: (cV x.2.1++[x.2.2.1])
abbrev mJ:Sa:=((0,0,0),AX,.slice none 0 0,[])
def yv (w:CP) (x:Sa):Prop:=ze w x.2.1/\Bu w .u8 x.2.2.1 x.2.2.2/\bI x.2.2.2
theorem yv.ext {w w':CP} {x:Sa} (h:yv w x) (k:au w w'):yv w' x:=⟨h.1.ext k,h.2.1.ext k,h.2.2⟩
theorem fC (x:Sa):(cW x).length=13:=rfl
theorem xG (x:Sa):cW x≠[]:=fun h=>by cases h
def zW:Array CQ:=#[.int .i64 0,.int .i64 0,.int .i64 0,.int .i64 0,.int .i64 0,.int .i64 0,.slice none 0 0,.slice none 0 0,.int .i64 0,.int .i64 0,.slice none 0 0,.int .i64 0,.slice none 0 0]
theorem vS {w:CP} {x:Sa} (h:yv w x):∀c∈cW x,c.oneCell'=true:=fun c a=>by
 obtain⟨⟨L,h1⟩,h2,_⟩:=h;rcases DA.1 a with rfl | a
 ·rfl
 rcases DA.1 a with rfl | a
 ·rfl
 rcases DA.1 a with rfl | a
 ·rfl
 rcases Dz.1 a with a | a
 ·exact h1.one c a
 ·obtain rfl:c=x.2.2.1:=by simpa using a
  obtain⟨p,n,b,_,_⟩:=h2.form;rw[b];rfl
structure xm (w:CP) (v:CQ) (X:List Sa):Prop where
 rd:aX w v X.length (aD cW X)
 ok:∀x∈X,yv w x
theorem xm.ext {w w':CP} {v:CQ} {X:List Sa} (h:xm w v X) (k:au w w'):xm w' v X:=⟨aX.ext h.rd k,fun x hx=>(h.ok x hx).ext k⟩
theorem xm.pos {w:CP} {v:CQ} {X:List Sa} (h:xm w v X) (j:0 < X.length):∃b o c,v=.slice (some ⟨b,o,none⟩) X.length c/\X.length<=c/\c<=Dc/\b < w.heap.size/\∀i,i < X.length->w.rangeAt b (o+i*13) (cW (X.getD i mJ)):=by
 obtain⟨b,o,c,h1,h2,a,d,e⟩:=aX.pos h.rd j (fun q=>by have:=bu (f:=cW) (s:=13) (L:=X) (fun x _=>fC x);rw[q]at this;simp at this;omega);exact⟨b,o,c,h1,h2,a,d,fun i g=>na mJ e (fun x _=>fC x) g⟩
section
variable {H:Type} {enc:Dn × CQ->H} {P:Ds} {w:CP}
theorem pB {base:Nat} {z y t a au ax ts q aq tp tr u:Dn} {BA g a2 a3 a4 f0 f1 f2 g0 g1 g2 g3 g4 g5 g6 g7 g8:Field} (B:P.underlying z=some (.slice y)) (ht:P.underlying y=some (.struct #[BA,g,a2,a3,a4]))
  (Q:BA.type=a) (R:g.type=a) (S:a2.type=a) (T:a3.type=t) (U:a4.type=q) (o0:BA.offset=0) (o1:g.offset=1) (o2:a2.offset=2) (o3:a3.offset=3) (o4:a4.offset=12)
  (s:P.underlying a=some (.int .i64)) (Y:P.underlying q=some (.slice u)) (hu:P.underlying u=some (.int .u8)) (ci:P.cellsOf a=1) (M:P.cellsOf q=1) (O:P.cellsOf u=1) (N:P.cellsOf t=9) (K:P.cellsOf y=13)
  (W:yu P t a au ax ts q aq tp tr u f0 f1 f2 g0 g1 g2 g3 g4 g5 g6 g7 g8) {v:CQ} {d:DataW H} {p:List MemPlace}
  (al:Value.okWide P w .any base z v) (h:DataW.Trod enc P w 0 (fun _=>true) true z v d p):∃X,xm w v X:=by
 obtain⟨q0,aB,ay,rfl⟩:=okWide_slice B al;obtain⟨fuel,hf⟩:=h;obtain⟨v,m,F,hv,aa⟩:=jJ B K (by decide) hf;simp only[Value.cells,List.cons.injEq,and_true]at F;rw[F];rcases hv with ⟨p,rfl,rfl⟩ | ⟨b,o,c,rfl,D,E⟩
 ·exact⟨[],.inl ⟨⟨p,rfl⟩,rfl,rfl⟩,fun x hx=>by cases hx⟩
 ·by_cases h0:m=0
  ·subst h0;exact⟨[],.inr ⟨b,o,c,rfl,D,E,fun j v hj=>by simp[aD]at hj⟩,fun x hx=>by cases hx⟩
  ·obtain⟨X,C,G⟩:=iO mJ (fun i x=>w.rangeAt b (o+i*13) (cW x)/\yv w x) m (fun i n=>by
    obtain⟨cs',k,y',hl,h2,V⟩:=aa b o ⟨c,rfl,by omega⟩ i n;obtain⟨_,k2,f⟩:=kc ht V;obtain⟨_,g0⟩:=f 0 BA rfl;obtain⟨_,g1⟩:=f 1 g rfl;obtain⟨_,g2⟩:=f 2 a2 rfl;obtain⟨_,g3⟩:=f 3 a3 rfl;obtain⟨_,g4⟩:=f 4 a4 rfl;rw[Q,o0,ci]at g0;rw[R,o1,ci]at g1;rw[S,o2,ci]at g2;rw[T,o3,N]at g3;rw[U,o4,M]at g4;obtain⟨n0,ad,_⟩:=Fg s g0;obtain⟨I,ae,_⟩:=Fg s g1;obtain⟨J,af,_⟩:=Fg s g2;obtain⟨l,vp,vs,vb,L,r⟩:=tE W g3;have hle:=r.eq;obtain⟨v4,A,ak,ag,Z⟩:=lB Y hu O g4;refine⟨((n0,I,J),(l,vp,vs,vb),v4,A),?_,⟨L,by rw[hle]at r;exact r⟩,ag,Z⟩;have e:cs'=cW ((n0,I,J),(l,vp,vs,vb),v4,A):=by
     have s1:cs'=(cs'.drop 0).take 1++((cs'.drop 1).take 1++((cs'.drop 2).take 1++((cs'.drop 3).take 9++(cs'.drop 12).take 1))):=by
      have t1:(cs'.drop 12).take 1=cs'.drop 12:=CX (by rw[List.length_drop];omega);have t2:cs'.drop 12=(cs'.drop 3).drop 9:=by rw[List.drop_drop]
      have t3:cs'.drop 3=(cs'.drop 2).drop 1:=by rw[List.drop_drop]
      have t4:cs'.drop 2=(cs'.drop 1).drop 1:=by rw[List.drop_drop]
      rw[t1,t2,D5,t3,D5,t4,D5,List.drop_zero,D5]
     rw[ad,ae,af,hle,ak]at s1;rw[s1];rfl
    rw[<-e];exact h2)
   have hs:∀x∈X,yv w x:=fun x hx=>by obtain⟨i,n,rfl⟩:=Ev hx;have:=(G i (by omega)).2;rw[CR,CV n]at this;exact this
   exact⟨X,.inr ⟨b,o,c,by rw[C],by rw[C];exact D,E,jK mJ (by decide) (fun x hx=>fC x) (fun i n=>(G i (by omega)).1)⟩,hs⟩
end
end
section
open Go.ChangeAt Go.ChangeShapes Go.WideShapes
theorem re {H:Type} {enc:Dn × CQ->H} {w:CP} {base:Nat} {v:CQ} {d:DataW H} {p:List MemPlace} (b:Value.okWide CO w .any base 70 v) (h:DataW.Trod enc CO w 0 (fun _=>true) true 70 v d p):∃X,xm w v X:=by
 exact zH.elim fun _ h1=>h1.elim fun _ h1=>h1.elim fun _ h1=>h1.elim fun _ h1=>h1.elim fun _ h1=>h1.elim fun _ h1=>h1.elim fun _ h1=>h1.elim fun _ h1=>h1.elim fun _ h1=>h1.elim fun _ h1=>h1.elim fun _ h1=>h1.elim fun _ a=>pB Tryz.underlying70 Tryz.underlying73 rfl rfl rfl rfl rfl rfl rfl rfl rfl rfl DP Ef Ex (by kernel_rfl) (by kernel_rfl) (by kernel_rfl) (by kernel_rfl) (by kernel_rfl) a b h
theorem rf (v:CQ) (X:List Sa) (w:CP) (h:xm w v X):
  CZ CO 23 #[v] w fun e w'=>(e=.returned (.bool true)\/(e=.returned (.bool false)/\X.length<=40/\∀x∈X,nh x.2.1.1))/\au w w':=by
 obtain⟨p,c,aG,aI,aF⟩:=h.rd.form;subst aG;unfold Dc at aF;have O:=aa h;obtain⟨n,E⟩:=exq X.length;have U:=aa E;rw[<-E]at aI O⊢;clear h E;go_enter Tryz.func23,Tryz.ntmps23;by_cases aP:40 < n
 ·have an:(40:Int) < (n:Int):=by omega
  go_wp2_with fail
  go_ret;exact⟨.inl rfl,CT _ _⟩
 have an:¬((40:Int) < (n:Int)):=by omega
 go_wp2_with fail
 go_loopw [10] (fun x wr=>∃i:Nat,i<=n/\x=.int .i64 i/\Hid (∀q,q < i->nh (X.getD q mJ).2.1.1)/\au w wr) (fun x _=>n - (intOf x).toNat);case atStart=>exact⟨0,C9 _,rfl,aa fun q a=>absurd a (Nat.not_lt_zero _),CT _ _⟩
 case round=>
  obtain⟨i,hi,rfl,B,Y⟩:=hrel;have A:=aa Y;clear Y;by_cases ay:i < n
  ·have D:i < X.length:=by rw[<-U.out];exact ay
   have C:=O.ext A;obtain⟨g,o,cc,aE,av,ar,aS,ab⟩:=C.pos (by omega);injection aE with aA aB aD;subst aA aD;have I:=ab i D;have z:=C.ok _ (aJ mJ D);obtain⟨x,hx⟩:=exq (X.getD i mJ);rw[<-hx]at I z;have W:=aa hx;have R:=aa (DS (P:=CO) wr g (o+i*13) 73 _ _ I Tryz.underlying73 rfl (by rw[fC];kernel_rfl));obtain⟨s,t⟩:=aw.fresh (cs:=cW x) wr 73 zW (by rw[fC];rfl) (xG x);have V:=aa (aH (P:=CO) (cs:=cW x) wr 73 zW (by rw[fC];rfl) (vS z) (ty:=73) (by rw[fC];kernel_rfl));have ai:=aa t;replace t:=aa (A.trans t);obtain⟨m,l,vp,vs,vb,N,y,k⟩:∃(m:Int × Int × Int) (l:BC) (vp vs vb N:CQ) (y:List Int),x=(m,(l,vp,vs,vb),N,y):=⟨x.1,x.2.1.1,x.2.1.2.1,x.2.1.2.2.1,x.2.1.2.2.2,x.2.2.1,x.2.2.2,rfl⟩;rw[k]at z;obtain⟨⟨L,F⟩,ag,_⟩:=z;have aj:Hid (∀r,au wr r->eg r (.agg (cL l vp vs vb).toArray) l):=aa fun r h2=>⟨_,_,_,_,_,rfl,F.ext h2⟩
   obtain⟨pb,cb,J,_,_⟩:=F.bl.form;obtain⟨py,cy,K,_,_⟩:=ag.form;obtain⟨d,ae⟩:=exq l.blocks.length;obtain⟨f,af⟩:=exq y.length;rw[<-ae]at J;rw[<-af]at K;have H:=s.cell (i:=10) (v:=.slice pb d cb) (by rw[k,<-J];rfl);have G:=s.cell (i:=12) (v:=.slice py f cy) (by rw[k,<-K];rfl);have ah:((wr.alloc (.cells zW 73)).setCells wr.heap.size 0 (cW x)).rangeAt wr.heap.size 3 (cL l vp vs vb):=fun j v hj=>by
    have:=s.cell (i:=3+j) (v:=v) (by
     rw[k];show((.int .i64 m.1 :: .int .i64 m.2.1 :: .int .i64 m.2.2 :: (cL l vp vs vb++[N]))[3+j]?)=some v;rw[show 3+j=j+1+1+1 by omega,DU,DU,DU,List.getElem?_append_left (by have:=(Dt.1 hj).1;exact this)]
     exact hj)
    exact this
   have S:=aa (DS (P:=CO) _ wr.heap.size 3 26 _ _ ah C5 rfl (by kernel_rfl));have Q:Hid (x.2.1.1=l):=aa (by rw[k]);have aU:(0:Int)<=(i:Int):=by omega
   have aW:(i:Int) < (n:Int):=by omega
   clear ab I hx s aB av ar D C F ag ae af J K ah k
   go_wp2_with first | refine ao rfl R ?_ | (with_reducible refine aC (ty:=73) ?_)
   refine ax ?_;refine ak rfl rfl V ?_;generalize (wr.alloc (.cells zW 73)).setCells wr.heap.size 0 (cW x)=W6 at*;generalize wr.heap.size=X6 at*;clear V R
   go_wp2_with (with_reducible refine aV (ty:=26) ?_)
   refine ax ?_;refine ao rfl S ?_;clear S
   go_wp2_with fail
   refine(pR _ l W6 (aj _ ai)).mono ?_;rintro e r ⟨az,u⟩;have b:=aa (t.trans u);have H:=(Dp (u.block X6 (CW _ _ H))).trans H;have G:=(Dp (u.block X6 (CW _ _ G))).trans G;clear u;rcases az with rfl | ⟨rfl,ad⟩
   ·go_wp2_with fail
    go_ret;exact⟨.inl rfl,b⟩
   have T:=aa ad;clear ad;have Z:∀w',au r w'->au w w':=fun w' h=>b.trans h
   have aN:=aa Z;clear Z;by_cases aQ:100 < d
   ·have ap:(100:Int) < (d:Int):=by omega
    by_cases aR:d<=512
    ·have aq:(d:Int)<=(512:Int):=by omega
     go_wp2_with fail
     go_ret;exact⟨.inl rfl,b⟩
    have aq:¬(d:Int)<=(512:Int):=by omega
    by_cases aK:100 < f
    ·have M:(100:Int) < (f:Int):=by omega
     go_wp2_with fail
     go_ret;exact⟨.inl rfl,b⟩
    have M:¬(100:Int) < (f:Int):=by omega
    go_wp2_with fail
    go_roundw
    case rel=>exact⟨i+1,by omega,by go_num,aa fun q a=>by
     rcases ED.1 a with g | g
     ·exact B q g
     ·subst g;rw[<-W.out,Q.out];exact T,b⟩
    case measure=>simp[intOf];omega
   have ap:¬(100:Int) < (d:Int):=by omega
   by_cases aK:100 < f
   ·have M:(100:Int) < (f:Int):=by omega
    go_wp2_with fail
    go_ret;exact⟨.inl rfl,b⟩
   have M:¬(100:Int) < (f:Int):=by omega
   go_wp2_with fail
   go_roundw
   case rel=>exact⟨i+1,by omega,by go_num,aa fun q a=>by
    rcases ED.1 a with g | g
    ·exact B q g
    ·subst g;rw[<-W.out,Q.out];exact T,b⟩
   case measure=>simp[intOf];omega
  ·obtain rfl:i=n:=by omega
   go_wp2_with fail
   go_ret
   exact⟨.inr ⟨rfl,by omega,fun x hx=>by
    obtain⟨q,a,rfl⟩:=Ev hx;have:=B q (by rw[U.out];exact a)
    rwa[CR,CV a]at this⟩,A⟩
end
theorem vT (F:Nat->Prop) (l:BC) (vp vs vb:CQ) (L:List Sv) (w:CP) (h:cn F w l vp vs vb L) (bY:∀b,F b->b < w.heap.size) (hl:l.shown.length<=1048576) (hp:∀s∈l.shown,s.2.2.length<=1048576):
  CZ CO 12 #[.agg (cL l vp vs vb).toArray] w fun e w'=>∃C L',e=.returned (.agg (cL l vp C vb).toArray)/\cn (fun k=>F k\/w.heap.size<=k) w' l vp C vb L'/\au w w':=by
 have X:=h.BH;have a3:=aa h;have bC:=aa bY;clear h bY;have Z:=aa X;have Hp:=aa hp;obtain⟨p2,c2,e2,c0,cV⟩:=X.sh.rd.form;subst e2;obtain⟨p1,u,a,e1⟩:=X.pl.BM;obtain⟨B,z,c,e3⟩:=X.bl.BM;subst e1 e3;unfold Dc at cV;have bb:Hid (l.shown.length=L.length):=aa (by rw[<-X.sl,CY]);obtain⟨K,aK⟩:=exq L.length;have bH:=aa aK;have dv:K<=1048576:=by rw[aK,<-bb.out];exact hl
 rw[<-aK]at Z c0⊢;clear X aK hl hp;obtain⟨t,id,A,pl,sh,r,p,G,f⟩:=l;obtain⟨N,W⟩:=exq ((w.alloc (.cells #[.int .i64 t,.int .i64 id,.int .i64 A,.slice p1 u a,.slice p2 K c2,.int .i64 r,.int .i64 p,.slice B z c,.int .i64 f] 26)).alloc (.cells zL 43));have aT:Hid (au w N):=aa (by rw[W];exact(ae _ _).trans (ae _ _));have bv:N.heap.size=w.heap.size+1+1:=by rw[W];simp
 have ck:Hid (aw N w.heap.size (cL ⟨t,id,A,pl,sh,r,p,G,f⟩ (.slice p1 u a) (.slice p2 K c2) (.slice B z c))):=aa (by rw[W];exact(aw.box w 26 (bR _ _ _ _)).ext (ae _ _))
 have bx:Hid (aw N (w.heap.size+1) (cL dW (.slice none 0 0) (.slice none 0 0) (.slice none 0 0))):=aa (by
  rw[W];have h:=aw.box (w.alloc (.cells #[.int .i64 t,.int .i64 id,.int .i64 A,.slice p1 u a,.slice p2 K c2,.int .i64 r,.int .i64 p,.slice B z c,.int .i64 f] 26)) 43 (bR dW (.slice none 0 0) (.slice none 0 0) (.slice none 0 0));rw[show(w.alloc (.cells #[.int .i64 t,.int .i64 id,.int .i64 A,.slice p1 u a,.slice p2 K c2,.int .i64 r,.int .i64 p,.slice B z c,.int .i64 f] 26)).heap.size=w.heap.size+1 from by simp]at h
  exact h)
 obtain⟨bf,bh⟩:=aw.fresh (cs:=cL ⟨t,id,A,pl,sh,r,p,G,f⟩ (.slice p1 u a) (.slice none 0 0) (.slice B z c)) N 43 zL rfl (bR _ _ _ _);have E:=aa (aH (P:=CO) (cs:=cL ⟨t,id,A,pl,sh,r,p,G,f⟩ (.slice p1 u a) (.slice none 0 0) (.slice B z c)) N 43 zL rfl (bk Z.pl.BM iF Z.bl.BM) (ty:=43) (by kernel_rfl));rw[bv]at bf bh E;have aO:=aa bf;have aU:=aa bh;clear bf bh;have bd:=aa bv;clear bv;show CZ CO 12 #[.agg #[.int .i64 t,.int .i64 id,.int .i64 A,.slice p1 u a,.slice p2 K c2,.int .i64 r,.int .i64 p,.slice B z c,.int .i64 f]] w _;go_enter Tryz.func12,Tryz.ntmps12
 go_wp2_with (with_reducible refine aC (ty:=43) ?_)
 refine ax ?_;rw[<-W];clear W;refine ak rfl rfl E ?_;obtain⟨W3,b0⟩:=exq ((N.alloc (.cells zL 43)).setCells (w.heap.size+1+1) 0 (cL ⟨t,id,A,pl,sh,r,p,G,f⟩ (.slice p1 u a) (.slice none 0 0) (.slice B z c)));rw[<-b0]at aO aU⊢;clear b0 E;have cm:Hid (GR cS 3 fD (fun b=>F b\/w.heap.size+1+1 < b) (w.heap.size+1+1) 100 W3 (w.heap.size+1+1) 4 (cL ⟨t,id,A,pl,sh,r,p,G,f⟩ (.slice p1 u a) (.slice none 0 0) (.slice B z c)) (.slice none 0 0) []):=aa (GR.start aO rfl);have da:=(ck.ext aU).cell (i:=4) rfl
 go_wp2_with fail
 clear da aO;go_loopw [29] (fun x wr=>∃(i:Nat) (C:CQ) (M:List Sv),i<=K/\x=.int .i64 i/\Hid (GR cS 3 fD (fun b=>F b\/w.heap.size+1+1 < b) (w.heap.size+1+1) 100 wr (w.heap.size+1+1) 4 (cL ⟨t,id,A,pl,sh,r,p,G,f⟩ (.slice p1 u a) C (.slice B z c)) C M/\M.length=i/\M.map cC=sh.take i)/\au N wr) (fun x _=>K - (intOf x).toNat);case atStart=>exact⟨0,_,[],C9 _,rfl,aa ⟨cm,rfl,rfl⟩,aU⟩
 case round=>
  obtain⟨i,C,M,hi,rfl,D,hE⟩:=hrel;have HE:=aa hE;clear hE;by_cases cZ:i < K
  ·have az:i < L.length:=by rw[<-bH.out];exact cZ
   have cl:=aa (aT.trans HE);have bi:=Z.sh.ext cl;obtain⟨g,o,dl,c9,cX,cW,dn,ca⟩:=bi.pos (by omega);injection c9 with c1 c3 c4;subst c1 c4;have aM:=ca i az;have bq:=a3.so _ (aJ s0 az);have Y:=bi.ok _ (aJ s0 az);have bt:cC (L.getD i s0)=sh.getD i h0:=by rw[<-dq];rw[show L.map cC=sh from Z.out.sl]
   have bn:i < sh.length:=by have h:=bb.out;have h2:sh.length=L.length:=h;omega
   have bu:(L.getD i s0).2.2.2.length<=1048576:=by have:=Hp (sh.getD i h0) (aJ h0 bn);rw[<-bt]at this;exact this
   have bJ:Hid (sh.take (i+1)=sh.take i++[cC (L.getD i s0)]):=aa (by rw[bt];exact aF h0 sh i bn);obtain⟨x,hx⟩:=exq (L.getD i s0);rw[<-hx]at aM Y bq bu bJ;clear hx bt bn;obtain⟨H,⟨u1,st⟩,u2,pa⟩:=x;have bc:=aa bq;have ad:=aa Y;obtain⟨q2,d2,cf,cg,db⟩:=Y.pa.form;obtain⟨I,n5,d1,ce⟩:=Y.st.BM;simp only at cf cg bu ce;subst cf ce;obtain⟨m,hm⟩:=exq pa.length;have V:=aa hm;rw[<-hm]at cg bu aM;have cd:rU wr (H,(.slice I n5 d1,st),.slice q2 m d2,pa):=by rw[hm];exact Y
   have ac:=aa (DS (P:=CO) wr g (o+i*3) 57 _ _ aM Er rfl (by rw[bU];kernel_rfl));obtain⟨bN,bT⟩:=aw.fresh (cs:=cS (H,(.slice I n5 d1,st),.slice q2 m d2,pa)) wr 57 eS rfl (kE _);have E:=aa (aH (P:=CO) (cs:=cS (H,(.slice I n5 d1,st),.slice q2 m d2,pa)) wr 57 eS rfl (gM cd) (ty:=57) (by rw[bU];kernel_rfl));have T:=aa bN;have ab:=aa bT;have dr:(0:Int)<=(i:Int):=by omega
   have ds:(i:Int) < (K:Int):=by omega
   have a8:Hid (w.heap.size+1+1 < wr.heap.size/\∀k,C.ownBlock=some k->k < wr.heap.size):=aa ⟨D.1.box.lt,fun k hk=>(D.1.own.lt k hk).2⟩;clear ca aM Y bq cd c3 cX cW az bi bN bT hm db
   go_wp2_with first | ((with_reducible refine ao ?_ ac.out ?_);rfl) | (with_reducible refine aC (ty:=57) ?_)
   refine ax ?_;refine ak rfl rfl E ?_;obtain⟨O,b2⟩:=exq ((wr.alloc (.cells eS 57)).setCells wr.heap.size 0 (cS (H,(.slice I n5 d1,st),.slice q2 m d2,pa)));obtain⟨X5,bj⟩:=exq wr.heap.size;rw[<-b2]at T ab⊢;rw[<-bj]at T a8⊢;have cv:Hid (X5<=O.heap.size):=aa (by rw[bj];exact ab.size);clear b2 bj E ac;obtain⟨bO,bV⟩:=aw.fresh (cs:=[.int .i64 H,.slice I n5 d1,.slice none 0 0]) O 100 eS rfl (fun h=>by cases h);have E:=aa (aH (P:=CO) (cs:=[.int .i64 H,.slice I n5 d1,.slice none 0 0]) O 100 eS rfl (eK ad.st.BM iF) (ty:=100) (by kernel_rfl));have aP:=aa bO;have aW:=aa bV;have g0:=T.cell (i:=0) rfl;have g1:=T.cell (i:=1) rfl;clear bO bV
   go_wp2_with (with_reducible refine aC (ty:=100) ?_)
   refine ax ?_;refine ak rfl rfl E ?_;obtain⟨W6,b3⟩:=exq ((O.alloc (.cells eS 100)).setCells O.heap.size 0 [.int .i64 H,.slice I n5 d1,.slice none 0 0]);obtain⟨X6,bl⟩:=exq O.heap.size;rw[<-b3]at aP aW⊢;rw[<-bl]at aP⊢;have cw:=aa bl;clear b3 bl E g0 g1;have g2:=(T.ext aW).cell (i:=2) rfl;have co:Hid (GR (aj .u8) 32 jL (fun _=>True) O.heap.size 52 W6 X6 2 [.int .i64 H,.slice I n5 d1,.slice none 0 0] (.slice none 0 0) []):=aa (GR.start aP rfl)
   go_wp2_with fail
   clear g2 T;go_loopw [41] (fun y wq=>∃(j:Nat) (vq:CQ),j<=m/\y=.int .i64 j/\Hid (GR (aj .u8) 32 jL (fun _=>True) O.heap.size 52 wq X6 2 [.int .i64 H,.slice I n5 d1,vq] vq (pa.take j))/\au O wq) (fun y _=>m - (intOf y).toNat);case atStart=>exact⟨0,_,C9 _,rfl,co,aW⟩
   case round=>
    obtain⟨j,vq,hj,rfl,HJ,bW⟩:=hrel;have ar:=aa bW;clear bW;by_cases cb:j < m
    ·have aD:j < pa.length:=by rw[<-V.out];exact cb
     obtain⟨b1,o1,a,br,c5,c6,cU,ch⟩:=et.pos (aX.ext (aX.ext ad.pa ab) ar) ad.dg (by have:=V.out;simp only;omega);injection br with br c7 c8;subst br;have aL:=dI ch ad.dg (i:=j) aD;obtain⟨R,_⟩:=ad.dg.get (i:=j) aD;have bI:=aa (aF [] pa j aD);have bK:Hid ((pa.take j).length=j):=aa (by rw[Da];have:=V.out;omega);simp only at aL R;obtain⟨d,hd⟩:=exq (pa.getD j []);rw[<-hd]at aL R bI;have ac:=aa (aZ (P:=CO) (ty:=54) aL DF (by kernel_rfl) R);have cc:aj .u8 d≠[]:=fun q=>by have:=congrArg List.length q;rw[ints_length,R]at this;cases this
     obtain⟨bP,bX⟩:=aw.fresh (cs:=aj .u8 d) wr 54 zA (by rw[ints_length,R];rfl) cc;have E:=aa (aH (P:=CO) (cs:=aj .u8 d) wr 54 zA (by rw[ints_length,R];rfl) (aE _ _) (ty:=54) (by rw[ints_length,R];kernel_rfl));have aQ:=aa bP;have a0:=aa bX;have a9:=aa R;have dt:(0:Int)<=(j:Int):=by omega
     have du:(j:Int) < (m:Int):=by omega
     clear ch aL R cc hd bP bX c5 c6 c7 c8 cU aD
     go_wp2_with first | ((with_reducible refine ao ?_ ac.out ?_);rfl) | (with_reducible refine aC (ty:=54) ?_)
     refine ax ?_;refine ak rfl rfl E ?_;obtain⟨W8,b4⟩:=exq ((wr.alloc (.cells zA 54)).setCells wr.heap.size 0 (aj .u8 d));obtain⟨X8,b7⟩:=exq wr.heap.size;rw[<-b4]at aQ a0⊢;rw[<-b7]at aQ⊢;clear b4 b7 E ac;have bF:=aa (GR.ext cD HJ a0);have gq:=bF.cell;have ba:=aa (aZ (P:=CO) (ty:=54) aQ.rg DF (by kernel_rfl) a9)
     go_wp2_with (with_reducible refine aV (ty:=54) ?_)
     refine ax ?_;refine ao rfl ba ?_
     go_wp2_with (with_reducible refine df (ty:=96) ?_)
     refine ax ?_;refine de mf (by decide) rfl (by simp[a9.out]) ?_;have a1:Hid (au W8 (W8.alloc (.cells (aj .u8 d).toArray 52))):=aa (ae _ _);have a7:=aa (kU W8 52 (aj .u8 d));obtain⟨W9,b5⟩:=exq (W8.alloc (.cells (aj .u8 d).toArray 52));obtain⟨X9,b8⟩:=exq W8.heap.size;rw[<-b5]at a1 a7⊢;rw[<-b8]at a7⊢;clear b5 b8 gq;have U:=aa (GR.ext cD bF a1);have bB:=aa ((ar.trans a0).trans a1)
     go_wp2_with (with_reducible refine av ?_)
     refine ax ?_;refine bg mf (U.B1 bK) a7 rfl rfl (by rw[ints_length,a9.out]) (aE _ _) (by unfold Dc;omega) (by omega) (bB.size) ?_;intro dd cN ci am Q ai al bp bm;have HP:=aa (GR.push (y:=d) cD U bK am Q al trivial);have gb:=(U.BP Q).cell U.BQ;have gf:=(U.BP Q).fz U.lt;have aS:=aa (DC bB ai);clear am Q ai al bp bm
     go_wp2_with fail
     go_roundw;case rel=>exact⟨j+1,_,by omega,by go_num,aa (by rw[bI.out];exact HP),E0 aS (by rw[cw.out];exact CU _) _⟩
     case measure=>simp[intOf];omega
    ·obtain rfl:j=m:=by omega
     clear cb hj;have bE:=aa (GR.ext bD D.1 (ab.trans ar));have a4:=aa D.2.1;have ct:=aa D.2.2;have cA:Hid (pa.take j=pa):=aa (CX (by rw[<-V.out];exact CU _));have cp:=aa HJ.box;have ay:=aa (HJ.B1 (n:=j) (by rw[Da,<-V.out,Nat.min_self]));rw[cA.out]at ay;obtain⟨pq,cq,dc,_,_⟩:=(aX.AS ay).form;subst dc;clear D HJ;have gq:=bE.cell;have ba:=aa (cp.load (P:=CO) Tryz.underlying100 rfl (by kernel_rfl))
     go_wp2_with (with_reducible refine aV (ty:=100) ?_)
     refine ax ?_;refine ao rfl ba ?_
     go_wp2_with (with_reducible refine df (ty:=41) ?_)
     refine ax ?_;refine de rV (by decide) rfl rfl ?_;have aq:Hid (au wr (wr.alloc (.cells ([.int .i64 H,.slice I n5 d1,.slice pq j cq]:List CQ).toArray 100))):=aa (ae _ _);have a6:=aa (kU wr 100 [.int .i64 H,.slice I n5 d1,.slice pq j cq]);obtain⟨cG,bZ⟩:=exq (wr.alloc (.cells ([.int .i64 H,.slice I n5 d1,.slice pq j cq]:List CQ).toArray 100));obtain⟨di,b6⟩:=exq wr.heap.size;rw[<-bZ]at aq a6⊢;rw[<-b6]at a6⊢;clear bZ b6 gq;have S:=aa (GR.ext bD bE aq);have a2:=aa ((HE.trans (ab.trans ar)).trans aq)
     have cu:Hid (fD (fun b=>b≠w.heap.size+1+1/\C.ownBlock≠some b/\(F b\/w.heap.size+1+1 < b)) cG (H,(.slice I n5 d1,st),.slice pq j cq,pa)):=aa (by
      refine⟨aY.kept bc.st (fun b J _=> ?_),bc.bs,aY.By (aX.ext (by rw[<-V.out];exact aX.AS ay) aq) (fun b J _=> ?_),bc.dg⟩
      ·have cT:=bC b J;refine⟨⟨by omega,fun q=> ?_,.inl J⟩,(aT.trans a2).block b cT⟩;have:=(S.own.lt b q).1;omega
      ·have h1:=(ay.lt b J).1;have h2:=cv.out;have h3:=a8.1;refine⟨by omega,fun q=> ?_,.inr (by omega)⟩;have:=a8.2 b q
       omega)
     go_wp2_with (with_reducible refine av ?_)
     refine ax ?_;refine bg rV (S.B1 a4) a6 rfl rfl rfl (eK ⟨_,_,_,rfl⟩ ⟨_,_,_,rfl⟩) (by unfold Dc;omega) (by omega) (by have:=a2.size;rw[bd.out]at this;exact this) ?_;intro dd cN ci am Q ai al bp bm;have HP:=aa (GR.push (y:=(H,(.slice I n5 d1,st),.slice pq j cq,pa)) bD S a4 am Q al cu.out);have gb:=(S.BP Q).cell S.BQ;have gf:=(S.BP Q).fz S.lt;have aS:Hid (au N ci):=aa (DC a2 (by rw[bd.out];exact ai));clear am Q ai al bp bm
     go_wp2_with fail
     go_roundw;case rel=>exact⟨i+1,_,_,by omega,by go_num,aa ⟨HP,by rw[List.length_append,a4.out];rfl,by rw[List.map_append,ct.out,bJ.out];rfl⟩,E0 aS (by rw[bd.out];exact CU _) _⟩
     case measure=>simp[intOf];omega
  ·obtain rfl:i=K:=by omega
   have bz:=aa D.1.box;have aR:=aa (bx.ext HE);have cB:=aa (aX.AS D.1.own).BM;have cx:=aa (bz.load (P:=CO) Db rfl (by kernel_rfl));have E:=aa (aR.store (P:=CO) (cs':=cL ⟨t,id,A,pl,sh,r,p,G,f⟩ (.slice p1 u a) C (.slice B z c)) rfl (bk ⟨_,_,_,rfl⟩ cB ⟨_,_,_,rfl⟩) (ty:=43) (by kernel_rfl));have cy:=aa ((aR.set (cs':=cL ⟨t,id,A,pl,sh,r,p,G,f⟩ (.slice p1 u a) C (.slice B z c)) rfl).loadVar (P:=CO) Db rfl (by kernel_rfl));have bA:Hid (au w (wr.setCells (w.heap.size+1) 0 (cL ⟨t,id,A,pl,sh,r,p,G,f⟩ (.slice p1 u a) C (.slice B z c)))):=aa (aA _ _ _ _ (aT.trans HE) (Nat.le_succ _))
   have cr:Hid (cn (fun k=>F k\/w.heap.size<=k) (wr.setCells (w.heap.size+1) 0 (cL ⟨t,id,A,pl,sh,r,p,G,f⟩ (.slice p1 u a) C (.slice B z c))) ⟨t,id,A,pl,sh,r,p,G,f⟩ (.slice p1 u a) C (.slice B z c) M):=aa (by
    have hk:∀b,b≠w.heap.size+1->(wr.setCells (w.heap.size+1) 0 (cL ⟨t,id,A,pl,sh,r,p,G,f⟩ (.slice p1 u a) C (.slice B z c))).heap[b]? =wr.heap[b]? :=fun b J=>dO _ _ _ (mK.refl _ _) b J
    have bo:∀b,F b->b < w.heap.size->(F b\/w.heap.size<=b)/\(wr.setCells (w.heap.size+1) 0 (cL ⟨t,id,A,pl,sh,r,p,G,f⟩ (.slice p1 u a) C (.slice B z c))).heap[b]? =w.heap[b]? :=fun b J hl=>⟨.inl J,bA.block b hl⟩
    obtain⟨M0,b1,cK,cM⟩:=a3.bl;refine⟨a3.pl.kept bo,aY.By (aX.kept (aX.AS D.1.own) (fun k q _=>hk k (by have:=(D.1.own.lt k q).1;omega))) (fun k q _=>.inr (by have:=(D.1.own.lt k q).1;omega)),fun x hx=>bD _ _ _ _ _ (D.1.ok x hx) (fun b J _=>⟨?_,hk b ?_⟩),?_,M0,b1.kept bo,fun y hy=>bQ _ _ _ _ _ (cK y hy) bo,cM⟩
    ·rcases J.2.2 with q | q
     ·exact .inl q
     ·exact .inr (by omega)
    ·rcases J.2.2 with q | q
     ·have:=bC b q;omega
     ·omega
    rw[D.out.2.2];have h:sh.length=L.length:=bb.out
    exact CX (by have:=bH.out;omega))
   clear D bx bz aR
   go_wp2_with (with_reducible refine aV (ty:=43) ?_)
   refine ax ?_;refine ao rfl cx ?_
   go_wp2_with (((with_reducible refine bG ?_ ?_ E.out ?_);rfl;rfl))
   refine bodyPost_ret (v:=.agg (cL ⟨t,id,A,pl,sh,r,p,G,f⟩ (.slice p1 u a) C (.slice B z c)).toArray) (aB rfl rfl cy) rfl ⟨_,M,rfl,cr,bA⟩
theorem xn (F:Nat->Prop) (l:BC) (vp vs vb:CQ) (L:List Sv) (w:CP) (h:cn F w l vp vs vb L) (c:l.shown.length<=1048576) (hp:∀s∈l.shown,s.2.2.length<=1048576):
  CZ CO 12 #[.agg (cL l vp vs vb).toArray] w fun e w'=>∃a b,e=.returned (.agg (cL l vp a vb).toArray)/\cn (fun k=>F k\/w.heap.size<=k) w' l vp a vb b/\au w w':=by
 refine(vT (fun i=>F i/\i < w.heap.size) l vp vs vb L w (h.kept fun i f c=>⟨⟨f,c⟩,rfl⟩) (fun i q=>q.2) c hp).mono ?_;rintro e w' ⟨a,b,h1,h2,d⟩;exact⟨a,b,h1,h2.kept fun i q _=>⟨q.imp (fun q=>q.1) id,rfl⟩,d⟩
def Bt (bs:List (List Int)) (B X8 b:Nat) (N Q:Nat->Prop) (s:bL) (w:CP):Prop:=gx N Q w b s/\cH s/\bn s 0=some bs/\(∀i,Q i->N i)/\(∀i,N i->B<=i/\i < w.heap.size)/\¬Q X8/\B<=b
end Go.Proofs.Bl
