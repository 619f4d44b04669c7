/- Texts that stood apart, in one: ConB, WTree1, GlobR. -/
import Derived.Test.YtglenbikdahgjaaGreatDoorPr03
import Derived.Test.YtglenbikdahgjaaGreatDoorPr02
set_option maxRecDepth 100000
set_option maxHeartbeats 16000000
open Go renaming Calls->DN,Value->DG,World->DF,maxLen->DV
open Go.Builtin renaming zeroCells->Gp
open Go.RowKit renaming intOf->Ef
open Go.RowKit.Below renaming refl->DI,setCell->FC,trans->Ei
open Go.Value renaming int->Ej
open Go.World renaming block_lt_of_cell?->DM
open Int renaming ediv_one->GY
open List renaming getD_eq_getElem?_getD->DJ,getElem?_eq_getElem->DL,length_append->DS,take_length->Ge
open Nat renaming le_refl->DH,zero_le->DZ
namespace Go.Proofs.Bl
open Go Go.RowKit Go.Proofs
open Go.Proofs.Tryz renaming prog->DE
variable {g:Nat}
theorem tD (n:Nat) (w:DF) (h0:0 < n) (r:n<=1099511627776):
  DN DE 142 #[.slice none 0 0,.int .i64 n] w fun e w'=>∃c,e=.returned (.slice (some ⟨w.heap.size,0,none⟩) 0 c)/\w'.ownsRow w.heap.size 5 1 (.slice (some ⟨w.heap.size,0,none⟩) 0 c) 0 []/\az w w':=by
 obtain⟨i,k,m,q,b⟩:=info_parts aO.info;have a:∀ty,(Builtin.append_ #[27,3] ty #[.slice none 0 0,.int .i64 (n:Int)]).run DE w=
   .ok (.slice (some ⟨w.heap.size,0,none⟩) n (grownCap w (0+n) 0 5)) (w.drew.alloc (.cells (([]:List DG).toArray++Gp (Ej .u8 0).cells n++Gp (Ej .u8 0).cells (grownCap w (0+n) 0 5 - (0+n))) 5)):=fun ty=>by
  have h:=Lib.run_append_grow_zeros w 27 3 ty 5 i (.int .u8 0) .i64 .i64 Tryz.underlying27 Tryz.underlying3 k m none 0 0 [] (run_firstCells_none w.drew i.size 0 0 0) n h0 (by omega) (by omega) (by omega) (by rw[b];omega)
   (growslice_fits (by omega) (by rw[b];omega))
  rw[Nat.zero_add]at h⊢;exact h
 have p:0+n<=grownCap w (0+n) 0 5:=grownCap_ge w _ _ _;have d:grownCap w (0+n) 0 5<=DV:=grownCap_le_maxLen w (0+n) 0 _ (by unfold DV;omega);obtain⟨G,g⟩:=exq (grownCap w (0+n) 0 5);rw[<-g]at a p d;have f:(([]:List DG).toArray++Gp (Ej .u8 0).cells n++Gp (Ej .u8 0).cells (G - (0+n))).size=G*1:=by simp only[Array.size_append,size_zeroCells,Value.cells,List.size_toArray,List.length_nil,List.length_cons];omega
 obtain⟨cs,j⟩:=exq (([]:List DG).toArray++Gp (Ej .u8 0).cells n++Gp (Ej .u8 0).cells (G - (0+n)));rw[<-j]at a f;have l:=World.ownsRow_made (w:=w.drew) (base:=w.heap.size) (e:=5) (size:=1) cs G (DH _) d f;have o:=aa l;unfold DV at d;clear j g f l k m q b;go_enter Tryz.func142,Tryz.ntmps142
 go_wp2_with (with_reducible refine ax ?_)
 refine au ?_;refine uQ a rfl rfl ?_;clear a
 go_wp2
 go_ret;exact⟨G,rfl,o,((DI _ _).drew).alloc (DH _) _⟩
theorem kB (v:DG) (ps:List (List Int)) (w:DF) (hR:bf w v ps) (h0:0 < ps.flatten.length) (hlen:ps.flatten.length<=1099511627776):
  DN DE 100 #[v] w fun e w'=>∃v',e=.returned v'/\w'.ownsRow w.heap.size 5 1 v' ps.flatten.length (ao .u8 ps.flatten)/\az w w':=by
 obtain⟨vs,J,Z,ab⟩:=hR;obtain⟨p,c,aw,aI,av⟩:=J.form;subst aw;have Q:=aa J;have R:=aa ab;have t:=aa Z;obtain⟨T,D⟩:=exq ps.flatten.length;rw[<-D]at h0 hlen;have y:=aa D;clear J ab D Z;have aH:ps.length<=9223372036854775807:=by unfold DV at av;omega
 go_enter Tryz.func100,Tryz.ntmps100
 go_wp2_with fail
 go_loop [3,11] (fun s i=>∃k N:Nat,k<=ps.length/\i=.int .i64 k/\s=.int .i64 N/\Hid (N=(ps.take k).flatten.length)/\N<=T) (fun _ i=>ps.length - (Ef i).toNat);case atStart=>exact⟨0,0,DZ _,rfl,rfl,rfl,DZ _⟩
 case round=>
  obtain⟨k,N,hk,rfl,rfl,x,ak⟩:=hrel;by_cases F:k < ps.length
  ·obtain⟨b,o,I,am,E⟩:∃b o,p=some ⟨b,o,none⟩/\b < w.heap.size/\w.cell? ⟨b,o+k,none⟩=some (vs.getD k undef):=by
    rcases Q with ⟨h1,h2,z⟩ | ⟨b,o,c',h1,h2,z,l⟩
    ·omega
    ·cases h1;refine⟨b,o,rfl,bP l (fun q=>by have:=t.out;rw[q]at this;simp at this;omega),l k _ ?_⟩;rw[DJ,DL (by rw[t.out];exact F)];rfl
   subst I;have f:=ky ps k F;have a:=R k F;obtain⟨d,n⟩:=exq (ps.getD k []);rw[<-n]at f a;obtain⟨pk,ck,r,ar,an⟩:=a.form;rw[r]at E;have m:Hid (N+d.length=(ps.take (k+1)).flatten.length):=by show _=_;rw[f,DS,x.out]
   have hle:N+d.length<=T:=by rw[m.out,y.out];exact jR ps (k+1)
   clear f a r n;have aG:decide ((N:Int)+(d.length:Int) < 0)=false:=decide_eq_false (by omega)
   go_wp2_with fail
   go_round;case rel=>exact⟨k+1,N+d.length,by omega,by go_num,by go_num,m,hle⟩
   case measure=>simp[Ef];omega
  ·obtain rfl:k=ps.length:=by omega
   obtain rfl:N=T:=by rw[x.out,y.out,Ge]
   clear x ak
   go_wp2_with fail
   refine(tD N w h0 hlen).mono ?_;rintro e w1 ⟨j,rfl,H,U⟩;obtain⟨B,A⟩:=exq w.heap.size;rw[<-A]at H⊢;have u:=aa A;have P:=aa H;have K:=aa U;clear H U A
   go_wp2_with fail
   go_loopw [6,27] (fun s i wr=>∃(k M:Nat) (p1:Option Addr) (j:Nat),k<=ps.length/\i=.int .i64 k/\s=.slice p1 M j/\Hid (M=(ps.take k).flatten.length)/\M<=N/\wr.ownsRow B 5 1 (.slice p1 M j) M (ao .u8 (ps.take k).flatten)/\az w wr) (fun _ i _=>ps.length - (Ef i).toNat);case atStart=>exact⟨0,0,_,j,DZ _,rfl,rfl,rfl,DZ _,P,K⟩
   case round=>
    obtain⟨k,M,p1,j,hk,rfl,rfl,L,aC,X,S⟩:=hrel;have O:=aa X;have g:=aa S;clear X S P K;by_cases G:k < ps.length
    ·obtain⟨b,o,I,am,E⟩:∃b o,p=some ⟨b,o,none⟩/\b < wr.heap.size/\wr.cell? ⟨b,o+k,none⟩=some (vs.getD k undef):=by
      rcases Q.ext g with ⟨h1,h2,z⟩ | ⟨b,o,c',h1,h2,z,l⟩
      ·omega
      ·cases h1;refine⟨b,o,rfl,bP l (fun q=>by have:=t.out;rw[q]at this;simp at this;omega),l k _ ?_⟩;rw[DJ,DL (by rw[t.out];exact G)];rfl
     subst I;have f:=ky ps k G;have a:=R k G;obtain⟨d,n⟩:=exq (ps.getD k []);rw[<-n]at f a;obtain⟨pk,ck,r,ar,an⟩:=a.form;rw[r]at E a;have W:=a.ext g;have ae:=aa W;have m:Hid (M+d.length=(ps.take (k+1)).flatten.length):=by show _=_;rw[f,DS,L.out]
     have hle:M+d.length<=N:=by rw[m.out,y.out];exact jR ps (k+1)
     have af:=aa f;clear f a W r n
     go_wp2_with (with_reducible refine ax ?_)
     refine au ?_;refine aZ aO O ae rfl rfl (by simp) (aF _ _) (by unfold DV;omega) (by omega) (by rw[u.out];exact g.size) ?_;intro q3 d3 w2 Y ap C aj aE aD;have ag:=aa Y;have ad:Hid (az w w2):=aa (Ei g (by rw[u.out]at C;exact C));clear Y ap C aj
     go_wp2_with fail
     go_roundw;case rel=>refine⟨k+1,M+d.length,q3,d3,by omega,by go_num,rfl,m,hle,?_,ad⟩;rw[af.out,aT];exact ag
     case measure=>simp[Ef];omega
    ·obtain rfl:k=ps.length:=by omega
     go_wp2_with fail
     go_ret;have h:=O.out;have V:=L.out;rw[Ge]at h V;rw[V]at h⊢;exact⟨_,rfl,by rw[<-u.out];exact h,g⟩
theorem iX (v:DG) (ps:List (List Int)) (w:DF) (c:bf w v ps) (h0:0 < ps.flatten.length) (hlen:ps.flatten.length<=1099511627776):
  DN DE 100 #[v] w fun e w'=>∃a,e=.returned a/\Rd w' .u8 a ps.flatten/\az w w':=
 (kB v ps w c h0 hlen).mono fun _ _ ⟨a,h1,h2,b⟩=>⟨a,h1,bh.AS h2,b⟩
theorem tE (v:DG) (l:List Int) (w:DF) (a:Rd w .u8 v l) (hlen:l.length<=1099511627000):
  DN DE 90 #[v] w fun e w'=>∃g,e=.returned g/\w'.ownsRow w.heap.size 5 1 g (l.length+1) (ao .u8 (0 :: l))/\az w w':=by
 obtain⟨p,c,r,y,x⟩:=a.form;subst r;have m:=aa (a.ext (ae w (.cells #[.int .u8 0] 5)));have j:=aa (bW w 5 #[.int .u8 0] w.heap.size 1 1 (DH _) (by decide) rfl);clear a;go_enter Tryz.func90,Tryz.ntmps90
 go_wp2_with (with_reducible refine ax ?_)
 refine au ?_;refine aZ aO j m rfl rfl (by simp) (aF _ _) (by unfold DV;omega) (by omega) (by simp) ?_;intro q d s f o b n u t;have k:=aa f;have i:Hid (az w s):=aa (Ei (ae w _) b);clear f o b n
 go_wp2_with fail
 go_ret;refine⟨_,rfl,?_,i⟩;have h:=k.out;rw[Nat.add_comm l.length 1];exact h
theorem tF (v:DG) (l:List Int) (w:DF) (c:Rd w .u8 v l) (hlen:l.length<=1099511627000):
  DN DE 90 #[v] w fun e w'=>∃a,e=.returned a/\Rd w' .u8 a (0 :: l)/\az w w':=
 (tE v l w c hlen).mono fun _ _ ⟨a,h1,h2,b⟩=>⟨a,h1,bh.AS h2,b⟩
structure dX (w:DF):Prop where
 s:fO w
 CY:∀i,i < 64->w.cell? ⟨9,i,none⟩=some (.int .u32 (kt.getD i 0))
 CT:∀i,i < 8->w.cell? ⟨8,i,none⟩=some (.int .u32 (iv.getD i 0))
theorem dX.ext {w w':DF} (h:dX w) (a:az w w'):dX w':=by
 have c:=DM w _ (h.CY 0 (by decide));have d:=DM w _ (h.CT 0 (by decide));exact⟨h.s.ext a,fun i b=>((aD a).1 _ _ c).trans (h.CY i b),fun i b=>((aD a).1 _ _ d).trans (h.CT i b)⟩
instance zO (w:DF):Coe (dX w) (fO w):=⟨dX.s⟩
def aM (x:Int):List Int:=[x / 72057594037927936 % 256,x / 281474976710656 % 256,x / 1099511627776 % 256,x / 4294967296 % 256,x / 16777216 % 256,x / 65536 % 256,x / 256 % 256,x % 256]
def bN (x:Int):List Int:=[x / 256 % 256,x % 256]
theorem av.AS {w:DF} {base e s n c:Nat} {xs:List DG} (h:w.ownsRow base e s (.slice (some ⟨g,0,none⟩) n c) n xs) (f:xs≠[]):av w g xs:=by
 rcases Pk.AS h with ⟨h1,_,_⟩ | ⟨i,cap,h1,_,hp⟩
 ·cases h1
 ·injection h1 with a _ b;injection a with a;injection a with a;subst a b;exact⟨hp.rg,fun j d=>hp.th j (by rw[hp.len]at d;have:=Nat.mul_le_mul_right s hp.le;omega),f⟩
def A9 (x:Int) (k:Nat):List Int:=List.replicate (8 - k) 0++(aM x).drop (8 - k)
theorem av.DA {w:DF} {l:List Int} (h:av w g (ao .u8 l)) (a:l.length=8):dC w (.slice (some ⟨g,0,none⟩) 8 8) l:=by
 refine⟨some ⟨g,0,none⟩,8,by rw[a],.inr ⟨g,0,8,by rw[a],by rw[a];exact DH _,by decide,h.rg⟩⟩
theorem ly (x:Int) (w:DF) (h0:0<=x) (h1:x<=65535):
  DN DE 102 #[.int .i64 x] w fun e w'=>∃v,e=.returned v/\dC w' v (bN x)/\az w w':=by
 go_enter Tryz.func102,Tryz.ntmps102
 go_wp2_with fail
 go_ret;refine⟨_,rfl,⟨_,_,rfl,?_⟩,ae _ _⟩;have h:=nS w 5 .u8 (bN x) (show 2<=DV by decide);have e:x / 256 % 256=x / 256:=by omega
 unfold bN at h⊢;rw[e]at h⊢;exact h
theorem vI (x:Int) (w:DF) (h0:0<=x) (h1:x<=65535):
  DN DE 105 #[.int .i64 x] w fun e w'=>∃v,e=.returned v/\dC w' v (bN x)/\az w w':=by
 go_enter Tryz.func105,Tryz.ntmps105
 go_wp2_with fail
 go_ret;refine⟨_,rfl,⟨_,_,rfl,?_⟩,ae _ _⟩;have h:=nS w 5 .u8 (bN x) (show 2<=DV by decide);have e:x / 256 % 256=x / 256:=by omega
 unfold bN at h⊢;rw[e]at h⊢;exact h
theorem lU (x:Int) (w:DF) (h0:0<=x) (h1:x<=1099511627776):
  DN DE 101 #[.int .i64 x] w fun e w'=>∃v,e=.returned v/\dC w' v (aM x)/\az w w':=by
 go_enter Tryz.func101,Tryz.ntmps101
 go_wp2_with fail
 go_loopw [3,4] (fun o i wr=>∃(k:Nat) (p:Option Addr) (c:Nat),k<=8/\i=.int .i64 (7 - k)/\o=.slice p k c/\wr.ownsRow w.heap.size 5 1 (.slice p k c) k (ao .u8 ((aM x).take k))/\az w wr) (fun _ i _=>(Ef i+1).toNat);case atStart=>exact⟨0,none,0,by omega,rfl,rfl,⟨rfl,.inl ⟨rfl,rfl⟩⟩,DI _ _⟩
 case round=>
  obtain⟨k,p,c,z,rfl,rfl,l,g⟩:=hrel;have d:=aa l;have a:=aa g;clear l g;by_cases j:k=8
  ·subst j
   go_wp2_with fail
   go_ret;exact⟨_,rfl,⟨p,c,rfl,bh.AS d⟩,a⟩
  ·have u:k=0\/k=1\/k=2\/k=3\/k=4\/k=5\/k=6\/k=7:=by omega
   clear z j;rcases u with rfl | rfl | rfl | rfl | rfl | rfl | rfl | rfl
   all_goals
    go_wp2_with (with_reducible refine ax ?_)
    refine au ?_;refine aZ aO (aR d (ae _ _)) (fe wr 5 .u8 _) rfl rfl rfl (aF _ _) (by decide) (by decide) (Nat.le_trans a.size (ae _ _).size) ?_;intro p2 q A b y f t C B;rw[<-aT]at b;have n:=aa b;have m:Hid (az w A):=aa (Ei (a.trans (ae _ _)) f);clear b y f t
    go_wp2_with fail
    go_roundw
    case rel=>exact⟨_,p2,q,by decide,by first | rfl | go_num,rfl,by
     have h:=n.out;simp only[aM,List.take_succ_cons,List.take_zero,List.nil_append,List.cons_append]at h⊢
     first | exact h | (
       have e:x / 72057594037927936 % 256=x / 72057594037927936:=by omega
       have r:x / 281474976710656 % 256=x / 281474976710656:=by omega
       have s:x / 1099511627776 % 256=x / 1099511627776:=by omega
       simp only[e,r,s]at h⊢
       exact h),m⟩
    case measure=>simp[Ef]
theorem bQ (x:Int) (w:DF) (h0:0<=x) (h1:x<=1099511627776):
  DN DE 104 #[.int .i64 x] w fun e w'=>∃v,e=.returned v/\dC w' v (aM x)/\az w w':=by
 obtain⟨B,p,o,m,A⟩:=kn (P:=DE) aO 8 (by decide) (by decide) w;have q:=aa (av.AS o (fun h=>by cases h));have r:=aa m;have z:(Instr.makeSlice 27 (.int .i64 8) (.int .i64 8)).run DE w=.ok (.slice (some ⟨w.heap.size,0,none⟩) 8 8) B:=p;clear p o m A;go_enter Tryz.func104,Tryz.ntmps104
 go_wp2_with fail
 clear z;go_loopw [4,5] (fun u i wr=>∃(k:Nat) (y:Int),k<=8/\u=.int .u64 y/\Hid (y=x / 256^k)/\0<=y/\y<=1099511627776/\i=.int .i64 (7 - k)/\Hid (av wr w.heap.size (ao .u8 (A9 x k)))/\az w wr) (fun _ i _=>(Ef i+1).toNat);case atStart=>exact⟨0,x,by omega,rfl,aa (by simp),h0,h1,rfl,q,r⟩
 case round=>
  obtain⟨k,y,t,rfl,f,C,D,rfl,a,l⟩:=hrel;have d:=aa l;clear l;by_cases n:k=8
  ·subst n
   go_wp2_with fail
   go_ret;exact⟨_,rfl,av.DA a rfl,d⟩
  ·have s:k=0\/k=1\/k=2\/k=3\/k=4\/k=5\/k=6\/k=7:=by omega
   clear t n;rcases s with rfl | rfl | rfl | rfl | rfl | rfl | rfl | rfl
   ·have j:wr.cell? ⟨w.heap.size,7,none⟩=some (.int .u8 0):=a.cell (i:=7) rfl;have g:=a.fz (i:=7) (show 7 < 8 by decide);have c:=aa (a.put (i:=7) (show 7 < 8 by decide) (.int .u8 (y % 256)));have b:Hid (y=x / 1):=aa (by have:=f.out;simpa using this)
    go_wp2_with fail
    go_roundw;case rel=>
     refine⟨1,y / 256,by decide,rfl,aa (by rw[b.out];show x / 1 / 256=x / 256;omega),by omega,by omega,by first | rfl | go_num,aa ?_,FC d (DH _) _⟩;have h:=c.out;rw[dA]at h;have e:=b.out;subst e;try rw[GY]at h⊢
     exact h
    case measure=>simp[Ef]
   ·have j:wr.cell? ⟨w.heap.size,6,none⟩=some (.int .u8 0):=a.cell (i:=6) rfl;have g:=a.fz (i:=6) (show 6 < 8 by decide);have c:=aa (a.put (i:=6) (show 6 < 8 by decide) (.int .u8 (y % 256)));have b:Hid (y=x / 256):=aa (by have:=f.out;simpa using this)
    go_wp2_with fail
    go_roundw;case rel=>
     refine⟨2,y / 256,by decide,rfl,aa (by rw[b.out];show x / 256 / 256=x / 65536;omega),by omega,by omega,by first | rfl | go_num,aa ?_,FC d (DH _) _⟩;have h:=c.out;rw[dA]at h;have e:=b.out;subst e;try rw[GY]at h⊢
     exact h
    case measure=>simp[Ef]
   ·have j:wr.cell? ⟨w.heap.size,5,none⟩=some (.int .u8 0):=a.cell (i:=5) rfl;have g:=a.fz (i:=5) (show 5 < 8 by decide);have c:=aa (a.put (i:=5) (show 5 < 8 by decide) (.int .u8 (y % 256)));have b:Hid (y=x / 65536):=aa (by have:=f.out;simpa using this)
    go_wp2_with fail
    go_roundw;case rel=>
     refine⟨3,y / 256,by decide,rfl,aa (by rw[b.out];show x / 65536 / 256=x / 16777216;omega),by omega,by omega,by first | rfl | go_num,aa ?_,FC d (DH _) _⟩;have h:=c.out;rw[dA]at h;have e:=b.out;subst e;try rw[GY]at h⊢
     exact h
    case measure=>simp[Ef]
   ·have j:wr.cell? ⟨w.heap.size,4,none⟩=some (.int .u8 0):=a.cell (i:=4) rfl;have g:=a.fz (i:=4) (show 4 < 8 by decide);have c:=aa (a.put (i:=4) (show 4 < 8 by decide) (.int .u8 (y % 256)));have b:Hid (y=x / 16777216):=aa (by have:=f.out;simpa using this)
    go_wp2_with fail
    go_roundw;case rel=>
     refine⟨4,y / 256,by decide,rfl,aa (by rw[b.out];show x / 16777216 / 256=x / 4294967296;omega),by omega,by omega,by first | rfl | go_num,aa ?_,FC d (DH _) _⟩;have h:=c.out;rw[dA]at h;have e:=b.out;subst e;try rw[GY]at h⊢
     exact h
    case measure=>simp[Ef]
   ·have j:wr.cell? ⟨w.heap.size,3,none⟩=some (.int .u8 0):=a.cell (i:=3) rfl;have g:=a.fz (i:=3) (show 3 < 8 by decide);have c:=aa (a.put (i:=3) (show 3 < 8 by decide) (.int .u8 (y % 256)));have b:Hid (y=x / 4294967296):=aa (by have:=f.out;simpa using this)
    go_wp2_with fail
    go_roundw;case rel=>
     refine⟨5,y / 256,by decide,rfl,aa (by rw[b.out];show x / 4294967296 / 256=x / 1099511627776;omega),by omega,by omega,by first | rfl | go_num,aa ?_,FC d (DH _) _⟩;have h:=c.out;rw[dA]at h;have e:=b.out;subst e;try rw[GY]at h⊢
     exact h
    case measure=>simp[Ef]
   ·have j:wr.cell? ⟨w.heap.size,2,none⟩=some (.int .u8 0):=a.cell (i:=2) rfl;have g:=a.fz (i:=2) (show 2 < 8 by decide);have c:=aa (a.put (i:=2) (show 2 < 8 by decide) (.int .u8 (y % 256)));have b:Hid (y=x / 1099511627776):=aa (by have:=f.out;simpa using this)
    go_wp2_with fail
    go_roundw;case rel=>
     refine⟨6,y / 256,by decide,rfl,aa (by rw[b.out];show x / 1099511627776 / 256=x / 281474976710656;omega),by omega,by omega,by first | rfl | go_num,aa ?_,FC d (DH _) _⟩;have h:=c.out;rw[dA]at h;have e:=b.out;subst e;try rw[GY]at h⊢
     exact h
    case measure=>simp[Ef]
   ·have j:wr.cell? ⟨w.heap.size,1,none⟩=some (.int .u8 0):=a.cell (i:=1) rfl;have g:=a.fz (i:=1) (show 1 < 8 by decide);have c:=aa (a.put (i:=1) (show 1 < 8 by decide) (.int .u8 (y % 256)));have b:Hid (y=x / 281474976710656):=aa (by have:=f.out;simpa using this)
    go_wp2_with fail
    go_roundw;case rel=>
     refine⟨7,y / 256,by decide,rfl,aa (by rw[b.out];show x / 281474976710656 / 256=x / 72057594037927936;omega),by omega,by omega,by first | rfl | go_num,aa ?_,FC d (DH _) _⟩;have h:=c.out;rw[dA]at h;have e:=b.out;subst e;try rw[GY]at h⊢
     exact h
    case measure=>simp[Ef]
   ·have j:wr.cell? ⟨w.heap.size,0,none⟩=some (.int .u8 0):=a.cell (i:=0) rfl;have g:=a.fz (i:=0) (show 0 < 8 by decide);have c:=aa (a.put (i:=0) (show 0 < 8 by decide) (.int .u8 (y % 256)));have b:Hid (y=x / 72057594037927936):=aa (by have:=f.out;simpa using this)
    go_wp2_with fail
    go_roundw;case rel=>
     refine⟨8,y / 256,by decide,rfl,aa (by rw[b.out];show x / 72057594037927936 / 256=x / 18446744073709551616;omega),by omega,by omega,by first | rfl | go_num,aa ?_,FC d (DH _) _⟩;have h:=c.out;rw[dA]at h;have e:=b.out;subst e;try rw[GY]at h⊢
     exact h
    case measure=>simp[Ef]
theorem qZ (v:DG) (ds:List (List Int)) (w:DF) (u:eY w v ds) (j:dm ds) (hn:ds.length<=1048576):
  DN DE 103 #[v] w fun e w'=>∃L,e=.returned L/\Rd w' .u8 L ds.flatten/\az w w':=by
 obtain⟨p,c,ai,aj,av⟩:=u.form;subst ai;have N:=aa u;have s:=aa j;obtain⟨n,y⟩:=exq ds.length;rw[<-y]at hn aj⊢;have g:=aa y;clear u j y;go_enter Tryz.func103,Tryz.ntmps103
 go_wp2_with fail
 go_loopw [3,8] (fun o i wr=>∃(k t:Nat) (p1:Option Addr),k<=n/\i=.int .i64 k/\o=.slice p1 (k*32) t/\wr.ownsRow w.heap.size 5 1 (.slice p1 (k*32) t) (k*32) (ao .u8 (ds.take k).flatten)/\az w wr) (fun _ i _=>n - (Ef i).toNat);case atStart=>exact⟨0,0,none,DZ _,rfl,rfl,⟨rfl,.inl ⟨rfl,rfl⟩⟩,DI _ _⟩
 case round=>
  obtain⟨k,t,p1,hk,rfl,rfl,a,J⟩:=hrel;have E:=aa a;have q:=aa J;clear a J;by_cases x:k < n
  ·obtain⟨b,o,c',hp,ac,ad,Y,K⟩:=eY.pos (bh.ext N q) s (by rw[<-g.out];omega);injection hp with hp af ah;clear af ah;subst hp;have A:=dW K s (i:=k) (by rw[<-g.out];exact x);obtain⟨m,_⟩:=s.get (i:=k) (by rw[<-g.out];exact x);have G:=aa (jt ds k (by rw[<-g.out];exact x));obtain⟨d,j⟩:=exq (ds.getD k []);rw[<-j]at A m G;have D:=aa (bC (P:=DE) (ty:=54) A Tryz.underlying54 (by kernel_rfl) m);have f:=aa m;clear A m j ac ad K Y
   go_wp2_with (with_reducible refine aA (ty:=54) ?_)
   refine au ?_;refine ak rfl D ?_;have r:=aa (dq wr 32 .u8 54 zA rfl);have F:=aa (bu (P:=DE) (ty:=54) (k:=.u8) (l:=d) (n:=32) r.there (by kernel_rfl) f);have C:Hid (az wr ((wr.alloc (.cells zA 54)).setCells wr.heap.size 0 (ao .u8 d))):=aa (aE _ _ _ _ (ae _ _) (DH _));have V:Hid (((wr.alloc (.cells zA 54)).setCells wr.heap.size 0 (ao .u8 d)).rangeAt wr.heap.size 0 (ao .u8 d)):=aa (World.rangeAt_setCells_same _ _ _ _ (by rw[ints_length,f.out];exact r.there))
   go_wp2_with (with_reducible refine aC (ty:=54) ?_)
   refine au ?_;refine ag rfl rfl F ?_;generalize X:(wr.alloc (.cells zA 54)).setCells wr.heap.size 0 (ao .u8 d)=W6 at*;clear X F r D;generalize wr.heap.size=s7 at*;have S:=aa (aR E C);have Q:Hid (Rd W6 .u8 (.slice (some ⟨s7,0,none⟩) 32 32) d):=aa (n6 V f (by decide));have B:=aa (q.trans C)
   go_wp2_with (with_reducible refine ax ?_)
   refine au ?_;have R:Hid (bh W6 (.slice (some ⟨s7,0,none⟩) 32 32) 32 (ao .u8 d)):=aa (by have h:=Q.out;unfold Rd at h;rw[f.out]at h;exact h);refine aZ aO S R rfl rfl (by rw[ints_length,f.out]) (aF _ _) (by unfold DV;omega) (by omega) B.size ?_;intro q3 d3 w3 z Z I W ar ap;have H:k*32+32=(k+1)*32:=by omega
   rw[H]at z⊢;have T:=aa z;have M:Hid (az w w3):=aa (Ei B I);clear z Z I W H
   go_wp2_with fail
   go_roundw;case rel=>refine⟨k+1,d3,q3,by omega,by go_num,rfl,?_,M⟩;rw[G.out,List.flatten_append,List.flatten_singleton,aT];exact T
   case measure=>simp[Ef];omega
  ·obtain rfl:k=n:=by omega
   have a:=E.out;rw[List.take_of_length_le (by rw[<-g.out];exact DH _)]at a;have U:=aa (bh.AS a)
   have O:Hid (ds.flatten.length=k*32):=aa (by
    have h:=a.1
    rw[ints_length]at h;omega)
   clear a
   go_wp2_with fail
   go_ret;exact⟨_,rfl,by show bh _ _ ds.flatten.length _;rw[O.out];exact U,q⟩
end Go.Proofs.Bl
