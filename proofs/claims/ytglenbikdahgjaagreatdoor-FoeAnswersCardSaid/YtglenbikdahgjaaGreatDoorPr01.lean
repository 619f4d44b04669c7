/- Texts that stood apart, in one: ShaPlain, ShaEnd, Plain12, Tree, PathP, GrowP. -/
import Derived.Laws.Bits
import Derived.Lib.BitFns
import Derived.WalkLawsBesides
import Derived.WalkSpells
import Derived.Deep.RegionWith
import Derived.IntWalk
import Derived.Lib.SliceRun
import Derived.LoopNIn
import Derived.LoopIn
import Derived.Shelf.Abstract
import Derived.MapKept
import Derived.Carry
import Derived.ArgAppend
import Derived.Deep.Upon
import Derived.LaidSub
import Derived.MakeChecks
import Derived.Stop.LaidErr
import Derived.Laws.BitsLemmas
import Derived.Lib.AppendZerosOnto
import Derived.Laws.IdiomCopy
import Derived.Test.YtglenbikdahgjaaGreatDoorPr00
import Derived.Test.YtglenbikdahgjaaGreatDoorProg
import Derived.Test.YtglenbikdahgjaaGreatDoorChecked
import Derived.Test.YtglenbikdahgjaaGreatDoorShelf
set_option maxRecDepth 100000
set_option maxHeartbeats 16000000
open Array renaming getElem?_eq_some_iff->EM
open Go renaming Calls->DN,IntKind->E6,Program->Ee,TypeId->Ec,Value->DG,World->DF,maxLen->DV,run_underlying->Gk,undef->EI,wpList->Fl
open Go.Addr renaming add_mid->Ft
open Go.Instr renaming lookup->GG
open Go.KeepsOthers renaming setCell->FG
open Go.Lib renaming bitLen->GL,run_eql_slice_nil->ES
open Go.MakeChecks renaming laidMetH_plain->Ii
open Go.MapKept renaming run_getObj_map->GW
open Go.Result renaming andThen->GO
open Go.RowKit.Below renaming refl->DI
open Go.Value renaming int->Ej,okWide->H9
open Go.World renaming cell?_alloc_new->D6,cell?_of_block->EH,frozen?_of_block->GV,rangeAt_setCells_same->Eb
open List renaming append_assoc->Em,finRange->F5,flatten_append->Ik,getD_eq_getElem?_getD->DJ,getElem?_append_left->FU,getElem?_eq_getElem->DL,length_append->DS,length_cons->Eu,length_drop->DR,length_eq_zero_iff->Ed,length_nil->EK,length_take->DX,mem_cons->Es,mem_map->F6,nil_append->EG,range->Eh,replicate->D7,take_add_one->G5,take_append_drop->Fs,take_of_length_le->DW,take_succ_eq_append_getElem->E1
open Nat renaming add_assoc->FX,add_sub_cancel->Ix,le_refl->DH,le_trans->D0,lt_of_lt_of_le->D9,mul_le_mul_right->Fq,one_le_two_pow->GU,pow_succ->GF,strongRecOn->Iw,zero_add->DY,zero_le->DZ
open Option.some renaming inj->Fk
namespace Go.Proofs.Bl
open Go Go.RowKit Go.Proofs
open Go.Proofs.Tryz renaming prog->DE,underlying27->Fy,underlying5->Gy,underlying9->Gd
variable {n base m B k:Nat} {i x:Int}
def xr (a b:Int):Int:=bits .xor .u32 a b
def an (a b:Int):Int:=bits .and .u32 a b
def Cb (a b:Int):Int:=bits .or .u32 a b
def ad (a b:Int):Int:=(a+b) % 4294967296
def oI (n:Nat) (x:Int):Int:=bits .or .u32 (x*2^(32 - n) % 4294967296) (x / 2^n)
theorem nY (a b:Int):bits .or .u32 a b=bits .or .u32 b a:=by
 simp only[bits,BitVec.or_comm]
def zY (a b c:Nat) (x:Int):Int:=xr (xr (oI a x) (oI b x)) (oI c x)
def yH (a b c:Nat) (x:Int):Int:=xr (xr (oI a x) (oI b x)) (x / 2^c)
def xC (acc c:Int):Int:=bits .or .u32 (acc*256 % 4294967296) c
def qM (b:List Int) (t:Nat):Int:=((b.drop (4*t)).take 4).foldl xC 0
def kp (b:List Int) (t j:Nat):Int:=((b.drop (4*t)).take j).foldl xC 0
theorem mZ (b:List Int) (t:Nat):kp b t 0=0:=by simp[kp]
theorem na (b:List Int) (t:Nat):kp b t 4=qM b t:=rfl
theorem gj (b:List Int) (t j:Nat) (h:4*t+j < b.length):kp b t (j+1)=xC (kp b t j) (b.getD (4*t+j) 0):=by
 unfold kp;rw[E1 (by simp;omega),List.foldl_append];simp[DJ,DL h]
def sq (b:List Int) (n:Nat) (l:List Int):Int:=
 if n < 16 then qM b n else ad (ad (ad (yH 17 19 10 (l.getD (n - 2) 0)) (l.getD (n - 7) 0)) (yH 7 18 3 (l.getD (n - 15) 0))) (l.getD (n - 16) 0)
def Cl (b:List Int):Nat->List Int
 | 0=>[]
 | n+1=>Cl b n++[sq b n (Cl b n)]
@[simp] theorem wl_length (b:List Int) (n:Nat):(Cl b n).length=n:=by induction n<;>simp_all [Cl]
def Cm (b:List Int) (i:Nat):Int:=sq b i (Cl b i)
theorem jM (b:List Int) (n i:Nat) (h:i < n):(Cl b n).getD i 0=Cm b i:=by
 induction n with
 | zero=>omega
 | succ n ih=>
  by_cases e:i=n
  ·subst e;rw[DJ];simp[Cl,Cm]
  ·have:=ih (by omega);rw[DJ]at this⊢;simp only[Cl];rw[FU (by simp;omega)];exact this
theorem zZ (b:List Int) (n:Nat):Cl b n=(Eh n).map (Cm b):=by
 induction n with
 | zero=>rfl
 | succ n ih=>rw[List.range_succ,List.map_append,<-ih];rfl
theorem yI (b:List Int) (i:Nat) (h:i < 16):Cm b i=qM b i:=by simp[Cm,sq,h]
theorem yJ (b:List Int) (i:Nat) (h:16<=i):Cm b i=ad (ad (ad (yH 17 19 10 (Cm b (i - 2))) (Cm b (i - 7))) (yH 7 18 3 (Cm b (i - 15)))) (Cm b (i - 16)):=by
 conv=>lhs;unfold Cm sq
 rw[if_neg (by omega),jM b i (i - 2) (by omega),jM b i (i - 7) (by omega),jM b i (i - 15) (by omega),jM b i (i - 16) (by omega)]
def kt:List Int:=[1116352408,1899447441,3049323471,3921009573,961987163,1508970993,2453635748,2870763221,3624381080,310598401,607225278,1426881987,1925078388,2162078206,2614888103,3248222580,3835390401,4022224774,264347078,604807628,770255983,1249150122,1555081692,1996064986,2554220882,2821834349,2952996808,3210313671,3336571891,3584528711,113926993,338241895,666307205,773529912,1294757372,1396182291,1695183700,1986661051,2177026350,2456956037,2730485921,2820302411,3259730800,3345764771,3516065817,3600352804,4094571909,275423344,430227734,506948616,659060556,883997877,958139571,1322822218,1537002063,1747873779,1955562222,2024104815,2227730452,2361852424,2428436474,2756734187,3204031479,3329325298]
def iv:List Int:=[1779033703,3144134277,1013904242,2773480762,1359893119,2600822924,528734635,1541459225]
structure St where
 a:Int
 b:Int
 c:Int
 d:Int
 e:Int
 f:Int
 g:Int
 h:Int
def St.l (s:St):List Int:=[s.a,s.b,s.c,s.d,s.e,s.f,s.g,s.h]
def fT:St:=⟨1779033703,3144134277,1013904242,2773480762,1359893119,2600822924,528734635,1541459225⟩
def Bf (s:St) (k w:Int):Int:=s.h+zY 6 11 25 s.e+bits .xor .u32 (bits .and .u32 s.e s.f) (bits .and .u32 (bits .xor .u32 IntKind.u32.max s.e) s.g)+k+w
def BE (s:St):Int:=zY 2 13 22 s.a+bits .xor .u32 (bits .xor .u32 (bits .and .u32 s.a s.b) (bits .and .u32 s.a s.c)) (bits .and .u32 s.b s.c)
def zN (s:St) (k w:Int):St:=⟨(Bf s k w+BE s) % 4294967296,s.a,s.b,s.c,(s.d+Bf s k w) % 4294967296,s.e,s.f,s.g⟩
def qN (s:St) (ws:List Int):Nat->St
 | 0=>s
 | t+1=>zN (qN s ws t) (kt.getD t 0) (ws.getD t 0)
def AV (s z:St):St:=⟨(s.a+z.a) % 4294967296,(s.b+z.b) % 4294967296,(s.c+z.c) % 4294967296,(s.d+z.d) % 4294967296,(s.e+z.e) % 4294967296,(s.f+z.f) % 4294967296,(s.g+z.g) % 4294967296,(s.h+z.h) % 4294967296⟩
def dh (s:St) (blk:List Int):St:=AV (qN s (Cl blk 64) 64) s
abbrev St.val (s:St):DG:=.agg #[.int .u32 s.a,.int .u32 s.b,.int .u32 s.c,.int .u32 s.d,.int .u32 s.e,.int .u32 s.f,.int .u32 s.g,.int .u32 s.h]
theorem xD (s z:St) (i:Nat) (h:i < 8):(AV s z).l.getD i 0=(s.l.getD i 0+z.l.getD i 0) % 4294967296:=by
 match i,h with
 | 0,_=>rfl
 | 1,_=>rfl
 | 2,_=>rfl
 | 3,_=>rfl
 | 4,_=>rfl
 | 5,_=>rfl
 | 6,_=>rfl
 | 7,_=>rfl
def nZ:Nat->St->List Int->St × List Int
 | 0,z,l=>(z,l)
 | f+1,z,l=>if 64<=l.length then nZ f (dh z (l.take 64)) (l.drop 64)else(z,l)
theorem ng:∀(f g:Nat) (z:St) (l:List Int),l.length<=f->l.length<=g->nZ f z l=nZ g z l
 | 0,0,_,_,_,_=>rfl
 | 0,g+1,z,l,h,_=>by simp only[nZ];rw[if_neg (by omega)]
 | f+1,0,z,l,_,h=>by simp only[nZ];rw[if_neg (by omega)]
 | f+1,g+1,z,l,h,k=>by
  simp only[nZ];split
  ·exact ng f g _ _ (by rw[DR];omega) (by rw[DR];omega)
  ·rfl
def jN (z:St) (l:List Int):St × List Int:=nZ l.length z l
theorem iy (z:St) (l:List Int) (h:l.length < 64):jN z l=(z,l):=by
 unfold jN;cases hl:l.length with
 | zero=>rfl
 | succ n=>simp only[nZ];rw[if_neg (by omega)]
theorem jr (z:St) (l:List Int) (h:64<=l.length):jN z l=jN (dh z (l.take 64)) (l.drop 64):=by
 unfold jN;cases hl:l.length with
 | zero=>omega
 | succ n=>simp only[nZ];rw[if_pos (by omega)];exact ng _ _ _ _ (by rw[DR];omega) (DH _)
theorem lJ (b:List Int):∀(n:Nat) (z:St) (a:List Int),a.length<=n->jN z (a++b)=jN (jN z a).1 ((jN z a).2++b):=by
 intro n;induction n with
 | zero=>intro z a h;rw[iy z a (by omega)]
 | succ n ih=>
  intro z a h;by_cases c:64<=a.length
  ·rw[jr z a c,jr z (a++b) (by rw[DS];omega),List.take_append_of_le_length c,List.drop_append_of_le_length c];exact ih _ _ (by rw[DR];omega)
  ·rw[iy z a (by omega)]
theorem oS:∀(n:Nat) (z:St) (l:List Int),l.length<=n->(jN z l).2.length < 64/\∀x∈(jN z l).2,x∈l:=by
 intro n;induction n with
 | zero=>intro z l h;rw[iy z l (by omega)];exact⟨by show l.length < 64;omega,fun x hx=>hx⟩
 | succ n ih=>
  intro z l h;by_cases c:64<=l.length
  ·rw[jr z l c];obtain⟨a,b⟩:=ih (dh z (l.take 64)) (l.drop 64) (by rw[DR];omega);exact⟨a,fun x hx=>List.mem_of_mem_drop (b x hx)⟩
  ·rw[iy z l (by omega)];exact⟨by show l.length < 64;omega,fun x hx=>hx⟩
def dF (n:Nat):Nat:=(119 - n % 64) % 64
def js (n:Nat):List Int:=(Eh 8).map fun k=>((n*8 / 2^(56 - 8*k) % 256:Nat):Int)
@[simp] theorem lenb_length (n:Nat):(js n).length=8:=by simp[js]
theorem nh (n j:Nat) (h:j < 8):(js n).take (j+1)=(js n).take j++[(n:Int)*8 / 2^(56 - 8*j) % 256]:=by
 rw[G5,DL (by simpa using h)];simp[js]
def lj (l:List Int) (n:Nat):List Int:=l++128 :: D7 (dF l.length) 0++js n
theorem oT (n:Nat):(n+1+dF n+8) % 64=0:=by unfold dF;omega
theorem uS (n:Nat):bA (js n):=fun x hx=>by
 obtain⟨k,_,rfl⟩:=F6.1 hx;have:=Nat.mod_lt (n*8 / 2^(56 - 8*k)) (show 0 < 256 by decide);omega
theorem xE (k:Nat):bA (D7 k 0):=fun x hx=>by have:=List.eq_of_mem_replicate hx;omega
theorem sr {l:List Int} (n:Nat) (h:bA l):bA (lj l n):=
 (h.append (fun x hx=>by
  rcases Es.1 hx with rfl | hx
  ·decide
  ·exact xE _ x hx)).append (uS n)
def gK (x:Int):List Int:=[x / 16777216 % 256,x / 65536 % 256,x / 256 % 256,x % 256]
def St.bytes (s:St):List Int:=gK s.a++gK s.b++gK s.c++gK s.d++gK s.e++gK s.f++gK s.g++gK s.h
@[simp] theorem St.bytes_length (s:St):s.bytes.length=32:=rfl
def St.byte (s:St) (j:Nat):Int:=s.l.getD (j / 4) 0 / 2^(24 - 8*(j % 4)) % 256
theorem St.CJ (s:St) (j:Nat) (h:j < 32):s.bytes.getD j 0=s.byte j:=by
 have:j=0\/j=1\/j=2\/j=3\/j=4\/j=5\/j=6\/j=7\/j=8\/j=9\/j=10\/j=11\/j=12\/j=13\/j=14\/j=15\/j=16\/j=17\/j=18\/j=19\/j=20\/j=21\/j=22\/j=23\/j=24\/j=25\/j=26\/j=27\/j=28\/j=29\/j=30\/j=31:=by omega
 rcases this with rfl | rfl | rfl | rfl | rfl | rfl | rfl | rfl | rfl | rfl | rfl | rfl | rfl | rfl | rfl | rfl | rfl | rfl | rfl | rfl | rfl | rfl | rfl | rfl | rfl | rfl | rfl | rfl | rfl | rfl | rfl | rfl<;>simp[St.bytes,St.byte,St.l,gK]
theorem St.CK (s:St):(Eh 32).map (fun j=>if j < 4*8 then s.byte j else 0)=s.bytes:=by
 apply List.ext_getElem
 ·simp
 ·intro i h1 h2;have a:i < 32:=by simpa using h1
  have:=s.CJ i a;rw[DJ,DL h2]at this;simp only[Option.getD_some]at this;simp[this];omega
def iC (L:List Int) (z:St) (ks:List Nat):St:=ks.foldl (fun z k=>dh z ((L.drop (64*k)).take 64)) z
theorem n4 {α :Type} (f: α ->List Int-> α) (L:List Int) (m:Nat) (z: α):
  (Eh (m+1)).foldl (fun z k=>f z ((L.drop (64*k)).take 64)) z=(Eh m).foldl (fun z k=>f z (((L.drop 64).drop (64*k)).take 64)) (f z (L.take 64)):=by
 rw[List.range_succ_eq_map,List.foldl_cons,List.foldl_map];simp only[List.drop_drop,Nat.mul_zero,List.drop_zero];have:(fun(x: α) (y:Nat)=>f x (List.take 64 (List.drop (64*y.succ) L)))=fun z k=>f z (List.take 64 (List.drop (64+64*k) L)):=by funext z k;rw[show 64*(k+1)=64+64*k from by omega]
 rw[this]
theorem kN (m:Nat):∀(L:List Int) (z:St),L.length=64*m->iC L z (Eh m)=(jN z L).1:=by
 induction m with
 | zero=>intro L z h;rw[iy z L (by omega)];rfl
 | succ m ih=>intro L z h;rw[jr z L (by omega),<-ih (L.drop 64) (dh z (L.take 64)) (by rw[DR];omega)];exact n4 dh L m z
def oU (z:St) (l:List Int) (n:Nat):St:=(jN z (lj l n)).1
def gk:DG->Nat
 | .slice _ n _=>n
 | _=>0
theorem eM:∀(m:Nat),1<=m->m < 2^64->1<=GL m/\2^(GL m - 1)<=m/\m < 2^(GL m):=by
 intro m;induction m using Iw with
 | _ m ih=>
  intro h1 h2;rw[Lib.bitLen_half m (by omega) h2];by_cases h:m=1
  ·subst h;decide
  ·obtain⟨a,b,c⟩:=ih (m / 2) (by omega) (by omega) (by omega);generalize GL (m / 2)=q at a b c;obtain⟨q,rfl⟩:∃r,q=r+1:=⟨q - 1,by omega⟩;refine⟨by omega,?_,?_⟩
   ·rw[show 1+(q+1) - 1=q+1 from by omega,GF];simp only[Ix]at b;omega
   ·rw[show 1+(q+1)=(q+1)+1 from by omega,GF];omega
theorem kr (a b:Nat) (h:a<=b):2^a<=2^b:=Nat.pow_le_pow_right (by decide) h
theorem tj (m j:Nat) (h2:m < 2^64) (a:2^j<=m) (b:m < 2^(j+1)):GL m=j+1:=by
 have h1:1<=m:=D0 (GU) a;obtain⟨c,d,e⟩:=eM m h1 h2;generalize GL m=q at*;have f:¬q < j+1:=fun h=>by have:=kr q j (by omega);omega
 have g:¬j+1 < q:=fun h=>by have:=kr (j+1) (q - 1) (by omega);omega
 omega
def sp (n:Nat):Nat:=if n < 2 then 0 else 2^(GL (n - 1) - 1)
def dp (n:Nat):Nat:=if n < 2 then 0 else GL (n - 1)
theorem z6 (n:Nat) (h:n < 2):sp n=0:=by simp[sp,h]
theorem yK (n:Nat) (h:n < 2):dp n=0:=by simp[dp,h]
theorem lK (n:Nat) (h:2<=n) (a:n < 2^63):GL (n - 1)<=63:=by
 exact Lib.bitLen_le (n - 1) 63 (by decide) (by omega)
theorem bR (n:Nat) (h:2<=n) (d:n < 2^63):1<=sp n/\sp n < n/\n - sp n<=sp n:=by
 obtain⟨a,b,c⟩:=eM (n - 1) (by omega) (by omega);unfold sp;rw[if_neg (by omega)];generalize GL (n - 1)=q at*;obtain⟨q,rfl⟩:∃r,q=r+1:=⟨q - 1,by omega⟩;simp only[Ix,GF]at*;have:=GU (n:=q);omega
theorem ni (n j:Nat) (c:n < 2^63) (a:2^j < n) (b:n<=2^j*2):sp n=2^j:=by
 have:=GU (n:=j);unfold sp;rw[if_neg (by omega),tj (n - 1) j (by omega) (by omega) (by rw[GF];omega)];rfl
theorem uT (n:Nat) (h:2<=n):sp n=2^(dp n - 1):=by
 unfold sp dp;rw[if_neg (by omega),if_neg (by omega)]
theorem gm (n:Nat) (h:2<=n) (e:n < 2^63):1<=dp n/\dp n<=63/\2^(dp n - 1) < n/\n<=2^(dp n):=by
 obtain⟨a,b,c⟩:=eM (n - 1) (by omega) (by omega);have d:=lK n h e;unfold dp;rw[if_neg (by omega)];exact⟨a,d,by omega,by omega⟩
section
variable {D:Type} (nd:D->D->D) (z:D)
def jg:Nat->List D->D
 | 0,_=>z
 | f+1,l=>if l.length < 2 then l.headD z else nd (jg f (l.take (sp l.length))) (jg f (l.drop (sp l.length)))
def over (l:List D):D:=jg nd z l.length l
theorem fC:∀(f g:Nat) (l:List D),l.length<=f->l.length<=g->l.length < 2^63->jg nd z f l=jg nd z g l
 | 0,0,_,_,_,_=>rfl
 | 0,g+1,l,h,_,_=>by
  have:l=[]:=Ed.1 (by omega);subst this;simp[jg]
 | f+1,0,l,_,h,_=>by have:l=[]:=Ed.1 (by omega);subst this;simp[jg]
 | f+1,g+1,l,h,k,hn=>by
  simp only[jg];split
  ·rfl
  ·obtain⟨a,b,c⟩:=bR l.length (by omega) hn
   rw[fC f g (l.take (sp l.length)) (by rw[DX];omega) (by rw[DX];omega) (by rw[DX];omega),
    fC f g (l.drop (sp l.length)) (by rw[DR];omega) (by rw[DR];omega) (by rw[DR];omega)]
theorem uU:over nd z []=z:=rfl
theorem jO (d:D):over nd z [d]=d:=by simp[over,jg]
theorem jP (l:List D) (h:2<=l.length) (d:l.length < 2^63):over nd z l=nd (over nd z (l.take (sp l.length))) (over nd z (l.drop (sp l.length))):=by
 obtain⟨a,b,c⟩:=bR l.length h d;unfold over;rw[fC nd z l.length (l.length - 1+1) l (by omega) (by omega) d];simp only[jg];rw[if_neg (by omega)]
 rw[fC nd z (l.length - 1) (l.take (sp l.length)).length (l.take (sp l.length)) (by rw[DX];omega) (DH _) (by rw[DX];omega),
  fC nd z (l.length - 1) (l.drop (sp l.length)).length (l.drop (sp l.length)) (by rw[DR];omega) (DH _) (by rw[DR];omega)]
def up:List D->List D
 | a :: b :: r=>nd a b :: up r
 | l=>l
theorem gn:∀(l:List D),(up nd l).length=(l.length+1) / 2
 | []=>by simp[up]
 | [a]=>by simp[up]
 | a :: b :: r=>by simp only[up,Eu,gn r];omega
theorem nj:∀(k:Nat) (a b:List D),a.length=2*k->up nd (a++b)=up nd a++up nd b
 | 0,a,b,h=>by
  have:a=[]:=Ed.1 (by omega);subst this;simp[up]
 | k+1,[],b,h=>by simp at h
 | k+1,[x],b,h=>by simp at h;omega
 | k+1,x :: y :: r,b,h=>by simp only[List.cons_append,up];rw[nj k r b (by simp at h;omega)]
theorem xF:∀(n:Nat) (l:List D),l.length=n->l.length < 2^63->over nd z (up nd l)=over nd z l:=by
 intro n;induction n using Iw with
 | _ n ih=>
  intro l e d
  match l,e with
  | [],_=>simp[up]
  | [a],_=>simp[up]
  | [a,b],_=>
   rw[jP nd z [a,b] (by simp) (by simp)];have:sp 2=1:=by decide+kernel
   simp[up,this,jO]
  | a :: b :: c :: r,e=>
   obtain⟨l,g⟩:=exq (a :: b :: c :: r);rw[<-g]at e d⊢;have s:3<=l.length:=by rw[g];simp
   obtain⟨d1,d2,d3,d4⟩:=gm l.length (by omega) d;have f:=uT l.length (by omega)
   obtain⟨j,i⟩:∃j,dp l.length=j+2:=⟨dp l.length - 2,by
    have:dp l.length≠1:=fun q=>by rw[q]at d4;simp at d4;omega
    omega⟩
   rw[i]at d3 d4 f;simp only[show j+2 - 1=j+1 from rfl]at d3 f;obtain⟨s1,s2,v⟩:=bR l.length (by omega) d;have t:=gn nd l;have o:2^(j+1)=2*2^j:=by rw[GF];omega
   have p:2^(j+2)=4*2^j:=by rw[GF,GF];omega
   have hp:=GU (n:=j);have m:sp (up nd l).length=2^j:=ni _ j (by omega) (by omega) (by omega);rw[jP nd z l (by omega) d,jP nd z (up nd l) (by omega) (by omega),m,f];have k:l=l.take (2^(j+1))++l.drop (2^(j+1)):=(Fs _ _).symm;have h:(l.take (2^(j+1))).length=2*2^j:=by rw[DX];omega
   have hu:up nd l=up nd (l.take (2^(j+1)))++up nd (l.drop (2^(j+1))):=by
    conv=>lhs;rw[k]
    exact nj nd _ _ _ h
   have u:(up nd (l.take (2^(j+1)))).length=2^j:=by rw[gn,h];omega
   rw[hu,List.take_append_of_le_length (by omega),DW (by omega),List.drop_append_of_le_length (by omega),List.drop_of_length_le (by omega),EG];rw[ih _ (by omega) (l.take (2^(j+1))) rfl (by omega),ih _ (by rw[DR];omega) (l.drop (2^(j+1))) rfl (by rw[DR];omega)]
def gp (n:Nat):Nat:=sp (n+1)
def uV:Nat->List D->List D
 | 0,_=>[]
 | f+1,l=>if l.length=0 then []else over nd z (l.take (gp l.length)) :: uV f (l.drop (gp l.length))
def z7 (l:List D):List D:=uV nd z l.length l
def uW:Nat->Nat->Nat
 | 0,_=>0
 | f+1,n=>if n % 2=1 then uW f (n / 2)+1 else 0
def Bg (n:Nat):Nat:=uW n n
def Bh (t:Nat) (ps:List D) (d:D):List D:=ps.take (ps.length - t)++[(ps.drop (ps.length - t)).foldr nd d]
def Aa:List D->D
 | []=>z
 | [d]=>d
 | p :: r=>nd p (Aa r)
end
def fD:Nat->Nat->Nat->List (Bool × Nat × Nat)
 | 0,_,_=>[]
 | f+1,n,i=>if n < 2 then []else if i < sp n then(true,sp n,i) :: fD f (sp n) i else(false,n - sp n,i - sp n) :: fD f (n - sp n) (i - sp n)
def bU (n i:Nat):List (Bool × Nat × Nat):=fD n n i
theorem ec:∀(f g n i:Nat),n<=f->n<=g->n < 2^63->fD f n i=fD g n i
 | 0,0,_,_,_,_,_=>rfl
 | 0,g+1,n,i,h,_,_=>by simp only[fD];rw[if_pos (by omega)]
 | f+1,0,n,i,_,h,_=>by simp only[fD];rw[if_pos (by omega)]
 | f+1,g+1,n,i,h,k,hn=>by
  simp only[fD];split
  ·rfl
  ·obtain⟨a,b,c⟩:=bR n (by omega) hn;rw[ec f g (sp n) i (by omega) (by omega) (by omega),ec f g (n - sp n) (i - sp n) (by omega) (by omega) (by omega)]
theorem ed (n i:Nat) (h:n < 2):bU n i=[]:=by
 unfold bU;cases n with
 | zero=>rfl
 | succ n=>simp only[fD];rw[if_pos h]
theorem ee (n i:Nat) (h:2<=n) (d:n < 2^63) (e:i < sp n):bU n i=(true,sp n,i) :: bU (sp n) i:=by
 obtain⟨a,b,c⟩:=bR n h d;unfold bU;rw[ec n (n - 1+1) n i (by omega) (by omega) d];simp only[fD];rw[if_neg (by omega),if_pos e,ec (n - 1) (sp n) (sp n) i (by omega) (DH _) (by omega)]
theorem dR (n i:Nat) (h:2<=n) (d:n < 2^63) (e:¬i < sp n):bU n i=(false,n - sp n,i - sp n) :: bU (n - sp n) (i - sp n):=by
 obtain⟨a,b,c⟩:=bR n h d;unfold bU;rw[ec n (n - 1+1) n i (by omega) (by omega) d];simp only[fD];rw[if_neg (by omega),if_neg e,ec (n - 1) (n - sp n) (n - sp n) (i - sp n) (by omega) (DH _) (by omega)]
theorem eF:∀(m n i:Nat),n<=m->n < 2^63->(bU n i).length<=n
 | 0,n,i,h,_=>by rw[ed n i (by omega)];exact DZ _
 | m+1,n,i,h,hn=>by
  by_cases h2:2<=n
  ·obtain⟨a,b,c⟩:=bR n h2 hn;by_cases d:i < sp n
   ·rw[ee n i h2 hn d,Eu];have:=eF m (sp n) i (by omega) (by omega);omega
   ·rw[dR n i h2 hn d,Eu];have:=eF m (n - sp n) (i - sp n) (by omega) (by omega);omega
  ·rw[ed n i (by omega)];exact DZ _
def iD (n i:Int):Bool:=decide (n<=512)&&decide (0<=i)&&decide (i < n)
def BF (n i:Int):Int:=if iD n i=true then((bU n.toNat i.toNat).length:Int)else -1
theorem nk {n:Int} (h1:n<=512) (h2:0<=i) (a:i < n):iD n i=true:=by
 unfold iD;rw[decide_eq_true h1,decide_eq_true h2,decide_eq_true a];rfl
theorem iT {n:Int} (h:¬(n<=512/\0<=i/\i < n)):iD n i=false:=by
 cases hb:iD n i with
 | false=>rfl
 | true=>unfold iD at hb;simp only[Bool.and_eq_true,decide_eq_true_eq]at hb;exact absurd ⟨hb.1.1,hb.1.2,hb.2⟩ h
section
variable {D:Type} (nd:D->D->D) (z:D)
def iE:Nat->List D->Nat->List D
 | 0,_,_=>[]
 | f+1,l,i=>if l.length < 2 then []else if i < sp l.length then iE f (l.take (sp l.length)) i++[over nd z (l.drop (sp l.length))]else iE f (l.drop (sp l.length)) (i - sp l.length)++[over nd z (l.take (sp l.length))]
def dr (l:List D) (i:Nat):List D:=iE nd z l.length l i
theorem eG:∀(f g:Nat) (l:List D) (i:Nat),l.length<=f->l.length<=g->l.length < 2^63->iE nd z f l i=iE nd z g l i
 | 0,0,_,_,_,_,_=>rfl
 | 0,g+1,l,i,h,_,_=>by simp only[iE];rw[if_pos (by omega)]
 | f+1,0,l,i,_,h,_=>by simp only[iE];rw[if_pos (by omega)]
 | f+1,g+1,l,i,h,k,hn=>by
  simp only[iE];split
  ·rfl
  ·obtain⟨a,b,c⟩:=bR l.length (by omega) hn
   rw[eG f g (l.take (sp l.length)) i (by rw[DX];omega) (by rw[DX];omega) (by rw[DX];omega),
    eG f g (l.drop (sp l.length)) (i - sp l.length) (by rw[DR];omega) (by rw[DR];omega) (by rw[DR];omega)]
theorem gu (l:List D) (i:Nat) (h:l.length < 2):dr nd z l i=[]:=by
 unfold dr;cases hl:l.length with
 | zero=>rfl
 | succ n=>simp only[iE];rw[if_pos h]
theorem gL (l:List D) (i:Nat) (h:2<=l.length) (d:l.length < 2^63) (e:i < sp l.length):dr nd z l i=dr nd z (l.take (sp l.length)) i++[over nd z (l.drop (sp l.length))]:=by
 obtain⟨a,b,c⟩:=bR l.length h d;unfold dr;rw[eG nd z l.length (l.length - 1+1) l i (by omega) (by omega) d];simp only[iE];rw[if_neg (by omega),if_pos e,eG nd z (l.length - 1) (l.take (sp l.length)).length _ i (by rw[DX];omega) (DH _) (by rw[DX];omega)]
theorem fU (l:List D) (i:Nat) (h:2<=l.length) (d:l.length < 2^63) (e:¬i < sp l.length):dr nd z l i=dr nd z (l.drop (sp l.length)) (i - sp l.length)++[over nd z (l.take (sp l.length))]:=by
 obtain⟨a,b,c⟩:=bR l.length h d;unfold dr;rw[eG nd z l.length (l.length - 1+1) l i (by omega) (by omega) d];simp only[iE];rw[if_neg (by omega),if_neg e,eG nd z (l.length - 1) (l.drop (sp l.length)).length _ (i - sp l.length) (by rw[DR];omega) (DH _) (by rw[DR];omega)]
theorem gv:∀(m:Nat) (l:List D) (i:Nat),l.length<=m->l.length < 2^63->(dr nd z l i).length=(bU l.length i).length
 | 0,l,i,h,_=>by rw[gu nd z l i (by omega),ed _ _ (by omega)];rfl
 | m+1,l,i,h,hn=>by
  by_cases h2:2<=l.length
  ·obtain⟨a,b,c⟩:=bR l.length h2 hn;by_cases e:i < sp l.length
   ·have d:=gv m (l.take (sp l.length)) i (by rw[DX];omega) (by rw[DX];omega);rw[DX,Nat.min_eq_left (by omega)]at d;rw[gL nd z l i h2 hn e,ee _ _ h2 hn e];simp only[DS,Eu,EK,d]
   ·have d:=gv m (l.drop (sp l.length)) (i - sp l.length) (by rw[DR];omega) (by rw[DR];omega);rw[DR]at d;rw[fU nd z l i h2 hn e,dR _ _ h2 hn e];simp only[DS,Eu,EK,d]
  ·rw[gu nd z l i (by omega),ed _ _ (by omega)];rfl
def BG (d:D) (t:Bool × Nat × Nat) (s:D):D:=if t.1 then nd d s else nd s d
def yL (d:D):List ((Bool × Nat × Nat) × D)->D
 | []=>d
 | (t,s) :: r=>yL (BG nd d t s) r
def Ab (n i:Nat) (d:D) (p:List D):D:=yL nd d ((bU n i).reverse.zip p)
end
def lL:Nat->Nat->Nat->Nat->Bool->List (Bool × Nat × Nat) × Bool × Nat
 | 0,_,_,fr,w=>([],w,fr)
 | f+1,m,n,fr,w=>
  if m < n then
   if m<=sp n then((false,fr+sp n,fr+n) :: (lL f m (sp n) fr w).1,(lL f m (sp n) fr w).2)
   else((true,fr,fr+sp n) :: (lL f (m - sp n) (n - sp n) (fr+sp n) false).1,(lL f (m - sp n) (n - sp n) (fr+sp n) false).2)
  else([],w,fr)
def lM (m n fr:Nat) (w:Bool):List (Bool × Nat × Nat) × Bool × Nat:=lL n m n fr w
def BH (fr:Nat) (l:List (Bool × Nat × Nat)):Nat:=l.foldl (fun a s=>if s.1=true then s.2.2 else a) fr
def Ad (m n:Nat) (w:Bool):Nat:=(lM m n 0 w).1.length+(if (lM m n 0 w).2.1=true then 0 else 1)
section
variable {D:Type} (nd:D->D->D) (z:D)
def AZ:Nat->List D->Nat->Bool->List D
 | 0,_,_,_=>[]
 | f+1,l,m,w=>
  if m < l.length then
   if m<=sp l.length then AZ f (l.take (sp l.length)) m w++[over nd z (l.drop (sp l.length))]
   else AZ f (l.drop (sp l.length)) (m - sp l.length) false++[over nd z (l.take (sp l.length))]
  else if w=true then []else [over nd z l]
def BI (l:List D) (m:Nat) (w:Bool):List D:=AZ nd z l.length l m w
def BJ (L:List D) (a b:Nat):List D:=(L.drop a).take (b - a)
def BK (r:D × D) (left:Bool) (d:D):D × D:=if left=true then(nd d r.1,nd d r.2)else(r.1,nd r.2 d)
def qP (r:D × D):List (Bool × D)->D × D
 | []=>r
 | (b,d) :: t=>qP (BK nd r b d) t
def Ae (m n:Nat) (old:D) (w:Bool) (p:List D):D × D:=
 if (lM m n 0 w).2.1=true then qP nd (old,old) (((lM m n 0 w).1.map (·.1)).reverse.zip p)
 else qP nd (p.headD z,p.headD z) (((lM m n 0 w).1.map (·.1)).reverse.zip p.tail)
end
def dc (g n:Nat) (w w':DF):Prop:=w.heap.size<=w'.heap.size/\∀k,k < n->k≠g->w'.heap[k]? =w.heap[k]?
theorem dc.refl (g n:Nat) (w:DF):dc g n w w:=⟨DH _,fun _ _ _=>rfl⟩
theorem dc.trans {g:Nat} {a b c:DF} (h:dc g n a b) (k:dc g n b c):dc g n a c:=⟨D0 h.1 k.1,fun i e d=>(k.2 i e d).trans (h.2 i e d)⟩
theorem dc.cell {g:Nat} {w w':DF} (h:dc g n w w') {b i:Nat} (a:b < n) (c:b≠g):w'.cell? ⟨b,i,none⟩=w.cell? ⟨b,i,none⟩:=EH (w:=w) (h.2 b a c)
theorem dc.putObj {g:Nat} {w:DF} (d:n<=w.heap.size) (W:DF) (l:Nat) (o a:Obj) (c:w.heap.size<=l) (_:W.heap[l]? =some o) (_:o.isCells=false) (_:o.isWalk=false):dc g n W (W.putObj l a):=
 ⟨by simp,fun k b _=>World.putObj_heap_other (by omega)⟩
theorem dc.CP {g:Nat} {w w':DF} (h:Below B w w') (b:n<=B):dc g n w w':=⟨h.size,fun k a _=>h.block k (by omega)⟩
theorem jQ {β :Type} {g:Nat} {c:DF} (h:n<=B) (j:n<=c.heap.size):OwnFrom B (fun(_: β) W=>dc g n c W):=
 fun _ W f row b a d=>by
  exact b.trans ⟨a.size,fun k i _=>a.block k (by have:=b.1;omega) (fun e=>by have:=(d k e.symm).1;omega)⟩
theorem dB.CI {g:Nat} {w w':DF} {b:Nat} {k:E6} {f:Nat->Int} (h:dB w b k m f) (d:dc g n w w') (a:b < n) (c:b≠g):dB w' b k m f:=
 ⟨fun i e=>(d.cell a c).trans (h.1 i e),fun i=>(GV (w:=w) (d.2 b a c)).trans (h.2 i)⟩
theorem ku (w:DF) (v:DG) (t:Ec):(w.alloc (.cells #[v] t)).cell? ⟨w.heap.size,0,none⟩=some v:=by have h:=World.alloc_heap_new w (.cells #[v] t);simp only[World.cell?,h];rfl
theorem dx {g:Nat} {a:DF}:∀(vs:List DG) (o:Nat) (w:DF),mX g a w->mX g a (w.setCells g o vs)
 | [],_,_,h=>h
 | v :: r,o,w,h=>by rw[World.setCells];exact dx r (o+1) _ (h.set o v)
theorem dc.set {g:Nat} {a w:DF} (h:dc g n a w) (i:Nat) (u:DG):dc g n a (w.setCell ⟨g,i,none⟩ u):=
 ⟨D0 h.1 ((DI 0 w).setCell (p:=⟨g,i,none⟩) (DZ _) u).size,fun k c b=>(Below.heap_setCell _ _ _ _ b).trans (h.2 k c b)⟩
theorem dc.Cu {g:Nat} {a w:DF} (h:dc g n a w) (b c d e f i j k:DG):
  dc g n a ((((((((w.setCell ⟨g,0,none⟩ b).setCell ⟨g,1,none⟩ c).setCell ⟨g,2,none⟩ d).setCell ⟨g,3,none⟩ e).setCell ⟨g,4,none⟩ f).setCell ⟨g,5,none⟩ i).setCell ⟨g,6,none⟩ j).setCell ⟨g,7,none⟩ k):=
 (((((((h.set 0 _).set 1 _).set 2 _).set 3 _).set 4 _).set 5 _).set 6 _).set 7 _
theorem lN {w w':DF} (h:az w w'):KeepsOthers w w':=⟨h.size,fun l _ a _=>(h.block l (EM.1 a).1).trans a⟩
theorem mJ {a w:DF} (h:KeepsOthers a w) (g:Nat) (b c d e f i j k:DG):
  KeepsOthers a ((((((((w.setCell ⟨g,0,none⟩ b).setCell ⟨g,1,none⟩ c).setCell ⟨g,2,none⟩ d).setCell ⟨g,3,none⟩ e).setCell ⟨g,4,none⟩ f).setCell ⟨g,5,none⟩ i).setCell ⟨g,6,none⟩ j).setCell ⟨g,7,none⟩ k):=
 (((((((h.trans (FG _ _ _)).trans (FG _ _ _)).trans (FG _ _ _)).trans (FG _ _ _)).trans (FG _ _ _)).trans (FG _ _ _)).trans (FG _ _ _)).trans (FG _ _ _)
theorem kv {w w':DF} (h:az w w'):w.grownBy w' none:=⟨h.os,h.tape,h.output,h.size,fun k a _=>h.block k a⟩
def dV (m:Nat) (k:Nat):List (Fin m):=(F5 m).take k
theorem ef (m k:Nat) (a:k < m):dV m (k+1)=dV m k++[⟨k,a⟩]:=by
 unfold dV;rw[G5,DL (by simpa using a)];simp
theorem fW (m k:Nat) (a:k<=m):(dV m k).length=k:=by simp[dV,a]
theorem lO (m:Nat):dV m m=F5 m:=by unfold dV;rw[DW (by simp)]
theorem xG:∀(n:Nat) (z:St) (l:List Int),l.length<=n->(jN z l).2.length=l.length % 64:=by
 intro n;induction n with
 | zero=>intro z l h;rw[iy z l (by omega)];show l.length=_;omega
 | succ n ih=>
  intro z l h;by_cases a:64<=l.length
  ·rw[jr z l a,ih _ _ (by rw[DR];omega),DR];omega
  ·rw[iy z l (by omega)];show l.length=_;omega
theorem qQ (n:Nat):dF (n % 64)=dF n:=by unfold dF;omega
def sha (l:List Int):List Int:=(jN fT (lj l l.length)).1.bytes
@[simp] theorem sha_length (l:List Int):(sha l).length=32:=rfl
theorem tl (l:List Int):oU (jN fT l).1 (jN fT l).2 l.length=(jN fT (lj l l.length)).1:=by
 have h:=lJ (128 :: D7 (dF l.length) 0++js l.length) l.length fT l (DH _);unfold oU lj;rw[xG _ _ _ (DH _),qQ,Em,Em,h]
def bf (w:DF) (v:DG) (ps:List (List Int)):Prop:=
 ∃vs:List DG,bh w v ps.length vs/\vs.length=ps.length/\∀i,i < ps.length->Rd w .u8 (vs.getD i EI) (ps.getD i [])
theorem bf.ext {w w':DF} {v:DG} {ps:List (List Int)} (h:bf w v ps) (a:az w w'):bf w' v ps:=by
 obtain⟨vs,h1,h2,b⟩:=h;exact⟨vs,h1.ext a,h2,fun i c=>(b i c).ext a⟩
theorem ky (ps:List (List Int)) (i:Nat) (h:i < ps.length):(ps.take (i+1)).flatten=(ps.take i).flatten++ps.getD i []:=by
 rw[G5,Ik,DL h,DJ,DL h];simp
theorem jR (ps:List (List Int)) (i:Nat):(ps.take i).flatten.length<=ps.flatten.length:=by
 conv=>rhs;rw[<-Fs i ps,Ik,DS]
 omega
theorem uX {ps:List (List Int)} (h:bA ps.flatten) (i:Nat):bA (ps.take i).flatten:=fun x hx=>h x (by
 rw[<-Fs i ps,Ik];exact List.mem_append_left _ hx)
def eZ (mp:List (Int × DG)) (x:Int):Option DG:=(mp.find? fun p=>decide (p.1=x)).map (·.2)
def dG (w:DF) (m:Nat) (mp:List (Int × DG)):Prop:=∃es c,w.heap[m]? =some (.map es c)/\es.toList.map (fun e=>(e.key,e.val))=mp.map fun x=>(Ej .i64 x.1,x.2)
theorem dG.lt {w:DF} {mp:List (Int × DG)} (h:dG w m mp):m < w.heap.size:=by
 obtain⟨es,c,h1,_⟩:=h;exact(EM.1 h1).1
theorem dG.same {w w':DF} {mp:List (Int × DG)} (h:dG w m mp) (a:w'.heap[m]? =w.heap[m]?):dG w' m mp:=by
 obtain⟨es,c,h1,h2⟩:=h;exact⟨es,c,a.trans h1,h2⟩
theorem dG.ext {w w':DF} {mp:List (Int × DG)} (h:dG w m mp) (a:az w w'):dG w' m mp:=h.same (a.block m h.lt)
theorem dG.new (w:DF):dG (w.alloc (.map #[] 0)) w.heap.size []:=⟨#[],0,by show(w.heap.push _)[w.heap.size]? =_;rw[Array.getElem?_push_size],rfl⟩
theorem iF (x:Int):∀(es:List MapEntry) (mp:List (Int × DG)) (i:Nat),es.map (fun e=>(e.key,e.val))=mp.map (fun x=>(Ej .i64 x.1,x.2))->∃r,Instr.findNow (.int .i64) (.int .i64 x) es i=some r/\r.map (·.2)=eZ mp x
 | [],[],i,_=>⟨none,rfl,rfl⟩
 | [],_ :: _,_,h=>by cases h
 | _ :: _,[],_,h=>by cases h
 | e :: es,p :: mp,i,h=>by
  simp only[List.map_cons,List.cons.injEq,Prod.mk.injEq]at h;obtain⟨⟨h1,h2⟩,a⟩:=h;by_cases hx:p.1=x
  ·refine⟨some (i,e.val),?_,?_⟩
   ·simp[Instr.findNow,Instr.sameNow,h1,hx]
   ·simp[eZ,hx,h2]
  ·obtain⟨r,b,c⟩:=iF x es mp (i+1) a;refine⟨r,?_,?_⟩
   ·have d:(x==p.1)=false:=by simp;exact fun q=>hx q.symm
    simp[Instr.findNow,Instr.sameNow,h1,d,b]
   ·rw[c];simp[eZ,hx]
theorem dG.lookup {P:Ee} {t k e:Ec} {w:DF} {mp:List (Int × DG)} (f:P.underlying t=some (.map k e)) (a:P.underlying k=some (.int .i64)) {z:DG} (i:(zeroValue e).run P w=.ok z w) (h:dG w m mp) (x:Int):
  (GG t (.map (some m)) (.int .i64 x) true).run P w=.ok (.tuple #[(eZ mp x).getD z,.bool (eZ mp x).isSome]) w:=by
 obtain⟨es,c,h1,h2⟩:=h;obtain⟨r,d,g⟩:=iF x es.toList mp 0 h2;have b:(Instr.checkKey es.isEmpty 10000 k (.int .i64 x)).run P w=.ok () w:=MapKept.run_checkKey (k:=.int .i64 x) a (by simp[MapKept.IsKey]) _ 9999;rw[<-g];cases r with
 | none=>simp[GG,Gk f,GW h1,b,MapKept.run_findKey a d,i,GO]
 | some r=>simp[GG,Gk f,GW h1,b,MapKept.run_findKey a d,GO]
structure BL (w:DF) (g size n cap:Nat) (xs:List DG):Prop where
 le:n<=cap
 mx:cap<=DV
 len:xs.length=n*size
 rg:w.rangeAt g 0 xs
 th:w.there g 0 (cap*size)
 lt:g < w.heap.size
def Pk (w:DF) (base size:Nat) (v:DG) (n:Nat) (xs:List DG):Prop:=
 (v=.slice none 0 0/\n=0/\xs=[])\/∃g cap,v=.slice (some ⟨g,0,none⟩) n cap/\base<=g/\BL w g size n cap xs
theorem Pk.nil (w:DF) (base size:Nat):Pk w base size (.slice none 0 0) 0 []:=.inl ⟨rfl,rfl,rfl⟩
theorem Pk.AS {w:DF} {e size:Nat} {v:DG} {xs:List DG} (h:w.ownsRow base e size v n xs):Pk w base size v n xs:=by
 have h2:=h;obtain⟨h0,h1⟩:=h;rcases h1 with ⟨rfl,h1⟩ | ⟨g,cap,cur,rfl,b,c,a,hm,i,hx⟩
 ·subst h1;rw[Nat.zero_mul]at h0;exact .inl ⟨rfl,rfl,Ed.1 h0⟩
 ·refine .inr ⟨g,cap,rfl,b,a,hm,h0,fun j u hu=> ?_,fun j d=> ?_,(h2.lt g rfl).2⟩
  ·have:=h2.cells (g:=g) rfl j u hu;rw[Ft]at this;exact this
  ·have f:j < cur.size:=by rw[i];exact d
   simp[World.cell?,World.frozen?,c,f]
theorem Pk.AT {w:DF} {size:Nat} {v:DG} {xs:List DG} (h:Pk w base size v n xs):bh w v n xs:=by
 rcases h with ⟨rfl,rfl,rfl⟩ | ⟨g,cap,rfl,_,hp⟩
 ·exact bh.nil w
 ·exact .inr ⟨g,0,cap,rfl,hp.le,hp.mx,hp.rg⟩
theorem Pk.block {w:DF} {size:Nat} {v:DG} {xs:List DG} (h:Pk w base size v n xs):∀k,v.ownBlock=some k->base<=k/\k < w.heap.size:=by
 rcases h with ⟨rfl,_,_⟩ | ⟨g,cap,rfl,b,hp⟩
 ·intro k a;cases a
 ·intro k a;simp only[Value.ownBlock,Option.some.injEq]at a;subst a;exact⟨b,hp.lt⟩
theorem Pk.kept {w w':DF} {size:Nat} {v:DG} {xs:List DG} (h:Pk w base size v n xs) (d:∀k,v.ownBlock=some k->w'.heap[k]? =w.heap[k]?) (e:w.heap.size<=w'.heap.size):Pk w' base size v n xs:=by
 rcases h with h | ⟨g,cap,rfl,b,hp⟩
 ·exact .inl h
 ·have a:=d g rfl;refine .inr ⟨g,cap,rfl,b,hp.le,hp.mx,hp.len,fun j u hu=> ?_,fun j c=> ?_,D9 hp.lt e⟩
  ·rw[EH (w:=w) a];exact hp.rg j u hu
  ·rw[EH (w:=w) a,GV (w:=w) a];exact hp.th j c
theorem Pk.ext {w w':DF} {size:Nat} {v:DG} {xs:List DG} (h:Pk w base size v n xs) (a:az w w'):Pk w' base size v n xs:=
 h.kept (fun k b=>a.block k (h.block k b).2) a.size
theorem Pk.mono {w:DF} {a size:Nat} {v:DG} {xs:List DG} (h:Pk w base size v n xs) (b:a<=base):Pk w a size v n xs:=by
 rcases h with h | ⟨g,cap,rfl,c,hp⟩
 ·exact .inl h
 ·exact .inr ⟨g,cap,rfl,D0 b c,hp⟩
section
variable {P:Ee}
theorem aV {ops:Array Oper} {rest:List Oper} {a:Act} {w:DF} {Q:Exit->Act->DF->Prop} {d:Option Tmp} {V t e:Ec} {pp:String} {M:Array Edge} {s x:Operand} {v z:DG} {base size bytes n m c b o:Nat} {xs news:List DG}
  (p:jE P t e z size bytes) (T:Pk w base size v n xs) (S:w.rangeAt b o news) (C:news.length=m*size) (h1:∀u∈news,u.oneCell'=true) (hm:0 < m)
  (hlen:n+m<=DV) (G:(n+m)*bytes<=140737488355328) (F:base<=w.heap.size)
  (J:a.eval s=v) (hx:a.eval x=.slice (some ⟨b,o,none⟩) m c)
  (h:∀y w',Pk w' base size y (n+m) (xs++news)->w.grownBy w' v.ownBlock->(∀k,y.ownBlock=some k->v.ownBlock=some k\/w.heap.size<=k)->Fl P ops Q rest (a.put d y) w'):
  Fl P ops Q (⟨d,.call {callee:=.builtin .append,args:=#[s,x],argTypes:=#[t,t]},V,pp,M,none⟩ :: rest) a w:=by
 obtain⟨i,I,L,K,E⟩:=info_parts p.info;have H:∀j u,news[j]? =some u->w.cell? ((⟨b,o,none⟩:Addr).add j)=some u:=fun j u r=>by rw[Ft];exact S j u r
 rcases T with ⟨rfl,rfl,rfl⟩ | ⟨g,cap,rfl,O,hp⟩
 ·refine wpList_append_grows w rfl s x t rfl e i z size bytes p.ht I L K E p.hz p.pos none 0 0 [] J (fun _=>⟨rfl,rfl⟩) (by simp) (fun b N=>by cases N) ⟨b,o,none⟩ m c news hx C H h1 (by omega) hlen G ?_;intro y w' h2 l;refine h y w' (Pk.AS (dQ h2 F)) l fun k f=>.inr (h2.lt k f).1
 ·have W:=hp.len;refine wpList_append_arg w rfl s x t rfl e i z size bytes p.ht I L K E p.hz p.pos g 0 n cap xs J hp.len (fun j u r=>hp.rg j u r) ⟨b,o,none⟩ m c news hx C H h1 (fun B j r=> ?_) hlen G (fun B=> ?_) (fun B y w' h2 l=> ?_)
  ·have D:(n+m)*size<=cap*size:=Fq _ B;rw[Nat.add_mul]at D;have:=hp.th (n*size+j) (by omega);rw[<-FX]at this;exact this
  ·have D:(n+m)*size<=cap*size:=Fq _ B;rw[Nat.add_mul]at D;have U:w.there g (0+n*size) news.length:=fun j r=>by have:=hp.th (n*size+j) (by omega);rw[<-FX]at this;exact this
   have A:=aE news g (0+n*size) w (DI 0 w) (DZ _);refine h _ _ (.inr ⟨g,cap,rfl,O,B,hp.mx,by rw[DS,hp.len,C,Nat.add_mul],?_,World.there_setCells hp.th _ _ _,D9 hp.lt A.size⟩) ⟨A.os,A.tape,A.output,A.size,fun k f R=>World.heap_setCells_other w g _ news f (fun q=>R (by rw[q];rfl))⟩ (fun k f=>.inl f);intro j u hu;by_cases r:j < xs.length
   ·rw[FU r]at hu;exact World.rangeAt_setCells_apart hp.rg g (0+n*size) news (.inr (.inl (by rw[hp.len];omega))) j u hu
   ·rw[List.getElem?_append_right (by omega)]at hu;have:=Eb w g (0+n*size) news U (j - xs.length) u hu;rw[show 0+n*size+(j - xs.length)=0+j by omega]at this;exact this
  ·exact h y w' (Pk.AS (dQ h2 F)) ⟨l.os,l.tape,l.output,l.size,fun k f _=>l.block k f (by simp)⟩ fun k f=>.inr (h2.lt k f).1
end
structure Cn (w:DF) (b:Nat) (v:DG) (n:Nat) (ds:List (List Int)):Prop where
 c0:w.cell? ⟨b,0,none⟩=some (.int .i64 n)
 c1:w.cell? ⟨b,1,none⟩=some v
 f0:w.frozen? ⟨b,0,none⟩=false
 f1:w.frozen? ⟨b,1,none⟩=false
 pk:Pk w 0 32 v ds.length (aN ds)
 DD:dm ds
 ne:v.ownBlock≠some b
structure Af (w w':DF) (b:Nat) (r:Option Nat):Prop where
 os:w'.os=w.os
 tape:w'.tape=w.tape
 output:w'.output=w.output
 size:w.heap.size<=w'.heap.size
 block:∀k,k < w.heap.size->k≠b->some k≠r->w'.heap[k]? =w.heap[k]?
section
open Go.ChangeShapes
abbrev xH (t:List UInt8):DataW Unit:=.iface "*errors.errorString" (.ptr (.agg [.lit (.string t)]))
theorem oV (t:List UInt8):((xH t).handleName?).isNone=true:=by simp[DataW.handleName?]
structure nl (g:Nat->Nat) (tp:Ec) (S:List Nat) (a:Nat->Addr) (w:DF):Prop where
 cell:∀i∈S,w.cell? ⟨g i,0,none⟩=some (.iface tp (.pointer (some (a i))))
 row:∀i∈S,∃c t,w.heap[(a i).block]? =some (.cells c t (0,0))
 ne:∀i∈S,∀j∈S,i≠j->a i≠a j
theorem nl.ext {g:Nat->Nat} {f:Ec} {S:List Nat} {a:Nat->Addr} {w w':DF} (h:nl g f S a w) (d:az w w'):nl g f S a w':=
 ⟨fun i b=>((aD d).1 _ _ (World.block_lt_of_cell? _ _ (h.cell i b))).trans (h.cell i b),fun i b=>by
  obtain⟨c,t,e⟩:=h.row i b
  exact⟨c,t,(d.block _ (EM.1 e).1).trans e⟩,h.ne⟩
theorem oW {P:Ee} {w:DF} {g:Nat->Nat} {nm:Nat->String} {ti l s y:Ec} {ms:Array (String × Ec)} {f:Field}
  (d:P.underlying ti=some (.interface ms)) (H:∀u,P.typeName? 3 u=some "*errors.errorString" ->u=l) (hp:P.underlying l=some (.pointer s)) (he:P.underlying s=some (.struct #[f])) (D:f.type=y) (C:f.offset=0) (I:P.underlying y=some .string) (z:P.cellsOf s=1) (A:P.cellsOf y=1):
  ∀(xs:List (Nat × List UInt8)) (ps:List MemPlace),(∀x∈xs,P.globalNamed (nm x.1)=some (g x.1)/\(P.globals[g x.1]?).map (·.type)=some ti)->(xs.map (·.1)).Nodup->
   DataW.LaidVars P w (xs.map fun x=>(nm x.1,xH x.2)) ps->ps.Nodup->(∀b off,MemPlace.cell b off∈ps->(∃c t,w.heap[b]? =some (.cells c t (0,0)))/\∀u v,w.cell? ⟨b,off,none⟩=some (.iface u v)->H9 P w .any 0 u v)->
   ∃a:Nat->Addr,nl g l (xs.map (·.1)) a w/\∀i∈xs.map (·.1),MemPlace.cell (a i).block (a i).off∈ps
 | [],_,_,_,_,_,_=>⟨fun _=>⟨0,0,none⟩,⟨fun _ h=>by simp at h,fun _ h=>by simp at h,fun _ h=>by simp at h⟩,fun _ h=>by simp at h⟩
 | (n,t) :: r,ps,hx,hnd,hv,hps,hrows=>by
  obtain⟨g0,t0,K,f0,p0,W,p,T,J,M,R,e⟩:=hv;obtain⟨N,S⟩:=hx (n,t) (by simp);obtain rfl:=Fk (N.symm.trans p);obtain rfl:=Fk (S.symm.trans T);subst e;obtain⟨U⟩:=K;have V:∀u v,U=[.iface u v]->H9 P w .any 0 u v:=fun u v e=>by subst e;exact(hrows (g n) 0 (by simp[MemPlace.row])).2 u v (by simpa using World.var?_cell p J 0)
  obtain⟨a0,s0,rfl,X,Y,Z,rfl⟩:=errorString_of_trod d H hp he D C I z A M V;have O:n ∉ r.map (·.1):=(List.nodup_cons.1 hnd).1;obtain⟨a,o,F⟩:=oW d H hp he D C I z A r W (fun x h=>hx x (by simp[h])) (List.nodup_cons.1 hnd).2 R (List.Nodup.sublist (List.sublist_append_right _ _) hps) (fun b off h=>hrows b off (List.mem_append_right _ h));have B:∀i∈r.map (·.1),a0≠a i:=fun i d e=>by have h1:=F i d;rw[<-e]at h1;refine(List.nodup_append.1 hps).2.2 (MemPlace.cell a0.block a0.off) ?_ _ h1 rfl;simp[MemPlace.row]
  have L:w.cell? ⟨g n,0,none⟩=some (.iface l (.pointer (some a0))):=by simpa using World.var?_cell p J 0
  have Q:∀i∈r.map (·.1),i≠n:=fun i d q=>O (q▸d)
  have hp:∀i,i=n->(if i=n then a0 else a i)=a0:=fun i e=>if_pos e
  have k:∀i,i∈r.map (·.1)->(if i=n then a0 else a i)=a i:=fun i h=>if_neg (Q i h)
  refine⟨fun i=>if i=n then a0 else a i,⟨fun i d=> ?_,fun i d=> ?_,fun i d j G E=> ?_⟩,fun i d=> ?_⟩
  ·rcases Es.1 d with e | h1
   ·rw[hp i e,e];exact L
   ·rw[k i h1];exact o.cell i h1
  ·rcases Es.1 d with e | h1
   ·show ∃c t,w.heap[(if i=n then a0 else a i).block]? =_;rw[hp i e];exact(hrows a0.block a0.off (by simp[MemPlace.row])).1
   ·show ∃c t,w.heap[(if i=n then a0 else a i).block]? =_;rw[k i h1];exact o.row i h1
  ·show(if i=n then a0 else a i)≠(if j=n then a0 else a j);rcases Es.1 d with e | h1
   ·rcases Es.1 G with m | h2
    ·exact absurd (e.trans m.symm) E
    ·rw[hp i e,k j h2];exact B j h2
   ·rcases Es.1 G with m | h2
    ·rw[k i h1,hp j m];exact(B i h1).symm
    ·rw[k i h1,k j h2];exact o.ne i h1 j h2 E
  ·show MemPlace.cell (if i=n then a0 else a i).block (if i=n then a0 else a i).off∈_;rcases Es.1 d with e | h1
   ·rw[hp i e];simp[MemPlace.row]
   ·rw[k i h1];exact List.mem_append_right _ (F i h1)
theorem xI {P:Ee} {w:DF} {g:Nat->Nat} {nm:Nat->String} {ti c b d:Ec} {ms:Array (String × Ec)} {f:Field}
  (o:P.underlying ti=some (.interface ms)) (r:∀u,P.typeName? 3 u=some "*errors.errorString" ->u=c) (hp:P.underlying c=some (.pointer b)) (he:P.underlying b=some (.struct #[f])) (n:f.type=d) (m:f.offset=0) (t:P.underlying d=some .string) (j:P.cellsOf b=1) (k:P.cellsOf d=1)
  {L:List (String × DataW Unit)} (h:laidMetH P L w) (e:String × DataW Unit->Bool) (xs:List (Nat × List UInt8)) (hx:∀x∈xs,P.globalNamed (nm x.1)=some (g x.1)/\(P.globals[g x.1]?).map (·.type)=some ti) (q:(xs.map (·.1)).Nodup) (l:L.filter e=xs.map fun x=>(nm x.1,xH x.2)):
  ∃a:Nat->Addr,nl g c (xs.map (·.1)) a w:=by
 have h1:=h.filter e
 rw[l,Ii _ _ _ (List.all_eq_true.2 fun x hx=>by
  obtain⟨y,_,rfl⟩:=F6.1 hx
  exact oV y.2)]at h1
 obtain⟨ps,v,p,s⟩:=h1;obtain⟨a,i,_⟩:=oW o r hp he n m t j k xs ps hx q v p s;exact⟨a,i⟩
end
def gE (i:Nat):Nat:=[0,3,7,6,5,1000000,1000000,2,4,1000000,1000000,1000000,1000000,1000000,1000000,0,1000000,1000000,1000000,1000000,1000000].getD i 0
def nE (i:Nat):String:=["","bailee/api.ErrRange","bailee/api.ErrShort","bailee/api.ErrLong","bailee/api.ErrForm","bailee/api.ErrSum","bailee/api.ErrName","bailee/api.ErrKind","bailee/api.ErrSize","bailee/api.ErrKey","bailee/api.ErrDup","bailee/api.ErrNone","bailee/api.ErrFull","bailee/api.ErrState","bailee/api.ErrPower","bailee/api.ErrProof","bailee/api.ErrSpare","bailee/api.ErrLost","bailee/api.ErrBudget","bailee/api.ErrLate","bailee/api.ErrZero"].getD i ""
abbrev kz (S:List Nat) (a:Nat->Addr) (w:DF):Prop:=nl gE 233 S a w
theorem Ag:∀i,1<=i->i<=20->gE i≠1000000->Tryz.prog.globalNamed (nE i)=some (gE i)/\(Tryz.prog.globals[gE i]?).map (·.type)=some 59:=fun i h1 h2 a=>by
 have h:i=1\/i=2\/i=3\/i=4\/i=5\/i=6\/i=7\/i=8\/i=9\/i=10\/i=11\/i=12\/i=13\/i=14\/i=15\/i=16\/i=17\/i=18\/i=19\/i=20:=by omega
 rcases h with rfl | rfl | rfl | rfl | rfl | rfl | rfl | rfl | rfl | rfl | rfl | rfl | rfl | rfl | rfl | rfl | rfl | rfl | rfl | rfl<;>first | exact absurd rfl a | exact⟨by kernel_rfl,by kernel_rfl⟩
theorem uY: "*" ++ "errors.errorString" = "*errors.errorString" :=by decide
theorem Ah (u:Ec) (h:Tryz.prog.typeName? 3 u=some "*errors.errorString"):u=233:=
 typeName_ptr_named (nm:= "errors.errorString") (by rw[uY];kernel_rfl) (by kernel_rfl) (by decide) u (by rw[uY];exact h)
theorem tm {L:List (String × DataW Unit)} {w:DF} (h:laidMetH DE L w) (b:String × DataW Unit->Bool) (xs:List (Nat × List UInt8)) (hx:∀x∈xs,1<=x.1/\x.1<=20/\gE x.1≠1000000) (d:(xs.map (·.1)).Nodup) (c:L.filter b=xs.map fun x=>(nE x.1,xH x.2)):∃a,kz (xs.map (·.1)) a w:=
 xI Tryz.underlying59 Ah Tryz.underlying233 Tryz.underlying250 rfl rfl Gd (by kernel_rfl) (by kernel_rfl) h b xs (fun x hm=>Ag _ (hx x hm).1 (hx x hm).2.1 (hx x hm).2.2) d c
def uZ:List Int:=D7 32 0
theorem aj {P:Ee} {fn:Func} {p q:Tmp} {ty:Ec} {tmps:Array DG} {w:DF} {b:Addr} {v u:DG} (h:fn.results=#[.cell p ty,.tmp q]) (hp:tmps.getD p EI=.pointer (some b)) (a:(loadVar ty b).run P w=.ok v w) (d:tmps.getD q EI=u):
  (results fn tmps).run P w=.ok (.tuple #[v,u]) w:=by
 have c:tmps[p]?.getD EI=.pointer (some b):=by simpa using hp
 have e:tmps[q]?.getD EI=u:=by simpa using d
 simp[results,h,c,e,asAddr,a]
theorem fh {P:Ee} {fn:Func} {p q:Tmp} {tmps:Array DG} {w:DF} {v u:DG} (h:fn.results=#[.tmp p,.tmp q]) (hp:tmps.getD p EI=v) (b:tmps.getD q EI=u):
  (results fn tmps).run P w=.ok (.tuple #[v,u]) w:=by
 have a:tmps[p]?.getD EI=v:=by simpa using hp
 have c:tmps[q]?.getD EI=u:=by simpa using b
 simp[results,h,a,c]
section
variable {P:Ee} {ops:Array Oper} {rest:List Oper} {a:Act} {w:DF} {Q:Exit->Act->DF->Prop} {d:Option Tmp} {tt ty:Ec} {pp:String} {af:Array Edge} {x:Operand} {p v:DG} {g:Nat × Bool}
theorem fE (h:jF (Fl P ops Q (⟨d,.load ty x,tt,pp,af,some g⟩ :: rest) a w)):Fl P ops Q (⟨d,.load ty x,tt,pp,af,some g⟩ :: rest) a w:=h
end
def oX (a:Nat->Addr) (m:Nat):DG:=if m=0 then .nilIface else .iface 233 (.pointer (some (a m)))
theorem ft (a:Nat->Addr):oX a 0=.nilIface:=rfl
theorem dt (a:Nat->Addr) (m:Nat) (h:m≠0):oX a m=.iface 233 (.pointer (some (a m))):=if_neg h
def yM:Nat->Nat->Nat
 | 0,_=>0
 | f+1,n=>n % 2+yM f (n / 2)
def BM (n:Nat):Nat:=yM n n
theorem jS:jE DE 55 54 (.agg zA) 32 32:=⟨Tryz.underlying55,by kernel_rfl,rfl,by decide⟩
theorem lP:jE DE 96 52 (.agg zA) 32 32:=⟨Tryz.underlying96,by kernel_rfl,rfl,by decide⟩
theorem aO:jE DE 27 5 (.int .u8 0) 1 1:=⟨Fy,by kernel_rfl,rfl,by decide⟩
theorem gx (w:DF) (n:Nat) (k:E6) (t:Ec) (cs:Array DG) (f:Nat->Int) (a:∀i,i < n->cs[i]? =some (.int k (f i))):dB (w.alloc (.cells cs t)) w.heap.size k n f:=
 ⟨fun i b=>by rw[D6];exact a i b,fun i=>by simp⟩
theorem dq (w:DF) (n:Nat) (k:E6) (t:Ec) (cs:Array DG) (a:cs.toList=D7 n (Ej k 0)):dB (w.alloc (.cells cs t)) w.heap.size k n (fun _=>0):=by
 refine⟨fun i b=> ?_,fun i=>by simp⟩;rw[D6];rw[<-Array.getElem?_toList,a];simp[b]
theorem kO (ad:Addr) (c:Nat) (l:List Int) (w:DF) (h2:Rd w .u8 (.slice (some ad) l.length c) l) (f:l.length<=140737488355328):
  DN DE 45 #[.slice (some ad) l.length c] w fun e w'=>∃a,e=.returned a/\w'.ownsRow w.heap.size 5 1 a l.length (ao .u8 l)/\az w w':=by
 have m:=ES (P:=DE) w 27 5 (some ad) l.length c 0 0 Fy;have d:az w (w.alloc (.cells #[] 5)):=(DI _ _).alloc (DH _) _;have g:(w.alloc (.cells #[] 5)).ownsRow w.heap.size 5 1 (.slice (some ⟨w.heap.size,0,none⟩) 0 0) 0 []:=bW w 5 #[] w.heap.size 0 1 (DH _) (by decide) rfl;have j:=aa g;have i:=aa (h2.ext d);have b:=aa f;clear g h2 d f;go_enter Tryz.func45,Tryz.ntmps45
 go_wp2_with ((with_reducible refine cY aO j.out i.out (by simp) (aF _ _) (by have:=b.out;unfold DV;omega) (by have:=b.out;omega) (by simp) ?_ ?_ ?_);rfl;rfl;intro a w' h o k n)
 go_ret;rw[DY,EG]at h;exact⟨_,rfl,h,((DI _ _).alloc (DH _) _).trans k⟩
theorem dZ (v:DG) (l:List Int) (w:DF) (h:Rd w .u8 v l) (a:l.length<=140737488355328):
  DN DE 45 #[v] w fun e w'=>∃f,e=.returned f/\w'.ownsRow w.heap.size 5 1 f l.length (ao .u8 l)/\az w w':=by
 have h2:=h;rcases h with ⟨⟨p,rfl⟩,d,g⟩ | ⟨b,o,c,rfl,k,j,m⟩
 ·obtain rfl:l=[]:=Ed.1 d;cases p with
  | some ad=>exact kO ad 0 [] w h2 a
  | none=>
   have i:=ES (P:=DE) w 27 5 none 0 0 0 0 Fy;clear d g h2;go_enter Tryz.func45,Tryz.ntmps45
   go_wp2
   go_ret;exact⟨_,rfl,World.ownsRow_nil _ _ _ _,DI _ _⟩
 ·exact kO _ c l w h2 a
theorem lQ (c vb:DG) (xs ys:List Int) (w:DF) (hx:Rd w .u8 c xs) (hy:Rd w .u8 vb ys) (b:bA xs) (a:bA ys):
  DN DE 51 #[c,vb] w fun e w'=>e=.returned (.bool (decide (xs=ys)))/\w=w':=by
 have g:=eE (P:=DE) hx Fy Gy Gd;have h:=eE (P:=DE) hy Fy Gy Gd;have f:=oO b a;have d:Hid (decide (gZ xs=gZ ys)=decide (xs=ys)):=aa (by rw[Bool.eq_iff_iff];simp[oN b a]);clear hx hy b a;go_enter Tryz.func51,Tryz.ntmps51
 go_wp2
 go_ret;first
 | exact⟨rfl,rfl⟩
 | exact⟨by rw[<-f];rfl,rfl⟩
 | exact⟨by rw[<-d.out];rfl,rfl⟩
theorem Ai {a b:Int} (h:a=b):Ending.returned (.int .i64 a)=.returned (.int .i64 b):=by rw[h]
theorem u0 (n:Int) (w:DF) (h:n < 2):
  DN DE 129 #[.int .i64 n] w fun e w'=>e=.returned (.int .i64 0)/\w=w':=by
 go_enter Tryz.func129,Tryz.ntmps129
 go_wp2
 go_ret;exact⟨rfl,rfl⟩
theorem u3 (n:Int) (b:Nat) (w:DF) (h:2<=n) (h2:n<=9223372036854775807) (a:Hid (GL (n-1).toNat=b)) (d:1<=b) (f:b<=63):
  DN DE 129 #[.int .i64 n] w fun e w'=>e=.returned (.int .i64 (wrap64 (2^(b - 1))))/\w=w':=by
 have c:∀w,DN DE 145 #[.int .u64 (n-1)] w fun e w'=>e=.returned (.int .i64 (b:Int))/\w=w':=fun w=>(Tryz.bits_Len _ w (by omega) (by omega)).mono fun e w' ⟨h1,h2⟩=>⟨by rw[h1,a.out],h2.symm⟩
 clear a;go_enter Tryz.func129,Tryz.ntmps129
 go_wp2_with (go_at_call 145;refine(c _).mono ?_;rintro e w' ⟨rfl,rfl⟩)
 go_ret;exact⟨rfl,rfl⟩
theorem u5 (b:Nat) (h:b<=62):wrap64 (2^b)=2^b:=by
 have:=kr b 62 h;refine IntWalk.wrap64_in _ ⟨?_,?_⟩
 ·have:(0:Int)<=2^b:=Int.pow_nonneg (by decide);omega
 ·have h2:((2^b:Nat):Int)=(2:Int)^b:=by simp
  omega
theorem tq (n:Int) (w:DF) (h2:n<=9223372036854775807):
  DN DE 129 #[.int .i64 n] w fun e w'=>e=.returned (.int .i64 (sp n.toNat))/\w=w':=by
 by_cases h:n < 2
 ·refine(u0 n w h).mono fun e w' ⟨he,hw⟩=>⟨?_,hw⟩
  rw[he,z6 _ (by omega)];rfl
 ·have f:(n - 1).toNat=n.toNat - 1:=by omega
  obtain⟨a,b,c⟩:=eM (n.toNat - 1) (by omega) (by omega);have d:=lK n.toNat (by omega) (by omega);refine(u3 n _ w (by omega) h2 rfl (by rw[f];exact a) (by rw[f];exact d)).mono fun e w' ⟨he,hw⟩=>⟨?_,hw⟩
  rw[he,f,u5 _ (by omega)];unfold sp;rw[if_neg (by omega)];simp
theorem jT (n:Int) (w:DF) (h:2<=n) (h2:n<=9223372036854775807):
  DN DE 78 #[.int .i64 n] w fun e w'=>e=.returned (.int .i64 (sp n.toNat))/\w=w':=by
 go_enter Tryz.func78,Tryz.ntmps78
 go_wp2
 go_loop [3] (fun k=>∃q j:Nat,k=.int .i64 q/\q < n/\1<=q/\Hid (q=2^j)) (fun k=>(n - intOf k).toNat);case atStart=>exact⟨1,0,rfl,by omega,by omega,rfl⟩
 case round=>
  obtain⟨q,j,rfl,d,f,a⟩:=hrel;by_cases c:(q:Int) < n - q
  ·go_wp2
   go_round;case rel=>exact⟨q*2,j+1,by go_num,by omega,by omega,by rw[a.out];exact(GF 2 j).symm⟩
   case measure=>simp[intOf];omega
  ·go_wp2
   go_ret;refine⟨Ai ?_,rfl⟩;have b:=a.out;show(q:Int)=_;rw[ni n.toNat j (by omega) (by omega) (by omega),b]
section
variable (H:List Int->List Int)
def Bi (l r:List Int):List Int:=1 :: (l++r)
def Bj (d:List Int) (t:Bool) (s:List Int):List Int:=if t=true then Bi d s else Bi s d
def Aj:List Int->List (Bool × List Int)->List (List Int)
 | x,[]=>[x]
 | x,(t,s) :: r=>x :: Aj (Bj (H x) t s) r
def yU (d:List Int):List (Bool × List Int)->List Int
 | []=>d
 | (t,s) :: r=>yU (H (Bj d t s)) r
variable (hH:∀x,(H x).length=32)
include hH
end
def de (ts:List (Bool × Nat × Nat)):List DG:=ts.flatMap fun t=>[.bool t.1,.int .i64 t.2.1,.int .i64 t.2.2]
theorem jh (a b:List (Bool × Nat × Nat)):de (a++b)=de a++de b:=by simp[de]
theorem ji:∀(a:List (Bool × Nat × Nat)),(de a).length=a.length*3
 | []=>rfl
 | t :: r=>by
  show([Value.bool t.1,.int .i64 t.2.1,.int .i64 t.2.2]++de r).length=_;rw[DS,ji r,Eu];simp;omega
theorem kP (d:List (Bool × Nat × Nat)):∀c∈de d,c.oneCell'=true:=fun c b=>by
 obtain⟨t,_,a⟩:=List.mem_flatMap.1 b;simp only[Es,List.not_mem_nil,or_false]at a;rcases a with rfl | rfl | rfl<;>rfl
theorem oY (w:DF) (e:Ec) (cs:Array DG):bh (w.alloc (.cells cs e)) (.slice (some ⟨w.heap.size,0,none⟩) 1 1) 1 cs.toList:=by
 refine .inr ⟨w.heap.size,0,1,rfl,DH _,show 1<=DV from by decide,fun j v a=> ?_⟩;rw[DY,D6];simpa using a
theorem jt (l:List (List Int)) (k:Nat) (h:k < l.length):l.take (k+1)=l.take k++[l.getD k []]:=by
 rw[DJ,DL h,E1 h];rfl
theorem lR:∀(a:List (Bool × Nat × Nat)) (k:Nat),k < a.length->(de a)[k*3]? =some (.bool (a.getD k default).1)/\(de a)[k*3+1]? =some (.int .i64 (a.getD k default).2.1)/\(de a)[k*3+2]? =some (.int .i64 (a.getD k default).2.2)
 | [],k,h=>by simp at h
 | t :: r,0,_=>⟨rfl,rfl,rfl⟩
 | t :: r,k+1,h=>by
  have b:=lR r k (by simpa using h);show(_ :: _ :: _ :: de r)[(k+1)*3]? =_/\(_ :: _ :: _ :: de r)[(k+1)*3+1]? =_/\(_ :: _ :: _ :: de r)[(k+1)*3+2]? =_;rw[show(k+1)*3=k*3+1+1+1 from by omega,show k*3+1+1+1+1=(k*3+1)+1+1+1 from by omega,show k*3+1+1+1+2=(k*3+2)+1+1+1 from by omega];simp only[List.getElem?_cons_succ,List.getD_cons_succ];exact b
theorem RdT.pos {w:DF} {v:DG} {a:List (Bool × Nat × Nat)} (h:bh w v a.length (de a)) (f:0 < a.length):∃b o c,v=.slice (some ⟨b,o,none⟩) a.length c/\a.length<=c/\c<=DV/\b < w.heap.size/\w.rangeAt b o (de a):=by
 rcases h with ⟨_,h,_⟩ | ⟨b,o,c,h1,h2,e,d⟩
 ·omega
 ·exact⟨b,o,c,h1,h2,e,bP d (fun q=>by have:=ji a;rw[q]at this;simp at this;omega),d⟩
theorem su {w:DF} {b o:Nat} {c:List (Bool × Nat × Nat)} (h:w.rangeAt b o (de c)) (d:k < c.length) {x:Bool} {i:Nat} (he:c.getD k default=(x,n,i)):w.rangeAt b (o+k*3) [.bool x,.int .i64 n,.int .i64 i]:=fun j v a=>by
 obtain⟨h0,h1,h2⟩:=lR c k d;rw[he]at h0 h1 h2
 match j,a with
 | 0,a=>cases a;exact h (k*3) _ h0
 | 1,a=>cases a;have:=h _ _ h1;rw[<-FX]at this;exact this
 | 2,a=>cases a;have:=h _ _ h2;rw[<-FX]at this;exact this
 | j+3,a=>simp at a
theorem iU (w:DF) (cs:Array DG) (e:Ec) (n:Nat) (b:cs.size=n):(w.alloc (.cells cs e)).there w.heap.size 0 n:=fun j a=>by
 rw[DY,D6];exact⟨by simp[b,a],by simp⟩
theorem nt {α :Type} {T:List α} {x: α} {r:List α} (d: α) (h:T.drop k=x :: r):k < T.length/\T.getD k d=x/\T.drop (k+1)=r:=by
 have a:k < T.length:=by have:=congrArg List.length h;rw[DR,Eu]at this;omega
 rw[List.drop_eq_getElem_cons a]at h;injection h with h1 h2;exact⟨a,by rw[DJ,DL a];exact h1,h2⟩
structure BN (tS:Ec) (X:Nat) (w:DF) (base:Nat) (out:DG) (ps:List (List Int)) (vs:List DG):Prop where
 rows:w.ownsRow base tS 1 out ps.length vs
 ox:out.ownBlock≠some X
 elts:∀j,j < ps.length->∃g o c,vs.getD j EI=.slice (some ⟨g,o,none⟩) (ps.getD j []).length c/\(ps.getD j []).length<=c/\c<=DV/\w.rangeAt g o (ao .u8 (ps.getD j []))/\g < w.heap.size/\out.ownBlock≠some g/\g≠X
structure mK (w:DF) (X:Nat) (d:List Int):Prop where
 rg:w.rangeAt X 0 (ao .u8 d)
 th:w.there X 0 32
 len:d.length=32
def eo (l r:List Int):List Int:=sha (1 :: (l++r))
def im (b:List Int):List Int:=sha (0 :: b)
def zD:List Int:=sha []
theorem ju (l r:List Int):(eo l r).length=32:=rfl
theorem jv (b:List Int):(im b).length=32:=rfl
theorem jw {w:DF} {v1 v2 v3:DG} {b c d:List Int} (h1:Rd w .u8 v1 b) (h2:Rd w .u8 v2 c) (f:Rd w .u8 v3 d) (e:Ec):bf (w.alloc (.cells #[v1,v2,v3] e)) (.slice (some ⟨w.heap.size,0,none⟩) 3 3) [b,c,d]:=by
 refine⟨[v1,v2,v3],.inr ⟨w.heap.size,0,3,rfl,DH _,show 3<=DV from by decide,fun j u hu=> ?_⟩,rfl,fun i a=> ?_⟩
 ·rw[DY,D6];simpa using hu
 ·have a:i < 3:=a
  match i,a with
  | 0,_=>exact h1.ext (ae _ _)
  | 1,_=>exact h2.ext (ae _ _)
  | 2,_=>exact f.ext (ae _ _)
theorem u6 {w:DF} {v:DG} {l:List Int} (h:Rd w .u8 v l) (e:Ec):bf (w.alloc (.cells #[v] e)) (.slice (some ⟨w.heap.size,0,none⟩) 1 1) [l]:=by
 refine⟨[v],.inr ⟨w.heap.size,0,1,rfl,DH _,show 1<=DV from by decide,fun j u hu=> ?_⟩,rfl,fun i a=> ?_⟩
 ·rw[DY,D6];simpa using hu
 ·have:i=0:=by simpa using a
  subst this;exact h.ext (ae _ _)
theorem n6 {w:DF} {b:Nat} {l:List Int} (h:w.rangeAt b 0 (ao .u8 l)) (a:l.length=n) (hm:n<=DV):Rd w .u8 (.slice (some ⟨b,0,none⟩) n n) l:=by
 subst a;exact .inr ⟨b,0,l.length,rfl,DH _,hm,h⟩
theorem fu (w:DF) (l:List Int) (e:Ec):(w.alloc (.cells (ao .u8 l).toArray e)).rangeAt w.heap.size 0 (ao .u8 l):=fun j v a=>by
 rw[DY,D6];simpa using a
theorem Ak (s:St) (i j:Nat):(if j=4*i+3 then s.l.getD i 0 % 256 else if j=4*i+2 then s.l.getD i 0 / 256 % 256 else if j=4*i+1 then s.l.getD i 0 / 65536 % 256 else if j=4*i then s.l.getD i 0 / 16777216 % 256 else if j < 4*i then s.byte j else 0)=if j < 4*(i+1)then s.byte j else 0:=by
 by_cases d:j=4*i+3
 ·subst d;rw[if_pos rfl,if_pos (by omega)];unfold St.byte;rw[show(4*i+3) / 4=i from by omega,show(4*i+3) % 4=3 from by omega];simp
 rw[if_neg d];by_cases c:j=4*i+2
 ·subst c;rw[if_pos rfl,if_pos (by omega)];unfold St.byte;rw[show(4*i+2) / 4=i from by omega,show(4*i+2) % 4=2 from by omega];rfl
 rw[if_neg c];by_cases b:j=4*i+1
 ·subst b;rw[if_pos rfl,if_pos (by omega)];unfold St.byte;rw[show(4*i+1) / 4=i from by omega,show(4*i+1) % 4=1 from by omega];rfl
 rw[if_neg b];by_cases a:j=4*i
 ·subst a;rw[if_pos rfl,if_pos (by omega)];unfold St.byte;rw[show(4*i) / 4=i from by omega,show(4*i) % 4=0 from by omega];rfl
 rw[if_neg a];by_cases e:j < 4*i
 ·rw[if_pos e,if_pos (by omega)]
 ·rw[if_neg e,if_neg (by omega)]
theorem u7:∀n:Int,0<=n->n < 2^32->IntKind.u32.wrap n=n:=fun n h0 h1=>by
 show n % 2^32=n;exact Int.emod_eq_of_lt h0 h1
theorem AW (i:Nat) (x y:Int) (a:0<=x) (hx:x % 2^i=0) (b:x < 2^32) (c:0<=y) (d:y < 2^i) (h2:y < 2^32):bits .or .u32 x y=x+y:=
 bits_join .u32 32 (by decide) u7 i x y a hx b c d h2
theorem lx (a c:Int) (h0:0<=a) (h1:a < 16777216) (b:0<=c) (d:c<=255):xC a c=a*256+c:=by
 unfold xC;rw[show a*256 % 4294967296=a*256 from by omega];exact AW 8 _ _ (by omega) (by omega) (by omega) (by omega) (by omega) (by omega)
theorem BO (a b c d:Int) (a0:0<=a/\a<=255) (b0:0<=b/\b<=255) (e:0<=c/\c<=255) (d0:0<=d/\d<=255):
  bits .or .u32 (bits .or .u32 (bits .or .u32 (a*16777216) (b*65536)) (c*256)) d=xC (xC (xC (xC 0 a) b) c) d:=by
 rw[lx 0 a (by omega) (by omega) a0.1 a0.2,lx _ b (by omega) (by omega) b0.1 b0.2,lx _ c (by omega) (by omega) e.1 e.2,lx _ d (by omega) (by omega) d0.1 d0.2];rw[AW 24 (a*16777216) _ (by omega) (by omega) (by omega) (by omega) (by omega) (by omega),AW 16 (a*16777216+b*65536) _ (by omega) (by omega) (by omega) (by omega) (by omega) (by omega),AW 8 (a*16777216+b*65536+c*256) _ (by omega) (by omega) (by omega) (by omega) (by omega) (by omega)];omega
theorem iV (L:List Int) (k i:Nat) (h:i < 64):((L.drop (64*k)).take 64).getD i 0=L.getD (64*k+i) 0:=by
 simp only[DJ,List.getElem?_take,List.getElem?_drop,if_pos h]
theorem xJ (L:List Int) (a:bA L) (k t:Nat) (d:t < 16) (h:64*k+64<=L.length):
  bits .or .u32 (bits .or .u32 (bits .or .u32 (L.getD (64*k+4*t) 0*16777216) (L.getD (64*k+4*t+1) 0*65536)) (L.getD (64*k+4*t+2) 0*256)) (L.getD (64*k+4*t+3) 0)=qM ((L.drop (64*k)).take 64) t:=by
 have b:=iV L k (4*t) (by omega);have c:((L.drop (64*k)).take 64).length=64:=by rw[DX,DR];omega
 rw[BO _ _ _ _ (a.get _) (a.get _) (a.get _) (a.get _),<-na];rw[gj _ t 3 (by omega),gj _ t 2 (by omega),gj _ t 1 (by omega),gj _ t 0 (by omega),mZ];simp only[Nat.add_zero,b,iV L k (4*t+1) (by omega),iV L k (4*t+2) (by omega),iV L k (4*t+3) (by omega),<-FX]
theorem gM {w:DF} {g:Nat} {k:E6} {f:Nat->Int} (h:dB w g k n f) (l:List Int) (b:l.length=n):dB (w.setCells g 0 (ao k l)) g k n (fun i=>l.getD i 0):=by
 have a:=Eb w g 0 (ao k l) (by rw[ints_length,b];exact h.there);refine⟨fun i c=> ?_,fun i=> ?_⟩
 ·have:=a i _ (cX k l i (by omega));rw[DY]at this;exact this
 ·rw[World.frozen?_setCells];exact h.2 i
def dC (w:DF) (v:DG) (l:List Int):Prop:=∃p c,v=.slice p l.length c/\Rd w .u8 v l
theorem dC.ext {w w':DF} {v:DG} {l:List Int} (h:dC w v l) (k:az w w'):dC w' v l:=by
 obtain⟨p,c,h1,h2⟩:=h;exact⟨p,c,h1,h2.ext k⟩
theorem n7 (w:DF) (e:Ec) (x:Int):dC (w.alloc (.cells #[.int .u8 x] e)) (.slice (some ⟨w.heap.size,0,none⟩) 1 1) [x]:=⟨_,_,rfl,fe _ _ _ _⟩
def tu (w:DF) (v:DG) (x:Int):Prop:=∃g,v=.slice (some ⟨g,0,none⟩) 1 1/\w.rangeAt g 0 (ao .u8 [x])
theorem tu.ext {w w':DF} {v:DG} (h:tu w v x) (k:az w w'):tu w' v x:=by
 obtain⟨g,h1,h2⟩:=h;exact⟨g,h1,aJ h2 k⟩
theorem u9 (w:DF) (e:Ec) (x:Int):tu (w.alloc (.cells #[.int .u8 x] e)) (.slice (some ⟨w.heap.size,0,none⟩) 1 1) x:=
 ⟨_,rfl,fun j u hu=>by rw[DY,D6];simpa[ao] using hu⟩
def ll (w:DF) (v:DG) (B:Nat) (e:Ec) (n:Nat) (l:List Int):Prop:=∃p c,v=.slice p n c/\w.ownsRow B e 1 v n (ao .u8 l)
theorem ll.ext {w w':DF} {v:DG} {e:Ec} {l:List Int} (h:ll w v B e n l) (k:az w w'):ll w' v B e n l:=by
 obtain⟨p,c,h1,h2⟩:=h;exact⟨p,c,h1,aR h2 k⟩
theorem jU {l:List Int} (h0:0<=x) (h1:x<=255) (h:bA l):bA (x :: l):=fun y hy=>by
 rcases Es.1 hy with rfl | hy
 ·exact⟨h0,h1⟩
 ·exact h y hy
end Go.Proofs.Bl
