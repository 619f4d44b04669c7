/- Texts that stood apart, in one: ShaPlain, ShaEnd, Plain12, Tree, PathP, GrowP. -/
import Derived.Laws.Bits
import Derived.Lib.BitFns
import Derived.WalkLawsBesides
import Derived.WalkSpells
import Derived.Deep.RegionWith
import Derived.IntWalk
import Derived.Lib.SliceRun
import Derived.LoopNIn
import Derived.LoopIn
import Derived.Shelf.Abstract
import Derived.MapKept
import Derived.Carry
import Derived.ArgAppend
import Derived.Deep.Upon
import Derived.LaidSub
import Derived.MakeChecks
import Derived.Stop.LaidErr
import Derived.Laws.BitsLemmas
import Derived.Lib.AppendZerosOnto
import Derived.Laws.IdiomCopy
import Derived.Test.YtglenbikdahgjaaGreatDoorPs00
import Derived.Test.YtglenbikdahgjaaGreatDoorProg
import Derived.Test.YtglenbikdahgjaaGreatDoorChecked
import Derived.Test.YtglenbikdahgjaaGreatDoorShelf
set_option maxRecDepth 100000
set_option maxHeartbeats 16000000
open Array renaming getElem?_eq_some_iff->DQ
open Go renaming Calls->CZ,IntKind->El,Program->Ds,TypeId->Dn,Value->CQ,World->CP,maxLen->Dc,run_underlying->Fa,undef->DT
open Go.Addr renaming add_mid->EH
open Go.Instr renaming lookup->ER
open Go.KeepsOthers renaming setCell->EO
open Go.Lib renaming bitLen->FP,run_eql_slice_nil->F8
open Go.MapKept renaming run_findKey->FQ,run_getObj_map->Fe
open Go.Result renaming andThen->Ff
open Go.RowKit.Below renaming refl->CT
open Go.Value renaming int->Dx
open Go.World renaming cell?_alloc_new->Df,cell?_of_block->Dp,rangeAt_setCells_same->Dr
open List renaming append_assoc->DH,finRange->E9,flatten_append->Gv,getD_eq_getElem?_getD->CR,getElem?_append_left->D4,getElem?_eq_getElem->CV,length_append->C7,length_cons->DB,length_drop->C6,length_eq_zero_iff->DI,length_nil->DY,length_take->Da,mem_cons->DA,mem_map->DM,nil_append->Eh,range->DD,replicate->Dl,take_add_one->F9,take_append_drop->D5,take_of_length_le->CX,take_succ_eq_append_getElem->Ee
open Nat renaming add_assoc->Fm,le_refl->CU,le_trans->Dk,lt_of_lt_of_le->Dd,mul_le_mul_right->EK,one_le_two_pow->FV,pow_succ->FF,strongRecOn->GB,zero_add->Dq,zero_le->C9
open Option.some renaming inj->Ei
namespace Go.Proofs.Bl
open Go Go.RowKit Go.Proofs
open Go.Proofs.Tryz renaming prog->CO,underlying27->Ef,underlying5->Ex,underlying9->EY
variable {n base m B k:Nat} {i x:Int}
def xr (a b:Int):Int:=bits .xor .u32 a b
def an (a b:Int):Int:=bits .and .u32 a b
def AZ (a b:Int):Int:=bits .or .u32 a b
def ad (a b:Int):Int:=(a+b) % 4294967296
def nL (n:Nat) (x:Int):Int:=bits .or .u32 (x*2^(32 - n) % 4294967296) (x / 2^n)
theorem mT (a b:Int):bits .or .u32 a b=bits .or .u32 b a:=by
 simp only[bits,BitVec.or_comm]
def yF (a b c:Nat) (x:Int):Int:=xr (xr (nL a x) (nL b x)) (nL c x)
def xt (a b c:Nat) (x:Int):Int:=xr (xr (nL a x) (nL b x)) (x / 2^c)
def vZ (acc c:Int):Int:=bits .or .u32 (acc*256 % 4294967296) c
def pJ (b:List Int) (t:Nat):Int:=((b.drop (4*t)).take 4).foldl vZ 0
def j6 (b:List Int) (t j:Nat):Int:=((b.drop (4*t)).take j).foldl vZ 0
theorem mq (b:List Int) (t:Nat):j6 b t 0=0:=by simp[j6]
theorem mr (b:List Int) (t:Nat):j6 b t 4=pJ b t:=rfl
theorem fY (b:List Int) (t j:Nat) (h:4*t+j < b.length):j6 b t (j+1)=vZ (j6 b t j) (b.getD (4*t+j) 0):=by
 unfold j6;rw[Ee (by simp;omega),List.foldl_append];simp[CR,CV h]
def rh (b:List Int) (n:Nat) (l:List Int):Int:=
 if n < 16 then pJ b n else ad (ad (ad (xt 17 19 10 (l.getD (n - 2) 0)) (l.getD (n - 7) 0)) (xt 7 18 3 (l.getD (n - 15) 0))) (l.getD (n - 16) 0)
def Bw (b:List Int):Nat->List Int
 | 0=>[]
 | n+1=>Bw b n++[rh b n (Bw b n)]
@[simp] theorem wl_length (b:List Int) (n:Nat):(Bw b n).length=n:=by induction n<;>simp_all [Bw]
def Bx (b:List Int) (i:Nat):Int:=rh b i (Bw b i)
theorem jA (b:List Int) (n i:Nat) (h:i < n):(Bw b n).getD i 0=Bx b i:=by
 induction n with
 | zero=>omega
 | succ n ih=>
  by_cases e:i=n
  ·subst e;rw[CR];simp[Bw,Bx]
  ·have:=ih (by omega);rw[CR]at this⊢;simp only[Bw];rw[D4 (by simp;omega)];exact this
theorem yG (b:List Int) (n:Nat):Bw b n=(DD n).map (Bx b):=by
 induction n with
 | zero=>rfl
 | succ n ih=>rw[List.range_succ,List.map_append,<-ih];rfl
theorem xu (b:List Int) (i:Nat) (h:i < 16):Bx b i=pJ b i:=by simp[Bx,rh,h]
theorem xv (b:List Int) (i:Nat) (h:16<=i):Bx b i=ad (ad (ad (xt 17 19 10 (Bx b (i - 2))) (Bx b (i - 7))) (xt 7 18 3 (Bx b (i - 15)))) (Bx b (i - 16)):=by
 conv=>lhs;unfold Bx rh
 rw[if_neg (by omega),jA b i (i - 2) (by omega),jA b i (i - 7) (by omega),jA b i (i - 15) (by omega),jA b i (i - 16) (by omega)]
def kt:List Int:=[1116352408,1899447441,3049323471,3921009573,961987163,1508970993,2453635748,2870763221,3624381080,310598401,607225278,1426881987,1925078388,2162078206,2614888103,3248222580,3835390401,4022224774,264347078,604807628,770255983,1249150122,1555081692,1996064986,2554220882,2821834349,2952996808,3210313671,3336571891,3584528711,113926993,338241895,666307205,773529912,1294757372,1396182291,1695183700,1986661051,2177026350,2456956037,2730485921,2820302411,3259730800,3345764771,3516065817,3600352804,4094571909,275423344,430227734,506948616,659060556,883997877,958139571,1322822218,1537002063,1747873779,1955562222,2024104815,2227730452,2361852424,2428436474,2756734187,3204031479,3329325298]
def iv:List Int:=[1779033703,3144134277,1013904242,2773480762,1359893119,2600822924,528734635,1541459225]
structure St where
 a:Int
 b:Int
 c:Int
 d:Int
 e:Int
 f:Int
 g:Int
 h:Int
def St.l (s:St):List Int:=[s.a,s.b,s.c,s.d,s.e,s.f,s.g,s.h]
def fJ:St:=⟨1779033703,3144134277,1013904242,2773480762,1359893119,2600822924,528734635,1541459225⟩
def zI (s:St) (k w:Int):Int:=s.h+yF 6 11 25 s.e+bits .xor .u32 (bits .and .u32 s.e s.f) (bits .and .u32 (bits .xor .u32 IntKind.u32.max s.e) s.g)+k+w
def Aj (s:St):Int:=yF 2 13 22 s.a+bits .xor .u32 (bits .xor .u32 (bits .and .u32 s.a s.b) (bits .and .u32 s.a s.c)) (bits .and .u32 s.b s.c)
def yw (s:St) (k w:Int):St:=⟨(zI s k w+Aj s) % 4294967296,s.a,s.b,s.c,(s.d+zI s k w) % 4294967296,s.e,s.f,s.g⟩
def pK (s:St) (ws:List Int):Nat->St
 | 0=>s
 | t+1=>yw (pK s ws t) (kt.getD t 0) (ws.getD t 0)
def zg (s z:St):St:=⟨(s.a+z.a) % 4294967296,(s.b+z.b) % 4294967296,(s.c+z.c) % 4294967296,(s.d+z.d) % 4294967296,(s.e+z.e) % 4294967296,(s.f+z.f) % 4294967296,(s.g+z.g) % 4294967296,(s.h+z.h) % 4294967296⟩
def cZ (s:St) (blk:List Int):St:=zg (pK s (Bw blk 64) 64) s
abbrev St.val (s:St):CQ:=.agg #[.int .u32 s.a,.int .u32 s.b,.int .u32 s.c,.int .u32 s.d,.int .u32 s.e,.int .u32 s.f,.int .u32 s.g,.int .u32 s.h]
theorem wc (s z:St) (i:Nat) (h:i < 8):(zg s z).l.getD i 0=(s.l.getD i 0+z.l.getD i 0) % 4294967296:=by
 match i,h with
 | 0,_=>rfl
 | 1,_=>rfl
 | 2,_=>rfl
 | 3,_=>rfl
 | 4,_=>rfl
 | 5,_=>rfl
 | 6,_=>rfl
 | 7,_=>rfl
def mU:Nat->St->List Int->St × List Int
 | 0,z,l=>(z,l)
 | f+1,z,l=>if 64<=l.length then mU f (cZ z (l.take 64)) (l.drop 64)else(z,l)
theorem mu:∀(f g:Nat) (z:St) (l:List Int),l.length<=f->l.length<=g->mU f z l=mU g z l
 | 0,0,_,_,_,_=>rfl
 | 0,g+1,z,l,h,_=>by simp only[mU];rw[if_neg (by omega)]
 | f+1,0,z,l,_,h=>by simp only[mU];rw[if_neg (by omega)]
 | f+1,g+1,z,l,h,k=>by
  simp only[mU];split
  ·exact mu f g _ _ (by rw[C6];omega) (by rw[C6];omega)
  ·rfl
def jB (z:St) (l:List Int):St × List Int:=mU l.length z l
theorem iq (z:St) (l:List Int) (h:l.length < 64):jB z l=(z,l):=by
 unfold jB;cases hl:l.length with
 | zero=>rfl
 | succ n=>simp only[mU];rw[if_neg (by omega)]
theorem jd (z:St) (l:List Int) (h:64<=l.length):jB z l=jB (cZ z (l.take 64)) (l.drop 64):=by
 unfold jB;cases hl:l.length with
 | zero=>omega
 | succ n=>simp only[mU];rw[if_pos (by omega)];exact mu _ _ _ _ (by rw[C6];omega) (CU _)
theorem ll (b:List Int):∀(n:Nat) (z:St) (a:List Int),a.length<=n->jB z (a++b)=jB (jB z a).1 ((jB z a).2++b):=by
 intro n;induction n with
 | zero=>intro z a h;rw[iq z a (by omega)]
 | succ n ih=>
  intro z a h;by_cases c:64<=a.length
  ·rw[jd z a c,jd z (a++b) (by rw[C7];omega),List.take_append_of_le_length c,List.drop_append_of_le_length c];exact ih _ _ (by rw[C6];omega)
  ·rw[iq z a (by omega)]
theorem nT:∀(n:Nat) (z:St) (l:List Int),l.length<=n->(jB z l).2.length < 64/\∀x∈(jB z l).2,x∈l:=by
 intro n;induction n with
 | zero=>intro z l h;rw[iq z l (by omega)];exact⟨by show l.length < 64;omega,fun x hx=>hx⟩
 | succ n ih=>
  intro z l h;by_cases c:64<=l.length
  ·rw[jd z l c];obtain⟨a,b⟩:=ih (cZ z (l.take 64)) (l.drop 64) (by rw[C6];omega);exact⟨a,fun x hx=>List.mem_of_mem_drop (b x hx)⟩
  ·rw[iq z l (by omega)];exact⟨by show l.length < 64;omega,fun x hx=>hx⟩
def dC (n:Nat):Nat:=(119 - n % 64) % 64
def je (n:Nat):List Int:=(DD 8).map fun k=>((n*8 / 2^(56 - 8*k) % 256:Nat):Int)
@[simp] theorem lenb_length (n:Nat):(je n).length=8:=by simp[je]
theorem mv (n j:Nat) (h:j < 8):(je n).take (j+1)=(je n).take j++[(n:Int)*8 / 2^(56 - 8*j) % 256]:=by
 rw[F9,CV (by simpa using h)];simp[je]
def kP (l:List Int) (n:Nat):List Int:=l++128 :: Dl (dC l.length) 0++je n
theorem nU (n:Nat):(n+1+dC n+8) % 64=0:=by unfold dC;omega
theorem tM (n:Nat):bI (je n):=fun x hx=>by
 obtain⟨k,_,rfl⟩:=DM.1 hx;have:=Nat.mod_lt (n*8 / 2^(56 - 8*k)) (show 0 < 256 by decide);omega
theorem we (k:Nat):bI (Dl k 0):=fun x hx=>by have:=List.eq_of_mem_replicate hx;omega
theorem ri {l:List Int} (n:Nat) (h:bI l):bI (kP l n):=
 (h.append (fun x hx=>by
  rcases DA.1 hx with rfl | hx
  ·decide
  ·exact we _ x hx)).append (tM n)
def gH (x:Int):List Int:=[x / 16777216 % 256,x / 65536 % 256,x / 256 % 256,x % 256]
def St.bytes (s:St):List Int:=gH s.a++gH s.b++gH s.c++gH s.d++gH s.e++gH s.f++gH s.g++gH s.h
@[simp] theorem St.bytes_length (s:St):s.bytes.length=32:=rfl
def St.byte (s:St) (j:Nat):Int:=s.l.getD (j / 4) 0 / 2^(24 - 8*(j % 4)) % 256
theorem St.BV (s:St) (j:Nat) (h:j < 32):s.bytes.getD j 0=s.byte j:=by
 have:j=0\/j=1\/j=2\/j=3\/j=4\/j=5\/j=6\/j=7\/j=8\/j=9\/j=10\/j=11\/j=12\/j=13\/j=14\/j=15\/j=16\/j=17\/j=18\/j=19\/j=20\/j=21\/j=22\/j=23\/j=24\/j=25\/j=26\/j=27\/j=28\/j=29\/j=30\/j=31:=by omega
 rcases this with rfl | rfl | rfl | rfl | rfl | rfl | rfl | rfl | rfl | rfl | rfl | rfl | rfl | rfl | rfl | rfl | rfl | rfl | rfl | rfl | rfl | rfl | rfl | rfl | rfl | rfl | rfl | rfl | rfl | rfl | rfl | rfl<;>simp[St.bytes,St.byte,St.l,gH]
theorem St.BW (s:St):(DD 32).map (fun j=>if j < 4*8 then s.byte j else 0)=s.bytes:=by
 apply List.ext_getElem
 ·simp
 ·intro i h1 h2;have a:i < 32:=by simpa using h1
  have:=s.BV i a;rw[CR,CV h2]at this;simp only[Option.getD_some]at this;simp[this];omega
def ir (L:List Int) (z:St) (ks:List Nat):St:=ks.foldl (fun z k=>cZ z ((L.drop (64*k)).take 64)) z
theorem mV {α :Type} (f: α ->List Int-> α) (L:List Int) (m:Nat) (z: α):
  (DD (m+1)).foldl (fun z k=>f z ((L.drop (64*k)).take 64)) z=(DD m).foldl (fun z k=>f z (((L.drop 64).drop (64*k)).take 64)) (f z (L.take 64)):=by
 rw[List.range_succ_eq_map,List.foldl_cons,List.foldl_map];simp only[List.drop_drop,Nat.mul_zero,List.drop_zero];have:(fun(x: α) (y:Nat)=>f x (List.take 64 (List.drop (64*y.succ) L)))=fun z k=>f z (List.take 64 (List.drop (64+64*k) L)):=by funext z k;rw[show 64*(k+1)=64+64*k from by omega]
 rw[this]
theorem kA (m:Nat):∀(L:List Int) (z:St),L.length=64*m->ir L z (DD m)=(jB z L).1:=by
 induction m with
 | zero=>intro L z h;rw[iq z L (by omega)];rfl
 | succ m ih=>intro L z h;rw[jd z L (by omega),<-ih (L.drop 64) (cZ z (L.take 64)) (by rw[C6];omega)];exact mV cZ L m z
def nV (z:St) (l:List Int) (n:Nat):St:=(jB z (kP l n)).1
def fZ:CQ->Nat
 | .slice _ n _=>n
 | _=>0
theorem eJ:∀(m:Nat),1<=m->m < 2^64->1<=FP m/\2^(FP m - 1)<=m/\m < 2^(FP m):=by
 intro m;induction m using GB with
 | _ m ih=>
  intro h1 h2;rw[Lib.bitLen_half m (by omega) h2];by_cases h:m=1
  ·subst h;decide
  ·obtain⟨a,b,c⟩:=ih (m / 2) (by omega) (by omega) (by omega);generalize FP (m / 2)=q at a b c;obtain⟨q,rfl⟩:∃r,q=r+1:=⟨q - 1,by omega⟩;refine⟨by omega,?_,?_⟩
   ·rw[show 1+(q+1) - 1=q+1 from by omega,FF];simp only[Nat.add_sub_cancel]at b;omega
   ·rw[show 1+(q+1)=(q+1)+1 from by omega,FF];omega
theorem j7 (a b:Nat) (h:a<=b):2^a<=2^b:=Nat.pow_le_pow_right (by decide) h
theorem rN (m j:Nat) (h2:m < 2^64) (a:2^j<=m) (b:m < 2^(j+1)):FP m=j+1:=by
 have h1:1<=m:=Dk (FV) a;obtain⟨c,d,e⟩:=eJ m h1 h2;generalize FP m=q at*;have f:¬q < j+1:=fun h=>by have:=j7 q j (by omega);omega
 have g:¬j+1 < q:=fun h=>by have:=j7 (j+1) (q - 1) (by omega);omega
 omega
def sp (n:Nat):Nat:=if n < 2 then 0 else 2^(FP (n - 1) - 1)
def dp (n:Nat):Nat:=if n < 2 then 0 else FP (n - 1)
theorem yH (n:Nat) (h:n < 2):sp n=0:=by simp[sp,h]
theorem xw (n:Nat) (h:n < 2):dp n=0:=by simp[dp,h]
theorem lp (n:Nat) (h:2<=n) (a:n < 2^63):FP (n - 1)<=63:=by
 exact Lib.bitLen_le (n - 1) 63 (by decide) (by omega)
theorem bN (n:Nat) (h:2<=n) (d:n < 2^63):1<=sp n/\sp n < n/\n - sp n<=sp n:=by
 obtain⟨a,b,c⟩:=eJ (n - 1) (by omega) (by omega);unfold sp;rw[if_neg (by omega)];generalize FP (n - 1)=q at*;obtain⟨q,rfl⟩:∃r,q=r+1:=⟨q - 1,by omega⟩;simp only[Nat.add_sub_cancel,FF]at*;have:=FV (n:=q);omega
theorem mw (n j:Nat) (c:n < 2^63) (a:2^j < n) (b:n<=2^j*2):sp n=2^j:=by
 have:=FV (n:=j);unfold sp;rw[if_neg (by omega),rN (n - 1) j (by omega) (by omega) (by rw[FF];omega)];rfl
theorem tN (n:Nat) (h:2<=n):sp n=2^(dp n - 1):=by
 unfold sp dp;rw[if_neg (by omega),if_neg (by omega)]
theorem gd (n:Nat) (h:2<=n) (e:n < 2^63):1<=dp n/\dp n<=63/\2^(dp n - 1) < n/\n<=2^(dp n):=by
 obtain⟨a,b,c⟩:=eJ (n - 1) (by omega) (by omega);have d:=lp n h e;unfold dp;rw[if_neg (by omega)];exact⟨a,d,by omega,by omega⟩
section
variable {D:Type} (nd:D->D->D) (z:D)
def iW:Nat->List D->D
 | 0,_=>z
 | f+1,l=>if l.length < 2 then l.headD z else nd (iW f (l.take (sp l.length))) (iW f (l.drop (sp l.length)))
def over (l:List D):D:=iW nd z l.length l
theorem fp:∀(f g:Nat) (l:List D),l.length<=f->l.length<=g->l.length < 2^63->iW nd z f l=iW nd z g l
 | 0,0,_,_,_,_=>rfl
 | 0,g+1,l,h,_,_=>by
  have:l=[]:=DI.1 (by omega);subst this;simp[iW]
 | f+1,0,l,_,h,_=>by have:l=[]:=DI.1 (by omega);subst this;simp[iW]
 | f+1,g+1,l,h,k,hn=>by
  simp only[iW];split
  ·rfl
  ·obtain⟨a,b,c⟩:=bN l.length (by omega) hn
   rw[fp f g (l.take (sp l.length)) (by rw[Da];omega) (by rw[Da];omega) (by rw[Da];omega),
    fp f g (l.drop (sp l.length)) (by rw[C6];omega) (by rw[C6];omega) (by rw[C6];omega)]
theorem tO:over nd z []=z:=rfl
theorem jC (d:D):over nd z [d]=d:=by simp[over,iW]
theorem jD (l:List D) (h:2<=l.length) (d:l.length < 2^63):over nd z l=nd (over nd z (l.take (sp l.length))) (over nd z (l.drop (sp l.length))):=by
 obtain⟨a,b,c⟩:=bN l.length h d;unfold over;rw[fp nd z l.length (l.length - 1+1) l (by omega) (by omega) d];simp only[iW];rw[if_neg (by omega)]
 rw[fp nd z (l.length - 1) (l.take (sp l.length)).length (l.take (sp l.length)) (by rw[Da];omega) (CU _) (by rw[Da];omega),
  fp nd z (l.length - 1) (l.drop (sp l.length)).length (l.drop (sp l.length)) (by rw[C6];omega) (CU _) (by rw[C6];omega)]
def up:List D->List D
 | a :: b :: r=>nd a b :: up r
 | l=>l
theorem gh:∀(l:List D),(up nd l).length=(l.length+1) / 2
 | []=>by simp[up]
 | [a]=>by simp[up]
 | a :: b :: r=>by simp only[up,DB,gh r];omega
theorem my:∀(k:Nat) (a b:List D),a.length=2*k->up nd (a++b)=up nd a++up nd b
 | 0,a,b,h=>by
  have:a=[]:=DI.1 (by omega);subst this;simp[up]
 | k+1,[],b,h=>by simp at h
 | k+1,[x],b,h=>by simp at h;omega
 | k+1,x :: y :: r,b,h=>by simp only[List.cons_append,up];rw[my k r b (by simp at h;omega)]
theorem wg:∀(n:Nat) (l:List D),l.length=n->l.length < 2^63->over nd z (up nd l)=over nd z l:=by
 intro n;induction n using GB with
 | _ n ih=>
  intro l e d
  match l,e with
  | [],_=>simp[up]
  | [a],_=>simp[up]
  | [a,b],_=>
   rw[jD nd z [a,b] (by simp) (by simp)];have:sp 2=1:=by decide+kernel
   simp[up,this,jC]
  | a :: b :: c :: r,e=>
   obtain⟨l,g⟩:=exq (a :: b :: c :: r);rw[<-g]at e d⊢;have s:3<=l.length:=by rw[g];simp
   obtain⟨d1,d2,d3,d4⟩:=gd l.length (by omega) d;have f:=tN l.length (by omega)
   obtain⟨j,i⟩:∃j,dp l.length=j+2:=⟨dp l.length - 2,by
    have:dp l.length≠1:=fun q=>by rw[q]at d4;simp at d4;omega
    omega⟩
   rw[i]at d3 d4 f;simp only[show j+2 - 1=j+1 from rfl]at d3 f;obtain⟨s1,s2,v⟩:=bN l.length (by omega) d;have t:=gh nd l;have o:2^(j+1)=2*2^j:=by rw[FF];omega
   have p:2^(j+2)=4*2^j:=by rw[FF,FF];omega
   have hp:=FV (n:=j);have m:sp (up nd l).length=2^j:=mw _ j (by omega) (by omega) (by omega);rw[jD nd z l (by omega) d,jD nd z (up nd l) (by omega) (by omega),m,f];have k:l=l.take (2^(j+1))++l.drop (2^(j+1)):=(D5 _ _).symm;have h:(l.take (2^(j+1))).length=2*2^j:=by rw[Da];omega
   have hu:up nd l=up nd (l.take (2^(j+1)))++up nd (l.drop (2^(j+1))):=by
    conv=>lhs;rw[k]
    exact my nd _ _ _ h
   have u:(up nd (l.take (2^(j+1)))).length=2^j:=by rw[gh,h];omega
   rw[hu,List.take_append_of_le_length (by omega),CX (by omega),List.drop_append_of_le_length (by omega),List.drop_of_length_le (by omega),Eh];rw[ih _ (by omega) (l.take (2^(j+1))) rfl (by omega),ih _ (by rw[C6];omega) (l.drop (2^(j+1))) rfl (by rw[C6];omega)]
def gp (n:Nat):Nat:=sp (n+1)
def tP:Nat->List D->List D
 | 0,_=>[]
 | f+1,l=>if l.length=0 then []else over nd z (l.take (gp l.length)) :: tP f (l.drop (gp l.length))
def yI (l:List D):List D:=tP nd z l.length l
def tQ:Nat->Nat->Nat
 | 0,_=>0
 | f+1,n=>if n % 2=1 then tQ f (n / 2)+1 else 0
def zJ (n:Nat):Nat:=tQ n n
def zK (t:Nat) (ps:List D) (d:D):List D:=ps.take (ps.length - t)++[(ps.drop (ps.length - t)).foldr nd d]
def yJ:List D->D
 | []=>z
 | [d]=>d
 | p :: r=>nd p (yJ r)
end
def fq:Nat->Nat->Nat->List (Bool × Nat × Nat)
 | 0,_,_=>[]
 | f+1,n,i=>if n < 2 then []else if i < sp n then(true,sp n,i) :: fq f (sp n) i else(false,n - sp n,i - sp n) :: fq f (n - sp n) (i - sp n)
def bP (n i:Nat):List (Bool × Nat × Nat):=fq n n i
theorem dZ:∀(f g n i:Nat),n<=f->n<=g->n < 2^63->fq f n i=fq g n i
 | 0,0,_,_,_,_,_=>rfl
 | 0,g+1,n,i,h,_,_=>by simp only[fq];rw[if_pos (by omega)]
 | f+1,0,n,i,_,h,_=>by simp only[fq];rw[if_pos (by omega)]
 | f+1,g+1,n,i,h,k,hn=>by
  simp only[fq];split
  ·rfl
  ·obtain⟨a,b,c⟩:=bN n (by omega) hn;rw[dZ f g (sp n) i (by omega) (by omega) (by omega),dZ f g (n - sp n) (i - sp n) (by omega) (by omega) (by omega)]
theorem ec (n i:Nat) (h:n < 2):bP n i=[]:=by
 unfold bP;cases n with
 | zero=>rfl
 | succ n=>simp only[fq];rw[if_pos h]
theorem ed (n i:Nat) (h:2<=n) (d:n < 2^63) (e:i < sp n):bP n i=(true,sp n,i) :: bP (sp n) i:=by
 obtain⟨a,b,c⟩:=bN n h d;unfold bP;rw[dZ n (n - 1+1) n i (by omega) (by omega) d];simp only[fq];rw[if_neg (by omega),if_pos e,dZ (n - 1) (sp n) (sp n) i (by omega) (CU _) (by omega)]
theorem dN (n i:Nat) (h:2<=n) (d:n < 2^63) (e:¬i < sp n):bP n i=(false,n - sp n,i - sp n) :: bP (n - sp n) (i - sp n):=by
 obtain⟨a,b,c⟩:=bN n h d;unfold bP;rw[dZ n (n - 1+1) n i (by omega) (by omega) d];simp only[fq];rw[if_neg (by omega),if_neg e,dZ (n - 1) (n - sp n) (n - sp n) (i - sp n) (by omega) (CU _) (by omega)]
theorem eB:∀(m n i:Nat),n<=m->n < 2^63->(bP n i).length<=n
 | 0,n,i,h,_=>by rw[ec n i (by omega)];exact C9 _
 | m+1,n,i,h,hn=>by
  by_cases h2:2<=n
  ·obtain⟨a,b,c⟩:=bN n h2 hn;by_cases d:i < sp n
   ·rw[ed n i h2 hn d,DB];have:=eB m (sp n) i (by omega) (by omega);omega
   ·rw[dN n i h2 hn d,DB];have:=eB m (n - sp n) (i - sp n) (by omega) (by omega);omega
  ·rw[ec n i (by omega)];exact C9 _
def iu (n i:Int):Bool:=decide (n<=512)&&decide (0<=i)&&decide (i < n)
def Ak (n i:Int):Int:=if iu n i=true then((bP n.toNat i.toNat).length:Int)else -1
theorem mz {n:Int} (h1:n<=512) (h2:0<=i) (a:i < n):iu n i=true:=by
 unfold iu;rw[decide_eq_true h1,decide_eq_true h2,decide_eq_true a];rfl
theorem iK {n:Int} (h:¬(n<=512/\0<=i/\i < n)):iu n i=false:=by
 cases hb:iu n i with
 | false=>rfl
 | true=>unfold iu at hb;simp only[Bool.and_eq_true,decide_eq_true_eq]at hb;exact absurd ⟨hb.1.1,hb.1.2,hb.2⟩ h
section
variable {D:Type} (nd:D->D->D) (z:D)
def iw:Nat->List D->Nat->List D
 | 0,_,_=>[]
 | f+1,l,i=>if l.length < 2 then []else if i < sp l.length then iw f (l.take (sp l.length)) i++[over nd z (l.drop (sp l.length))]else iw f (l.drop (sp l.length)) (i - sp l.length)++[over nd z (l.take (sp l.length))]
def dm (l:List D) (i:Nat):List D:=iw nd z l.length l i
theorem eC:∀(f g:Nat) (l:List D) (i:Nat),l.length<=f->l.length<=g->l.length < 2^63->iw nd z f l i=iw nd z g l i
 | 0,0,_,_,_,_,_=>rfl
 | 0,g+1,l,i,h,_,_=>by simp only[iw];rw[if_pos (by omega)]
 | f+1,0,l,i,_,h,_=>by simp only[iw];rw[if_pos (by omega)]
 | f+1,g+1,l,i,h,k,hn=>by
  simp only[iw];split
  ·rfl
  ·obtain⟨a,b,c⟩:=bN l.length (by omega) hn
   rw[eC f g (l.take (sp l.length)) i (by rw[Da];omega) (by rw[Da];omega) (by rw[Da];omega),
    eC f g (l.drop (sp l.length)) (i - sp l.length) (by rw[C6];omega) (by rw[C6];omega) (by rw[C6];omega)]
theorem gi (l:List D) (i:Nat) (h:l.length < 2):dm nd z l i=[]:=by
 unfold dm;cases hl:l.length with
 | zero=>rfl
 | succ n=>simp only[iw];rw[if_pos h]
theorem gI (l:List D) (i:Nat) (h:2<=l.length) (d:l.length < 2^63) (e:i < sp l.length):dm nd z l i=dm nd z (l.take (sp l.length)) i++[over nd z (l.drop (sp l.length))]:=by
 obtain⟨a,b,c⟩:=bN l.length h d;unfold dm;rw[eC nd z l.length (l.length - 1+1) l i (by omega) (by omega) d];simp only[iw];rw[if_neg (by omega),if_pos e,eC nd z (l.length - 1) (l.take (sp l.length)).length _ i (by rw[Da];omega) (CU _) (by rw[Da];omega)]
theorem fK (l:List D) (i:Nat) (h:2<=l.length) (d:l.length < 2^63) (e:¬i < sp l.length):dm nd z l i=dm nd z (l.drop (sp l.length)) (i - sp l.length)++[over nd z (l.take (sp l.length))]:=by
 obtain⟨a,b,c⟩:=bN l.length h d;unfold dm;rw[eC nd z l.length (l.length - 1+1) l i (by omega) (by omega) d];simp only[iw];rw[if_neg (by omega),if_neg e,eC nd z (l.length - 1) (l.drop (sp l.length)).length _ (i - sp l.length) (by rw[C6];omega) (CU _) (by rw[C6];omega)]
theorem gj:∀(m:Nat) (l:List D) (i:Nat),l.length<=m->l.length < 2^63->(dm nd z l i).length=(bP l.length i).length
 | 0,l,i,h,_=>by rw[gi nd z l i (by omega),ec _ _ (by omega)];rfl
 | m+1,l,i,h,hn=>by
  by_cases h2:2<=l.length
  ·obtain⟨a,b,c⟩:=bN l.length h2 hn;by_cases e:i < sp l.length
   ·have d:=gj m (l.take (sp l.length)) i (by rw[Da];omega) (by rw[Da];omega);rw[Da,Nat.min_eq_left (by omega)]at d;rw[gI nd z l i h2 hn e,ed _ _ h2 hn e];simp only[C7,DB,DY,d]
   ·have d:=gj m (l.drop (sp l.length)) (i - sp l.length) (by rw[C6];omega) (by rw[C6];omega);rw[C6]at d;rw[fK nd z l i h2 hn e,dN _ _ h2 hn e];simp only[C7,DB,DY,d]
  ·rw[gi nd z l i (by omega),ec _ _ (by omega)];rfl
def Al (d:D) (t:Bool × Nat × Nat) (s:D):D:=if t.1 then nd d s else nd s d
def xx (d:D):List ((Bool × Nat × Nat) × D)->D
 | []=>d
 | (t,s) :: r=>xx (Al nd d t s) r
def yK (n i:Nat) (d:D) (p:List D):D:=xx nd d ((bP n i).reverse.zip p)
end
def lq:Nat->Nat->Nat->Nat->Bool->List (Bool × Nat × Nat) × Bool × Nat
 | 0,_,_,fr,w=>([],w,fr)
 | f+1,m,n,fr,w=>
  if m < n then
   if m<=sp n then((false,fr+sp n,fr+n) :: (lq f m (sp n) fr w).1,(lq f m (sp n) fr w).2)
   else((true,fr,fr+sp n) :: (lq f (m - sp n) (n - sp n) (fr+sp n) false).1,(lq f (m - sp n) (n - sp n) (fr+sp n) false).2)
  else([],w,fr)
def lu (m n fr:Nat) (w:Bool):List (Bool × Nat × Nat) × Bool × Nat:=lq n m n fr w
def Am (fr:Nat) (l:List (Bool × Nat × Nat)):Nat:=l.foldl (fun a s=>if s.1=true then s.2.2 else a) fr
def yL (m n:Nat) (w:Bool):Nat:=(lu m n 0 w).1.length+(if (lu m n 0 w).2.1=true then 0 else 1)
section
variable {D:Type} (nd:D->D->D) (z:D)
def zn:Nat->List D->Nat->Bool->List D
 | 0,_,_,_=>[]
 | f+1,l,m,w=>
  if m < l.length then
   if m<=sp l.length then zn f (l.take (sp l.length)) m w++[over nd z (l.drop (sp l.length))]
   else zn f (l.drop (sp l.length)) (m - sp l.length) false++[over nd z (l.take (sp l.length))]
  else if w=true then []else [over nd z l]
def An (l:List D) (m:Nat) (w:Bool):List D:=zn nd z l.length l m w
def Ao (L:List D) (a b:Nat):List D:=(L.drop a).take (b - a)
def yM (r:D × D) (left:Bool) (d:D):D × D:=if left=true then(nd d r.1,nd d r.2)else(r.1,nd r.2 d)
def pL (r:D × D):List (Bool × D)->D × D
 | []=>r
 | (b,d) :: t=>pL (yM nd r b d) t
def yN (m n:Nat) (old:D) (w:Bool) (p:List D):D × D:=
 if (lu m n 0 w).2.1=true then pL nd (old,old) (((lu m n 0 w).1.map (·.1)).reverse.zip p)
 else pL nd (p.headD z,p.headD z) (((lu m n 0 w).1.map (·.1)).reverse.zip p.tail)
end
def cP (g n:Nat) (w w':CP):Prop:=w.heap.size<=w'.heap.size/\∀k,k < n->k≠g->w'.heap[k]? =w.heap[k]?
theorem cP.refl (g n:Nat) (w:CP):cP g n w w:=⟨CU _,fun _ _ _=>rfl⟩
theorem cP.trans {g:Nat} {a b c:CP} (h:cP g n a b) (k:cP g n b c):cP g n a c:=⟨Dk h.1 k.1,fun i e d=>(k.2 i e d).trans (h.2 i e d)⟩
theorem cP.cell {g:Nat} {w w':CP} (h:cP g n w w') {b i:Nat} (a:b < n) (c:b≠g):w'.cell? ⟨b,i,none⟩=w.cell? ⟨b,i,none⟩:=Dp (w:=w) (h.2 b a c)
theorem cP.putObj {g:Nat} {w:CP} (d:n<=w.heap.size) (W:CP) (l:Nat) (o a:Obj) (c:w.heap.size<=l) (_:W.heap[l]? =some o) (_:o.isCells=false) (_:o.isWalk=false):cP g n W (W.putObj l a):=
 ⟨by simp,fun k b _=>World.putObj_heap_other (by omega)⟩
theorem cP.BZ {g:Nat} {w w':CP} (h:Below B w w') (b:n<=B):cP g n w w':=⟨h.size,fun k a _=>h.block k (by omega)⟩
theorem jE {β :Type} {g:Nat} {c:CP} (h:n<=B) (j:n<=c.heap.size):OwnFrom B (fun(_: β) W=>cP g n c W):=
 fun _ W f row b a d=>by
  exact b.trans ⟨a.size,fun k i _=>a.block k (by have:=b.1;omega) (fun e=>by have:=(d k e.symm).1;omega)⟩
theorem dz.BU {g:Nat} {w w':CP} {b:Nat} {k:El} {f:Nat->Int} (h:dz w b k m f) (d:cP g n w w') (a:b < n) (c:b≠g):dz w' b k m f:=
 ⟨fun i e=>(d.cell a c).trans (h.1 i e),fun i=>(World.frozen?_of_block (w:=w) (d.2 b a c)).trans (h.2 i)⟩
theorem j8 (w:CP) (v:CQ) (t:Dn):(w.alloc (.cells #[v] t)).cell? ⟨w.heap.size,0,none⟩=some v:=by have h:=World.alloc_heap_new w (.cells #[v] t);simp only[World.cell?,h];rfl
theorem dO {g:Nat} {a:CP}:∀(vs:List CQ) (o:Nat) (w:CP),mK g a w->mK g a (w.setCells g o vs)
 | [],_,_,h=>h
 | v :: r,o,w,h=>by rw[World.setCells];exact dO r (o+1) _ (h.set o v)
theorem cP.set {g:Nat} {a w:CP} (h:cP g n a w) (i:Nat) (u:CQ):cP g n a (w.setCell ⟨g,i,none⟩ u):=
 ⟨Dk h.1 ((CT 0 w).setCell (p:=⟨g,i,none⟩) (C9 _) u).size,fun k c b=>(Below.heap_setCell _ _ _ _ b).trans (h.2 k c b)⟩
theorem cP.BI {g:Nat} {a w:CP} (h:cP g n a w) (b c d e f i j k:CQ):
  cP g n a ((((((((w.setCell ⟨g,0,none⟩ b).setCell ⟨g,1,none⟩ c).setCell ⟨g,2,none⟩ d).setCell ⟨g,3,none⟩ e).setCell ⟨g,4,none⟩ f).setCell ⟨g,5,none⟩ i).setCell ⟨g,6,none⟩ j).setCell ⟨g,7,none⟩ k):=
 (((((((h.set 0 _).set 1 _).set 2 _).set 3 _).set 4 _).set 5 _).set 6 _).set 7 _
theorem lv {w w':CP} (h:au w w'):KeepsOthers w w':=⟨h.size,fun l _ a _=>(h.block l (DQ.1 a).1).trans a⟩
theorem me {a w:CP} (h:KeepsOthers a w) (g:Nat) (b c d e f i j k:CQ):
  KeepsOthers a ((((((((w.setCell ⟨g,0,none⟩ b).setCell ⟨g,1,none⟩ c).setCell ⟨g,2,none⟩ d).setCell ⟨g,3,none⟩ e).setCell ⟨g,4,none⟩ f).setCell ⟨g,5,none⟩ i).setCell ⟨g,6,none⟩ j).setCell ⟨g,7,none⟩ k):=
 (((((((h.trans (EO _ _ _)).trans (EO _ _ _)).trans (EO _ _ _)).trans (EO _ _ _)).trans (EO _ _ _)).trans (EO _ _ _)).trans (EO _ _ _)).trans (EO _ _ _)
theorem j9 {w w':CP} (h:au w w'):w.grownBy w' none:=⟨h.os,h.tape,h.output,h.size,fun k a _=>h.block k a⟩
def dS (m:Nat) (k:Nat):List (Fin m):=(E9 m).take k
theorem ee (m k:Nat) (a:k < m):dS m (k+1)=dS m k++[⟨k,a⟩]:=by
 unfold dS;rw[F9,CV (by simpa using a)];simp
theorem fP (m k:Nat) (a:k<=m):(dS m k).length=k:=by simp[dS,a]
theorem lx (m:Nat):dS m m=E9 m:=by unfold dS;rw[CX (by simp)]
theorem wh:∀(n:Nat) (z:St) (l:List Int),l.length<=n->(jB z l).2.length=l.length % 64:=by
 intro n;induction n with
 | zero=>intro z l h;rw[iq z l (by omega)];show l.length=_;omega
 | succ n ih=>
  intro z l h;by_cases a:64<=l.length
  ·rw[jd z l a,ih _ _ (by rw[C6];omega),C6];omega
  ·rw[iq z l (by omega)];show l.length=_;omega
theorem pM (n:Nat):dC (n % 64)=dC n:=by unfold dC;omega
def sha (l:List Int):List Int:=(jB fJ (kP l l.length)).1.bytes
@[simp] theorem sha_length (l:List Int):(sha l).length=32:=rfl
theorem rO (l:List Int):nV (jB fJ l).1 (jB fJ l).2 l.length=(jB fJ (kP l l.length)).1:=by
 have h:=ll (128 :: Dl (dC l.length) 0++je l.length) l.length fJ l (CU _);unfold nV kP;rw[wh _ _ _ (CU _),pM,DH,DH,h]
def aU (w:CP) (v:CQ) (ps:List (List Int)):Prop:=
 ∃vs:List CQ,aX w v ps.length vs/\vs.length=ps.length/\∀i,i < ps.length->Bu w .u8 (vs.getD i DT) (ps.getD i [])
theorem aU.ext {w w':CP} {v:CQ} {ps:List (List Int)} (h:aU w v ps) (a:au w w'):aU w' v ps:=by
 obtain⟨vs,h1,h2,b⟩:=h;exact⟨vs,h1.ext a,h2,fun i c=>(b i c).ext a⟩
theorem ka (ps:List (List Int)) (i:Nat) (h:i < ps.length):(ps.take (i+1)).flatten=(ps.take i).flatten++ps.getD i []:=by
 rw[F9,Gv,CV h,CR,CV h];simp
theorem jF (ps:List (List Int)) (i:Nat):(ps.take i).flatten.length<=ps.flatten.length:=by
 conv=>rhs;rw[<-D5 i ps,Gv,C7]
 omega
theorem tR {ps:List (List Int)} (h:bI ps.flatten) (i:Nat):bI (ps.take i).flatten:=fun x hx=>h x (by
 rw[<-D5 i ps,Gv];exact List.mem_append_left _ hx)
def dF (mp:List (Int × CQ)) (x:Int):Option CQ:=(mp.find? fun p=>decide (p.1=x)).map (·.2)
def bJ (w:CP) (m:Nat) (mp:List (Int × CQ)):Prop:=∃es c,w.heap[m]? =some (.map es c)/\es.toList.map (fun e=>(e.key,e.val))=(mp.map fun x=>(Dx .i64 x.1,x.2))/\MapKept.Stamped es c
theorem bJ.lt {w:CP} {mp:List (Int × CQ)} (h:bJ w m mp):m < w.heap.size:=by
 obtain⟨es,c,h1,_⟩:=h;exact(DQ.1 h1).1
theorem bJ.same {w w':CP} {mp:List (Int × CQ)} (h:bJ w m mp) (a:w'.heap[m]? =w.heap[m]?):bJ w' m mp:=by
 obtain⟨es,c,h1,h2⟩:=h;exact⟨es,c,a.trans h1,h2⟩
theorem bJ.ext {w w':CP} {mp:List (Int × CQ)} (h:bJ w m mp) (a:au w w'):bJ w' m mp:=h.same (a.block m h.lt)
theorem bJ.new (w:CP):bJ (w.alloc (.map #[] 0)) w.heap.size []:=⟨#[],0,by show(w.heap.push _)[w.heap.size]? =_;rw[Array.getElem?_push_size],rfl,MapKept.stamped_empty 0⟩
theorem fL (x:Int):∀(es:List MapEntry) (mp:List (Int × CQ)) (i:Nat),es.map (fun e=>(e.key,e.val))=mp.map (fun x=>(Dx .i64 x.1,x.2))->∃r,Instr.findNow (.int .i64) (.int .i64 x) es i=some r/\r.map (·.2)=dF mp x
 | [],[],i,_=>⟨none,rfl,rfl⟩
 | [],_ :: _,_,h=>by cases h
 | _ :: _,[],_,h=>by cases h
 | e :: es,p :: mp,i,h=>by
  simp only[List.map_cons,List.cons.injEq,Prod.mk.injEq]at h;obtain⟨⟨h1,h2⟩,a⟩:=h;by_cases hx:p.1=x
  ·refine⟨some (i,e.val),?_,?_⟩
   ·simp[Instr.findNow,Instr.sameNow,h1,hx]
   ·simp[dF,hx,h2]
  ·obtain⟨r,b,c⟩:=fL x es mp (i+1) a;refine⟨r,?_,?_⟩
   ·have d:(x==p.1)=false:=by simp;exact fun q=>hx q.symm
    simp[Instr.findNow,Instr.sameNow,h1,d,b]
   ·rw[c];simp[dF,hx]
theorem bJ.lookup {P:Ds} {t k e:Dn} {w:CP} {mp:List (Int × CQ)} (f:P.underlying t=some (.map k e)) (a:P.underlying k=some (.int .i64)) {z:CQ} (i:(zeroValue e).run P w=.ok z w) (h:bJ w m mp) (x:Int):
  (ER t (.map (some m)) (.int .i64 x) true).run P w=.ok (.tuple #[(dF mp x).getD z,.bool (dF mp x).isSome]) w:=by
 obtain⟨es,c,h1,h2,_⟩:=h;obtain⟨r,d,g⟩:=fL x es.toList mp 0 h2;have b:(Instr.checkKey es.isEmpty 10000 k (.int .i64 x)).run P w=.ok () w:=MapKept.run_checkKey (k:=.int .i64 x) a (by simp[MapKept.IsKey]) _ 9999;rw[<-g];cases r with
 | none=>simp[ER,Fa f,Fe h1,b,FQ a d,i,Ff]
 | some r=>simp[ER,Fa f,Fe h1,b,FQ a d,Ff]
structure Ap (w:CP) (g size n cap:Nat) (xs:List CQ):Prop where
 le:n<=cap
 mx:cap<=Dc
 len:xs.length=n*size
 rg:w.rangeAt g 0 xs
 th:w.there g 0 (cap*size)
 lt:g < w.heap.size
def Pk (w:CP) (base size:Nat) (v:CQ) (n:Nat) (xs:List CQ):Prop:=
 (v=.slice none 0 0/\n=0/\xs=[])\/∃g cap,v=.slice (some ⟨g,0,none⟩) n cap/\base<=g/\Ap w g size n cap xs
theorem Pk.nil (w:CP) (base size:Nat):Pk w base size (.slice none 0 0) 0 []:=.inl ⟨rfl,rfl,rfl⟩
theorem Pk.AS {w:CP} {e size:Nat} {v:CQ} {xs:List CQ} (h:w.ownsRow base e size v n xs):Pk w base size v n xs:=by
 have h2:=h;obtain⟨h0,h1⟩:=h;rcases h1 with ⟨rfl,h1⟩ | ⟨g,cap,cur,rfl,b,c,a,hm,i,hx⟩
 ·subst h1;rw[Nat.zero_mul]at h0;exact .inl ⟨rfl,rfl,DI.1 h0⟩
 ·refine .inr ⟨g,cap,rfl,b,a,hm,h0,fun j u hu=> ?_,fun j d=> ?_,(h2.lt g rfl).2⟩
  ·have:=h2.cells (g:=g) rfl j u hu;rw[EH]at this;exact this
  ·have f:j < cur.size:=by rw[i];exact d
   simp[World.cell?,World.frozen?,c,f]
theorem Pk.BD {w:CP} {size:Nat} {v:CQ} {xs:List CQ} (h:Pk w base size v n xs):aX w v n xs:=by
 rcases h with ⟨rfl,rfl,rfl⟩ | ⟨g,cap,rfl,_,hp⟩
 ·exact aX.nil w
 ·exact .inr ⟨g,0,cap,rfl,hp.le,hp.mx,hp.rg⟩
theorem Pk.block {w:CP} {size:Nat} {v:CQ} {xs:List CQ} (h:Pk w base size v n xs):∀k,v.ownBlock=some k->base<=k/\k < w.heap.size:=by
 rcases h with ⟨rfl,_,_⟩ | ⟨g,cap,rfl,b,hp⟩
 ·intro k a;cases a
 ·intro k a;simp only[Value.ownBlock,Option.some.injEq]at a;subst a;exact⟨b,hp.lt⟩
theorem Pk.kept {w w':CP} {size:Nat} {v:CQ} {xs:List CQ} (h:Pk w base size v n xs) (d:∀k,v.ownBlock=some k->w'.heap[k]? =w.heap[k]?) (e:w.heap.size<=w'.heap.size):Pk w' base size v n xs:=by
 rcases h with h | ⟨g,cap,rfl,b,hp⟩
 ·exact .inl h
 ·have a:=d g rfl;refine .inr ⟨g,cap,rfl,b,hp.le,hp.mx,hp.len,fun j u hu=> ?_,fun j c=> ?_,Dd hp.lt e⟩
  ·rw[Dp (w:=w) a];exact hp.rg j u hu
  ·rw[Dp (w:=w) a,World.frozen?_of_block (w:=w) a];exact hp.th j c
theorem Pk.ext {w w':CP} {size:Nat} {v:CQ} {xs:List CQ} (h:Pk w base size v n xs) (a:au w w'):Pk w' base size v n xs:=
 h.kept (fun k b=>a.block k (h.block k b).2) a.size
theorem Pk.mono {w:CP} {a size:Nat} {v:CQ} {xs:List CQ} (h:Pk w base size v n xs) (b:a<=base):Pk w a size v n xs:=by
 rcases h with h | ⟨g,cap,rfl,c,hp⟩
 ·exact .inl h
 ·exact .inr ⟨g,cap,rfl,Dk b c,hp⟩
section
variable {P:Ds}
theorem aS {ops:Array Oper} {rest:List Oper} {a:Act} {w:CP} {Q:Exit->Act->CP->Prop} {d:Option Tmp} {V t e:Dn} {pp:String} {M:Array Edge} {s x:Operand} {v z:CQ} {base size bytes n m c b o:Nat} {xs news:List CQ}
  (p:kv P t e z size bytes) (T:Pk w base size v n xs) (S:w.rangeAt b o news) (C:news.length=m*size) (h1:∀u∈news,u.oneCell'=true) (hm:0 < m)
  (hlen:n+m<=Dc) (G:(n+m)*bytes<=140737488355328) (F:base<=w.heap.size)
  (J:a.eval s=v) (hx:a.eval x=.slice (some ⟨b,o,none⟩) m c)
  (h:∀y w',Pk w' base size y (n+m) (xs++news)->w.grownBy w' v.ownBlock->(∀k,y.ownBlock=some k->v.ownBlock=some k\/w.heap.size<=k)->wpList P ops Q rest (a.put d y) w'):
  wpList P ops Q (⟨d,.call {callee:=.builtin .append,args:=#[s,x],argTypes:=#[t,t]},V,pp,M,none⟩ :: rest) a w:=by
 obtain⟨i,I,L,K,E⟩:=info_parts p.info;have H:∀j u,news[j]? =some u->w.cell? ((⟨b,o,none⟩:Addr).add j)=some u:=fun j u r=>by rw[EH];exact S j u r
 rcases T with ⟨rfl,rfl,rfl⟩ | ⟨g,cap,rfl,O,hp⟩
 ·refine wpList_append_grows w rfl s x t rfl e i z size bytes p.ht I L K E p.hz p.pos none 0 0 [] J (fun _=>⟨rfl,rfl⟩) (by simp) (fun b N=>by cases N) ⟨b,o,none⟩ m c news hx C H h1 (by omega) hlen G ?_;intro y w' h2 l;refine h y w' (Pk.AS (dX h2 F)) l fun k f=>.inr (h2.lt k f).1
 ·have W:=hp.len;refine wpList_append_arg w rfl s x t rfl e i z size bytes p.ht I L K E p.hz p.pos g 0 n cap xs J hp.len (fun j u r=>hp.rg j u r) ⟨b,o,none⟩ m c news hx C H h1 (fun B j r=> ?_) hlen G (fun B=> ?_) (fun B y w' h2 l=> ?_)
  ·have D:(n+m)*size<=cap*size:=EK _ B;rw[Nat.add_mul]at D;have:=hp.th (n*size+j) (by omega);rw[<-Fm]at this;exact this
  ·have D:(n+m)*size<=cap*size:=EK _ B;rw[Nat.add_mul]at D;have U:w.there g (0+n*size) news.length:=fun j r=>by have:=hp.th (n*size+j) (by omega);rw[<-Fm]at this;exact this
   have A:=aA news g (0+n*size) w (CT 0 w) (C9 _);refine h _ _ (.inr ⟨g,cap,rfl,O,B,hp.mx,by rw[C7,hp.len,C,Nat.add_mul],?_,World.there_setCells hp.th _ _ _,Dd hp.lt A.size⟩) ⟨A.os,A.tape,A.output,A.size,fun k f R=>World.heap_setCells_other w g _ news f (fun q=>R (by rw[q];rfl))⟩ (fun k f=>.inl f);intro j u hu;by_cases r:j < xs.length
   ·rw[D4 r]at hu;exact World.rangeAt_setCells_apart hp.rg g (0+n*size) news (.inr (.inl (by rw[hp.len];omega))) j u hu
   ·rw[List.getElem?_append_right (by omega)]at hu;have:=Dr w g (0+n*size) news U (j - xs.length) u hu;rw[show 0+n*size+(j - xs.length)=0+j by omega]at this;exact this
  ·exact h y w' (Pk.AS (dX h2 F)) ⟨l.os,l.tape,l.output,l.size,fun k f _=>l.block k f (by simp)⟩ fun k f=>.inr (h2.lt k f).1
end
structure Bz (w:CP) (b:Nat) (v:CQ) (n:Nat) (ds:List (List Int)):Prop where
 c0:w.cell? ⟨b,0,none⟩=some (.int .i64 n)
 c1:w.cell? ⟨b,1,none⟩=some v
 f0:w.frozen? ⟨b,0,none⟩=false
 f1:w.frozen? ⟨b,1,none⟩=false
 pk:Pk w 0 32 v ds.length (aO ds)
 CN:dd ds
 ne:v.ownBlock≠some b
structure yO (w w':CP) (b:Nat) (r:Option Nat):Prop where
 os:w'.os=w.os
 tape:w'.tape=w.tape
 output:w'.output=w.output
 size:w.heap.size<=w'.heap.size
 block:∀k,k < w.heap.size->k≠b->some k≠r->w'.heap[k]? =w.heap[k]?
section
open Go.ChangeShapes
abbrev wj (t:List UInt8):DataW Unit:=.iface "*errors.errorString" (.ptr (.agg [.lit (.string t)]))
theorem nW (t:List UInt8):((wj t).handleName?).isNone=true:=by simp[DataW.handleName?]
structure mA (g:Nat->Nat) (tp:Dn) (S:List Nat) (a:Nat->Addr) (w:CP):Prop where
 cell:∀i∈S,w.cell? ⟨g i,0,none⟩=some (.iface tp (.pointer (some (a i))))
 row:∀i∈S,∃c t,w.heap[(a i).block]? =some (.cells c t (0,0))
 ne:∀i∈S,∀j∈S,i≠j->a i≠a j
theorem mA.ext {g:Nat->Nat} {f:Dn} {S:List Nat} {a:Nat->Addr} {w w':CP} (h:mA g f S a w) (d:au w w'):mA g f S a w':=
 ⟨fun i b=>((ay d).1 _ _ (World.block_lt_of_cell? _ _ (h.cell i b))).trans (h.cell i b),fun i b=>by
  obtain⟨c,t,e⟩:=h.row i b
  exact⟨c,t,(d.block _ (DQ.1 e).1).trans e⟩,h.ne⟩
theorem nX {P:Ds} {w:CP} {g:Nat->Nat} {nm:Nat->String} {K l s y:Dn} {ms:Array (String × Dn)} {f:Field}
  (d:P.underlying K=some (.interface ms)) (H:∀u,P.typeName? 3 u=some "*errors.errorString" ->u=l) (hp:P.underlying l=some (.pointer s)) (he:P.underlying s=some (.struct #[f])) (D:f.type=y) (C:f.offset=0) (I:P.underlying y=some .string) (z:P.cellsOf s=1) (A:P.cellsOf y=1):
  ∀(xs:List (Nat × List UInt8)) (ps:List MemPlace),(∀x∈xs,P.globalNamed (nm x.1)=some (g x.1)/\(P.globals[g x.1]?).map (·.type)=some K)->(xs.map (·.1)).Nodup->
   DataW.LaidVars P w (xs.map fun x=>(nm x.1,wj x.2)) ps->ps.Nodup->(∀b off,MemPlace.cell b off∈ps->(∃c t,w.heap[b]? =some (.cells c t (0,0)))/\∀u v,w.cell? ⟨b,off,none⟩=some (.iface u v)->Value.okWide P w .any 0 u v)->
   ∃a:Nat->Addr,mA g l (xs.map (·.1)) a w/\∀i∈xs.map (·.1),MemPlace.cell (a i).block (a i).off∈ps
 | [],_,_,_,_,_,_=>⟨fun _=>⟨0,0,none⟩,⟨fun _ h=>by simp at h,fun _ h=>by simp at h,fun _ h=>by simp at h⟩,fun _ h=>by simp at h⟩
 | (n,t) :: r,ps,hx,hnd,hv,hps,hrows=>by
  obtain⟨g0,t0,L,f0,p0,X,p,U,J,N,S,e⟩:=hv;obtain⟨O,T⟩:=hx (n,t) (by simp);obtain rfl:=Ei (O.symm.trans p);obtain rfl:=Ei (T.symm.trans U);subst e;obtain⟨V⟩:=L;have W:∀u v,V=[.iface u v]->Value.okWide P w .any 0 u v:=fun u v e=>by subst e;exact(hrows (g n) 0 (by simp[MemPlace.row])).2 u v (by simpa using World.var?_cell p J 0)
  obtain⟨a0,s0,rfl,Y,Z,aa,rfl⟩:=errorString_of_trod d H hp he D C I z A N W;have Q:n ∉ r.map (·.1):=(List.nodup_cons.1 hnd).1;obtain⟨a,o,F⟩:=nX d H hp he D C I z A r X (fun x h=>hx x (by simp[h])) (List.nodup_cons.1 hnd).2 S (List.Nodup.sublist (List.sublist_append_right _ _) hps) (fun b off h=>hrows b off (List.mem_append_right _ h));have B:∀i∈r.map (·.1),a0≠a i:=fun i d e=>by have h1:=F i d;rw[<-e]at h1;refine(List.nodup_append.1 hps).2.2 (MemPlace.cell a0.block a0.off) ?_ _ h1 rfl;simp[MemPlace.row]
  have M:w.cell? ⟨g n,0,none⟩=some (.iface l (.pointer (some a0))):=by simpa using World.var?_cell p J 0
  have R:∀i∈r.map (·.1),i≠n:=fun i d q=>Q (q▸d)
  have hp:∀i,i=n->(if i=n then a0 else a i)=a0:=fun i e=>if_pos e
  have k:∀i,i∈r.map (·.1)->(if i=n then a0 else a i)=a i:=fun i h=>if_neg (R i h)
  refine⟨fun i=>if i=n then a0 else a i,⟨fun i d=> ?_,fun i d=> ?_,fun i d j G E=> ?_⟩,fun i d=> ?_⟩
  ·rcases DA.1 d with e | h1
   ·rw[hp i e,e];exact M
   ·rw[k i h1];exact o.cell i h1
  ·rcases DA.1 d with e | h1
   ·show ∃c t,w.heap[(if i=n then a0 else a i).block]? =_;rw[hp i e];exact(hrows a0.block a0.off (by simp[MemPlace.row])).1
   ·show ∃c t,w.heap[(if i=n then a0 else a i).block]? =_;rw[k i h1];exact o.row i h1
  ·show(if i=n then a0 else a i)≠(if j=n then a0 else a j);rcases DA.1 d with e | h1
   ·rcases DA.1 G with m | h2
    ·exact absurd (e.trans m.symm) E
    ·rw[hp i e,k j h2];exact B j h2
   ·rcases DA.1 G with m | h2
    ·rw[k i h1,hp j m];exact(B i h1).symm
    ·rw[k i h1,k j h2];exact o.ne i h1 j h2 E
  ·show MemPlace.cell (if i=n then a0 else a i).block (if i=n then a0 else a i).off∈_;rcases DA.1 d with e | h1
   ·rw[hp i e];simp[MemPlace.row]
   ·rw[k i h1];exact List.mem_append_right _ (F i h1)
theorem wm {P:Ds} {w:CP} {g:Nat->Nat} {nm:Nat->String} {i c b d:Dn} {ms:Array (String × Dn)} {f:Field}
  (p:P.underlying i=some (.interface ms)) (s:∀u,P.typeName? 3 u=some "*errors.errorString" ->u=c) (hp:P.underlying c=some (.pointer b)) (he:P.underlying b=some (.struct #[f])) (o:f.type=d) (n:f.offset=0) (v:P.underlying d=some .string) (k:P.cellsOf b=1) (l:P.cellsOf d=1)
  {L:List (String × DataW Unit)} (h:laidMetH P L w) (e:String × DataW Unit->Bool) (xs:List (Nat × List UInt8)) (hx:∀x∈xs,P.globalNamed (nm x.1)=some (g x.1)/\(P.globals[g x.1]?).map (·.type)=some i) (r:(xs.map (·.1)).Nodup) (m:L.filter e=xs.map fun x=>(nm x.1,wj x.2)):
  ∃a:Nat->Addr,mA g c (xs.map (·.1)) a w:=by
 have h1:=h.filter e
 rw[m,MakeChecks.laidMetH_plain _ _ _ (List.all_eq_true.2 fun x hx=>by
  obtain⟨y,_,rfl⟩:=DM.1 hx
  exact nW y.2)]at h1
 obtain⟨ps,z,q,t⟩:=h1;obtain⟨a,j,_⟩:=nX p s hp he o n v k l xs ps hx r z q t;exact⟨a,j⟩
end
def gE (i:Nat):Nat:=[0,3,7,6,5,1000000,1000000,2,4,1000000,1000000,1000000,1000000,1000000,1000000,0,1000000,1000000,1000000,1000000,1000000].getD i 0
def nE (i:Nat):String:=["","bailee/api.ErrRange","bailee/api.ErrShort","bailee/api.ErrLong","bailee/api.ErrForm","bailee/api.ErrSum","bailee/api.ErrName","bailee/api.ErrKind","bailee/api.ErrSize","bailee/api.ErrKey","bailee/api.ErrDup","bailee/api.ErrNone","bailee/api.ErrFull","bailee/api.ErrState","bailee/api.ErrPower","bailee/api.ErrProof","bailee/api.ErrSpare","bailee/api.ErrLost","bailee/api.ErrBudget","bailee/api.ErrLate","bailee/api.ErrZero"].getD i ""
abbrev ix (S:List Nat) (a:Nat->Addr) (w:CP):Prop:=mA gE 233 S a w
theorem yP:∀i,1<=i->i<=20->gE i≠1000000->Tryz.prog.globalNamed (nE i)=some (gE i)/\(Tryz.prog.globals[gE i]?).map (·.type)=some 59:=fun i h1 h2 a=>by
 have h:i=1\/i=2\/i=3\/i=4\/i=5\/i=6\/i=7\/i=8\/i=9\/i=10\/i=11\/i=12\/i=13\/i=14\/i=15\/i=16\/i=17\/i=18\/i=19\/i=20:=by omega
 rcases h with rfl | rfl | rfl | rfl | rfl | rfl | rfl | rfl | rfl | rfl | rfl | rfl | rfl | rfl | rfl | rfl | rfl | rfl | rfl | rfl<;>first | exact absurd rfl a | exact⟨by kernel_rfl,by kernel_rfl⟩
theorem tT: "*" ++ "errors.errorString" = "*errors.errorString" :=by decide
theorem yQ (u:Dn) (h:Tryz.prog.typeName? 3 u=some "*errors.errorString"):u=233:=
 typeName_ptr_named (nm:= "errors.errorString") (by rw[tT];kernel_rfl) (by kernel_rfl) (by decide) u (by rw[tT];exact h)
theorem rP {L:List (String × DataW Unit)} {w:CP} (h:laidMetH CO L w) (b:String × DataW Unit->Bool) (xs:List (Nat × List UInt8)) (hx:∀x∈xs,1<=x.1/\x.1<=20/\gE x.1≠1000000) (d:(xs.map (·.1)).Nodup) (c:L.filter b=xs.map fun x=>(nE x.1,wj x.2)):∃a,ix (xs.map (·.1)) a w:=
 wm Tryz.underlying59 yQ Tryz.underlying233 Tryz.underlying250 rfl rfl EY (by kernel_rfl) (by kernel_rfl) h b xs (fun x hm=>yP _ (hx x hm).1 (hx x hm).2.1 (hx x hm).2.2) d c
def tU:List Int:=Dl 32 0
theorem aI {P:Ds} {fn:Func} {p q:Tmp} {ty:Dn} {tmps:Array CQ} {w:CP} {b:Addr} {v u:CQ} (h:fn.results=#[.cell p ty,.tmp q]) (hp:tmps.getD p DT=.pointer (some b)) (a:(loadVar ty b).run P w=.ok v w) (d:tmps.getD q DT=u):
  (results fn tmps).run P w=.ok (.tuple #[v,u]) w:=by
 have c:tmps[p]?.getD DT=.pointer (some b):=by simpa using hp
 have e:tmps[q]?.getD DT=u:=by simpa using d
 simp[results,h,c,e,asAddr,a]
theorem eX {P:Ds} {fn:Func} {p q:Tmp} {tmps:Array CQ} {w:CP} {v u:CQ} (h:fn.results=#[.tmp p,.tmp q]) (hp:tmps.getD p DT=v) (b:tmps.getD q DT=u):
  (results fn tmps).run P w=.ok (.tuple #[v,u]) w:=by
 have a:tmps[p]?.getD DT=v:=by simpa using hp
 have c:tmps[q]?.getD DT=u:=by simpa using b
 simp[results,h,a,c]
section
variable {P:Ds} {ops:Array Oper} {rest:List Oper} {a:Act} {w:CP} {Q:Exit->Act->CP->Prop} {d:Option Tmp} {tt ty:Dn} {pp:String} {af:Array Edge} {x:Operand} {p v:CQ} {g:Nat × Bool}
end
def nY (a:Nat->Addr) (m:Nat):CQ:=if m=0 then .nilIface else .iface 233 (.pointer (some (a m)))
theorem ef (a:Nat->Addr):nY a 0=.nilIface:=rfl
theorem da (a:Nat->Addr) (m:Nat) (h:m≠0):nY a m=.iface 233 (.pointer (some (a m))):=if_neg h
def xy:Nat->Nat->Nat
 | 0,_=>0
 | f+1,n=>n % 2+xy f (n / 2)
def Aq (n:Nat):Nat:=xy n n
theorem kb:kv CO 55 54 (.agg zA) 32 32:=⟨Tryz.underlying55,by kernel_rfl,rfl,by decide⟩
theorem mf:kv CO 96 52 (.agg zA) 32 32:=⟨Tryz.underlying96,by kernel_rfl,rfl,by decide⟩
theorem aQ:kv CO 27 5 (.int .u8 0) 1 1:=⟨Ef,by kernel_rfl,rfl,by decide⟩
theorem gk (w:CP) (n:Nat) (k:El) (t:Dn) (cs:Array CQ) (f:Nat->Int) (a:∀i,i < n->cs[i]? =some (.int k (f i))):dz (w.alloc (.cells cs t)) w.heap.size k n f:=
 ⟨fun i b=>by rw[Df];exact a i b,fun i=>by simp⟩
theorem dk (w:CP) (n:Nat) (k:El) (t:Dn) (cs:Array CQ) (a:cs.toList=Dl n (Dx k 0)):dz (w.alloc (.cells cs t)) w.heap.size k n (fun _=>0):=by
 refine⟨fun i b=> ?_,fun i=>by simp⟩;rw[Df];rw[<-Array.getElem?_toList,a];simp[b]
theorem kB (ad:Addr) (c:Nat) (l:List Int) (w:CP) (h2:Bu w .u8 (.slice (some ad) l.length c) l) (f:l.length<=140737488355328):
  CZ CO 45 #[.slice (some ad) l.length c] w fun e w'=>∃a,e=.returned a/\w'.ownsRow w.heap.size 5 1 a l.length (aj .u8 l)/\au w w':=by
 have k:=F8 (P:=CO) w 27 5 (some ad) l.length c 0 0 Ef;have d:au w (w.alloc (.cells #[] 5)):=(CT _ _).alloc (CU _) _;have g:(w.alloc (.cells #[] 5)).ownsRow w.heap.size 5 1 (.slice (some ⟨w.heap.size,0,none⟩) 0 0) 0 []:=cX w 5 #[] w.heap.size 0 1 (CU _) (by decide) rfl;have i:=aa g;have H2:=aa (h2.ext d);have b:=aa f;clear g h2 d f;go_enter Tryz.func45,Tryz.ntmps45
 go_wp2_with ((with_reducible refine dV aQ i.out H2.out (by simp) (aE _ _) (by have:=b.out;unfold Dc;omega) (by have:=b.out;omega) (by simp) ?_ ?_ ?_);rfl;rfl;intro a w' h n j m)
 go_ret;rw[Dq,Eh]at h;exact⟨_,rfl,h,((CT _ _).alloc (CU _) _).trans j⟩
theorem eD (v:CQ) (l:List Int) (w:CP) (h:Bu w .u8 v l) (a:l.length<=140737488355328):
  CZ CO 45 #[v] w fun e w'=>∃f,e=.returned f/\w'.ownsRow w.heap.size 5 1 f l.length (aj .u8 l)/\au w w':=by
 have h2:=h;rcases h with ⟨⟨p,rfl⟩,d,g⟩ | ⟨b,o,c,rfl,k,j,m⟩
 ·obtain rfl:l=[]:=DI.1 d;cases p with
  | some ad=>exact kB ad 0 [] w h2 a
  | none=>
   have i:=F8 (P:=CO) w 27 5 none 0 0 0 0 Ef;clear d g h2;go_enter Tryz.func45,Tryz.ntmps45
   go_wp2
   go_ret;exact⟨_,rfl,World.ownsRow_nil _ _ _ _,CT _ _⟩
 ·exact kB _ c l w h2 a
theorem ly (c vb:CQ) (xs ys:List Int) (w:CP) (hx:Bu w .u8 c xs) (hy:Bu w .u8 vb ys) (b:bI xs) (a:bI ys):
  CZ CO 51 #[c,vb] w fun e w'=>e=.returned (.bool (decide (xs=ys)))/\w=w':=by
 have g:=dG (P:=CO) hx Ef Ex EY;have h:=dG (P:=CO) hy Ef Ex EY;have f:=lj b a;have d:Hid (decide (fX xs=fX ys)=decide (xs=ys)):=aa (by rw[Bool.eq_iff_iff];simp[nQ b a]);clear hx hy b a;go_enter Tryz.func51,Tryz.ntmps51
 go_wp2
 go_ret;first
 | exact⟨rfl,rfl⟩
 | exact⟨by rw[<-f];rfl,rfl⟩
 | exact⟨by rw[<-d.out];rfl,rfl⟩
theorem yR {a b:Int} (h:a=b):Ending.returned (.int .i64 a)=.returned (.int .i64 b):=by rw[h]
theorem tV (n:Int) (w:CP) (h:n < 2):
  CZ CO 129 #[.int .i64 n] w fun e w'=>e=.returned (.int .i64 0)/\w=w':=by
 go_enter Tryz.func129,Tryz.ntmps129
 go_wp2
 go_ret;exact⟨rfl,rfl⟩
theorem tW (n:Int) (b:Nat) (w:CP) (h:2<=n) (h2:n<=9223372036854775807) (a:Hid (FP (n-1).toNat=b)) (d:1<=b) (f:b<=63):
  CZ CO 129 #[.int .i64 n] w fun e w'=>e=.returned (.int .i64 (wrap64 (2^(b - 1))))/\w=w':=by
 have c:∀w,CZ CO 145 #[.int .u64 (n-1)] w fun e w'=>e=.returned (.int .i64 (b:Int))/\w=w':=fun w=>(Tryz.bits_Len _ w (by omega) (by omega)).mono fun e w' ⟨h1,h2⟩=>⟨by rw[h1,a.out],h2.symm⟩
 clear a;go_enter Tryz.func129,Tryz.ntmps129
 go_wp2_with (go_at_call 145;refine(c _).mono ?_;rintro e w' ⟨rfl,rfl⟩)
 go_ret;exact⟨rfl,rfl⟩
theorem tX (b:Nat) (h:b<=62):wrap64 (2^b)=2^b:=by
 have:=j7 b 62 h;refine IntWalk.wrap64_in _ ⟨?_,?_⟩
 ·have:(0:Int)<=2^b:=Int.pow_nonneg (by decide);omega
 ·have h2:((2^b:Nat):Int)=(2:Int)^b:=by simp
  omega
theorem rQ (n:Int) (w:CP) (h2:n<=9223372036854775807):
  CZ CO 129 #[.int .i64 n] w fun e w'=>e=.returned (.int .i64 (sp n.toNat))/\w=w':=by
 by_cases h:n < 2
 ·refine(tV n w h).mono fun e w' ⟨he,hw⟩=>⟨?_,hw⟩
  rw[he,yH _ (by omega)];rfl
 ·have f:(n - 1).toNat=n.toNat - 1:=by omega
  obtain⟨a,b,c⟩:=eJ (n.toNat - 1) (by omega) (by omega);have d:=lp n.toNat (by omega) (by omega);refine(tW n _ w (by omega) h2 rfl (by rw[f];exact a) (by rw[f];exact d)).mono fun e w' ⟨he,hw⟩=>⟨?_,hw⟩
  rw[he,f,tX _ (by omega)];unfold sp;rw[if_neg (by omega)];simp
theorem jG (n:Int) (w:CP) (h:2<=n) (h2:n<=9223372036854775807):
  CZ CO 78 #[.int .i64 n] w fun e w'=>e=.returned (.int .i64 (sp n.toNat))/\w=w':=by
 go_enter Tryz.func78,Tryz.ntmps78
 go_wp2
 go_loop [3] (fun k=>∃q j:Nat,k=.int .i64 q/\q < n/\1<=q/\Hid (q=2^j)) (fun k=>(n - intOf k).toNat);case atStart=>exact⟨1,0,rfl,by omega,by omega,rfl⟩
 case round=>
  obtain⟨q,j,rfl,d,f,a⟩:=hrel;by_cases c:(q:Int) < n - q
  ·go_wp2
   go_round;case rel=>exact⟨q*2,j+1,by go_num,by omega,by omega,by rw[a.out];exact(FF 2 j).symm⟩
   case measure=>simp[intOf];omega
  ·go_wp2
   go_ret;refine⟨yR ?_,rfl⟩;have b:=a.out;show(q:Int)=_;rw[mw n.toNat j (by omega) (by omega) (by omega),b]
section
variable (H:List Int->List Int)
def zM (l r:List Int):List Int:=1 :: (l++r)
def zN (d:List Int) (t:Bool) (s:List Int):List Int:=if t=true then zM d s else zM s d
def yS:List Int->List (Bool × List Int)->List (List Int)
 | x,[]=>[x]
 | x,(t,s) :: r=>x :: yS (zN (H x) t s) r
def xJ (d:List Int):List (Bool × List Int)->List Int
 | []=>d
 | (t,s) :: r=>xJ (H (zN d t s)) r
variable (hH:∀x,(H x).length=32)
include hH
end
def cT (ts:List (Bool × Nat × Nat)):List CQ:=ts.flatMap fun t=>[.bool t.1,.int .i64 t.2.1,.int .i64 t.2.2]
theorem iX (a b:List (Bool × Nat × Nat)):cT (a++b)=cT a++cT b:=by simp[cT]
theorem iY:∀(a:List (Bool × Nat × Nat)),(cT a).length=a.length*3
 | []=>rfl
 | t :: r=>by
  show([Value.bool t.1,.int .i64 t.2.1,.int .i64 t.2.2]++cT r).length=_;rw[C7,iY r,DB];simp;omega
theorem kC (d:List (Bool × Nat × Nat)):∀c∈cT d,c.oneCell'=true:=fun c b=>by
 obtain⟨t,_,a⟩:=List.mem_flatMap.1 b;simp only[DA,List.not_mem_nil,or_false]at a;rcases a with rfl | rfl | rfl<;>rfl
theorem nZ (w:CP) (e:Dn) (cs:Array CQ):aX (w.alloc (.cells cs e)) (.slice (some ⟨w.heap.size,0,none⟩) 1 1) 1 cs.toList:=by
 refine .inr ⟨w.heap.size,0,1,rfl,CU _,show 1<=Dc from by decide,fun j v a=> ?_⟩;rw[Dq,Df];simpa using a
theorem jf (l:List (List Int)) (k:Nat) (h:k < l.length):l.take (k+1)=l.take k++[l.getD k []]:=by
 rw[CR,CV h,Ee h];rfl
theorem lA:∀(a:List (Bool × Nat × Nat)) (k:Nat),k < a.length->(cT a)[k*3]? =some (.bool (a.getD k default).1)/\(cT a)[k*3+1]? =some (.int .i64 (a.getD k default).2.1)/\(cT a)[k*3+2]? =some (.int .i64 (a.getD k default).2.2)
 | [],k,h=>by simp at h
 | t :: r,0,_=>⟨rfl,rfl,rfl⟩
 | t :: r,k+1,h=>by
  have b:=lA r k (by simpa using h);show(_ :: _ :: _ :: cT r)[(k+1)*3]? =_/\(_ :: _ :: _ :: cT r)[(k+1)*3+1]? =_/\(_ :: _ :: _ :: cT r)[(k+1)*3+2]? =_;rw[show(k+1)*3=k*3+1+1+1 from by omega,show k*3+1+1+1+1=(k*3+1)+1+1+1 from by omega,show k*3+1+1+1+2=(k*3+2)+1+1+1 from by omega];simp only[List.getElem?_cons_succ,List.getD_cons_succ];exact b
theorem RdT.pos {w:CP} {v:CQ} {a:List (Bool × Nat × Nat)} (h:aX w v a.length (cT a)) (f:0 < a.length):∃b o c,v=.slice (some ⟨b,o,none⟩) a.length c/\a.length<=c/\c<=Dc/\b < w.heap.size/\w.rangeAt b o (cT a):=by
 rcases h with ⟨_,h,_⟩ | ⟨b,o,c,h1,h2,e,d⟩
 ·omega
 ·exact⟨b,o,c,h1,h2,e,bK d (fun q=>by have:=iY a;rw[q]at this;simp at this;omega),d⟩
theorem rj {w:CP} {b o:Nat} {c:List (Bool × Nat × Nat)} (h:w.rangeAt b o (cT c)) (d:k < c.length) {x:Bool} {i:Nat} (he:c.getD k default=(x,n,i)):w.rangeAt b (o+k*3) [.bool x,.int .i64 n,.int .i64 i]:=fun j v a=>by
 obtain⟨h0,h1,h2⟩:=lA c k d;rw[he]at h0 h1 h2
 match j,a with
 | 0,a=>cases a;exact h (k*3) _ h0
 | 1,a=>cases a;have:=h _ _ h1;rw[<-Fm]at this;exact this
 | 2,a=>cases a;have:=h _ _ h2;rw[<-Fm]at this;exact this
 | j+3,a=>simp at a
theorem iL (w:CP) (cs:Array CQ) (e:Dn) (n:Nat) (b:cs.size=n):(w.alloc (.cells cs e)).there w.heap.size 0 n:=fun j a=>by
 rw[Dq,Df];exact⟨by simp[b,a],by simp⟩
theorem mB {α :Type} {T:List α} {x: α} {r:List α} (d: α) (h:T.drop k=x :: r):k < T.length/\T.getD k d=x/\T.drop (k+1)=r:=by
 have a:k < T.length:=by have:=congrArg List.length h;rw[C6,DB]at this;omega
 rw[List.drop_eq_getElem_cons a]at h;injection h with h1 h2;exact⟨a,by rw[CR,CV a];exact h1,h2⟩
structure Ar (tS:Dn) (X:Nat) (w:CP) (base:Nat) (out:CQ) (ps:List (List Int)) (vs:List CQ):Prop where
 rows:w.ownsRow base tS 1 out ps.length vs
 ox:out.ownBlock≠some X
 elts:∀j,j < ps.length->∃g o c,vs.getD j DT=.slice (some ⟨g,o,none⟩) (ps.getD j []).length c/\(ps.getD j []).length<=c/\c<=Dc/\w.rangeAt g o (aj .u8 (ps.getD j []))/\g < w.heap.size/\out.ownBlock≠some g/\g≠X
structure mg (w:CP) (X:Nat) (d:List Int):Prop where
 rg:w.rangeAt X 0 (aj .u8 d)
 th:w.there X 0 32
 len:d.length=32
def ej (l r:List Int):List Int:=sha (1 :: (l++r))
def ij (b:List Int):List Int:=sha (0 :: b)
def zD:List Int:=sha []
theorem jg (l r:List Int):(ej l r).length=32:=rfl
theorem jh (b:List Int):(ij b).length=32:=rfl
theorem ji {w:CP} {v1 v2 v3:CQ} {b c d:List Int} (h1:Bu w .u8 v1 b) (h2:Bu w .u8 v2 c) (f:Bu w .u8 v3 d) (e:Dn):aU (w.alloc (.cells #[v1,v2,v3] e)) (.slice (some ⟨w.heap.size,0,none⟩) 3 3) [b,c,d]:=by
 refine⟨[v1,v2,v3],.inr ⟨w.heap.size,0,3,rfl,CU _,show 3<=Dc from by decide,fun j u hu=> ?_⟩,rfl,fun i a=> ?_⟩
 ·rw[Dq,Df];simpa using hu
 ·have a:i < 3:=a
  match i,a with
  | 0,_=>exact h1.ext (ae _ _)
  | 1,_=>exact h2.ext (ae _ _)
  | 2,_=>exact f.ext (ae _ _)
theorem tY {w:CP} {v:CQ} {l:List Int} (h:Bu w .u8 v l) (e:Dn):aU (w.alloc (.cells #[v] e)) (.slice (some ⟨w.heap.size,0,none⟩) 1 1) [l]:=by
 refine⟨[v],.inr ⟨w.heap.size,0,1,rfl,CU _,show 1<=Dc from by decide,fun j u hu=> ?_⟩,rfl,fun i a=> ?_⟩
 ·rw[Dq,Df];simpa using hu
 ·have:i=0:=by simpa using a
  subst this;exact h.ext (ae _ _)
theorem mW {w:CP} {b:Nat} {l:List Int} (h:w.rangeAt b 0 (aj .u8 l)) (a:l.length=n) (hm:n<=Dc):Bu w .u8 (.slice (some ⟨b,0,none⟩) n n) l:=by
 subst a;exact .inr ⟨b,0,l.length,rfl,CU _,hm,h⟩
theorem ff (w:CP) (l:List Int) (e:Dn):(w.alloc (.cells (aj .u8 l).toArray e)).rangeAt w.heap.size 0 (aj .u8 l):=fun j v a=>by
 rw[Dq,Df];simpa using a
theorem yT (s:St) (i j:Nat):(if j=4*i+3 then s.l.getD i 0 % 256 else if j=4*i+2 then s.l.getD i 0 / 256 % 256 else if j=4*i+1 then s.l.getD i 0 / 65536 % 256 else if j=4*i then s.l.getD i 0 / 16777216 % 256 else if j < 4*i then s.byte j else 0)=if j < 4*(i+1)then s.byte j else 0:=by
 by_cases d:j=4*i+3
 ·subst d;rw[if_pos rfl,if_pos (by omega)];unfold St.byte;rw[show(4*i+3) / 4=i from by omega,show(4*i+3) % 4=3 from by omega];simp
 rw[if_neg d];by_cases c:j=4*i+2
 ·subst c;rw[if_pos rfl,if_pos (by omega)];unfold St.byte;rw[show(4*i+2) / 4=i from by omega,show(4*i+2) % 4=2 from by omega];rfl
 rw[if_neg c];by_cases b:j=4*i+1
 ·subst b;rw[if_pos rfl,if_pos (by omega)];unfold St.byte;rw[show(4*i+1) / 4=i from by omega,show(4*i+1) % 4=1 from by omega];rfl
 rw[if_neg b];by_cases a:j=4*i
 ·subst a;rw[if_pos rfl,if_pos (by omega)];unfold St.byte;rw[show(4*i) / 4=i from by omega,show(4*i) % 4=0 from by omega];rfl
 rw[if_neg a];by_cases e:j < 4*i
 ·rw[if_pos e,if_pos (by omega)]
 ·rw[if_neg e,if_neg (by omega)]
theorem tZ:∀n:Int,0<=n->n < 2^32->IntKind.u32.wrap n=n:=fun n h0 h1=>by
 show n % 2^32=n;exact Int.emod_eq_of_lt h0 h1
theorem zh (i:Nat) (x y:Int) (a:0<=x) (hx:x % 2^i=0) (b:x < 2^32) (c:0<=y) (d:y < 2^i) (h2:y < 2^32):bits .or .u32 x y=x+y:=
 bits_join .u32 32 (by decide) tZ i x y a hx b c d h2
theorem kT (a c:Int) (h0:0<=a) (h1:a < 16777216) (b:0<=c) (d:c<=255):vZ a c=a*256+c:=by
 unfold vZ;rw[show a*256 % 4294967296=a*256 from by omega];exact zh 8 _ _ (by omega) (by omega) (by omega) (by omega) (by omega) (by omega)
theorem As (a b c d:Int) (a0:0<=a/\a<=255) (b0:0<=b/\b<=255) (e:0<=c/\c<=255) (d0:0<=d/\d<=255):
  bits .or .u32 (bits .or .u32 (bits .or .u32 (a*16777216) (b*65536)) (c*256)) d=vZ (vZ (vZ (vZ 0 a) b) c) d:=by
 rw[kT 0 a (by omega) (by omega) a0.1 a0.2,kT _ b (by omega) (by omega) b0.1 b0.2,kT _ c (by omega) (by omega) e.1 e.2,kT _ d (by omega) (by omega) d0.1 d0.2];rw[zh 24 (a*16777216) _ (by omega) (by omega) (by omega) (by omega) (by omega) (by omega),zh 16 (a*16777216+b*65536) _ (by omega) (by omega) (by omega) (by omega) (by omega) (by omega),zh 8 (a*16777216+b*65536+c*256) _ (by omega) (by omega) (by omega) (by omega) (by omega) (by omega)];omega
theorem iM (L:List Int) (k i:Nat) (h:i < 64):((L.drop (64*k)).take 64).getD i 0=L.getD (64*k+i) 0:=by
 simp only[CR,List.getElem?_take,List.getElem?_drop,if_pos h]
theorem wu (L:List Int) (a:bI L) (k t:Nat) (d:t < 16) (h:64*k+64<=L.length):
  bits .or .u32 (bits .or .u32 (bits .or .u32 (L.getD (64*k+4*t) 0*16777216) (L.getD (64*k+4*t+1) 0*65536)) (L.getD (64*k+4*t+2) 0*256)) (L.getD (64*k+4*t+3) 0)=pJ ((L.drop (64*k)).take 64) t:=by
 have b:=iM L k (4*t) (by omega);have c:((L.drop (64*k)).take 64).length=64:=by rw[Da,C6];omega
 rw[As _ _ _ _ (a.get _) (a.get _) (a.get _) (a.get _),<-mr];rw[fY _ t 3 (by omega),fY _ t 2 (by omega),fY _ t 1 (by omega),fY _ t 0 (by omega),mq];simp only[Nat.add_zero,b,iM L k (4*t+1) (by omega),iM L k (4*t+2) (by omega),iM L k (4*t+3) (by omega),<-Fm]
theorem gJ {w:CP} {g:Nat} {k:El} {f:Nat->Int} (h:dz w g k n f) (l:List Int) (b:l.length=n):dz (w.setCells g 0 (aj k l)) g k n (fun i=>l.getD i 0):=by
 have a:=Dr w g 0 (aj k l) (by rw[ints_length,b];exact h.there);refine⟨fun i c=> ?_,fun i=> ?_⟩
 ·have:=a i _ (cJ k l i (by omega));rw[Dq]at this;exact this
 ·rw[World.frozen?_setCells];exact h.2 i
def dD (w:CP) (v:CQ) (l:List Int):Prop:=∃p c,v=.slice p l.length c/\Bu w .u8 v l
theorem dD.ext {w w':CP} {v:CQ} {l:List Int} (h:dD w v l) (k:au w w'):dD w' v l:=by
 obtain⟨p,c,h1,h2⟩:=h;exact⟨p,c,h1,h2.ext k⟩
theorem mX (w:CP) (e:Dn) (x:Int):dD (w.alloc (.cells #[.int .u8 x] e)) (.slice (some ⟨w.heap.size,0,none⟩) 1 1) [x]:=⟨_,_,rfl,eI _ _ _ _⟩
def rR (w:CP) (v:CQ) (x:Int):Prop:=∃g,v=.slice (some ⟨g,0,none⟩) 1 1/\w.rangeAt g 0 (aj .u8 [x])
theorem rR.ext {w w':CP} {v:CQ} (h:rR w v x) (k:au w w'):rR w' v x:=by
 obtain⟨g,h1,h2⟩:=h;exact⟨g,h1,aL h2 k⟩
theorem ua (w:CP) (e:Dn) (x:Int):rR (w.alloc (.cells #[.int .u8 x] e)) (.slice (some ⟨w.heap.size,0,none⟩) 1 1) x:=
 ⟨_,rfl,fun j u hu=>by rw[Dq,Df];simpa[aj] using hu⟩
def kQ (w:CP) (v:CQ) (B:Nat) (e:Dn) (n:Nat) (l:List Int):Prop:=∃p c,v=.slice p n c/\w.ownsRow B e 1 v n (aj .u8 l)
theorem kQ.ext {w w':CP} {v:CQ} {e:Dn} {l:List Int} (h:kQ w v B e n l) (k:au w w'):kQ w' v B e n l:=by
 obtain⟨p,c,h1,h2⟩:=h;exact⟨p,c,h1,aN h2 k⟩
theorem jH {l:List Int} (h0:0<=x) (h1:x<=255) (h:bI l):bI (x :: l):=fun y hy=>by
 rcases DA.1 hy with rfl | hy
 ·exact⟨h0,h1⟩
 ·exact h y hy
end Go.Proofs.Bl
