/- Texts that stood apart, in one: ShaPlain, ShaEnd, Plain12, Tree, PathP, GrowP. -/
import Derived.Laws.Bits
import Derived.Lib.BitFns
import Derived.WalkKit
import Derived.WalkLawsBesides
import Derived.WalkSpells
import Derived.Deep.QuietTactic
import Derived.BigQuiet
import Derived.Deep.RegionWith
import Derived.IntWalk
import Derived.Lib.SliceRun
import Derived.LoopNIn
import Derived.LoopIn
import Derived.Shelf.Abstract
import Derived.Test.YtglenbikdahgjaaGreatDoorPk00
import Derived.Test.YtglenbikdahgjaaGreatDoorProg
set_option maxRecDepth 100000
set_option maxHeartbeats 16000000
namespace Go.Proofs.Bl
open Go
def xr (a b:Int):Int:=bits .xor .u32 a b
def an (a b:Int):Int:=bits .and .u32 a b
def orr (a b:Int):Int:=bits .or .u32 a b
def ad (a b:Int):Int:=(a+b) % 4294967296
def ror (n:Nat) (x:Int):Int:=bits .or .u32 (x*2^(32 - n) % 4294967296) (x / 2^n)
theorem bits_or_comm (a b:Int):bits .or .u32 a b=bits .or .u32 b a:=by
 simp only [bits,BitVec.or_comm]
def sig (a b c:Nat) (x:Int):Int:=xr (xr (ror a x) (ror b x)) (ror c x)
def mix (a b c:Nat) (x:Int):Int:=xr (xr (ror a x) (ror b x)) (x / 2^c)
def st4 (acc c:Int):Int:=bits .or .u32 (acc*256 % 4294967296) c
def word (b:List Int) (t:Nat):Int:=((b.drop (4*t)).take 4).foldl st4 0
def part (b:List Int) (t j:Nat):Int:=((b.drop (4*t)).take j).foldl st4 0
theorem part_zero (b:List Int) (t:Nat):part b t 0=0:=by simp [part]
theorem part_four (b:List Int) (t:Nat):part b t 4=word b t:=rfl
theorem part_succ (b:List Int) (t j:Nat) (h:4*t+j < b.length):part b t (j+1)=st4 (part b t j) (b.getD (4*t+j) 0):=by
 unfold part
 rw [List.take_succ_eq_append_getElem (by simp;omega),List.foldl_append]
 simp [List.getD_eq_getElem?_getD,List.getElem?_eq_getElem h]
def nextw (b:List Int) (n:Nat) (l:List Int):Int:=
 if n < 16 then word b n else ad (ad (ad (mix 17 19 10 (l.getD (n - 2) 0)) (l.getD (n - 7) 0)) (mix 7 18 3 (l.getD (n - 15) 0))) (l.getD (n - 16) 0)
def wl (b:List Int):Nat->List Int
 | 0=>[]
 | n+1=>wl b n++[nextw b n (wl b n)]
@[simp] theorem wl_length (b:List Int) (n:Nat):(wl b n).length=n:=by induction n<;>simp_all [wl]
def ww (b:List Int) (i:Nat):Int:=nextw b i (wl b i)
theorem wl_getD (b:List Int) (n i:Nat) (h:i < n):(wl b n).getD i 0=ww b i:=by
 induction n with
 | zero=>omega
 | succ n ih=>
  by_cases e:i=n
  ·subst e;rw [List.getD_eq_getElem?_getD];simp [wl,ww]
  ·have:=ih (by omega)
   rw [List.getD_eq_getElem?_getD]at this⊢
   simp only [wl]
   rw [List.getElem?_append_left (by simp;omega)]
   exact this
theorem wl_eq (b:List Int) (n:Nat):wl b n=(List.range n).map (ww b):=by
 induction n with
 | zero=>rfl
 | succ n ih=>rw [List.range_succ,List.map_append,<-ih];rfl
theorem ww_lo (b:List Int) (i:Nat) (h:i < 16):ww b i=word b i:=by simp [ww,nextw,h]
theorem ww_hi (b:List Int) (i:Nat) (h:16<=i):ww b i=ad (ad (ad (mix 17 19 10 (ww b (i - 2))) (ww b (i - 7))) (mix 7 18 3 (ww b (i - 15)))) (ww b (i - 16)):=by
 conv=>lhs;unfold ww nextw
 rw [if_neg (by omega),wl_getD b i (i - 2) (by omega),wl_getD b i (i - 7) (by omega),wl_getD b i (i - 15) (by omega),wl_getD b i (i - 16) (by omega)]
def kt:List Int:=[1116352408,1899447441,3049323471,3921009573,961987163,1508970993,2453635748,2870763221,3624381080,310598401,607225278,1426881987,1925078388,2162078206,2614888103,3248222580,3835390401,4022224774,264347078,604807628,770255983,1249150122,1555081692,1996064986,2554220882,2821834349,2952996808,3210313671,3336571891,3584528711,113926993,338241895,666307205,773529912,1294757372,1396182291,1695183700,1986661051,2177026350,2456956037,2730485921,2820302411,3259730800,3345764771,3516065817,3600352804,4094571909,275423344,430227734,506948616,659060556,883997877,958139571,1322822218,1537002063,1747873779,1955562222,2024104815,2227730452,2361852424,2428436474,2756734187,3204031479,3329325298]
def iv:List Int:=[1779033703,3144134277,1013904242,2773480762,1359893119,2600822924,528734635,1541459225]
structure St where
 a:Int
 b:Int
 c:Int
 d:Int
 e:Int
 f:Int
 g:Int
 h:Int
def St.l (s:St):List Int:=[s.a,s.b,s.c,s.d,s.e,s.f,s.g,s.h]
def iv0:St:=⟨1779033703,3144134277,1013904242,2773480762,1359893119,2600822924,528734635,1541459225⟩
def t1s (s:St) (k w:Int):Int:=s.h+sig 6 11 25 s.e+bits .xor .u32 (bits .and .u32 s.e s.f) (bits .and .u32 (bits .xor .u32 IntKind.u32.max s.e) s.g)+k+w
def t2s (s:St):Int:=sig 2 13 22 s.a+bits .xor .u32 (bits .xor .u32 (bits .and .u32 s.a s.b) (bits .and .u32 s.a s.c)) (bits .and .u32 s.b s.c)
def rnd (s:St) (k w:Int):St:=⟨(t1s s k w+t2s s) % 4294967296,s.a,s.b,s.c,(s.d+t1s s k w) % 4294967296,s.e,s.f,s.g⟩
def rndn (s:St) (ws:List Int):Nat->St
 | 0=>s
 | t+1=>rnd (rndn s ws t) (kt.getD t 0) (ws.getD t 0)
def fin (s z:St):St:=⟨(s.a+z.a) % 4294967296,(s.b+z.b) % 4294967296,(s.c+z.c) % 4294967296,(s.d+z.d) % 4294967296,(s.e+z.e) % 4294967296,(s.f+z.f) % 4294967296,(s.g+z.g) % 4294967296,(s.h+z.h) % 4294967296⟩
def comp (s:St) (blk:List Int):St:=fin (rndn s (wl blk 64) 64) s
abbrev St.val (s:St):Value:= .agg #[.int .u32 s.a,.int .u32 s.b,.int .u32 s.c,.int .u32 s.d,.int .u32 s.e,.int .u32 s.f,.int .u32 s.g,.int .u32 s.h]
theorem fin_get (s z:St) (i:Nat) (h:i < 8):(fin s z).l.getD i 0=(s.l.getD i 0+z.l.getD i 0) % 4294967296:=by
 match i,h with
 | 0,_=>rfl
 | 1,_=>rfl
 | 2,_=>rfl
 | 3,_=>rfl
 | 4,_=>rfl
 | 5,_=>rfl
 | 6,_=>rfl
 | 7,_=>rfl
def eatN:Nat->St->List Int->St × List Int
 | 0,z,l=>(z,l)
 | f+1,z,l=>if 64<=l.length then eatN f (comp z (l.take 64)) (l.drop 64)else(z,l)
theorem eatN_fuel:∀(f g:Nat) (z:St) (l:List Int),l.length<=f->l.length<=g->eatN f z l=eatN g z l
 | 0,0,_,_,_,_=>rfl
 | 0,g+1,z,l,h,_=>by simp only [eatN];rw [if_neg (by omega)]
 | f+1,0,z,l,_,h=>by simp only [eatN];rw [if_neg (by omega)]
 | f+1,g+1,z,l,h,k=>by
  simp only [eatN]
  split
  ·exact eatN_fuel f g _ _ (by rw [List.length_drop];omega) (by rw [List.length_drop];omega)
  ·rfl
def eat (z:St) (l:List Int):St × List Int:=eatN l.length z l
theorem eat_lo (z:St) (l:List Int) (h:l.length < 64):eat z l=(z,l):=by
 unfold eat
 cases hl:l.length with
 | zero=>rfl
 | succ n=>simp only [eatN];rw [if_neg (by omega)]
theorem eat_hi (z:St) (l:List Int) (h:64<=l.length):eat z l=eat (comp z (l.take 64)) (l.drop 64):=by
 unfold eat
 cases hl:l.length with
 | zero=>omega
 | succ n=>
  simp only [eatN]
  rw [if_pos (by omega)]
  exact eatN_fuel _ _ _ _ (by rw [List.length_drop];omega) (Nat.le_refl _)
theorem eat_append (b:List Int):∀(n:Nat) (z:St) (a:List Int),a.length<=n->eat z (a++b)=eat (eat z a).1 ((eat z a).2++b):=by
 intro n
 induction n with
 | zero=>intro z a h;rw [eat_lo z a (by omega)]
 | succ n ih=>
  intro z a h
  by_cases h64:64<=a.length
  ·rw [eat_hi z a h64,eat_hi z (a++b) (by rw [List.length_append];omega),List.take_append_of_le_length h64,List.drop_append_of_le_length h64]
   exact ih _ _ (by rw [List.length_drop];omega)
  ·rw [eat_lo z a (by omega)]
theorem eat_rest:∀(n:Nat) (z:St) (l:List Int),l.length<=n->(eat z l).2.length < 64/\∀x∈(eat z l).2,x∈l:=by
 intro n
 induction n with
 | zero=>intro z l h;rw [eat_lo z l (by omega)];exact⟨by show l.length < 64;omega,fun x hx=>hx⟩
 | succ n ih=>
  intro z l h
  by_cases h64:64<=l.length
  ·rw [eat_hi z l h64]
   obtain⟨a,b⟩:=ih (comp z (l.take 64)) (l.drop 64) (by rw [List.length_drop];omega)
   exact⟨a,fun x hx=>List.mem_of_mem_drop (b x hx)⟩
  ·rw [eat_lo z l (by omega)];exact⟨by show l.length < 64;omega,fun x hx=>hx⟩
end Go.Proofs.Bl
namespace Go.Proofs.Bl
def padn (n:Nat):Nat:=(119 - n % 64) % 64
def lenb (n:Nat):List Int:=(List.range 8).map fun k=>((n*8 / 2^(56 - 8*k) % 256:Nat):Int)
@[simp] theorem lenb_length (n:Nat):(lenb n).length=8:=by simp [lenb]
theorem lenb_take (n j:Nat) (h:j < 8):(lenb n).take (j+1)=(lenb n).take j++[(n:Int)*8 / 2^(56 - 8*j) % 256]:=by
 rw [List.take_add_one,List.getElem?_eq_getElem (by simpa using h)]
 simp [lenb]
def pad (l:List Int) (n:Nat):List Int:=l++128 :: List.replicate (padn l.length) 0++lenb n
theorem padn_mod (n:Nat):(n+1+padn n+8) % 64=0:=by unfold padn;omega
theorem lenb_byt (n:Nat):Byt (lenb n):=fun x hx=>by
 obtain⟨k,_,rfl⟩:=List.mem_map.1 hx
 have:=Nat.mod_lt (n*8 / 2^(56 - 8*k)) (show 0 < 256 by decide)
 omega
theorem rep_byt (k:Nat):Byt (List.replicate k 0):=fun x hx=>by have:=List.eq_of_mem_replicate hx;omega
theorem pad_byt {l:List Int} (n:Nat) (h:Byt l):Byt (pad l n):=
 (h.append (fun x hx=>by
  rcases List.mem_cons.1 hx with rfl | hx
  ·decide
  ·exact rep_byt _ x hx)).append (lenb_byt n)
def wbytes (x:Int):List Int:=[x / 16777216 % 256,x / 65536 % 256,x / 256 % 256,x % 256]
def St.bytes (s:St):List Int:=wbytes s.a++wbytes s.b++wbytes s.c++wbytes s.d++wbytes s.e++wbytes s.f++wbytes s.g++wbytes s.h
@[simp] theorem St.bytes_length (s:St):s.bytes.length=32:=rfl
def St.byte (s:St) (j:Nat):Int:=s.l.getD (j / 4) 0 / 2^(24 - 8*(j % 4)) % 256
theorem St.bytes_get (s:St) (j:Nat) (h:j < 32):s.bytes.getD j 0=s.byte j:=by
 have:j=0\/j=1\/j=2\/j=3\/j=4\/j=5\/j=6\/j=7\/j=8\/j=9\/j=10\/j=11\/j=12\/j=13\/j=14\/j=15\/j=16\/j=17\/j=18\/j=19\/j=20\/j=21\/j=22\/j=23\/j=24\/j=25\/j=26\/j=27\/j=28\/j=29\/j=30\/j=31:=by omega
 rcases this with rfl | rfl | rfl | rfl | rfl | rfl | rfl | rfl | rfl | rfl | rfl | rfl | rfl | rfl | rfl | rfl | rfl | rfl | rfl | rfl | rfl | rfl | rfl | rfl | rfl | rfl | rfl | rfl | rfl | rfl | rfl | rfl<;>simp [St.bytes,St.byte,St.l,wbytes]
theorem St.bytes_map (s:St):(List.range 32).map (fun j=>if j < 4*8 then s.byte j else 0)=s.bytes:=by
 apply List.ext_getElem
 ·simp
 ·intro i h1 h2
  have h3:i < 32:=by simpa using h1
  have:=s.bytes_get i h3
  rw [List.getD_eq_getElem?_getD,List.getElem?_eq_getElem h2]at this
  simp only [Option.getD_some]at this
  simp [this]
  omega
def foldc (L:List Int) (z:St) (ks:List Nat):St:=ks.foldl (fun z k=>comp z ((L.drop (64*k)).take 64)) z
theorem foldl_chunks {α :Type} (f: α ->List Int-> α) (L:List Int) (m:Nat) (z: α):
  (List.range (m+1)).foldl (fun z k=>f z ((L.drop (64*k)).take 64)) z=(List.range m).foldl (fun z k=>f z (((L.drop 64).drop (64*k)).take 64)) (f z (L.take 64)):=by
 rw [List.range_succ_eq_map,List.foldl_cons,List.foldl_map]
 simp only [List.drop_drop,Nat.mul_zero,List.drop_zero]
 have:(fun(x: α) (y:Nat)=>f x (List.take 64 (List.drop (64*y.succ) L)))=fun z k=>f z (List.take 64 (List.drop (64+64*k) L)):=by
  funext z k
  rw [show 64*(k+1)=64+64*k from by omega]
 rw [this]
theorem foldc_range (m:Nat):∀(L:List Int) (z:St),L.length=64*m->foldc L z (List.range m)=(eat z L).1:=by
 induction m with
 | zero=>intro L z h;rw [eat_lo z L (by omega)];rfl
 | succ m ih=>
  intro L z h
  rw [eat_hi z L (by omega),<-ih (L.drop 64) (comp z (L.take 64)) (by rw [List.length_drop];omega)]
  exact foldl_chunks comp L m z
def ended (z:St) (l:List Int) (n:Nat):St:=(eat z (pad l n)).1
def sliceLen:Value->Nat
 | .slice _ n _=>n
 | _=>0
end Go.Proofs.Bl
namespace Go.Proofs.Bl
open Go
theorem bitLen_bounds:∀(m:Nat),1<=m->m < 2^64->1<=Lib.bitLen m/\2^(Lib.bitLen m - 1)<=m/\m < 2^(Lib.bitLen m):=by
 intro m
 induction m using Nat.strongRecOn with
 | _ m ih=>
  intro h1 h2
  rw [Lib.bitLen_half m (by omega) h2]
  by_cases h:m=1
  ·subst h;decide
  ·obtain⟨a,b,c⟩:=ih (m / 2) (by omega) (by omega) (by omega)
   generalize Lib.bitLen (m / 2)=q at a b c
   obtain⟨q,rfl⟩:∃r,q=r+1:=⟨q - 1,by omega⟩
   refine⟨by omega,?_,?_⟩
   ·rw [show 1+(q+1) - 1=q+1 from by omega,Nat.pow_succ]
    simp only [Nat.add_sub_cancel]at b
    omega
   ·rw [show 1+(q+1)=(q+1)+1 from by omega,Nat.pow_succ]
    omega
theorem pow_le_of (a b:Nat) (h:a<=b):2^a<=2^b:=Nat.pow_le_pow_right (by decide) h
theorem bitLen_eq (m j:Nat) (h2:m < 2^64) (a:2^j<=m) (b:m < 2^(j+1)):Lib.bitLen m=j+1:=by
 have h1:1<=m:=Nat.le_trans (Nat.one_le_two_pow) a
 obtain⟨c,d,e⟩:=bitLen_bounds m h1 h2
 generalize Lib.bitLen m=q at*
 have x1:¬q < j+1:=fun h=>by
  have:=pow_le_of q j (by omega)
  omega
 have x2:¬j+1 < q:=fun h=>by
  have:=pow_le_of (j+1) (q - 1) (by omega)
  omega
 omega
def sp (n:Nat):Nat:=if n < 2 then 0 else 2^(Lib.bitLen (n - 1) - 1)
def dp (n:Nat):Nat:=if n < 2 then 0 else Lib.bitLen (n - 1)
theorem sp_lo (n:Nat) (h:n < 2):sp n=0:=by simp [sp,h]
theorem dp_lo (n:Nat) (h:n < 2):dp n=0:=by simp [dp,h]
theorem bitLen_lim (n:Nat) (h:2<=n) (hn:n < 2^63):Lib.bitLen (n - 1)<=63:=by
 exact Lib.bitLen_le (n - 1) 63 (by decide) (by omega)
theorem sp_bounds (n:Nat) (h:2<=n) (hn:n < 2^63):1<=sp n/\sp n < n/\n - sp n<=sp n:=by
 obtain⟨a,b,c⟩:=bitLen_bounds (n - 1) (by omega) (by omega)
 unfold sp
 rw [if_neg (by omega)]
 generalize Lib.bitLen (n - 1)=q at*
 obtain⟨q,rfl⟩:∃r,q=r+1:=⟨q - 1,by omega⟩
 simp only [Nat.add_sub_cancel,Nat.pow_succ]at*
 have:=Nat.one_le_two_pow (n:=q)
 omega
theorem sp_of_pow (n j:Nat) (hn:n < 2^63) (a:2^j < n) (b:n<=2^j*2):sp n=2^j:=by
 have:=Nat.one_le_two_pow (n:=j)
 unfold sp
 rw [if_neg (by omega),bitLen_eq (n - 1) j (by omega) (by omega) (by rw [Nat.pow_succ];omega)]
 rfl
theorem sp_pow (n:Nat) (h:2<=n):sp n=2^(dp n - 1):=by
 unfold sp dp;rw [if_neg (by omega),if_neg (by omega)]
theorem dp_bounds (n:Nat) (h:2<=n) (hn:n < 2^63):1<=dp n/\dp n<=63/\2^(dp n - 1) < n/\n<=2^(dp n):=by
 obtain⟨a,b,c⟩:=bitLen_bounds (n - 1) (by omega) (by omega)
 have d:=bitLen_lim n h hn
 unfold dp
 rw [if_neg (by omega)]
 exact⟨a,d,by omega,by omega⟩
section
variable {D:Type} (nd:D->D->D) (z:D)
def overN:Nat->List D->D
 | 0,_=>z
 | f+1,l=>if l.length < 2 then l.headD z else nd (overN f (l.take (sp l.length))) (overN f (l.drop (sp l.length)))
def over (l:List D):D:=overN nd z l.length l
theorem overN_fuel:∀(f g:Nat) (l:List D),l.length<=f->l.length<=g->l.length < 2^63->overN nd z f l=overN nd z g l
 | 0,0,_,_,_,_=>rfl
 | 0,g+1,l,h,_,_=>by
  have:l=[]:=List.length_eq_zero_iff.1 (by omega)
  subst this;simp [overN]
 | f+1,0,l,_,h,_=>by
  have:l=[]:=List.length_eq_zero_iff.1 (by omega)
  subst this;simp [overN]
 | f+1,g+1,l,h,k,hn=>by
  simp only [overN]
  split
  ·rfl
  ·obtain⟨a,b,c⟩:=sp_bounds l.length (by omega) hn
   rw [overN_fuel f g (l.take (sp l.length)) (by rw [List.length_take];omega) (by rw [List.length_take];omega) (by rw [List.length_take];omega),
    overN_fuel f g (l.drop (sp l.length)) (by rw [List.length_drop];omega) (by rw [List.length_drop];omega) (by rw [List.length_drop];omega)]
theorem over_nil:over nd z []=z:=rfl
theorem over_one (d:D):over nd z [d]=d:=by simp [over,overN]
theorem over_hi (l:List D) (h:2<=l.length) (hn:l.length < 2^63):over nd z l=nd (over nd z (l.take (sp l.length))) (over nd z (l.drop (sp l.length))):=by
 obtain⟨a,b,c⟩:=sp_bounds l.length h hn
 unfold over
 rw [overN_fuel nd z l.length (l.length - 1+1) l (by omega) (by omega) hn]
 simp only [overN]
 rw [if_neg (by omega)]
 rw [overN_fuel nd z (l.length - 1) (l.take (sp l.length)).length (l.take (sp l.length)) (by rw [List.length_take];omega) (Nat.le_refl _) (by rw [List.length_take];omega),
  overN_fuel nd z (l.length - 1) (l.drop (sp l.length)).length (l.drop (sp l.length)) (by rw [List.length_drop];omega) (Nat.le_refl _) (by rw [List.length_drop];omega)]
def up:List D->List D
 | a :: b :: r=>nd a b :: up r
 | l=>l
theorem up_length:∀(l:List D),(up nd l).length=(l.length+1) / 2
 | []=>by simp [up]
 | [a]=>by simp [up]
 | a :: b :: r=>by simp only [up,List.length_cons,up_length r];omega
theorem up_append:∀(k:Nat) (a b:List D),a.length=2*k->up nd (a++b)=up nd a++up nd b
 | 0,a,b,h=>by
  have:a=[]:=List.length_eq_zero_iff.1 (by omega)
  subst this;simp [up]
 | k+1,[],b,h=>by simp at h
 | k+1,[x],b,h=>by simp at h;omega
 | k+1,x :: y :: r,b,h=>by
  simp only [List.cons_append,up]
  rw [up_append k r b (by simp at h;omega)]
theorem over_up:∀(n:Nat) (l:List D),l.length=n->l.length < 2^63->over nd z (up nd l)=over nd z l:=by
 intro n
 induction n using Nat.strongRecOn with
 | _ n ih=>
  intro l hl hn
  match l,hl with
  | [],_=>simp [up]
  | [a],_=>simp [up]
  | [a,b],_=>
   rw [over_hi nd z [a,b] (by simp) (by simp)]
   have:sp 2=1:=by decide+kernel
   simp [up,this,over_one]
  | a :: b :: c :: r,hl=>
   obtain⟨l,hl0⟩:∃l,l=a :: b :: c :: r:=⟨_,rfl⟩
   rw [<-hl0]at hl hn⊢
   have h3:3<=l.length:=by rw [hl0];simp
   obtain⟨d1,d2,d3,d4⟩:=dp_bounds l.length (by omega) hn
   have hsp:=sp_pow l.length (by omega)
   obtain⟨j,hj⟩:∃j,dp l.length=j+2:=⟨dp l.length - 2,by
    have:dp l.length≠1:=fun q=>by rw [q]at d4;simp at d4;omega
    omega⟩
   rw [hj]at d3 d4 hsp
   simp only [show j+2 - 1=j+1 from rfl]at d3 hsp
   obtain⟨s1,s2,s3⟩:=sp_bounds l.length (by omega) hn
   have hul:=up_length nd l
   have e1:2^(j+1)=2*2^j:=by rw [Nat.pow_succ];omega
   have e2:2^(j+2)=4*2^j:=by rw [Nat.pow_succ,Nat.pow_succ];omega
   have hp:=Nat.one_le_two_pow (n:=j)
   have hsu:sp (up nd l).length=2^j:=sp_of_pow _ j (by omega) (by omega) (by omega)
   rw [over_hi nd z l (by omega) hn,over_hi nd z (up nd l) (by omega) (by omega),hsu,hsp]
   have hk:l=l.take (2^(j+1))++l.drop (2^(j+1)):=(List.take_append_drop _ _).symm
   have htl:(l.take (2^(j+1))).length=2*2^j:=by rw [List.length_take];omega
   have hu:up nd l=up nd (l.take (2^(j+1)))++up nd (l.drop (2^(j+1))):=by
    conv=>lhs;rw [hk]
    exact up_append nd _ _ _ htl
   have hut:(up nd (l.take (2^(j+1)))).length=2^j:=by rw [up_length,htl];omega
   rw [hu,List.take_append_of_le_length (by omega),List.take_of_length_le (by omega),List.drop_append_of_le_length (by omega),List.drop_of_length_le (by omega),List.nil_append]
   rw [ih _ (by omega) (l.take (2^(j+1))) rfl (by omega),ih _ (by rw [List.length_drop];omega) (l.drop (2^(j+1))) rfl (by rw [List.length_drop];omega)]
def gp (n:Nat):Nat:=sp (n+1)
def peaksN:Nat->List D->List D
 | 0,_=>[]
 | f+1,l=>if l.length=0 then []else over nd z (l.take (gp l.length)) :: peaksN f (l.drop (gp l.length))
def peaks (l:List D):List D:=peaksN nd z l.length l
def trailN:Nat->Nat->Nat
 | 0,_=>0
 | f+1,n=>if n % 2=1 then trailN f (n / 2)+1 else 0
def trail (n:Nat):Nat:=trailN n n
def carry (t:Nat) (ps:List D) (d:D):List D:=ps.take (ps.length - t)++[(ps.drop (ps.length - t)).foldr nd d]
def foldp:List D->D
 | []=>z
 | [d]=>d
 | p :: r=>nd p (foldp r)
end
def turnsN:Nat->Nat->Nat->List (Bool × Nat × Nat)
 | 0,_,_=>[]
 | f+1,n,i=>if n < 2 then []else if i < sp n then(true,sp n,i) :: turnsN f (sp n) i else(false,n - sp n,i - sp n) :: turnsN f (n - sp n) (i - sp n)
def turnsL (n i:Nat):List (Bool × Nat × Nat):=turnsN n n i
theorem turnsN_fuel:∀(f g n i:Nat),n<=f->n<=g->n < 2^63->turnsN f n i=turnsN g n i
 | 0,0,_,_,_,_,_=>rfl
 | 0,g+1,n,i,h,_,_=>by simp only [turnsN];rw [if_pos (by omega)]
 | f+1,0,n,i,_,h,_=>by simp only [turnsN];rw [if_pos (by omega)]
 | f+1,g+1,n,i,h,k,hn=>by
  simp only [turnsN]
  split
  ·rfl
  ·obtain⟨a,b,c⟩:=sp_bounds n (by omega) hn
   rw [turnsN_fuel f g (sp n) i (by omega) (by omega) (by omega),turnsN_fuel f g (n - sp n) (i - sp n) (by omega) (by omega) (by omega)]
theorem turnsL_lo (n i:Nat) (h:n < 2):turnsL n i=[]:=by
 unfold turnsL
 cases n with
 | zero=>rfl
 | succ n=>simp only [turnsN];rw [if_pos h]
theorem turnsL_left (n i:Nat) (h:2<=n) (hn:n < 2^63) (hi:i < sp n):turnsL n i=(true,sp n,i) :: turnsL (sp n) i:=by
 obtain⟨a,b,c⟩:=sp_bounds n h hn
 unfold turnsL
 rw [turnsN_fuel n (n - 1+1) n i (by omega) (by omega) hn]
 simp only [turnsN]
 rw [if_neg (by omega),if_pos hi,turnsN_fuel (n - 1) (sp n) (sp n) i (by omega) (Nat.le_refl _) (by omega)]
theorem turnsL_right (n i:Nat) (h:2<=n) (hn:n < 2^63) (hi:¬i < sp n):turnsL n i=(false,n - sp n,i - sp n) :: turnsL (n - sp n) (i - sp n):=by
 obtain⟨a,b,c⟩:=sp_bounds n h hn
 unfold turnsL
 rw [turnsN_fuel n (n - 1+1) n i (by omega) (by omega) hn]
 simp only [turnsN]
 rw [if_neg (by omega),if_neg hi,turnsN_fuel (n - 1) (n - sp n) (n - sp n) (i - sp n) (by omega) (Nat.le_refl _) (by omega)]
theorem turnsL_len:∀(m n i:Nat),n<=m->n < 2^63->(turnsL n i).length<=n
 | 0,n,i,h,_=>by rw [turnsL_lo n i (by omega)];exact Nat.zero_le _
 | m+1,n,i,h,hn=>by
  by_cases h2:2<=n
  ·obtain⟨a,b,c⟩:=sp_bounds n h2 hn
   by_cases hi:i < sp n
   ·rw [turnsL_left n i h2 hn hi,List.length_cons]
    have:=turnsL_len m (sp n) i (by omega) (by omega)
    omega
   ·rw [turnsL_right n i h2 hn hi,List.length_cons]
    have:=turnsL_len m (n - sp n) (i - sp n) (by omega) (by omega)
    omega
  ·rw [turnsL_lo n i (by omega)];exact Nat.zero_le _
def thereB (n i:Int):Bool:=decide (n<=512)&&decide (0<=i)&&decide (i < n)
def lenP (n i:Int):Int:=if thereB n i=true then((turnsL n.toNat i.toNat).length:Int)else -1
theorem thereB_mk {n i:Int} (h1:n<=512) (h2:0<=i) (h3:i < n):thereB n i=true:=by
 unfold thereB;rw [decide_eq_true h1,decide_eq_true h2,decide_eq_true h3];rfl
theorem thereB_no {n i:Int} (h:¬(n<=512/\0<=i/\i < n)):thereB n i=false:=by
 cases hb:thereB n i with
 | false=>rfl
 | true=>
  unfold thereB at hb
  simp only [Bool.and_eq_true,decide_eq_true_eq]at hb
  exact absurd ⟨hb.1.1,hb.1.2,hb.2⟩ h
section
variable {D:Type} (nd:D->D->D) (z:D)
def pathN:Nat->List D->Nat->List D
 | 0,_,_=>[]
 | f+1,l,i=>if l.length < 2 then []else if i < sp l.length then pathN f (l.take (sp l.length)) i++[over nd z (l.drop (sp l.length))]else pathN f (l.drop (sp l.length)) (i - sp l.length)++[over nd z (l.take (sp l.length))]
def pathL (l:List D) (i:Nat):List D:=pathN nd z l.length l i
theorem pathN_fuel:∀(f g:Nat) (l:List D) (i:Nat),l.length<=f->l.length<=g->l.length < 2^63->pathN nd z f l i=pathN nd z g l i
 | 0,0,_,_,_,_,_=>rfl
 | 0,g+1,l,i,h,_,_=>by simp only [pathN];rw [if_pos (by omega)]
 | f+1,0,l,i,_,h,_=>by simp only [pathN];rw [if_pos (by omega)]
 | f+1,g+1,l,i,h,k,hn=>by
  simp only [pathN]
  split
  ·rfl
  ·obtain⟨a,b,c⟩:=sp_bounds l.length (by omega) hn
   rw [pathN_fuel f g (l.take (sp l.length)) i (by rw [List.length_take];omega) (by rw [List.length_take];omega) (by rw [List.length_take];omega),
    pathN_fuel f g (l.drop (sp l.length)) (i - sp l.length) (by rw [List.length_drop];omega) (by rw [List.length_drop];omega) (by rw [List.length_drop];omega)]
theorem pathL_lo (l:List D) (i:Nat) (h:l.length < 2):pathL nd z l i=[]:=by
 unfold pathL
 cases hl:l.length with
 | zero=>rfl
 | succ n=>simp only [pathN];rw [if_pos h]
theorem pathL_left (l:List D) (i:Nat) (h:2<=l.length) (hn:l.length < 2^63) (hi:i < sp l.length):pathL nd z l i=pathL nd z (l.take (sp l.length)) i++[over nd z (l.drop (sp l.length))]:=by
 obtain⟨a,b,c⟩:=sp_bounds l.length h hn
 unfold pathL
 rw [pathN_fuel nd z l.length (l.length - 1+1) l i (by omega) (by omega) hn]
 simp only [pathN]
 rw [if_neg (by omega),if_pos hi,pathN_fuel nd z (l.length - 1) (l.take (sp l.length)).length _ i (by rw [List.length_take];omega) (Nat.le_refl _) (by rw [List.length_take];omega)]
theorem pathL_right (l:List D) (i:Nat) (h:2<=l.length) (hn:l.length < 2^63) (hi:¬i < sp l.length):pathL nd z l i=pathL nd z (l.drop (sp l.length)) (i - sp l.length)++[over nd z (l.take (sp l.length))]:=by
 obtain⟨a,b,c⟩:=sp_bounds l.length h hn
 unfold pathL
 rw [pathN_fuel nd z l.length (l.length - 1+1) l i (by omega) (by omega) hn]
 simp only [pathN]
 rw [if_neg (by omega),if_neg hi,pathN_fuel nd z (l.length - 1) (l.drop (sp l.length)).length _ (i - sp l.length) (by rw [List.length_drop];omega) (Nat.le_refl _) (by rw [List.length_drop];omega)]
theorem pathL_len:∀(m:Nat) (l:List D) (i:Nat),l.length<=m->l.length < 2^63->(pathL nd z l i).length=(turnsL l.length i).length
 | 0,l,i,h,_=>by rw [pathL_lo nd z l i (by omega),turnsL_lo _ _ (by omega)];rfl
 | m+1,l,i,h,hn=>by
  by_cases h2:2<=l.length
  ·obtain⟨a,b,c⟩:=sp_bounds l.length h2 hn
   by_cases hi:i < sp l.length
   ·have ih:=pathL_len m (l.take (sp l.length)) i (by rw [List.length_take];omega) (by rw [List.length_take];omega)
    rw [List.length_take,Nat.min_eq_left (by omega)]at ih
    rw [pathL_left nd z l i h2 hn hi,turnsL_left _ _ h2 hn hi]
    simp only [List.length_append,List.length_cons,List.length_nil,ih]
   ·have ih:=pathL_len m (l.drop (sp l.length)) (i - sp l.length) (by rw [List.length_drop];omega) (by rw [List.length_drop];omega)
    rw [List.length_drop]at ih
    rw [pathL_right nd z l i h2 hn hi,turnsL_right _ _ h2 hn hi]
    simp only [List.length_append,List.length_cons,List.length_nil,ih]
  ·rw [pathL_lo nd z l i (by omega),turnsL_lo _ _ (by omega)];rfl
def upP (d:D) (t:Bool × Nat × Nat) (s:D):D:=if t.1 then nd d s else nd s d
def climb (d:D):List ((Bool × Nat × Nat) × D)->D
 | []=>d
 | (t,s) :: r=>climb (upP nd d t s) r
theorem climb_snoc (t:Bool × Nat × Nat) (s:D):∀(l:List ((Bool × Nat × Nat) × D)) (d:D),climb nd d (l++[(t,s)])=upP nd (climb nd d l) t s
 | [],_=>rfl
 | (t',s') :: r,d=>climb_snoc t s r (upP nd d t' s')
def foldP (n i:Nat) (d:D) (p:List D):D:=climb nd d ((turnsL n i).reverse.zip p)
theorem foldP_lo (n i:Nat) (d:D) (p:List D) (h:n < 2):foldP nd n i d p=d:=by
 unfold foldP;rw [turnsL_lo n i h];rfl
theorem foldP_left (n i:Nat) (d s:D) (p:List D) (h:2<=n) (hn:n < 2^63) (hi:i < sp n) (hp:p.length=(turnsL (sp n) i).length):foldP nd n i d (p++[s])=nd (foldP nd (sp n) i d p) s:=by
 unfold foldP
 rw [turnsL_left n i h hn hi,List.reverse_cons,List.zip_append (by rw [List.length_reverse,hp])]
 exact climb_snoc nd _ _ _ _
theorem foldP_right (n i:Nat) (d s:D) (p:List D) (h:2<=n) (hn:n < 2^63) (hi:¬i < sp n) (hp:p.length=(turnsL (n - sp n) (i - sp n)).length):foldP nd n i d (p++[s])=nd s (foldP nd (n - sp n) (i - sp n) d p):=by
 unfold foldP
 rw [turnsL_right n i h hn hi,List.reverse_cons,List.zip_append (by rw [List.length_reverse,hp])]
 exact climb_snoc nd _ _ _ _
theorem foldP_path:∀(m:Nat) (l:List D) (i:Nat),l.length<=m->i < l.length->l.length < 2^63->foldP nd l.length i (l.getD i z) (pathL nd z l i)=over nd z l
 | 0,l,i,h,hi,_=>by omega
 | m+1,l,i,h,hi,hn=>by
  by_cases h2:2<=l.length
  ·obtain⟨a,b,c⟩:=sp_bounds l.length h2 hn
   by_cases hs:i < sp l.length
   ·have hl:(l.take (sp l.length)).length=sp l.length:=by rw [List.length_take];omega
    have ih:=foldP_path m (l.take (sp l.length)) i (by omega) (by omega) (by omega)
    rw [hl]at ih
    have e:(l.take (sp l.length)).getD i z=l.getD i z:=by
     rw [List.getD_eq_getElem?_getD,List.getD_eq_getElem?_getD,List.getElem?_take,if_pos hs]
    rw [e]at ih
    rw [pathL_left nd z l i h2 hn hs,foldP_left nd _ _ _ _ _ h2 hn hs (by rw [pathL_len nd z _ _ i (Nat.le_refl _) (by omega),hl]),ih,over_hi nd z l h2 hn]
   ·have hl:(l.drop (sp l.length)).length=l.length - sp l.length:=by rw [List.length_drop]
    have ih:=foldP_path m (l.drop (sp l.length)) (i - sp l.length) (by omega) (by omega) (by omega)
    rw [hl]at ih
    have e:(l.drop (sp l.length)).getD (i - sp l.length) z=l.getD i z:=by
     rw [List.getD_eq_getElem?_getD,List.getD_eq_getElem?_getD,List.getElem?_drop]
     congr 2;omega
    rw [e]at ih
    rw [pathL_right nd z l i h2 hn hs,foldP_right nd _ _ _ _ _ h2 hn hs (by rw [pathL_len nd z _ _ _ (Nat.le_refl _) (by omega),hl]),ih,over_hi nd z l h2 hn]
  ·match l,hi,h2 with
   | [d],hi,_=>
    obtain rfl:i=0:=by simpa using hi
    rw [foldP_lo nd _ _ _ _ (by simp),over_one];rfl
   | _ :: _ :: _,_,h2=>simp at h2
   | [],hi,_=>simp at hi
end
def stepsN:Nat->Nat->Nat->Nat->Bool->List (Bool × Nat × Nat) × Bool × Nat
 | 0,_,_,fr,w=>([],w,fr)
 | f+1,m,n,fr,w=>
  if m < n then
   if m<=sp n then((false,fr+sp n,fr+n) :: (stepsN f m (sp n) fr w).1,(stepsN f m (sp n) fr w).2)
   else((true,fr,fr+sp n) :: (stepsN f (m - sp n) (n - sp n) (fr+sp n) false).1,(stepsN f (m - sp n) (n - sp n) (fr+sp n) false).2)
  else([],w,fr)
def stepsL (m n fr:Nat) (w:Bool):List (Bool × Nat × Nat) × Bool × Nat:=stepsN n m n fr w
def atOf (fr:Nat) (l:List (Bool × Nat × Nat)):Nat:=l.foldl (fun a s=>if s.1=true then s.2.2 else a) fr
def cntG (m n:Nat) (w:Bool):Nat:=(stepsL m n 0 w).1.length+(if (stepsL m n 0 w).2.1=true then 0 else 1)
section
variable {D:Type} (nd:D->D->D) (z:D)
def prN:Nat->List D->Nat->Bool->List D
 | 0,_,_,_=>[]
 | f+1,l,m,w=>
  if m < l.length then
   if m<=sp l.length then prN f (l.take (sp l.length)) m w++[over nd z (l.drop (sp l.length))]
   else prN f (l.drop (sp l.length)) (m - sp l.length) false++[over nd z (l.take (sp l.length))]
  else if w=true then []else [over nd z l]
def prG (l:List D) (m:Nat) (w:Bool):List D:=prN nd z l.length l m w
def cutL (L:List D) (a b:Nat):List D:=(L.drop a).take (b - a)
def up2 (r:D × D) (left:Bool) (d:D):D × D:=if left=true then(nd d r.1,nd d r.2)else(r.1,nd r.2 d)
def climb2 (r:D × D):List (Bool × D)->D × D
 | []=>r
 | (b,d) :: t=>climb2 (up2 nd r b d) t
def madeG (m n:Nat) (old:D) (w:Bool) (p:List D):D × D:=
 if (stepsL m n 0 w).2.1=true then climb2 nd (old,old) (((stepsL m n 0 w).1.map (·.1)).reverse.zip p)
 else climb2 nd (p.headD z,p.headD z) (((stepsL m n 0 w).1.map (·.1)).reverse.zip p.tail)
end
end Go.Proofs.Bl
namespace Go.Proofs.Bl
open Go Go.RowKit
def Keep (g n:Nat) (w w':World):Prop:=w.heap.size<=w'.heap.size/\∀k,k < n->k≠g->w'.heap[k]? =w.heap[k]?
theorem Keep.refl (g n:Nat) (w:World):Keep g n w w:=⟨Nat.le_refl _,fun _ _ _=>rfl⟩
theorem Keep.trans {g n:Nat} {a b c:World} (h:Keep g n a b) (k:Keep g n b c):Keep g n a c:=⟨Nat.le_trans h.1 k.1,fun i hi hg=>(k.2 i hi hg).trans (h.2 i hi hg)⟩
theorem Keep.cell {g n:Nat} {w w':World} (h:Keep g n w w') {b i:Nat} (hb:b < n) (hg:b≠g):w'.cell? ⟨b,i,none⟩=w.cell? ⟨b,i,none⟩:=World.cell?_of_block (w:=w) (h.2 b hb hg)
theorem Keep.putObj {g n:Nat} {w:World} (hn:n<=w.heap.size) (W:World) (l:Nat) (o o':Obj) (hl:w.heap.size<=l) (_:W.heap[l]? =some o) (_:o.isCells=false) (_:o.isWalk=false):Keep g n W (W.putObj l o'):=
 ⟨by simp,fun k hk _=>World.putObj_heap_other (by omega)⟩
theorem Keep.of_below {g n B:Nat} {w w':World} (h:Below B w w') (hn:n<=B):Keep g n w w':=⟨h.size,fun k hk _=>h.block k (by omega)⟩
theorem ownFrom_keep {β :Type} {g n B:Nat} {w₀:World} (hB:n<=B) (hn:n<=w₀.heap.size):OwnFrom B (fun(_: β) W=>Keep g n w₀ W):=
 fun _ W W' row hs hg hr=>by
  exact hs.trans ⟨hg.size,fun k hk _=>hg.block k (by have:=hs.1;omega) (fun e=>by have:=(hr k e.symm).1;omega)⟩
theorem Fam.keep {g n:Nat} {w w':World} {b:Nat} {k:IntKind} {m:Nat} {f:Nat->Int} (h:Fam w b k m f) (hk:Keep g n w w') (hb:b < n) (hg:b≠g):Fam w' b k m f:=
 ⟨fun i hi=>(hk.cell hb hg).trans (h.1 i hi),fun i=>(World.frozen?_of_block (w:=w) (hk.2 b hb hg)).trans (h.2 i)⟩
theorem cell_new1 (w:World) (v:Value) (t:TypeId):(w.alloc (.cells #[v] t)).cell? ⟨w.heap.size,0,none⟩=some v:=by have h:=World.alloc_heap_new w (.cells #[v] t);simp only [World.cell?,h];rfl
theorem exc_setCells {g:Nat} {a:World}:∀(vs:List Value) (o:Nat) (w:World),Exc g a w->Exc g a (w.setCells g o vs)
 | [],_,_,h=>h
 | v :: r,o,w,h=>by rw [World.setCells];exact exc_setCells r (o+1) _ (h.set o v)
theorem Keep.set {g n:Nat} {a w:World} (h:Keep g n a w) (i:Nat) (u:Value):Keep g n a (w.setCell ⟨g,i,none⟩ u):=
 ⟨Nat.le_trans h.1 ((Below.refl 0 w).setCell (p:=⟨g,i,none⟩) (Nat.zero_le _) u).size,fun k hk hne=>(Below.heap_setCell _ _ _ _ hne).trans (h.2 k hk hne)⟩
theorem Keep.store8 {g n:Nat} {a w:World} (h:Keep g n a w) (x0 x1 x2 x3 x4 x5 x6 x7:Value):
  Keep g n a ((((((((w.setCell ⟨g,0,none⟩ x0).setCell ⟨g,1,none⟩ x1).setCell ⟨g,2,none⟩ x2).setCell ⟨g,3,none⟩ x3).setCell ⟨g,4,none⟩ x4).setCell ⟨g,5,none⟩ x5).setCell ⟨g,6,none⟩ x6).setCell ⟨g,7,none⟩ x7):=
 (((((((h.set 0 _).set 1 _).set 2 _).set 3 _).set 4 _).set 5 _).set 6 _).set 7 _
theorem others_ext {w w':World} (h:Ext w w'):KeepsOthers w w':=⟨h.size,fun l _ ho _=>(h.block l (Array.getElem?_eq_some_iff.1 ho).1).trans ho⟩
theorem others_store8 {a w:World} (h:KeepsOthers a w) (g:Nat) (x0 x1 x2 x3 x4 x5 x6 x7:Value):
  KeepsOthers a ((((((((w.setCell ⟨g,0,none⟩ x0).setCell ⟨g,1,none⟩ x1).setCell ⟨g,2,none⟩ x2).setCell ⟨g,3,none⟩ x3).setCell ⟨g,4,none⟩ x4).setCell ⟨g,5,none⟩ x5).setCell ⟨g,6,none⟩ x6).setCell ⟨g,7,none⟩ x7):=
 (((((((h.trans (KeepsOthers.setCell _ _ _)).trans (KeepsOthers.setCell _ _ _)).trans (KeepsOthers.setCell _ _ _)).trans (KeepsOthers.setCell _ _ _)).trans (KeepsOthers.setCell _ _ _)).trans (KeepsOthers.setCell _ _ _)).trans (KeepsOthers.setCell _ _ _)).trans (KeepsOthers.setCell _ _ _)
theorem grown_ext {w w':World} (h:Ext w w'):w.grownBy w' none:=⟨h.os,h.tape,h.output,h.size,fun k hk _=>h.block k hk⟩
def chunks (m:Nat) (k:Nat):List (Fin m):=(List.finRange m).take k
theorem chunks_succ (m k:Nat) (hk:k < m):chunks m (k+1)=chunks m k++[⟨k,hk⟩]:=by
 unfold chunks
 rw [List.take_add_one,List.getElem?_eq_getElem (by simpa using hk)]
 simp
theorem chunks_length (m k:Nat) (hk:k<=m):(chunks m k).length=k:=by simp [chunks,hk]
theorem chunks_all (m:Nat):chunks m m=List.finRange m:=by unfold chunks;rw [List.take_of_length_le (by simp)]
theorem eat_mod:∀(n:Nat) (z:St) (l:List Int),l.length<=n->(eat z l).2.length=l.length % 64:=by
 intro n
 induction n with
 | zero=>intro z l h;rw [eat_lo z l (by omega)];show l.length=_;omega
 | succ n ih=>
  intro z l h
  by_cases h64:64<=l.length
  ·rw [eat_hi z l h64,ih _ _ (by rw [List.length_drop];omega),List.length_drop];omega
  ·rw [eat_lo z l (by omega)];show l.length=_;omega
theorem padn_mod64 (n:Nat):padn (n % 64)=padn n:=by unfold padn;omega
def sha (l:List Int):List Int:=(eat iv0 (pad l l.length)).1.bytes
@[simp] theorem sha_length (l:List Int):(sha l).length=32:=rfl
theorem ended_eat (l:List Int):ended (eat iv0 l).1 (eat iv0 l).2 l.length=(eat iv0 (pad l l.length)).1:=by
 have h:=eat_append (128 :: List.replicate (padn l.length) 0++lenb l.length) l.length iv0 l (Nat.le_refl _)
 unfold ended pad
 rw [eat_mod _ _ _ (Nat.le_refl _),padn_mod64,List.append_assoc,List.append_assoc,h]
def Rdss (w:World) (v:Value) (ps:List (List Int)):Prop:=
 ∃vs:List Value,Rds w v ps.length vs/\vs.length=ps.length/\∀i,i < ps.length->Rd w .u8 (vs.getD i undef) (ps.getD i [])
theorem Rdss.ext {w w':World} {v:Value} {ps:List (List Int)} (h:Rdss w v ps) (hb:Ext w w'):Rdss w' v ps:=by
 obtain⟨vs,h1,h2,h3⟩:=h
 exact⟨vs,h1.ext hb,h2,fun i hi=>(h3 i hi).ext hb⟩
theorem flat_take (ps:List (List Int)) (i:Nat) (h:i < ps.length):(ps.take (i+1)).flatten=(ps.take i).flatten++ps.getD i []:=by
 rw [List.take_add_one,List.flatten_append,List.getElem?_eq_getElem h,List.getD_eq_getElem?_getD,List.getElem?_eq_getElem h];simp
theorem flat_len (ps:List (List Int)) (i:Nat):(ps.take i).flatten.length<=ps.flatten.length:=by
 conv=>rhs;rw [<-List.take_append_drop i ps,List.flatten_append,List.length_append]
 omega
theorem flat_byt {ps:List (List Int)} (h:Byt ps.flatten) (i:Nat):Byt (ps.take i).flatten:=fun x hx=>h x (by
 rw [<-List.take_append_drop i ps,List.flatten_append];exact List.mem_append_left _ hx)
end Go.Proofs.Bl
