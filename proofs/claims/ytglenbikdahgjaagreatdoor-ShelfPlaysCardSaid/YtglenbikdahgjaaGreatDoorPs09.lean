/- Texts that stood apart, in one: WRevDP, Digs2, WRevD, WDig13. -/
import Derived.Test.YtglenbikdahgjaaGreatDoorPs08
import Derived.Test.YtglenbikdahgjaaGreatDoorPs06
set_option maxRecDepth 100000
set_option maxHeartbeats 16000000
open Bool renaming and_eq_true->Du
open Go renaming Calls->CZ,TypeId->Dn,Value->CQ,World->CP,maxLen->Dc,run_loadAt_mid->DS
open Go.Addr renaming add_mid->EH
open Go.Instr renaming loadAt->EX,storeAt->Fo
open Go.RowKit.Below renaming refl->CT,trans->DC
open Go.Value renaming int->Dx
open Go.World renaming ownsRow_nil->ES,rangeAt_setCells_same->Dr
open Int renaming toNat_natCast->Dy
open List renaming append_assoc->DH,append_nil->DV,getD_eq_getElem?_getD->CR,getElem?_eq_getElem->CV,length->Ej,length_append->C7,length_drop->C6,length_eq_zero_iff->DI,length_set->Ea,length_take->Da,mem_append->Dz,mem_cons->DA,mem_singleton->EV,range->DD
open Nat renaming le_refl->CU,le_trans->Dk,zero_add->Dq,zero_le->C9
open Option.some renaming inj->Ei
namespace Go.Proofs.Bl
open Go Go.RowKit Go.Proofs
open Go.Proofs.Tryz renaming prog->CO,underlying54->DF
variable {g c i b o B:Nat} {n:Int} {d:Nat->Bool}
structure HD (w:CP) (g:Nat) (L:List (List Int)):Prop where
 len:∀i,i < L.length->(L.getD i []).length=32
 at':∀i,i < L.length->w.rangeAt g (i*32) (aj .u8 (L.getD i []))
 th:w.there g 0 (L.length*32)
theorem jU (L:List (List Int)) (i j:Nat) (d:List Int) (h:i < L.length):(L.set i d).getD j []=if j=i then d else L.getD j []:=by
 rw[CR,CR,List.getElem?_set];by_cases e:i=j
 ·subst e;simp[h]
 ·have a:¬j=i:=fun q=>e q.symm
  rw[if_neg e,if_neg a]
theorem HD.set {w:CP} {L:List (List Int)} (h:HD w g L) (c:i < L.length) {d:List Int} (b:d.length=32):HD (w.setCells g (i*32) (aj .u8 d)) g (L.set i d):=by
 have f:w.there g (i*32) 32:=fun j a=>by have:=h.th (i*32+j) (by omega);rw[Dq]at this;exact this
 refine⟨fun j a=> ?_,fun j a=> ?_,?_⟩
 ·rw[jU _ _ _ _ c];rw[Ea]at a;split
  ·exact b
  ·exact h.len j a
 ·rw[jU _ _ _ _ c];rw[Ea]at a;by_cases e:j=i
  ·rw[if_pos e,e];exact Dr w g (i*32) (aj .u8 d) (by rw[ints_length,b];exact f)
  ·rw[if_neg e];exact World.rangeAt_setCells_apart (h.at' j a) g (i*32) (aj .u8 d) (.inr (by rw[ints_length,ints_length,b,h.len j a];omega))
 ·rw[Ea];exact World.there_setCells h.th _ _ _
theorem HD.drew {w:CP} {L:List (List Int)} (h:HD w g L):HD w.drew g L:=⟨h.len,h.at',h.th⟩
theorem HD.congr {w:CP} {L M:List (List Int)} (h:HD w g L) (e:M=L):HD w g M:=by rw[e];exact h
def iQ (g:Nat) (L0 L1 L2:List (List Int)) (d:Nat->Bool) (_u:Nat->CQ) (w:CP):Prop:=HD w g (if d 15=true then L2 else if d 13=true then L1 else L0)
theorem iQ.same {b c e:List (List Int)} {u f:Nat->CQ} {w:CP} (a:(decide (15=i)||decide (13=i))=false) (h:iQ g b c e d u w):iQ g b c e (bW d i) f w:=by
 simp only[Bool.or_eq_false_iff,decide_eq_false_iff_not]at a;unfold iQ bW at*;rw[if_neg a.1,if_neg a.2];exact h
theorem iQ.CM {b a c:List (List Int)} {u:Nat->CQ} {w:CP} (e:d 15=false) (h:HD w g a):iQ g b a c (bW d 13) u w:=by
 show HD w g (if bW d 13 15=true then c else if bW d 13 13=true then a else b);rw[show bW d 13 15=false from e,show bW d 13 13=true from rfl];exact h
def jV (L:List (List Int)) (k:Nat):List (List Int):=(DD L.length).map fun i=>if i < k\/L.length<=i+k then L.getD (L.length - 1 - i) []else L.getD i []
theorem cg (L:List (List Int)) (k:Nat):(jV L k).length=L.length:=by simp[jV]
theorem gn (L:List (List Int)) (k i:Nat) (h:i < L.length):(jV L k).getD i []=if i < k\/L.length<=i+k then L.getD (L.length - 1 - i) []else L.getD i []:=by
 unfold jV;rw[CR,List.getElem?_map,List.getElem?_range h];rfl
theorem lJ {A B:List (List Int)} (h:A.length=B.length) (k:∀i,i < A.length->A.getD i []=B.getD i []):A=B:=by
 apply List.ext_getElem h;intro i h1 h2;have:=k i h1;rw[CR,CR,CV h1,CV h2]at this;exact this
theorem sm (L:List (List Int)):jV L 0=L:=lJ (cg L 0) fun i a=>by
 rw[cg]at a;rw[gn L 0 i a,if_neg (by omega)]
theorem sq (L:List (List Int)) (k:Nat) (h:2*k+1 < L.length):jV L (k+1)=((jV L k).set k (L.getD (L.length - 1 - k) [])).set (L.length - 1 - k) (L.getD k []):=by
 refine lJ (by rw[cg,Ea,Ea,cg]) fun i c=> ?_
 rw[cg]at c;rw[jU _ _ _ _ (by rw[Ea,cg];omega),jU _ _ _ _ (by rw[cg];omega),gn _ _ _ c,gn _ _ _ c];by_cases a:i=L.length - 1 - k
 ·rw[if_pos a,if_pos (by omega),a,show L.length - 1 - (L.length - 1 - k)=k from by omega]
 ·rw[if_neg a];by_cases b:i=k
  ·rw[if_pos b,if_pos (by omega),b]
  ·rw[if_neg b];by_cases d:i < k\/L.length<=i+k
   ·rw[if_pos d,if_pos (by omega)]
   ·rw[if_neg d,if_neg (by omega)]
theorem uO (L:List (List Int)) (k:Nat) (h:L.length<=2*k+1) (h2:2*k<=L.length+1):jV L k=L.reverse:=lJ (by rw[cg,List.length_reverse]) fun i a=>by
 rw[cg]at a;rw[gn L k i a];have e:L.reverse.getD i []=L.getD (L.length - 1 - i) []:=by rw[CR,CR,List.getElem?_reverse a]
 rw[e];by_cases c:i < k\/L.length<=i+k
 ·rw[if_pos c]
 ·rw[if_neg c,show L.length - 1 - i=i from by omega]
theorem et.take {w:CP} {n:Nat} {ds:List (List Int)} (h:et w (.slice (some ⟨b,o,none⟩) n c) ds) (l:dd ds) (k:Nat) (s:k<=ds.length):et w (.slice (some ⟨b,o,none⟩) k c) (ds.take k):=by
 have m:(ds.take k).length=k:=by rw[Da];omega
 show aX w _ (ds.take k).length _;rw[m];rcases h with ⟨⟨p,h1⟩,h2,e⟩ | ⟨q,t,r,h1,h2,e,j⟩
 ·injection h1 with a f d;obtain rfl:k=0:=by omega
  exact .inl ⟨⟨_,by rw[d]⟩,rfl,by rw[List.take_zero];rfl⟩
 ·injection h1 with a f d;injection a with a;injection a with g i;subst g i d;refine .inr ⟨_,_,_,rfl,by omega,e,?_⟩;have:=gG j l 0 k;rw[Nat.zero_mul,Nat.add_zero,List.drop_zero]at this;exact this
theorem et.drop {w:CP} {n:Nat} {ds:List (List Int)} (h:et w (.slice (some ⟨b,o,none⟩) n c) ds) (m:dd ds) (k:Nat) (s:k < ds.length):et w (.slice (some ⟨b,o+k*32,none⟩) (n - k) (c - k)) (ds.drop k):=by
 have d:(ds.drop k).length=ds.length - k:=by rw[C6]
 show aX w _ (ds.drop k).length _;rcases h with ⟨⟨p,h1⟩,h2,j⟩ | ⟨q,t,r,h1,h2,j,l⟩
 ·omega
 ·injection h1 with a e f;injection a with a;injection a with g i;subst g i f e;refine .inr ⟨_,_,_,by rw[d],by rw[d];omega,by omega,?_⟩;have:=gG l m k (ds.length - k);rw[List.take_of_length_le (by rw[d];exact CU _)]at this;exact this
theorem HD.BD {w:CP} {L:List (List Int)} (h:HD w g L) (b:dd L) (i:L.length<=c) (hm:c<=Dc):et w (.slice (some ⟨g,0,none⟩) L.length c) L:=by
 refine .inr ⟨g,0,c,rfl,i,hm,fun j v d=> ?_⟩;have k:j < L.length*32:=by have:=(List.getElem?_eq_some_iff.1 d).1;rwa[bT b]at this
 have a:j / 32 < L.length:=by omega
 have h1:=cU (cs:=aj .u8 (L.getD (j / 32) [])) (h.at' (j / 32) a) 0;have e:(aO L)[j]? =(aj .u8 (L.getD (j / 32) []))[j % 32]? :=by
  have h2:(aO L).drop (j / 32*32)=aO (L.drop (j / 32)):=fH b _;have f:(aO L)[j]? =((aO L).drop (j / 32*32))[j % 32]? :=by rw[List.getElem?_drop];congr 1;omega
  rw[f,h2,List.drop_eq_getElem_cons a];show(aj .u8 L[j / 32]++aO _)[j % 32]? =_;rw[List.getElem?_append_left (by rw[ints_length,(b _ (List.getElem_mem a)).1];omega),CR,CV a];rfl
 rw[e]at d;have:=h.at' (j / 32) a (j % 32) v d;rw[show j / 32*32+j % 32=0+j from by omega]at this;exact this
theorem HD.AS {w:CP} {base:Nat} {e:Dn} {L:List (List Int)} (h:w.ownsRow base e 32 (.slice (some ⟨g,0,none⟩) L.length c) L.length (aO L)) (d:dd L):HD w g L:=by
 have h2:=h;refine⟨fun i f=>(d.get f).1,fun i f=> ?_,fun j p=> ?_⟩
 ·have:=dI (o:=0) (fun j v b=>by
   have:=h.cells (g:=g) rfl j v b
   rw[EH]at this;exact this) d f
  rw[Dq]at this;exact this
 ·have hlen:=bT d;have n:j < (aO L).length:=by omega
  have l:=h.cells (g:=g) rfl j _ (CV n);rw[EH]at l;refine⟨by rw[l];rfl,?_⟩;rcases h2.2 with ⟨b,_⟩ | ⟨k,cap,cur,b,q,m,r⟩
  ·cases b
  ·injection b with a _ _;injection a with a;injection a with a;subst a;simp[World.frozen?,m]
def iR (w:CP) (v:CQ) (B:Nat) (e:Dn) (ds:List (List Int)):Prop:=∃p c,v=.slice p ds.length c/\w.ownsRow B e 32 (.slice p ds.length c) ds.length (aO ds)
theorem iR.ext {w w':CP} {v:CQ} {e:Dn} {ds:List (List Int)} (h:iR w v B e ds) (k:au w w'):iR w' v B e ds:=by
 obtain⟨p,c,h1,h2⟩:=h;exact⟨p,c,h1,aN h2 k⟩
theorem iR.mono {w:CP} {v:CQ} {a:Nat} {e:Dn} {ds:List (List Int)} (h:iR w v B e ds) (k:a<=B):iR w v a e ds:=by
 obtain⟨p,c,h1,h2⟩:=h;exact⟨p,c,h1,dX h2 k⟩
theorem iR.nil (w:CP) (B:Nat) (e:Dn):iR w (.slice none 0 0) B e []:=⟨none,0,rfl,ES _ _ _ _⟩
theorem uP (g c n:Nat) (L:List (List Int)) (w:CP) (X:n=L.length) (h:HD w g L) (hl:n<=1099511627776) (_hc:n<=c) (_hcm:c<=Dc):
  CZ CO 84 #[.slice (some ⟨g,0,none⟩) n c] w fun e w'=>e=.returned (.tuple #[])/\HD w' g L.reverse/\Below g w w':=by
 have H:=aa h;have o:=aa X;clear h X;go_enter Tryz.func84,Tryz.ntmps84
 go_wp2_with fail
 go_loopw [2,3] (fun i j wr=>∃k:Nat,i=.int .i64 k/\j=.int .i64 ((n:Int) - 1 - k)/\2*k<=n+1/\HD wr g (jV L k)/\Below g w wr) (fun i _ _=>n+1 - (intOf i).toNat);case atStart=>exact⟨0,rfl,by simp,by omega,H.congr (sm L),CT _ _⟩
 case round=>
  obtain⟨k,rfl,rfl,hk,T,S⟩:=hrel;have t:=aa T;have P:=aa S;clear T S;by_cases an:(k:Int) < (n:Int) - 1 - (k:Int)
  ·obtain⟨m,hm⟩:=exq (n - 1 - k);have W:(n:Int) - 1 - (k:Int)=(m:Int):=by omega
   rw[W]at an⊢;have Hm:Hid (m=L.length - 1 - k):=aa (by rw[hm,o.out]);have aD:k < m:=by omega
   have aF:m < n:=by omega
   have ax:2*k+1 < n:=by omega
   have ao:(m:Int) - 1=(n:Int) - 1 - ((k+1:Nat):Int):=by omega
   have ah:=aa ao;have N:k < (jV L k).length:=by rw[cg,<-o.out];omega
   have O:m < (jV L k).length:=by rw[cg,<-o.out];omega
   have C:=aa (sq L k (by rw[<-o.out];omega));have v:(jV L k).getD k []=L.getD k []:=by rw[gn L k k (by rw[<-o.out];omega),if_neg (by rw[<-o.out];omega)]
   have z:(jV L k).getD m []=L.getD m []:=by rw[gn L k m (by rw[<-o.out];omega),if_neg (by rw[<-o.out];omega)]
   rw[<-Hm.out]at C;have G:=t.len k N;have I:=t.len m O;rw[v]at G;rw[z]at I;have A:=aa N;have B:=aa O;obtain⟨f,V⟩:=exq (jV L k);obtain⟨x,hx⟩:=exq (L.getD k []);obtain⟨y,hy⟩:=exq (L.getD m []);rw[<-V]at t A B C v z;rw[<-hx,<-hy]at C;rw[<-hx]at G v;rw[<-hy]at I z;have ae:=aa v;have af:=aa z;have K:=aa G;have M:=aa I;clear N O G I V hx hy v z W hm;have ac:Hid (∀w',HD w' g f->(EX 54 (.pointer (some ⟨g,m*32,none⟩))).run CO w'=.ok (.agg (aj .u8 y).toArray) w'):=aa fun w' h=>by have h1:=h.at' m B;rw[af.out]at h1;exact aZ h1 DF (by kernel_rfl) M
   have ab:Hid (∀w',HD w' g f->(EX 54 (.pointer (some ⟨g,k*32,none⟩))).run CO w'=.ok (.agg (aj .u8 x).toArray) w'):=aa fun w' h=>by have h1:=h.at' k A;rw[ae.out]at h1;exact aZ h1 DF (by kernel_rfl) K
   have Q:Hid (∀w',HD w' g f->(Fo 54 (.pointer (some ⟨g,k*32,none⟩)) (.agg (aj .u8 y).toArray)).run CO w'=.ok () (w'.setCells g (k*32) (aj .u8 y))/\HD (w'.setCells g (k*32) (aj .u8 y)) g (f.set k y)):=aa fun w' h=>⟨bo (n:=32) (fun j hj=>by
    have:=h.th (k*32+j) (by have:=A.out;omega)
    rw[Dq]at this;exact this) (by kernel_rfl) M,h.set A M⟩
   have R:Hid (∀w',HD w' g (f.set k y)->(Fo 54 (.pointer (some ⟨g,m*32,none⟩)) (.agg (aj .u8 x).toArray)).run CO w'=.ok () (w'.setCells g (m*32) (aj .u8 x))/\HD (w'.setCells g (m*32) (aj .u8 x)) g ((f.set k y).set m x)):=aa fun w' h=>⟨bo (n:=32) (fun j hj=>by
    have:=h.th (m*32+j) (by rw[Ea];have:=B.out;omega)
    rw[Dq]at this;exact this) (by kernel_rfl) K,h.set (by rw[Ea];exact B) K⟩
   have e4:(k:Int) < (n:Int):=by omega
   have e5:(m:Int) < (n:Int):=by omega
   have e6:(0:Int)<=(k:Int):=by omega
   have e7:(0:Int)<=(m:Int):=by omega
   go_wp2_with fail
   apply az (fun a b=>Below g a b) (iQ g f (f.set k y) ((f.set k y).set m x)) 16 [14,15,16,17,18,19,20,21,22,23,24,25,26,27] [ar _,ar _,ar _,ar _,ar _,ar _,ar _,ar _,ar _,ar _,ar _,ar _,ar (.pointer (some ⟨g,k*32,none⟩)),ar _,ar (.pointer (some ⟨g,m*32,none⟩)),ar _] (fun w=>CT _ w) (fun a b c h k=>DC h k) (by kernel_rfl) (by kernel_rfl) (by kernel_rfl) (by kernel_rfl);case hsteps=>
    refine⟨?_,?_,?_,?_,?_,?_,?_,?_,?_,?_,?_,?_,?_,?_,?_,?_,trivial⟩;all_goals
     intro d ev s E l J q F D r;replace J:=aa J;replace l:=aa l;replace q:=aa q;replace F:=aa F;have e0:=D 0 (by decide);have e2:=D 2 (by decide);have e3:=D 3 (by decide);clear D;simp only[sB]at e0 e2 e3;simp only[sG]at r;have hc:=(ay E).1;simp only[Region.wanted,if_true];first
     | (have p:HD s g f:=(by have h:=l.out;unfold iQ at h;rw[q.out 15 (by kernel_rfl),q.out 13 (by kernel_rfl)]at h;exact h);(with_reducible refine jc (fun w=>CT _ w) ?_ (ac.out _ p) ?_);exact r;exact⟨rfl,iQ.same (by decide) l⟩) | (have p:HD s g f:=(by have h:=l.out;unfold iQ at h;rw[q.out 15 (by kernel_rfl),q.out 13 (by kernel_rfl)]at h;exact h);(with_reducible refine jc (fun w=>CT _ w) ?_ (ab.out _ p) ?_);exact r;exact⟨rfl,iQ.same (by decide) l⟩) | (have p:HD s g f:=(by have h:=l.out;unfold iQ at h;rw[q.out 15 (by kernel_rfl),F.out]at h;exact h);(with_reducible refine dH ?_ ?_ (Q.out _ p).1 ?_ ?_);exact r.1;exact r.2.1;exact aA _ _ _ _ (CT _ _) (CU _);exact⟨rfl,iQ.CM (q 15 (by kernel_rfl)) (Q _ p).2⟩) | (have p:HD s g (f.set k y):=(by have h:=l.out;unfold iQ at h;rw[F.out,J.out 13 (by kernel_rfl)]at h;exact h);(with_reducible refine dH ?_ ?_ (R.out _ p).1 ?_ ?_);exact r.1;exact r.2.1;exact aA _ _ _ _ (CT _ _) (CU _);exact⟨rfl,(by unfold iQ bW;exact(R _ p).2)⟩)
     | (go_simp;first | exact⟨CT _ _,rfl,iQ.same (by decide) l⟩ | exact⟨CT _ _,rfl,HJ.same (by decide) l⟩)
   case hmono=>exact mR
   case hR0=>exact(CT _ _).drew
   case hend=>
    intro u s E U hend;simp only[sE]at hend;simp only[sF,hend];have Z:Hid (HD s g ((f.set k y).set m x)):=aa U;have Y:=aa (P.trans E);clear U E hend
    go_wp2_with fail
    go_roundw;case rel=>exact⟨k+1,by simp,by show Dx _ _=Dx _ _;first | (congr 1;done) | (congr 1;have:=ah.out;omega),by omega,by rw[C.out];exact Z,Y⟩
    case measure=>simp[intOf];omega
   case hJ0=>exact t.drew
  ·have ad:=aa (uO L k (by rw[<-o.out];omega) (by rw[<-o.out];omega))
   go_wp2_with fail
   go_end0
   exact⟨rfl,by rw[<-ad.out];exact t,P⟩
theorem uQ (p:Option Addr) (c:Nat) (w:CP):
  CZ CO 84 #[.slice p 0 c] w fun e w'=>e=.returned (.tuple #[])/\w=w':=by
 go_enter Tryz.func84,Tryz.ntmps84
 go_wp2_with fail
 go_loop [2,3] (fun i j=>i=.int .i64 0/\j=.int .i64 (-1)) (fun _ _=>0);case atStart=>exact⟨rfl,rfl⟩
 case round=>
  obtain⟨rfl,rfl⟩:=hrel
  go_wp2_with fail
  go_end0
  exact⟨rfl,rfl⟩
def gu (ps:List (List Int)) (i:Nat):List (List Int):=dm ej zD (ps.map ij) i
theorem lK:∀(m:Nat) (l:List (List Int)) (i:Nat),l.length<=m->l.length < 2^63->dd l->dd (dm ej zD l i)
 | 0,l,i,h,_,_=>by rw[gi _ _ l i (by omega)];exact dd.nil
 | m+1,l,i,h,hn,hd=>by
  by_cases h2:2<=l.length
  ·obtain⟨a,b,c⟩:=bN l.length h2 hn;have one:∀x:List (List Int),dd x->x.length < 2^63->dd [over ej zD x]:=fun x hx e=>dd.one (dP _ x rfl hx e).1 (dP _ x rfl hx e).2
   by_cases d:i < sp l.length
   ·rw[gI _ _ l i h2 hn d];exact(lK m _ i (by rw[Da];omega) (by rw[Da];omega) (hd.take _)).append (one _ (hd.drop _) (by rw[C6];omega))
   ·rw[fK _ _ l i h2 hn d];exact(lK m _ _ (by rw[C6];omega) (by rw[C6];omega) (hd.drop _)).append (one _ (hd.take _) (by rw[Da];omega))
  ·rw[gi _ _ l i (by omega)];exact dd.nil
theorem rv:kv CO 143 146 (.agg #[.bool false,.int .i64 0,.int .i64 0]) 3 24:=⟨Tryz.underlying143,by kernel_rfl,rfl,by decide⟩
theorem mG (n i:Int) (w:CP):CZ CO 80 #[.int .i64 n,.int .i64 i] w fun e w'=>e=.returned (.bool (iu n i))/\w=w':=by
 by_cases h1:n<=512
 ·by_cases h2:0<=i
  ·by_cases a:i < n
   ·have H:=aa (mz h1 h2 a);go_enter Tryz.func80,Tryz.ntmps80
    go_wp2
    go_ret;exact⟨by rw[H.out];rfl,rfl⟩
   ·have H:=aa (iK (n:=n) (i:=i) (by omega));go_enter Tryz.func80,Tryz.ntmps80
    go_wp2
    go_ret;exact⟨by rw[H.out];rfl,rfl⟩
  ·have H:=aa (iK (n:=n) (i:=i) (by omega));go_enter Tryz.func80,Tryz.ntmps80
   go_wp2
   go_ret;exact⟨by rw[H.out];rfl,rfl⟩
 ·have H:=aa (iK (n:=n) (i:=i) (by omega));go_enter Tryz.func80,Tryz.ntmps80
  go_wp2
  go_ret;exact⟨by rw[H.out];rfl,rfl⟩
theorem sr (n i:Nat) (w:CP) (hn:n<=512) (X:i < n):
  CZ CO 82 #[.int .i64 n,.int .i64 i] w fun e w'=>∃p c,e=.returned (.slice p (bP n i).length c)/\w'.ownsRow w.heap.size 146 3 (.slice p (bP n i).length c) (bP n i).length (cT (bP n i))/\au w w':=by
 have t:=eB n n i (CU _) (by omega);obtain⟨T,D⟩:=exq (bP n i);rw[<-D]at t⊢;have S:=aa D;have U:Hid (T.length<=512):=aa (by omega);clear D t;go_enter Tryz.func82,Tryz.ntmps82
 go_wp2_with fail
 go_loopw [0,1,5] (fun I i' o wr=>∃(m j:Nat) (p:Option Addr) (k c:Nat) (acc:List (Bool × Nat × Nat)),m<=512/\j < m/\I=.int .i64 m/\i'=.int .i64 j/\o=.slice p k c/\Hid (k=acc.length/\acc++bP m j=T/\wr.ownsRow w.heap.size 146 3 (.slice p k c) k (cT acc))/\au w wr) (fun I _ _ _=>(intOf I).toNat);case atStart=>exact⟨n,i,none,0,0,[],hn,X,rfl,rfl,rfl,aa ⟨rfl,by rw[S.out];rfl,ES _ _ _ _⟩,CT _ _⟩
 case round=>
  obtain⟨m,j,p,k,c,acc,hm,hj,rfl,rfl,rfl,b,O⟩:=hrel;have A:=aa O;clear O;by_cases h2:2<=m
  ·obtain⟨s1,s2,s3⟩:=bN m h2 (by omega);have al:k<=512:=by have:=b.2.1;have:=congrArg Ej this;rw[C7]at this;have:=U.out;have:=b.1;omega
   have Z:(1:Int) < (m:Int):=by omega
   go_wp2_with fail
   refine(rQ _ _ (by omega)).mono ?_;rintro e f ⟨rfl,ad⟩;subst ad;rw[Dy];have v:=aa (fun h=>ed m j h2 (by omega) h);have x:=aa (fun h=>dN m j h2 (by omega) h);obtain⟨q,R⟩:=exq (sp m);rw[<-R]at s1 s2 s3 v x⊢;clear R;by_cases F:j < q
   ·have J:=aa (v F);have Y:(j:Int) < (q:Int):=by omega
    clear v x
    go_wp2_with (with_reducible refine df ?_)
    refine ax ?_;refine de rv (by decide) rfl rfl ?_;have r:=aa (aN b.2.2 (ae wr (.cells #[.bool true,.int .i64 q,.int .i64 j] 146)));have l:=aa (nZ wr 146 #[.bool true,.int .i64 q,.int .i64 j]);have d:Hid (au w (wr.alloc (.cells #[.bool true,.int .i64 q,.int .i64 j] 146))):=aa (A.trans (ae _ _))
    go_wp2_with (with_reducible refine av ?_)
    refine ax ?_;refine bg rv r l rfl rfl rfl (kC [(true,q,j)]) (by unfold Dc;omega) (by omega) d.size ?_;intro g d3 f u E s C ac W;have L:Hid (f.ownsRow w.heap.size 146 3 (.slice g (k+1) d3) (k+1) (cT (acc++[(true,q,j)]))):=aa (by rw[iX];exact u);have B:Hid (au w f):=aa (DC d s);have z:Hid (k+1=(acc++[(true,q,j)]).length/\(acc++[(true,q,j)])++bP q j=T/\f.ownsRow w.heap.size 146 3 (.slice g (k+1) d3) (k+1) (cT (acc++[(true,q,j)]))):=
     aa ⟨by rw[C7,b.out.1];rfl,by rw[DH];show acc++(true,q,j) :: bP q j=T;rw[<-J.out];exact b.2.1,L⟩
    clear u E s C r l d L J
    go_wp2_with fail
    go_roundw;case rel=>exact⟨q,j,g,k+1,d3,_,by omega,F,rfl,rfl,rfl,z,B⟩
    case measure=>simp[intOf];omega
   ·have y:=aa (x F);have Y:¬((j:Int) < (q:Int)):=by omega
    have M:(m:Int) - (q:Int)=((m - q:Nat):Int):=by omega
    have N:(j:Int) - (q:Int)=((j - q:Nat):Int):=by omega
    obtain⟨m2,Q⟩:=exq (m - q);obtain⟨a,P⟩:=exq (j - q);rw[<-Q]at M y;rw[<-P]at N y;have b1:m2<=512:=by omega
    have b2:a < m2:=by omega
    have b3:m2 < m:=by omega
    clear v x Q P
    go_wp2_with (with_reducible refine df ?_)
    refine ax ?_;refine de rv (by decide) rfl rfl ?_;have r:=aa (aN b.2.2 (ae wr (.cells #[.bool false,.int .i64 m2,.int .i64 a] 146)));have l:=aa (nZ wr 146 #[.bool false,.int .i64 m2,.int .i64 a]);have d:Hid (au w (wr.alloc (.cells #[.bool false,.int .i64 m2,.int .i64 a] 146))):=aa (A.trans (ae _ _))
    go_wp2_with (with_reducible refine av ?_)
    refine ax ?_;refine bg rv r l rfl rfl rfl (kC [(false,m2,a)]) (by unfold Dc;omega) (by omega) d.size ?_;intro g d3 f u E s C ac W;have B:Hid (au w f):=aa (DC d s);have z:Hid (k+1=(acc++[(false,m2,a)]).length/\(acc++[(false,m2,a)])++bP m2 a=T/\f.ownsRow w.heap.size 146 3 (.slice g (k+1) d3) (k+1) (cT (acc++[(false,m2,a)]))):=
     aa ⟨by rw[C7,b.out.1];rfl,by rw[DH];show acc++(false,m2,a) :: bP m2 a=T;rw[<-y.out];exact b.2.1,by rw[iX];exact u⟩
    clear u E s C r l d y M N
    go_wp2_with fail
    go_roundw;case rel=>exact⟨m2,a,g,k+1,d3,_,by omega,by omega,rfl,rfl,rfl,z,B⟩
    case measure=>simp[intOf];omega
  ·have t:acc=T:=by have:=b.2.1;rw[ec m j (by omega),DV]at this;exact this
   have G:=b.1;have H:=b.2.2;rw[t]at G H;have V:=aa H;have K:Hid (T.length=k):=aa G.symm;have Z:¬((1:Int) < (m:Int)):=by omega
   clear t H G
   go_wp2_with fail
   go_ret;exact⟨p,c,by rw[K.out];rfl,by rw[K.out];exact V,A⟩
theorem oA (w:CP) (x:Bool) (n i:Nat):
  (Fo 146 (.pointer (some ⟨w.heap.size,0,none⟩)) (.agg #[.bool x,.int .i64 n,.int .i64 i])).run CO (w.alloc (.cells #[.bool false,.int .i64 0,.int .i64 0] 146))=.ok () ((w.alloc (.cells #[.bool false,.int .i64 0,.int .i64 0] 146)).setCells w.heap.size 0 [.bool x,.int .i64 n,.int .i64 i])/\
  ((w.alloc (.cells #[.bool false,.int .i64 0,.int .i64 0] 146)).setCells w.heap.size 0 [.bool x,.int .i64 n,.int .i64 i]).cell? ⟨w.heap.size,0,none⟩=some (.bool x)/\
  ((w.alloc (.cells #[.bool false,.int .i64 0,.int .i64 0] 146)).setCells w.heap.size 0 [.bool x,.int .i64 n,.int .i64 i]).cell? ⟨w.heap.size,1,none⟩=some (.int .i64 n)/\
  au w ((w.alloc (.cells #[.bool false,.int .i64 0,.int .i64 0] 146)).setCells w.heap.size 0 [.bool x,.int .i64 n,.int .i64 i]):=by
 have d:=iL w #[.bool false,.int .i64 0,.int .i64 0] 146 3 rfl;have e:=run_storeAt_mid (P:=CO) (w.alloc (.cells #[.bool false,.int .i64 0,.int .i64 0] 146)) w.heap.size 0 146 #[.bool x,.int .i64 n,.int .i64 i] (by simpa using d) (by kernel_rfl) (all_oneCell_toArray (cs:=[.bool x,.int .i64 n,.int .i64 i]) (by intro c a;simp only[DA,List.not_mem_nil,or_false]at a;rcases a with rfl | rfl | rfl<;>rfl));have b:=Dr (w.alloc (.cells #[.bool false,.int .i64 0,.int .i64 0] 146)) w.heap.size 0 [.bool x,.int .i64 n,.int .i64 i] d;exact⟨e,b 0 _ rfl,b 1 _ rfl,aA _ _ _ _ (ae _ _) (CU _)⟩
theorem su (v:CQ) (ps:List (List Int)) (i:Nat) (w:CP) (hR:aU w v ps) (hg:eZ w) (bG:∀p∈ps,bI p) (bJ:∀p∈ps,p.length<=1099511627000) (hn:ps.length<=512) (hi:i < ps.length):
  CZ CO 46 #[v,.int .i64 i] w fun e w'=>∃v',e=.returned (.tuple #[v',.nilIface])/\et w' v' (gu ps i)/\(∀k,v'.ownBlock=some k->w.heap.size<=k)/\au w w':=by
 have aI:=aa (qi v ps w hR hg bG bJ (by omega));have HT:=aa (fun R=>sr ps.length i R hn hi);have bQ:=aa (mz (n:=(ps.length:Int)) (i:=(i:Int)) (by omega) (by omega) (by omega));obtain⟨vs,bR,cq,cr⟩:=hR;obtain⟨p,c,aA,_,_⟩:=bR.form;subst aA;have bv:Hid (dd (ps.map ij)):=aa (jj ps);have aM:Hid ((ps.map ij).length=ps.length):=aa (List.length_map _);have a3:Hid (dm ej zD (ps.map ij) i=gu ps i):=aa rfl;obtain⟨ds,bH⟩:=exq (ps.map ij);rw[<-bH]at aI bv aM a3;obtain⟨PD,bE⟩:=exq (gu ps i);rw[<-bE]at a3⊢;obtain⟨n,bK⟩:=exq ps.length;rw[<-bK]at aI HT bQ hn hi aM⊢;obtain⟨T,hT⟩:=exq (bP n i);rw[<-hT]at HT;have bu:=aa hT;have Hg:=aa hg;clear bR cq cr bK hg bG bJ bH bE hT;go_enter Tryz.func46,Tryz.ntmps46
 go_wp2_with fail
 refine(mG _ _ _).mono ?_;rintro e R ⟨rfl,hw⟩;subst hw;rw[bQ.out]
 go_wp2_with fail
 refine aI.mono ?_;rintro e R ⟨pl,l,rfl,bL,bC⟩;have br:Hid (et R (.slice pl n l) ds):=aa (by show aX R _ ds.length _;rw[aM.out];exact aX.AS bL);have bq:=aa bC;clear bL bC aI
 go_wp2_with fail
 refine(HT R).mono ?_;rintro e r ⟨pt,ct,rfl,bM,a8⟩;have bs:Hid (et r (.slice pl n l) ds):=aa (aX.ext br a8);have bt:Hid (aX r (.slice pt T.length ct) T.length (cT T)):=aa (aX.AS bM);have G:=aa (bq.trans a8);have b6:T.length<=512:=by rw[bu.out];have:=eB n n i (CU _) (by omega);omega
 obtain⟨F,bl⟩:=exq T.length;rw[<-bl]at bt b6⊢;have aQ:=aa bl;clear bM a8 br bq HT bl
 go_wp2_with fail
 go_loopw [6,7,24] (fun li out x wr=>∃(k j m l f co:Nat) (pl po:Option Addr) (a acc:List (List Int)),k<=F/\x=.int .i64 k/\li=.slice pl m l/\out=.slice po f co/\m<=512/\j < m/\f<=F/\Hid (a.length=m/\acc.length=f/\f=k/\T.drop k=bP m j/\dd a/\dd acc/\dm ej zD a j++acc.reverse=PD/\et r (.slice pl m l) a/\wr.ownsRow r.heap.size 54 32 (.slice po f co) f (aO acc))/\au r wr) (fun _ _ x _=>F - (intOf x).toNat);case atStart=>exact⟨0,i,n,l,0,0,pl,none,ds,[],C9 _,rfl,rfl,rfl,hn,hi,C9 _,aa ⟨aM,rfl,rfl,bu,bv,dd.nil,by rw[List.reverse_nil,DV];exact a3,bs,ES _ _ _ _⟩,CT _ _⟩
 case round=>
  obtain⟨k,j,m,l,f,co,pl,po,a,acc,hk,rfl,rfl,rfl,hm,hj,cG,U,hE⟩:=hrel;have W:=aa hE;clear hE bs;by_cases cI:k < F
  ·have h2:2<=m:=by
    rcases Nat.lt_or_ge m 2 with h | h
    ·exfalso;have h1:=U.2.2.2.1;rw[ec m j h]at h1;have:=congrArg Ej h1;rw[C6,<-aQ.out]at this;simp at this;omega
    ·exact h
   obtain⟨s1,s2,s3⟩:=bN m h2 (by omega);obtain⟨t,ag,aS,A,ah,ai,N,al,am⟩:=U.out;have aF:=aa aS;have HD:=aa ah;have V:=aa ai;have aG:=aa al;have y:=aa am;have z:=aa ag;have u:=aa t;have aH:=aa (fun h:j < sp m=>ed m j h2 (by omega) h);have aJ:=aa (fun h:¬j < sp m=>dN m j h2 (by omega) h);have Y:=aa (fun h:j < sp m=>gI ej zD a j (by rw[t];exact h2) (by rw[t];omega) (by rw[t];exact h));have Z:=aa (fun h:¬j < sp m=>fK ej zD a j (by rw[t];exact h2) (by rw[t];omega) (by rw[t];exact h));rw[t]at Y Z;have H4:=aa A;have S:=aa N;obtain⟨b,o,cC,cg,cb,ca,b7,bO⟩:=RdT.pos (by have h:=bt.out;rw[aQ.out]at h;exact aX.ext h W) (by rw[<-aQ.out];omega);injection cg with ch ci cj;clear ci cj;subst ch;have bz:=aa bO;obtain⟨b2,o2,c2,hq,cl,cJ,b8,_⟩:=et.pos al ah (by omega);injection hq with cm cn cp;subst cm cp;rw[t]at cl;clear t ag aS A ah ai N al am U bO b7 cb ca cn b8;obtain⟨q,hq⟩:=exq (sp m);rw[<-hq]at s1 s2 s3 aH aJ Y Z;clear hq;have cE:(0:Int)<=(k:Int):=by omega
   have cF:(k:Int) < (F:Int):=by omega
   by_cases D:j < q
   ·have ap:T.drop k=(true,q,j) :: bP q j:=by rw[H4.out];exact aH D
    obtain⟨aw,ar,aq⟩:=mB default ap;have O:=Y D;have a4:=aa aq;have a2:=aa O;have ab:=aa (DS (P:=CO) wr b (o+k*3) 146 _ _ (rj bz aw ar) Tryz.underlying146 rfl (by kernel_rfl));clear ap aw ar aq O aH aJ Y Z H4
    go_wp2_with (with_reducible refine aV (ty:=146) ?_)
    refine ax ?_;refine ao rfl ab ?_;obtain⟨az,bc,bd,an⟩:=oA wr true q j;have af:=aa az;have X:=aa an;clear az an ab
    go_wp2_with (with_reducible refine aC (ty:=146) ?_)
    refine ax ?_;refine ak rfl rfl af ?_;clear af;generalize (wr.alloc (.cells #[.bool false,.int .i64 0,.int .i64 0] 146)).setCells wr.heap.size 0 [.bool true,.int .i64 q,.int .i64 j]=W6 at*;have H:=aa (W.trans X);have ba:=aa (aN y X);have cu:(q:Int) < (m:Int):=by omega
    have cv:¬(q=l):=by omega
    have cw:(0:Int)<=(q:Int):=by omega
    have cx:(q:Int)<=(m:Int):=by omega
    have cy:(q:Int)<=(l:Int):=by omega
    have cz:(m:Int)<=(l:Int):=by omega
    have aL:=aa (et.drop (aX.ext aG H) HD q (by rw[u.out];omega));have aP:=aa (et.take aG HD q (by rw[u.out];omega));have J:=aa (oz _ (a.drop q) W6 (by rw[C6,u.out];omega) (HD.drop q) aL (Hg.ext (G.trans H)));have s:=aa (dP _ (a.drop q) rfl (HD.drop q) (by rw[C6,u.out];omega));obtain⟨d,B⟩:=exq (bZ (a.drop q));rw[<-B]at J s;have Hd:Hid (d=Bl.over ej zD (a.drop q)):=aa B;clear B aL
    go_wp2_with fail
    refine J.mono ?_;rintro e L ⟨rfl,K⟩;have a0:=aa (H.trans K);have ad:=aa (aN (aN ba K) (ae L (.cells (aj .u8 d).toArray 54)));have ac:=aa (fI L 54 d s.1);have I:Hid (au r (L.alloc (.cells (aj .u8 d).toArray 54))):=aa (a0.trans (ae _ _));clear K J bc bd
    go_wp2_with (with_reducible refine df ?_)
    refine ax ?_;refine de kb (by decide) rfl (by simp[s.out.1]) ?_
    go_wp2_with (with_reducible refine av ?_)
    refine ax ?_;refine bg kb ad ac rfl rfl (by rw[cM,ints_length,s.out.1]) (cY _) (by unfold Dc;omega) (by omega) I.size ?_;intro q3 d3 M ay bf C a9 ce b9;have a1:Hid (au r M):=aa (DC I C);have aZ:Hid ((a.take q).length=q/\(acc++[d]).length=f+1/\f+1=k+1/\T.drop (k+1)=bP q j/\dd (a.take q)/\dd (acc++[d])/\dm ej zD (a.take q) j++(acc++[d]).reverse=PD/\et r (.slice (some ⟨b2,o2,none⟩) q l) (a.take q)/\M.ownsRow r.heap.size 54 32 (.slice q3 (f+1) d3) (f+1) (aO (acc++[d]))):=aa
     ⟨by rw[Da,u.out];omega,by rw[C7,z.out];rfl,by rw[aF.out],a4,HD.take q,V.append (dd.one s.1 s.2),
      by rw[<-S.out,a2.out,List.reverse_append,DH,Hd.out];rfl,aP,by rw[cf];exact ay⟩
    have bj:f+1<=F:=by have:=aF.out;omega
    clear ay bf C a9 ad ac I
    go_wp2_with fail
    go_roundw;case rel=>exact⟨k+1,j,q,l,f+1,d3,_,q3,_,_,by omega,by go_num,rfl,rfl,by omega,D,bj,aZ,a1⟩
    case measure=>simp[intOf];omega
   ·obtain⟨E,bi⟩:=exq (j - q);obtain⟨m2,aW⟩:=exq (m - q);have ap:T.drop k=(false,m2,E) :: bP m2 E:=by rw[H4.out,aW,bi];exact aJ D
    obtain⟨aw,ar,aq⟩:=mB default ap;have O:=Z D;rw[<-bi]at O;have a4:=aa aq;have a2:=aa O;have ab:=aa (DS (P:=CO) wr b (o+k*3) 146 _ _ (rj bz aw ar) Tryz.underlying146 rfl (by kernel_rfl));have b1:m2<=512:=by omega
    have b3:E < m2:=by omega
    have e1:(m:Int) - (m2:Int)=(q:Int):=by omega
    have a6:=aa aW;clear ap aw ar aq O aH aJ Y Z H4 bi aW
    go_wp2_with (with_reducible refine aV (ty:=146) ?_)
    refine ax ?_;refine ao rfl ab ?_;obtain⟨az,bc,bd,an⟩:=oA wr false m2 E;have af:=aa az;have X:=aa an;clear az an ab
    go_wp2_with (with_reducible refine aC (ty:=146) ?_)
    refine ax ?_;refine ak rfl rfl af ?_;clear af;generalize (wr.alloc (.cells #[.bool false,.int .i64 0,.int .i64 0] 146)).setCells wr.heap.size 0 [.bool false,.int .i64 m2,.int .i64 E]=W6 at*;have H:=aa (W.trans X);have ba:=aa (aN y X);have cu:(q:Int) < (m:Int):=by omega
    have cv:¬(q=l):=by omega
    have cw:(0:Int)<=(q:Int):=by omega
    have cx:(q:Int)<=(m:Int):=by omega
    have cy:(q:Int)<=(l:Int):=by omega
    have cz:(m:Int)<=(l:Int):=by omega
    have aL:Hid (et r (.slice (some ⟨b2,o2+q*32,none⟩) m2 (l - q)) (a.drop q)):=aa (by have h:=et.drop aG HD q (by rw[u.out];omega);rw[<-a6.out]at h;exact h);have aP:=aa (et.take (aX.ext aG H) HD q (by rw[u.out];omega));have J:=aa (oz _ (a.take q) W6 (by rw[Da,u.out];omega) (HD.take q) aP (Hg.ext (G.trans H)));have s:=aa (dP _ (a.take q) rfl (HD.take q) (by rw[Da,u.out];omega));obtain⟨d,B⟩:=exq (bZ (a.take q));rw[<-B]at J s;have Hd:Hid (d=Bl.over ej zD (a.take q)):=aa B;clear B aP
    go_wp2_with fail
    refine J.mono ?_;rintro e L ⟨rfl,K⟩;have a0:=aa (H.trans K);have ad:=aa (aN (aN ba K) (ae L (.cells (aj .u8 d).toArray 54)));have ac:=aa (fI L 54 d s.1);have I:Hid (au r (L.alloc (.cells (aj .u8 d).toArray 54))):=aa (a0.trans (ae _ _));clear K J bc bd
    go_wp2_with (with_reducible refine df ?_)
    refine ax ?_;refine de kb (by decide) rfl (by simp[s.out.1]) ?_
    go_wp2_with (with_reducible refine av ?_)
    refine ax ?_;refine bg kb ad ac rfl rfl (by rw[cM,ints_length,s.out.1]) (cY _) (by unfold Dc;omega) (by omega) I.size ?_;intro q3 d3 M ay bf C a9 ce b9;have a1:Hid (au r M):=aa (DC I C);have aZ:Hid ((a.drop q).length=m2/\(acc++[d]).length=f+1/\f+1=k+1/\T.drop (k+1)=bP m2 E/\dd (a.drop q)/\dd (acc++[d])/\dm ej zD (a.drop q) E++(acc++[d]).reverse=PD/\et r (.slice (some ⟨b2,o2+q*32,none⟩) m2 (l - q)) (a.drop q)/\M.ownsRow r.heap.size 54 32 (.slice q3 (f+1) d3) (f+1) (aO (acc++[d]))):=aa
     ⟨by rw[C6,u.out,a6.out],by rw[C7,z.out];rfl,by rw[aF.out],a4,HD.drop q,V.append (dd.one s.1 s.2),
      by rw[<-S.out,a2.out,List.reverse_append,DH,Hd.out];rfl,aL,by rw[cf];exact ay⟩
    have bj:f+1<=F:=by have:=aF.out;omega
    have bW:Hid (m - q=m2):=aa a6.symm;clear ay bf C a9 ad ac I e1
    go_wp2_with fail
    try rw[bW.out]
    go_roundw;case rel=>exact⟨k+1,E,m2,l - q,f+1,d3,_,q3,_,_,by omega,by go_num,rfl,rfl,b1,b3,bj,aZ,a1⟩
    case measure=>simp[intOf];omega
  ·obtain rfl:k=F:=by omega
   obtain⟨t,ag,aS,A,ah,ai,N,al,am⟩:=U.out;have aW:m < 2:=by
    rcases Nat.lt_or_ge m 2 with h | h
    ·exact h
    ·exfalso;obtain⟨s1,s2,s3⟩:=bN m h (by omega);rw[aQ.out,List.drop_length]at A;by_cases D:j < sp m
     ·rw[ed m j h (by omega) D]at A;cases A
     ·rw[dN m j h (by omega) D]at A;cases A
   rw[gi _ _ _ _ (by omega),List.nil_append]at N;have y:=aa am;have V:=aa ai;have z:=aa ag;have S:=aa N;clear t ag aS A ah ai N al am U;by_cases h0:f=0
   ·subst h0;have bX:Hid (PD=[]):=aa (by rw[<-S.out,DI.1 z.out];rfl)
    go_wp2_with fail
    refine(uQ _ _ _).mono ?_;rintro e M ⟨rfl,cs⟩;subst cs
    go_wp2_with fail
    go_ret2;refine⟨.slice po 0 co,rfl,?_,fun k hk=>Dk G.size (y.lt k hk).1,G.trans W⟩;have h:=aX.AS y;rw[DI.1 z.out]at h;rw[bX.out];exact h
   ·obtain⟨g,ck⟩:∃g,po=some ⟨g,0,none⟩:=by
     rcases y.2 with ⟨Q,_⟩ | ⟨g,cap,cur,Q,_⟩
     ·injection Q with _ Q;omega
     ·injection Q with Q;exact⟨g,Q⟩
    subst ck;obtain⟨_,_,aA,bn,bm⟩:=(aX.AS y).form;injection aA with cc cd aA;clear cc cd;subst aA;have bx:=aa (y.lt g rfl).1;have HH:Hid (HD wr g acc):=aa (HD.AS (by have h:=y.out;rw[<-z.out]at h;exact h) V);have cH:f<=512:=by omega
    have bA:=aa (uP g co f acc wr z.symm HH (by omega) bn bm);have b0:=aa bn;have bY:=aa bm;clear bn bm
    go_wp2_with fail
    refine bA.mono ?_;rintro e M ⟨rfl,bD,C⟩;have bV:=aa bD;have bT:=aa C;clear bD C bA
    go_wp2_with fail
    go_ret2;refine⟨.slice (some ⟨g,0,none⟩) f co,rfl,?_,fun k hk=>(by have e:g=k:=Ei hk;subst e;exact Dk G.size bx),DC (G.trans W) (bT.mono (Dk G.size bx))⟩;rw[<-S.out];have h:=bV.BD (c:=co) (fun d B=>V d (List.mem_reverse.1 B)) (by rw[List.length_reverse,z.out];exact b0) bY;rw[List.length_reverse,z.out]at h;exact h
def zT (t:Bool × Nat × Nat):List CQ:=[.bool t.1,.int .i64 t.2.1,.int .i64 t.2.2]
structure HV (w:CP) (g:Nat) (L:List (List CQ)):Prop where
 len:∀i,i < L.length->(L.getD i []).length=3
 at':∀i,i < L.length->w.rangeAt g (i*3) ((L.getD i []))
 th:w.there g 0 (L.length*3)
def zU (g:Nat) (L0 L1 L2:List (List CQ)) (d:Nat->Bool) (_u:Nat->CQ) (w:CP):Prop:=HV w g (if d 15=true then L2 else if d 13=true then L1 else L0)
def AA (L:List (List CQ)) (k:Nat):List (List CQ):=(DD L.length).map fun i=>if i < k\/L.length<=i+k then L.getD (L.length - 1 - i) []else L.getD i []
def jX:Int->List Int->Int
 | g,[]=>g
 | g,x :: r=>jX (if g < x then x else g) r
theorem kZ:∀(l:List Int) (g x:Int),jX g (l++[x])=if jX g l < x then x else jX g l
 | [],_,_=>rfl
 | y :: r,g,x=>kZ r (if g < y then y else g) x
theorem nB:∀(l:List Int) (g:Int),g<=jX g l/\∀x∈l,x<=jX g l
 | [],g=>⟨Int.le_refl g,fun x hx=>(by cases hx)⟩
 | y :: r,g=>by
  obtain⟨h1,h2⟩:=nB r (if g < y then y else g);have a:g<=jX g (y :: r)/\y<=jX g (y :: r):=by
   show g<=jX (if g < y then y else g) r/\y<=jX (if g < y then y else g) r;by_cases b:g < y
   ·rw[if_pos b]at h1⊢;omega
   ·rw[if_neg b]at h1⊢;omega
  refine⟨a.1,fun x hx=> ?_⟩;rcases DA.1 hx with rfl | hx
  ·exact a.2
  ·exact h2 x hx
theorem nC:∀(l:List Int) (g:Int),jX g l=g\/jX g l∈l
 | [],g=>.inl rfl
 | y :: r,g=>by
  show jX (if g < y then y else g) r=g\/jX (if g < y then y else g) r∈y :: r;rcases nC r (if g < y then y else g)with h | h
  ·rw[h];split
   ·exact .inr (by simp)
   ·exact .inl rfl
  ·exact .inr (List.mem_cons_of_mem _ h)
def gT (ids:List Int) (x:Int):Bool:= !ids.isEmpty&&decide (x<=jX 0 ids - 64)
def jl (ids:List Int) (x:Int):Bool:=decide (x∈ids)&& !gT ids x
def eT (ids:List Int) (x:Int):Bool:=wi x 0 1099511627776&& !gT ids x&& !jl ids x
structure bV (any:Bool) (g:Int) (c:Nat) (ids:List Int):Prop where
 an:any= !ids.isEmpty
 gr:g=jX 0 ids
 lt:c < 2^64
 rn:∀x∈ids,0<=x/\x<=1099511627776
 bt:∀k:Nat,k < 64->c.testBit k=decide ((g - (k:Int))∈ids)
theorem bV.zero:bV false 0 0 []:=⟨rfl,rfl,by decide,fun x h=>(by cases h),fun k _=>by simp⟩
section
variable {any:Bool} {g:Int} {c:Nat} {ids:List Int}
theorem bV.Cw (h:bV any g c ids):0<=g/\g<=1099511627776:=by
 have h1:=(nB ids 0).1;rw[h.gr];refine⟨h1,?_⟩;rcases nC ids 0 with q | q
 ·omega
 ·exact(h.rn _ q).2
theorem bV.top (h:bV any g c ids) {x:Int} (hx:x∈ids):x<=g:=by rw[h.gr];exact(nB ids 0).2 x hx
theorem bV.Cg (h:bV any g c ids) (a:any=false):ids=[]:=by
 have:=h.an;rw[a]at this;simpa using this.symm
theorem bV.old (h:bV any g c ids) (x:Int):gT ids x=(any&&decide (x<=g - 64)):=by unfold gT;rw[h.an,h.gr]
theorem bV.has (h:bV any g c ids) {x:Int} (b:gT ids x=false) (a:any=true) (d:x<=g):jl ids x=c.testBit (g - x).toNat:=by
 rw[h.old,a]at b;have h2:¬x<=g - 64:=by simpa using b
 rw[h.bt (g - x).toNat (by omega),show g - ((g - x).toNat:Int)=x by omega];unfold jl;rw[h.old,a];simp[h2]
theorem bV.Cu (h:bV any g c ids) {x:Int} (a:any=false\/wi x 0 1099511627776=false\/gT ids x=true\/g < x):jl ids x=false:=by
 unfold jl;rcases a with q | q | q | q
 ·rw[h.Cg q];simp
 ·have hx:x ∉ ids:=fun hm=>by have:=h.rn x hm;have:=jM.1 q;omega
  simp[hx]
 ·rw[q];simp
 ·have hx:x ∉ ids:=fun hm=>by have:=h.top hm;omega
  simp[hx]
theorem lL {x:Int} (h:wi x 0 1099511627776=false\/gT ids x=true\/jl ids x=true):eT ids x=false:=by
 unfold eT;rcases h with q | q | q<;>rw[q]<;>simp
theorem ry {x:Int} (h1:wi x 0 1099511627776=true) (h2:gT ids x=false) (a:jl ids x=false):eT ids x=true:=by
 unfold eT;rw[h1,h2,a];rfl
theorem kJ (ids:List Int) (x:Int):(ids++[x]).isEmpty=false:=by simp
theorem wP (k:Nat):(1:Nat).testBit k=decide (k=0):=by
 cases k with
 | zero=>rfl
 | succ k=>rw[Nat.testBit_succ];simp
theorem xV (c d k:Nat) (a:k < 64):(((c*2^d) % 2^64)||| 1).testBit k=(decide (k=0)||(decide (d<=k)&&c.testBit (k - d))):=by
 rw[Nat.testBit_or,Nat.testBit_mod_two_pow,wP,Nat.testBit_mul_two_pow];simp only[a,decide_true,Bool.true_and];rw[Bool.or_comm]
theorem bV.up (h:bV any g c ids) {x:Int} {d:Nat} (hx:0<=x/\x<=1099511627776) (b:any=false\/g < x) (o:d=min (x - g).toNat 64):bV true x (((c*2^d) % 2^64)||| 1) (ids++[x]):=by
 have r:jX 0 ids<=x:=by
  rcases b with q | q
  ·rw[h.Cg q];exact hx.1
  ·rw[<-h.gr];omega
 have m:∀k:Nat,x - (k:Int)=x↔k=0:=fun k=>by omega
 refine⟨by rw[kJ];rfl,?_,?_,fun y hy=> ?_,fun k i=> ?_⟩
 ·rw[kZ];split<;>omega
 ·exact Nat.or_lt_two_pow (Nat.mod_lt _ (by decide)) (by decide)
 ·rcases Dz.1 hy with hy | hy
  ·exact h.rn y hy
  ·obtain rfl:y=x:=by simpa using hy
   exact hx
 ·rw[xV _ _ _ i];have hm:decide ((x - (k:Int))∈ids++[x])=(decide (k=0)||decide ((x - (k:Int))∈ids)):=by simp only[Dz,EV,m,Bool.decide_or];rw[Bool.or_comm]
  rw[hm];congr 1;rcases b with q | q
  ·have he:=h.Cg q;have n:∀j:Nat,j < 64->c.testBit j=false:=fun j f=>by rw[h.bt j f,he];simp
   rw[n (k - d) (by omega),he];simp
  ·by_cases a:d<=k
   ·have p:d=(x - g).toNat:=by omega
    rw[h.bt (k - d) (by omega)];have e:g - ((k - d:Nat):Int)=x - (k:Int):=by omega
    rw[e];simp[a]
   ·have l:(x - (k:Int)) ∉ ids:=fun hm=>by have:=h.top hm;omega
    simp[a,l]
theorem bV.add (h:bV any g c ids) {x:Int} (hx:0<=x/\x<=1099511627776) (b:any=true) (a:gT ids x=false) (f:x<=g):bV true g (c||| 2^(g - x).toNat) (ids++[x]):=by
 rw[h.old,b]at a;have h2:¬x<=g - 64:=by simpa using a
 refine⟨by rw[kJ];rfl,?_,?_,fun y hy=> ?_,fun k d=> ?_⟩
 ·rw[kZ,<-h.gr,if_neg (by omega)]
 ·exact Nat.or_lt_two_pow h.lt (Nat.pow_lt_pow_right (by decide) (by omega))
 ·rcases Dz.1 hy with hy | hy
  ·exact h.rn y hy
  ·obtain rfl:y=x:=by simpa using hy
   exact hx
 ·rw[Nat.testBit_or,Nat.testBit_two_pow,h.bt k d];have e:g - (k:Int)=x↔(g - x).toNat=k:=by omega
  simp only[Dz,EV,Bool.decide_or,e]
end
theorem uR (c:Nat) (a:c < 2^64) (k:Nat):bits .and .u64 ((c:Int) / 2^k) 1=if c.testBit k then 1 else 0:=by
 have h1:((c:Int) / 2^k)=((c / 2^k:Nat):Int):=by simp
 have b:c / 2^k < 2^64:=Nat.lt_of_le_of_lt (Nat.div_le_self _ _) a;have hw:∀n:Int,0<=n->n < 2^64->IntKind.u64.wrap n=n:=fun n h0 h1=>by simp only[IntKind.wrap,IntKind.bits,IntKind.signed];simp;omega
 rw[h1];show bits .and .u64 ((c / 2^k:Nat):Int) ((1:Nat):Int)=_;rw[(bits_nat .u64 64 (by decide) hw (c / 2^k) 1 b (by decide)).1,Nat.testBit_eq_decide_div_mod_eq];have e:c / 2^k&&& 1=c / 2^k % 2:=Nat.and_two_pow_sub_one_eq_mod (c / 2^k) 1;rw[e];have:=Nat.mod_lt (c / 2^k) (y:=2) (by decide);by_cases q:c / 2^k % 2=1
 ·rw[q];simp
 ·have:c / 2^k % 2=0:=by omega
  rw[this];simp
theorem uS (n:Int) (h0:0<=n) (h1:n < 2^64):IntKind.u64.wrap n=n:=by
 simp only[IntKind.wrap,IntKind.bits,IntKind.signed];simp;omega
theorem uT (a b:Nat) (c:a < 2^64) (d:b < 2^64):bits .or .u64 (a:Int) (b:Int)=((a||| b:Nat):Int):=
 (bits_nat .u64 64 (by decide) uS a b c d).2
theorem wQ (c k:Nat) (a:k < 64):Op.shift .shr .u64 (c:Int) .i64 (k:Int)=pure (.int .u64 ((c:Int) / 2^k)):=by
 unfold Op.shift;rw[if_neg (by omega)];have h1:min (k:Int).toNat IntKind.u64.bits=k:=by rw[Dy];exact Nat.min_eq_left (Nat.le_of_lt a)
 simp only[h1];rw[Int.fdiv_eq_ediv_of_nonneg _ (Int.le_of_lt (Int.pow_pos (by decide)))]
theorem oB (c d:Nat):IntKind.u64.wrap ((c:Int)*2^d)=(((c*2^d) % 2^64:Nat):Int):=by
 simp only[IntKind.wrap,IntKind.bits,IntKind.signed];simp
structure bL where
 AT:List (Int × List (List Int))
 ids:List Int
def bn (s:bL) (n:Int):Option (List (List Int)):=(s.AT.find? fun p=>decide (p.1=n)).map (·.2)
def sw (st:List (List Int)):Prop:=1<=st.length/\st.length<=512/\∀b∈st,b.length=16/\bI b
structure cH (s:bL):Prop where
 nd:(s.AT.map (·.1)).Nodup
 ob:∀p∈s.AT,sw p.2
 ln:s.AT.length<=4
def xC:bL:=⟨[],[]⟩
theorem cH.zero:cH xC:=⟨by simp[xC],fun p hp=>(by cases hp),by decide⟩
theorem oC {s:bL} {st:List (List Int)} (h:bn s n=some st):(n,st)∈s.AT:=by
 unfold bn at h;cases hf:s.AT.find? (fun p=>decide (p.1=n))with
 | none=>rw[hf]at h;cases h
 | some p=>
  rw[hf]at h;have h1:=List.find?_some hf;have h2:=List.mem_of_find?_eq_some hf;have a:p.1=n:=by simpa using h1
  have b:p.2=st:=by simpa using h
  rw[<-a,<-b];exact h2
theorem cH.get {s:bL} (h:cH s) {st:List (List Int)} (a:bn s n=some st):sw st:=h.ob _ (oC a)
def qt (code:Int) (l:BC):BC:=⟨7,l.id,l.obj,[],[],0,0,[],code⟩
def fc (l:BC):BC:=⟨2,l.id,l.obj,[],[],0,0,[],0⟩
def gY (all:List (List Int)) (ps:List Int):List Sh:=ps.map fun p=>(p,all.getD p.toNat [],gu all p.toNat)
def mj (l:BC) (all:List (List Int)):BC:=⟨4,l.id,l.obj,[],gY all l.places,0,0,[],0⟩
def ki (l:BC) (all:List (List Int)):BC:=⟨6,l.id,l.obj,[],[],l.BE,0,(all.drop l.BE.toNat).take l.BG.toNat,0⟩
def fx (s:bL) (l:BC):List Int:=if eT s.ids l.id=true then s.ids++[l.id]else s.ids
def fF (s:bL) (l:BC):bL:=match bn s l.obj with
 | some _=>⟨s.AT,fx s l⟩
 | none=>if 4<=s.AT.length then⟨s.AT,fx s l⟩else⟨s.AT++[(l.obj,l.blocks)],fx s l⟩
def eE (s:bL) (l:BC):BC:=match bn s l.obj with
 | some st=>if eT s.ids l.id=false\/st=l.blocks then fc l else qt 10 l
 | none=>if 4<=s.AT.length then qt 12 l else fc l
def gv (s:bL) (l:BC):BC:=match bn s l.obj with
 | none=>qt 11 l
 | some all=>if ∀p∈l.places,p < (all.length:Int)then mj l all else qt 1 l
def fe (s:bL) (l:BC):BC:=match bn s l.obj with
 | none=>qt 11 l
 | some all=>if (all.length:Int)<=l.BE then qt 1 l else if aR (ki l all)=0 then ki l all else qt 3 l
def cm (s:bL) (l:BC):bL:=if aR l=0/\l.kind=1 then fF s l else s
def bC (s:bL) (l:BC):BC × Bool:=
 if aR l=0 then(if l.kind=1 then(eE s l,true)else if l.kind=3 then(gv s l,true)else if l.kind=5 then(fe s l,true)else(dW,false))else(dW,false)
theorem uU {s:bL} {st:List (List Int)} {ids:List Int} (a:bn s n=none) (x:Int):bn ⟨s.AT++[(n,st)],ids⟩ x=if x=n then some st else bn s x:=by
 unfold bn;simp only[List.find?_append,Option.map_or];by_cases hx:x=n
 ·subst hx;unfold bn at a;cases hf:s.AT.find? (fun p=>decide (p.1=x))with
  | some p=>rw[hf]at a;cases a
  | none=>simp
 ·rw[if_neg hx];have:¬n=x:=fun q=>hx q.symm
  cases hf:s.AT.find? (fun p=>decide (p.1=x))with
  | some p=>simp
  | none=>simp[this]
theorem sx {s:bL} (h:bn s n=none):n ∉ s.AT.map (·.1):=fun hm=>by
 obtain⟨p,hp,rfl⟩:=List.mem_map.1 hm;unfold bn at h;cases hf:s.AT.find? (fun q=>decide (q.1=p.1))with
 | some q=>rw[hf]at h;cases h
 | none=>have:=List.find?_eq_none.1 hf p hp;simp at this
theorem qu {l:BC} (h:aR l=0) (e:l.kind=1) (d:∀b∈l.blocks,bI b):sw l.blocks:=by
 obtain⟨_,_,a,_,_⟩:=fg h;unfold bA at a;rw[if_pos (.inl e),Du]at a;have hw:=bj.1 a.1;have c:∀x∈l.blocks,fa x=false:=cG a.2;exact⟨by omega,by omega,fun b hm=>⟨ep (c b hm),d b hm⟩⟩
theorem cH.put {s:bL} (h:cH s) {l:BC} (f:aR l=0) (g:l.kind=1) (c:∀b∈l.blocks,bI b):cH (fF s l):=by
 unfold fF;cases hg:bn s l.obj with
 | some st=>exact⟨h.nd,h.ob,h.ln⟩
 | none=>
  simp only;by_cases d:4<=s.AT.length
  ·rw[if_pos d];exact⟨h.nd,h.ob,h.ln⟩
  ·rw[if_neg d];refine⟨?_,fun p hp=> ?_,by simp;omega⟩
   ·simp only[List.map_append,List.map_cons,List.map_nil];refine List.nodup_append.2 ⟨h.nd,by simp,fun a e b c=> ?_⟩;simp only[EV]at c;subst c;exact fun q=>sx hg (q▸e)
   ·rcases Dz.1 hp with hp | hp
    ·exact h.ob p hp
    ·obtain rfl:p=(l.obj,l.blocks):=by simpa using hp
     exact qu f g c
theorem cH.CE {s:bL} (h:cH s) {l:BC} (a:∀b∈l.blocks,bI b):cH (cm s l):=by
 unfold cm;split
 ·next q=>exact h.put q.1 q.2 a
 ·exact h
theorem qv {l:BC} (h:aR l=0) (c:l.kind=3):1<=l.places.length/\l.places.length<=12/\∀p∈l.places,0<=p/\p<=511:=by
 obtain⟨_,d,b,_,_⟩:=fg h;obtain⟨_,_,a⟩:=dr d;unfold bA at b;rw[if_neg (by omega),if_pos c]at b;unfold jN at a;rw[if_pos c]at a;have hw:=bj.1 b;exact⟨by omega,by omega,fun p hp=>fv (cG a p hp)⟩
theorem uV {l:BC} (h:aR l=0) (b:l.kind=5):(1<=l.BG/\l.BG<=512)/\(0<=l.BE/\l.BE<=511):=by
 obtain⟨_,c,_,_,_⟩:=fg h;obtain⟨_,_,a⟩:=dr c;unfold jN at a;rw[if_neg (by omega),if_neg (by omega),if_pos b,Du]at a;exact⟨bj.1 a.1,bj.1 a.2⟩
end Go.Proofs.Bl
