/- Texts that stood apart, in one: WRevDP, Digs2, WRevD, WDig13. -/
import Derived.Laws.IdiomCopy
import Derived.Test.YtglenbikdahgjaaGreatDoorPk03
import Derived.Test.YtglenbikdahgjaaGreatDoorPk00
import Derived.Test.YtglenbikdahgjaaGreatDoorPk14
set_option maxRecDepth 100000
set_option maxHeartbeats 16000000
namespace Go.Proofs.Bl
open Go Go.RowKit
structure HD (w:World) (g:Nat) (L:List (List Int)):Prop where
 len:∀i,i < L.length->(L.getD i []).length=32
 at':∀i,i < L.length->w.rangeAt g (i*32) (ints .u8 (L.getD i []))
 th:w.there g 0 (L.length*32)
theorem getD_set (L:List (List Int)) (i j:Nat) (d:List Int) (h:i < L.length):(L.set i d).getD j []=if j=i then d else L.getD j []:=by
 rw [List.getD_eq_getElem?_getD,List.getD_eq_getElem?_getD,List.getElem?_set]
 by_cases e:i=j
 ·subst e;simp [h]
 ·have e':¬j=i:=fun q=>e q.symm
  rw [if_neg e,if_neg e']
theorem HD.set {w:World} {g:Nat} {L:List (List Int)} (h:HD w g L) {i:Nat} (hi:i < L.length) {d:List Int} (hd:d.length=32):HD (w.setCells g (i*32) (ints .u8 d)) g (L.set i d):=by
 have hti:w.there g (i*32) 32:=fun j hj=>by
  have:=h.th (i*32+j) (by omega)
  rw [Nat.zero_add]at this;exact this
 refine⟨fun j hj=> ?_,fun j hj=> ?_,?_⟩
 ·rw [getD_set _ _ _ _ hi]
  rw [List.length_set]at hj
  split
  ·exact hd
  ·exact h.len j hj
 ·rw [getD_set _ _ _ _ hi]
  rw [List.length_set]at hj
  by_cases e:j=i
  ·rw [if_pos e,e]
   exact World.rangeAt_setCells_same w g (i*32) (ints .u8 d) (by rw [ints_length,hd];exact hti)
  ·rw [if_neg e]
   exact World.rangeAt_setCells_apart (h.at' j hj) g (i*32) (ints .u8 d) (.inr (by rw [ints_length,ints_length,hd,h.len j hj];omega))
 ·rw [List.length_set];exact World.there_setCells h.th _ _ _
theorem HD.drew {w:World} {g:Nat} {L:List (List Int)} (h:HD w g L):HD w.drew g L:=⟨h.len,h.at',h.th⟩
theorem HD.congr {w:World} {g:Nat} {L M:List (List Int)} (h:HD w g L) (e:M=L):HD w g M:=by rw [e];exact h
def RevJ (g:Nat) (L0 L1 L2:List (List Int)) (d:Nat->Bool) (_u:Nat->Value) (w:World):Prop:=HD w g (if d 15=true then L2 else if d 13=true then L1 else L0)
theorem RevJ.same {g i:Nat} {L0 L1 L2:List (List Int)} {d:Nat->Bool} {u u':Nat->Value} {w:World} (hi:(decide (15=i)||decide (13=i))=false) (h:RevJ g L0 L1 L2 d u w):RevJ g L0 L1 L2 (upd d i) u' w:=by
 simp only [Bool.or_eq_false_iff,decide_eq_false_iff_not]at hi
 unfold RevJ upd at*
 rw [if_neg hi.1,if_neg hi.2];exact h
theorem RevJ.st1 {g:Nat} {L0 L1 L2:List (List Int)} {d:Nat->Bool} {u:Nat->Value} {w:World} (h15:d 15=false) (h:HD w g L1):RevJ g L0 L1 L2 (upd d 13) u w:=by
 show HD w g (if upd d 13 15=true then L2 else if upd d 13 13=true then L1 else L0)
 rw [show upd d 13 15=false from h15,show upd d 13 13=true from rfl]
 exact h
def revK (L:List (List Int)) (k:Nat):List (List Int):=(List.range L.length).map fun i=>if i < k\/L.length<=i+k then L.getD (L.length - 1 - i) []else L.getD i []
theorem revK_length (L:List (List Int)) (k:Nat):(revK L k).length=L.length:=by simp [revK]
theorem revK_get (L:List (List Int)) (k i:Nat) (h:i < L.length):(revK L k).getD i []=if i < k\/L.length<=i+k then L.getD (L.length - 1 - i) []else L.getD i []:=by
 unfold revK
 rw [List.getD_eq_getElem?_getD,List.getElem?_map,List.getElem?_range h];rfl
theorem list_ext {A B:List (List Int)} (h:A.length=B.length) (k:∀i,i < A.length->A.getD i []=B.getD i []):A=B:=by
 apply List.ext_getElem h
 intro i h1 h2
 have:=k i h1
 rw [List.getD_eq_getElem?_getD,List.getD_eq_getElem?_getD,List.getElem?_eq_getElem h1,List.getElem?_eq_getElem h2]at this
 exact this
theorem revK_zero (L:List (List Int)):revK L 0=L:=list_ext (revK_length L 0) fun i hi=>by
 rw [revK_length]at hi
 rw [revK_get L 0 i hi,if_neg (by omega)]
theorem revK_succ (L:List (List Int)) (k:Nat) (h:2*k+1 < L.length):revK L (k+1)=((revK L k).set k (L.getD (L.length - 1 - k) [])).set (L.length - 1 - k) (L.getD k []):=by
 refine list_ext (by rw [revK_length,List.length_set,List.length_set,revK_length]) fun i hi=> ?_
 rw [revK_length]at hi
 rw [getD_set _ _ _ _ (by rw [List.length_set,revK_length];omega),getD_set _ _ _ _ (by rw [revK_length];omega),revK_get _ _ _ hi,revK_get _ _ _ hi]
 by_cases c1:i=L.length - 1 - k
 ·rw [if_pos c1,if_pos (by omega),c1,show L.length - 1 - (L.length - 1 - k)=k from by omega]
 ·rw [if_neg c1]
  by_cases c2:i=k
  ·rw [if_pos c2,if_pos (by omega),c2]
  ·rw [if_neg c2]
   by_cases c3:i < k\/L.length<=i+k
   ·rw [if_pos c3,if_pos (by omega)]
   ·rw [if_neg c3,if_neg (by omega)]
theorem revK_end (L:List (List Int)) (k:Nat) (h:L.length<=2*k+1) (h2:2*k<=L.length+1):revK L k=L.reverse:=list_ext (by rw [revK_length,List.length_reverse]) fun i hi=>by
 rw [revK_length]at hi
 rw [revK_get L k i hi]
 have e:L.reverse.getD i []=L.getD (L.length - 1 - i) []:=by
  rw [List.getD_eq_getElem?_getD,List.getD_eq_getElem?_getD,List.getElem?_reverse hi]
 rw [e]
 by_cases c:i < k\/L.length<=i+k
 ·rw [if_pos c]
 ·rw [if_neg c,show L.length - 1 - i=i from by omega]
theorem RdD.take {w:World} {b o n c:Nat} {ds:List (List Int)} (h:RdD w (.slice (some ⟨b,o,none⟩) n c) ds) (hd:Dig ds) (k:Nat) (hk:k<=ds.length):RdD w (.slice (some ⟨b,o,none⟩) k c) (ds.take k):=by
 have hl:(ds.take k).length=k:=by rw [List.length_take];omega
 show Rds w _ (ds.take k).length _
 rw [hl]
 rcases h with ⟨⟨p,h1⟩,h2,h3⟩ | ⟨b',o',c',h1,h2,h3,h4⟩
 ·injection h1 with e1 e2 e3
  obtain rfl:k=0:=by omega
  exact .inl ⟨⟨_,by rw [e3]⟩,rfl,by rw [List.take_zero];rfl⟩
 ·injection h1 with e1 e2 e3
  injection e1 with e1
  injection e1 with e4 e5
  subst e4 e5 e3
  refine .inr ⟨_,_,_,rfl,by omega,h3,?_⟩
  have:=rangeD_sub h4 hd 0 k
  rw [Nat.zero_mul,Nat.add_zero,List.drop_zero]at this
  exact this
theorem RdD.drop {w:World} {b o n c:Nat} {ds:List (List Int)} (h:RdD w (.slice (some ⟨b,o,none⟩) n c) ds) (hd:Dig ds) (k:Nat) (hk:k < ds.length):RdD w (.slice (some ⟨b,o+k*32,none⟩) (n - k) (c - k)) (ds.drop k):=by
 have hl:(ds.drop k).length=ds.length - k:=by rw [List.length_drop]
 show Rds w _ (ds.drop k).length _
 rcases h with ⟨⟨p,h1⟩,h2,h3⟩ | ⟨b',o',c',h1,h2,h3,h4⟩
 ·omega
 ·injection h1 with e1 e2 e3
  injection e1 with e1
  injection e1 with e4 e5
  subst e4 e5 e3 e2
  refine .inr ⟨_,_,_,by rw [hl],by rw [hl];omega,by omega,?_⟩
  have:=rangeD_sub h4 hd k (ds.length - k)
  rw [List.take_of_length_le (by rw [hl];exact Nat.le_refl _)]at this
  exact this
theorem HD.rds {w:World} {g c:Nat} {L:List (List Int)} (h:HD w g L) (hd:Dig L) (hc:L.length<=c) (hm:c<=maxLen):RdD w (.slice (some ⟨g,0,none⟩) L.length c) L:=by
 refine .inr ⟨g,0,c,rfl,hc,hm,fun j v hv=> ?_⟩
 have hj:j < L.length*32:=by
  have:=(List.getElem?_eq_some_iff.1 hv).1
  rwa [cellsD_length hd]at this
 have hi:j / 32 < L.length:=by omega
 have h1:=rangeAt_drop (cs:=ints .u8 (L.getD (j / 32) [])) (h.at' (j / 32) hi) 0
 have e:(cellsD L)[j]? =(ints .u8 (L.getD (j / 32) []))[j % 32]? :=by
  have h2:(cellsD L).drop (j / 32*32)=cellsD (L.drop (j / 32)):=cellsD_drop hd _
  have h3:(cellsD L)[j]? =((cellsD L).drop (j / 32*32))[j % 32]? :=by
   rw [List.getElem?_drop];congr 1;omega
  rw [h3,h2,List.drop_eq_getElem_cons hi]
  show(ints .u8 L[j / 32]++cellsD _)[j % 32]? =_
  rw [List.getElem?_append_left (by rw [ints_length,(hd _ (List.getElem_mem hi)).1];omega),List.getD_eq_getElem?_getD,List.getElem?_eq_getElem hi];rfl
 rw [e]at hv
 have:=h.at' (j / 32) hi (j % 32) v hv
 rw [show j / 32*32+j % 32=0+j from by omega]at this
 exact this
theorem HD.of_owns {w:World} {base g c:Nat} {e:TypeId} {L:List (List Int)} (h:w.ownsRow base e 32 (.slice (some ⟨g,0,none⟩) L.length c) L.length (cellsD L)) (hd:Dig L):HD w g L:=by
 have h2:=h
 refine⟨fun i hi=>(hd.get hi).1,fun i hi=> ?_,fun j hj=> ?_⟩
 ·have:=digit_at (o:=0) (fun j v hv=>by
   have:=h.cells (g:=g) rfl j v hv
   rw [Addr.add_mid]at this;exact this) hd hi
  rw [Nat.zero_add]at this
  exact this
 ·have hlen:=cellsD_length hd
  have hjl:j < (cellsD L).length:=by omega
  have hc:=h.cells (g:=g) rfl j _ (List.getElem?_eq_getElem hjl)
  rw [Addr.add_mid]at hc
  refine⟨by rw [hc];rfl,?_⟩
  rcases h2.2 with ⟨hv,_⟩ | ⟨k,cap,cur,hv,hk,hh,r⟩
  ·cases hv
  ·injection hv with e1 _ _
   injection e1 with e1
   injection e1 with e1
   subst e1
   simp [World.frozen?,hh]
def OwnD (w:World) (v:Value) (B:Nat) (e:TypeId) (ds:List (List Int)):Prop:=∃p c,v= .slice p ds.length c/\w.ownsRow B e 32 (.slice p ds.length c) ds.length (cellsD ds)
theorem OwnD.ext {w w':World} {v:Value} {B:Nat} {e:TypeId} {ds:List (List Int)} (h:OwnD w v B e ds) (k:Ext w w'):OwnD w' v B e ds:=by
 obtain⟨p,c,h1,h2⟩:=h;exact⟨p,c,h1,owns_ext h2 k⟩
theorem OwnD.mono {w:World} {v:Value} {B B':Nat} {e:TypeId} {ds:List (List Int)} (h:OwnD w v B e ds) (k:B'<=B):OwnD w v B' e ds:=by
 obtain⟨p,c,h1,h2⟩:=h;exact⟨p,c,h1,owns_mono h2 k⟩
theorem OwnD.nil (w:World) (B:Nat) (e:TypeId):OwnD w (.slice none 0 0) B e []:=⟨none,0,rfl,World.ownsRow_nil _ _ _ _⟩
end Go.Proofs.Bl
namespace Go.Proofs.YtglenbikdahgjaaGreatDoor
open Go.RowKit Go.Proofs Go.Proofs.Bl
theorem revD_any (g c n:Nat) (L:List (List Int)) (w:World) (hn:n=L.length) (h:Bl.HD w g L) (hl:n<=1099511627776) (_hc:n<=c) (_hcm:c<=maxLen):
  Calls Tryz.prog 84 #[.slice (some ⟨g,0,none⟩) n c] w fun e w'=>e= .returned (.tuple #[])/\Bl.HD w' g L.reverse/\Below g w w':=by
 have H:=Bl.hid h
 have Hn:=Bl.hid hn
 clear h hn
 go_enter Tryz.func84,Tryz.ntmps84
 go_wp2_with fail
 go_loopw [2,3] (fun i j wr=>∃k:Nat,i= .int .i64 k/\j= .int .i64 ((n:Int) - 1 - k)/\2*k<=n+1/\Bl.HD wr g (revK L k)/\Below g w wr) (fun i _ _=>n+1 - (intOf i).toNat)
 case atStart=>exact⟨0,rfl,by simp,by omega,H.out.congr (revK_zero L),Below.refl _ _⟩
 case round=>
  obtain⟨k,rfl,rfl,hk,hF,hB⟩:=hrel
  have HF:=Bl.hid hF
  have HB:=Bl.hid hB
  clear hF hB
  by_cases hlt:(k:Int) < (n:Int) - 1 - (k:Int)
  ·obtain⟨m,hm⟩:∃m,m=n - 1 - k:=⟨_,rfl⟩
   have hmi:(n:Int) - 1 - (k:Int)=(m:Int):=by omega
   rw [hmi]at hlt⊢
   have Hm:Hid (m=L.length - 1 - k):=Bl.hid (by rw [hm,Hn.out])
   have hkm:k < m:=by omega
   have hmn:m < n:=by omega
   have h2k:2*k+1 < n:=by omega
   have hmi2:(m:Int) - 1=(n:Int) - 1 - ((k+1:Nat):Int):=by omega
   have Hmi2:=Bl.hid hmi2
   have hkl:k < (revK L k).length:=by rw [revK_length,<-Hn.out];omega
   have hml:m < (revK L k).length:=by rw [revK_length,<-Hn.out];omega
   have Hsucc:=Bl.hid (revK_succ L k (by rw [<-Hn.out];omega))
   have hgk:(revK L k).getD k []=L.getD k []:=by rw [revK_get L k k (by rw [<-Hn.out];omega),if_neg (by rw [<-Hn.out];omega)]
   have hgm:(revK L k).getD m []=L.getD m []:=by rw [revK_get L k m (by rw [<-Hn.out];omega),if_neg (by rw [<-Hn.out];omega)]
   rw [<-Hm.out]at Hsucc
   have hxl:=HF.out.len k hkl
   have hyl:=HF.out.len m hml
   rw [hgk]at hxl
   rw [hgm]at hyl
   have Hkl:=Bl.hid hkl
   have Hml:=Bl.hid hml
   obtain⟨L0,hL0⟩:∃L0,L0=revK L k:=⟨_,rfl⟩
   obtain⟨x,hx⟩:∃x,x=L.getD k []:=⟨_,rfl⟩
   obtain⟨y,hy⟩:∃y,y=L.getD m []:=⟨_,rfl⟩
   rw [<-hL0]at HF Hkl Hml Hsucc hgk hgm
   rw [<-hx,<-hy]at Hsucc
   rw [<-hx]at hxl hgk
   rw [<-hy]at hyl hgm
   have Hgk:=Bl.hid hgk
   have Hgm:=Bl.hid hgm
   have Hxl:=Bl.hid hxl
   have Hyl:=Bl.hid hyl
   clear hkl hml hxl hyl hL0 hx hy hgk hgm hmi hm
   have HLm:Hid (∀w',Bl.HD w' g L0->(Instr.loadAt 54 (.pointer (some ⟨g,m*32,none⟩))).run Tryz.prog w'= .ok (.agg (ints .u8 y).toArray) w'):=Bl.hid fun w' h=>by
    have h1:=h.at' m Hml.out
    rw [Hgm.out]at h1
    exact load_ints h1 Tryz.underlying54 (by kernel_rfl) Hyl.out
   have HLk:Hid (∀w',Bl.HD w' g L0->(Instr.loadAt 54 (.pointer (some ⟨g,k*32,none⟩))).run Tryz.prog w'= .ok (.agg (ints .u8 x).toArray) w'):=Bl.hid fun w' h=>by
    have h1:=h.at' k Hkl.out
    rw [Hgk.out]at h1
    exact load_ints h1 Tryz.underlying54 (by kernel_rfl) Hxl.out
   have HSk:Hid (∀w',Bl.HD w' g L0->(Instr.storeAt 54 (.pointer (some ⟨g,k*32,none⟩)) (.agg (ints .u8 y).toArray)).run Tryz.prog w'= .ok () (w'.setCells g (k*32) (ints .u8 y))/\Bl.HD (w'.setCells g (k*32) (ints .u8 y)) g (L0.set k y)):=Bl.hid fun w' h=>⟨store_ints (n:=32) (fun j hj=>by
    have:=h.th (k*32+j) (by have:=Hkl.out;omega)
    rw [Nat.zero_add]at this;exact this) (by kernel_rfl) Hyl.out,h.set Hkl.out Hyl.out⟩
   have HSm:Hid (∀w',Bl.HD w' g (L0.set k y)->(Instr.storeAt 54 (.pointer (some ⟨g,m*32,none⟩)) (.agg (ints .u8 x).toArray)).run Tryz.prog w'= .ok () (w'.setCells g (m*32) (ints .u8 x))/\Bl.HD (w'.setCells g (m*32) (ints .u8 x)) g ((L0.set k y).set m x)):=Bl.hid fun w' h=>⟨store_ints (n:=32) (fun j hj=>by
    have:=h.th (m*32+j) (by rw [List.length_set];have:=Hml.out;omega)
    rw [Nat.zero_add]at this;exact this) (by kernel_rfl) Hxl.out,h.set (by rw [List.length_set];exact Hml.out) Hxl.out⟩
   have e4:(k:Int) < (n:Int):=by omega
   have e5:(m:Int) < (n:Int):=by omega
   have e6:(0:Int)<=(k:Int):=by omega
   have e7:(0:Int)<=(m:Int):=by omega
   go_wp2_with fail
   apply wp_region_evK (fun a b=>Below g a b) (RevJ g L0 (L0.set k y) ((L0.set k y).set m x)) 16 [14,15,16,17,18,19,20,21,22,23,24,25,26,27] [eqv _,eqv _,eqv _,eqv _,eqv _,eqv _,eqv _,eqv _,eqv _,eqv _,eqv _,eqv _,eqv (.pointer (some ⟨g,k*32,none⟩)),eqv _,eqv (.pointer (some ⟨g,m*32,none⟩)),eqv _] (fun w=>Below.refl _ w) (fun a b c h k=>Below.trans h k) (by kernel_rfl) (by kernel_rfl) (by kernel_rfl) (by kernel_rfl)
   case hsteps=>
    refine⟨?_,?_,?_,?_,?_,?_,?_,?_,?_,?_,?_,?_,?_,?_,?_,?_,trivial⟩
    all_goals
     intro d ev w1 hext HJd Hanc Hdes hni hb hd
     replace Hanc:=Bl.hid Hanc
     replace HJd:=Bl.hid HJd
     replace Hdes:=Bl.hid Hdes
     replace hni:=Bl.hid hni
     have e0:=hb 0 (by decide)
     have e2:=hb 2 (by decide)
     have e3:=hb 3 (by decide)
     clear hb
     simp only [Qa,Qb,Q1,Bl.Q2,Qd]at e0 e2 e3
     simp only [DepsE2,Q1,Bl.Q2,Qc,Q3,Q4,eqv,and_true]at hd
     have hc:=(bcell hext).1
     simp only [Region.wanted,if_true]
     first
     | (have hD:Bl.HD w1 g L0:=(by have h:=HJd.out;unfold RevJ at h;rw [Hdes.out 15 (by kernel_rfl),Hdes.out 13 (by kernel_rfl)]at h;exact h);(with_reducible refine goodX_load (fun w=>Below.refl _ w) ?_ (HLm.out _ hD) ?_);exact hd;exact⟨rfl,RevJ.same (by decide) HJd.out⟩) | (have hD:Bl.HD w1 g L0:=(by have h:=HJd.out;unfold RevJ at h;rw [Hdes.out 15 (by kernel_rfl),Hdes.out 13 (by kernel_rfl)]at h;exact h);(with_reducible refine goodX_load (fun w=>Below.refl _ w) ?_ (HLk.out _ hD) ?_);exact hd;exact⟨rfl,RevJ.same (by decide) HJd.out⟩) | (have hD:Bl.HD w1 g L0:=(by have h:=HJd.out;unfold RevJ at h;rw [Hdes.out 15 (by kernel_rfl),hni.out]at h;exact h);(with_reducible refine goodX_store ?_ ?_ (HSk.out _ hD).1 ?_ ?_);exact hd.1;exact hd.2.1;exact below_setCells _ _ _ _ (Below.refl _ _) (Nat.le_refl _);exact⟨rfl,RevJ.st1 (Hdes.out 15 (by kernel_rfl)) (HSk.out _ hD).2⟩) | (have hD:Bl.HD w1 g (L0.set k y):=(by have h:=HJd.out;unfold RevJ at h;rw [hni.out,Hanc.out 13 (by kernel_rfl)]at h;exact h);(with_reducible refine goodX_store ?_ ?_ (HSm.out _ hD).1 ?_ ?_);exact hd.1;exact hd.2.1;exact below_setCells _ _ _ _ (Below.refl _ _) (Nat.le_refl _);exact⟨rfl,(by unfold RevJ upd;exact(HSm.out _ hD).2)⟩)
     | (go_simp;first | exact⟨Below.refl _ _,rfl,RevJ.same (by decide) HJd.out⟩ | exact⟨Below.refl _ _,rfl,Bl.HJ.same (by decide) HJd.out⟩)
   case hmono=>exact⟨monoR_eqv _,monoR_eqv _,monoR_eqv _,monoR_eqv _,monoR_eqv _,monoR_eqv _,monoR_eqv _,monoR_eqv _,monoR_eqv _,monoR_eqv _,monoR_eqv _,monoR_eqv _,(monoR_eqv _),monoR_eqv _,(monoR_eqv _),monoR_eqv _,trivial⟩
   case hR0=>exact(Below.refl _ _).drew
   case hend=>
    intro u w1 hext hJ hend
    simp only [EndE,Q1,Bl.Q2,Qc,Q3,Q4,eqv,true_and]at hend
    simp only [fillAct,Q5,Q6,Q7,Q8,Q9,hend]
    have HJ2:Hid (Bl.HD w1 g ((L0.set k y).set m x)):=Bl.hid hJ
    have HB2:=Bl.hid (HB.out.trans hext)
    clear hJ hext hend
    go_wp2_with fail
    go_roundw
    case rel=>exact⟨k+1,by simp,by show Value.int _ _=Value.int _ _;first | (congr 1;done) | (congr 1;have:=Hmi2.out;omega),by omega,by rw [Hsucc.out];exact HJ2.out,HB2.out⟩
    case measure=>simp [intOf];omega
   case hJ0=>exact HF.out.drew
  ·have Hend:=Bl.hid (revK_end L k (by rw [<-Hn.out];omega) (by rw [<-Hn.out];omega))
   go_wp2_with fail
   go_end0
   exact⟨rfl,by rw [<-Hend.out];exact HF.out,HB.out⟩
theorem revD_nil (p:Option Addr) (c:Nat) (w:World):
  Calls Tryz.prog 84 #[.slice p 0 c] w fun e w'=>e= .returned (.tuple #[])/\w=w':=by
 go_enter Tryz.func84,Tryz.ntmps84
 go_wp2_with fail
 go_loop [2,3] (fun i j=>i= .int .i64 0/\j= .int .i64 (-1)) (fun _ _=>0)
 case atStart=>exact⟨rfl,rfl⟩
 case round=>
  obtain⟨rfl,rfl⟩:=hrel
  go_wp2_with fail
  go_end0
  exact⟨rfl,rfl⟩
end Go.Proofs.YtglenbikdahgjaaGreatDoor
