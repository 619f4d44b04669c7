/- What an honest shelf answers, plainly. No program. -/
import Derived.Test.YtglenbikdahgjaaGreatDoorPk17
import Derived.Test.YtglenbikdahgjaaGreatDoorPk22
import Derived.Test.YtglenbikdahgjaaGreatDoorPk03
import Derived.Test.YtglenbikdahgjaaGreatDoorPk01
import Derived.Test.YtglenbikdahgjaaGreatDoorPk18
import Derived.Test.YtglenbikdahgjaaGreatDoorPk00
set_option maxRecDepth 100000
set_option maxHeartbeats 16000000
namespace Go.Proofs.Bl
open Go Go.RowKit
structure Hon (bs:List (List Int)) (l a:LT):Prop where
 kd:¬(a.kind=4/\(a.shown.length:Int)≠l.places.length)
 le:a.shown.length<=l.places.length
 sh:∀i,i < a.shown.length->(a.shown.getD i h0).1=l.places.getD i 0/\0<=(a.shown.getD i h0).1/\(a.shown.getD i h0).1 < bs.length/\(a.shown.getD i h0).2.1=bs.getD (a.shown.getD i h0).1.toNat []/\(a.shown.getD i h0).2.2=pathD bs (a.shown.getD i h0).1.toNat
 k4:a.kind=4->a.blocks.length=0
 k5:¬a.kind=4->a.shown.length=0
 bl:∀i,i < a.blocks.length->0<=a.frm/\a.frm+i < bs.length/\a.blocks.getD i []=bs.getD (a.frm+i).toNat []
theorem ansS_at (bs:List (List Int)) (ps:List Int) (i:Nat) (h:i < ps.length):(ansS bs ps).getD i h0=(ps.getD i 0,bs.getD (ps.getD i 0).toNat [],pathD bs (ps.getD i 0).toNat):=by
 unfold ansS
 rw [List.getD_eq_getElem?_getD,List.getElem?_map,List.getD_eq_getElem?_getD,List.getElem?_eq_getElem h];rfl
theorem chk_pathD (bs:List (List Int)) (p:Int) (h0':0<=p) (hp:p < bs.length) (hn:bs.length<=512):chkP (rootD bs) bs.length p (bs.getD p.toNat []) (pathD bs p.toNat)=0:=by
 obtain⟨k,rfl⟩:=Int.eq_ofNat_of_zero_le h0'
 rw [Int.toNat_natCast]
 have hlt:k < bs.length:=by omega
 refine chkP_ok (thereB_mk (by omega) (by omega) (by omega)) ?_ ?_
 ·rw [pathD,pathL_len _ _ _ _ _ (Nat.le_refl _) (by rw [List.length_map];omega),List.length_map]
 ·have h:=foldP_path ndD zD _ (bs.map lfD) k (Nat.le_refl _) (by rw [List.length_map];omega) (by rw [List.length_map];omega)
  rw [List.length_map,getD_map lfD bs k [] zD hlt]at h
  exact h
def putT (bs:List (List Int)):LT:=⟨1,0,0,[],[],0,0,bs,0⟩
end Go.Proofs.Bl
namespace Go.Proofs.Bl
theorem dp_mono {a b:Nat} (h:a<=b) (hb:b < 2^63):dp a<=dp b:=by
 by_cases ha:a < 2
 ·rw [dp_lo a ha];exact Nat.zero_le _
 ·obtain⟨_,_,a3,_⟩:=dp_bounds a (by omega) (by omega)
  obtain⟨_,_,_,b4⟩:=dp_bounds b (by omega) hb
  have:=(Nat.pow_lt_pow_iff_right (a:=2) (by decide)).1 (Nat.lt_of_lt_of_le (Nat.lt_of_lt_of_le a3 h) b4)
  omega
theorem dp_pow2 (j:Nat) (h:j < 63):dp (2^j)=j:=by
 cases j with
 | zero=>exact dp_lo _ (by simp)
 | succ j=>
  have hp:2^(j+1)=2*2^j:=by rw [Nat.pow_succ];omega
  have h1:=Nat.one_le_two_pow (n:=j)
  have hlt:2^(j+1) < 2^63:=Nat.pow_lt_pow_right (by decide) h
  obtain⟨d1,d2,d3,d4⟩:=dp_bounds (2^(j+1)) (by omega) hlt
  have a:=(Nat.pow_le_pow_iff_right (a:=2) (by decide)).1 d4
  have b:=(Nat.pow_lt_pow_iff_right (a:=2) (by decide)).1 d3
  omega
theorem turns_dp:∀(m n i:Nat),n<=m->n<=1048576->(turnsL n i).length<=dp n
 | 0,n,i,h,_=>by rw [turnsL_lo n i (by omega)];exact Nat.zero_le _
 | m+1,n,i,h,hn=>by
  by_cases h2:2<=n
  ·obtain⟨a,b,c⟩:=sp_bounds n h2 (by omega)
   obtain⟨d1,d2,d3,d4⟩:=dp_bounds n h2 (by omega)
   have hlt:2^(dp n - 1) < 2^63:=by omega
   have hd:=(Nat.pow_lt_pow_iff_right (a:=2) (by decide)).1 hlt
   have hs:dp (sp n)=dp n - 1:=by rw [sp_pow n (by omega),dp_pow2 _ hd]
   by_cases hi:i < sp n
   ·rw [turnsL_left n i h2 (by omega) hi,List.length_cons]
    have:=turns_dp m (sp n) i (by omega) (by omega)
    omega
   ·rw [turnsL_right n i h2 (by omega) hi,List.length_cons]
    have:=turns_dp m (n - sp n) (i - sp n) (by omega) (by omega)
    have:=dp_mono (a:=n - sp n) (b:=sp n) (by omega) (by omega)
    omega
  ·rw [turnsL_lo n i (by omega)];exact Nat.zero_le _
end Go.Proofs.Bl
namespace Go.Proofs.Bl
open Go Go.RowKit
theorem dp_512 {n:Nat} (h:n<=512):dp n<=9:=by
 have:=dp_mono (a:=n) (b:=2^9) h (by decide)
 rw [dp_pow2 9 (by decide)]at this
 exact this
theorem pathD_len (all:List (List Int)) (i:Nat) (h:all.length<=512):(pathD all i).length<=40:=by
 rw [pathD,pathL_len _ _ _ _ _ (Nat.le_refl _) (by rw [List.length_map];omega),List.length_map]
 have h1:=turns_dp all.length all.length i (Nat.le_refl _) (by omega)
 have h2:=dp_512 h
 omega
theorem ansL_lg {l:LT} {all:List (List Int)} (hs:StOk all) (hp:l.places.length<=12):LgL (ansL l all):=by
 obtain⟨h1,h2,h3⟩:=hs
 refine⟨Nat.zero_le _,?_,Nat.zero_le _,fun x hx=> ?_,fun x hx=>(by cases hx)⟩
 ·show(ansS all l.places).length<=30
  unfold ansS
  rw [List.length_map];omega
 ·have hx:x∈ansS all l.places:=hx
  unfold ansS at hx
  obtain⟨p,_,rfl⟩:=List.mem_map.1 hx
  refine⟨?_,pathD_len all _ h2⟩
  show(all.getD p.toNat []).length<=100
  by_cases hi:p.toNat < all.length
  ·have:=(h3 _ (getD_mem [] hi)).1;omega
  ·rw [List.getD_eq_getElem?_getD,List.getElem?_eq_none (by omega)];simp
def ansA (s:ShT) (k at' y:Int) (bs:List Int):List Int × Bool:=
 if (parseL bs).1=0 then
  (if (hanL s (parseL bs).2).2=true then
   (if (bendL k at' y (hanL s (parseL bs).2).1).2=true then
    (if chkL (bendL k at' y (hanL s (parseL bs).2).1).1=0 then(bytL (bendL k at' y (hanL s (parseL bs).2).1).1,true)else([],false))
   else([],false))
  else([],false))
 else([],false)
def forL (s:ShT) (l:LT) (ot:List Int):LT × Bool:=
 if l.kind=3/\chkL l=0/\ot.length=16 then(match getO s l.obj with
  | none=>(lt0,false)
  | some all=>if ∀p∈l.places,p < (all.length:Int)then(ansL l (all.set (l.places.getD 0 0).toNat ot),true)else(lt0,false))
 else(lt0,false)
end Go.Proofs.Bl
namespace Go.Proofs.YtglenbikdahgjaaGreatDoor
open Go.RowKit Go.Proofs Go.Proofs.Bl
theorem samelists_any (va vb:Value) (xs ys:List (List Int)) (w:World) (hA:Rdss w va xs) (hB:Rdss w vb ys) (hba:∀p∈xs,Byt p) (hbb:∀p∈ys,Byt p):
  Calls Tryz.prog 31 #[va,vb] w fun e w'=>e= .returned (.bool (decide (xs=ys)))/\Ext w w':=by
 obtain⟨wa,hva,hwla,hwsa⟩:=hA
 obtain⟨wb,hvb,hwlb,hwsb⟩:=hB
 obtain⟨pa,ca,hvfa,hvna,hvca⟩:=hva.form
 obtain⟨pb,cb,hvfb,hvnb,hvcb⟩:=hvb.form
 subst hvfa hvfb
 have Hva:=Bl.hid hva
 have Hvb:=Bl.hid hvb
 have Hwsa:=Bl.hid hwsa
 have Hwsb:=Bl.hid hwsb
 have Hwla:=Bl.hid hwla
 have Hwlb:=Bl.hid hwlb
 have Hba:=Bl.hid hba
 have Hbb:=Bl.hid hbb
 unfold maxLen at hvca hvcb
 obtain⟨n,hn⟩:∃n,n=xs.length:=⟨_,rfl⟩
 obtain⟨m,hm⟩:∃m,m=ys.length:=⟨_,rfl⟩
 rw [<-hn]at Hva⊢hvna
 rw [<-hm]at Hvb⊢hvnb
 have Hn:=Bl.hid hn
 have Hm:=Bl.hid hm
 clear hva hvb hwsa hwsb hwla hwlb hba hbb hn hm
 by_cases hnm:n=m
 ·subst hnm
  go_enter Tryz.func31,Tryz.ntmps31
  go_wp2_with fail
  go_loopw [13] (fun i wr=>∃k:Nat,k<=n/\i= .int .i64 k/\Ext w wr/\Hid (xs.take k=ys.take k)) (fun i _=>n - (intOf i).toNat)
  case atStart=>exact⟨0,Nat.zero_le _,rfl,Below.refl _ _,Bl.hid rfl⟩
  case round=>
   obtain⟨k,hk,rfl,hE,Htk⟩:=hrel
   have HE:=Bl.hid hE
   clear hE
   by_cases hlt:k < n
   ·have hla:k < xs.length:=by rw [<-Hn.out];exact hlt
    have hlb:k < ys.length:=by rw [<-Hm.out];exact hlt
    obtain⟨b1,o1,hpa,hbl1,hcell1⟩:=Rdss.cell' (ps:=xs) (n:=n) (by have:=Hva.out.ext HE.out;rw [Hn.out]at this⊢;exact this) Hwla.out k hla
    obtain⟨b2,o2,hpb,hbl2,hcell2⟩:=Rdss.cell' (ps:=ys) (n:=n) (by have:=Hvb.out.ext HE.out;rw [Hm.out]at this⊢;exact this) Hwlb.out k hlb
    subst hpa hpb
    have hR1:=Hwsa.out k hla
    have hR2:=Hwsb.out k hlb
    have hbx:Byt (xs.getD k []):=by
     rw [List.getD_eq_getElem?_getD,List.getElem?_eq_getElem hla];exact Hba.out _ (List.getElem_mem hla)
    have hby:Byt (ys.getD k []):=by
     rw [List.getD_eq_getElem?_getD,List.getElem?_eq_getElem hlb];exact Hbb.out _ (List.getElem_mem hlb)
    have Ht1:=Bl.hid (take_succ_getD xs k hla)
    have Ht2:=Bl.hid (take_succ_getD ys k hlb)
    obtain⟨x,hx⟩:∃x,x=xs.getD k []:=⟨_,rfl⟩
    obtain⟨y,hy⟩:∃y,y=ys.getD k []:=⟨_,rfl⟩
    rw [<-hx]at hR1 hbx Ht1
    rw [<-hy]at hR2 hby Ht2
    obtain⟨p1,c1,hf1,_,_⟩:=hR1.form
    obtain⟨p2,c2,hf2,_,_⟩:=hR2.form
    rw [hf1]at hcell1 hR1
    rw [hf2]at hcell2 hR2
    have hcv1:∀m,(convert 27 9 (.slice p1 x.length c1)).run Tryz.prog (wr.drewN m)= .ok (.string (bstr x)) (wr.drewN m):=fun m=>conv_bytes (hR1.ext (HE.out.trans ((Below.refl _ _).drewN m))) Tryz.underlying27 Tryz.underlying5 Tryz.underlying9
    have hcv2:∀m,(convert 27 9 (.slice p2 y.length c2)).run Tryz.prog (wr.drewN m)= .ok (.string (bstr y)) (wr.drewN m):=fun m=>conv_bytes (hR2.ext (HE.out.trans ((Below.refl _ _).drewN m))) Tryz.underlying27 Tryz.underlying5 Tryz.underlying9
    have hq:=bstr_beq hbx hby
    have Hx:=Bl.hid hx
    have Hy:=Bl.hid hy
    clear hR1 hR2 hf1 hf2 hbl1 hbl2 hx hy hla hlb hbx hby
    by_cases hxy:x=y
    ·subst hxy
     clear hq
     go_wp2_with fail
     go_quiet (fail)
     go_wp2_with fail
     go_roundw
     case rel=>exact⟨k+1,by omega,by go_num,HE.out.trans ((Below.refl _ _).drewN _),Bl.hid (by rw [Ht1.out,Ht2.out,Htk.out])⟩
     case measure=>simp [intOf];omega
    ·rw [decide_eq_false hxy]at hq
     have hne:¬xs=ys:=fun q=>hxy (by rw [Hx.out,Hy.out,q])
     have Hne:=Bl.hid hne
     have hq2:¬(bstr x=bstr y):=fun q=>by rw [q]at hq;simp at hq
     clear hne hxy
     go_wp2_with fail
     go_quiet (fail)
     go_wp2_with fail
     go_ret
     exact⟨by rw [decide_eq_false Hne.out];rfl,HE.out.trans ((Below.refl _ _).drewN _)⟩
   ·obtain rfl:k=n:=by omega
    have Heq:Hid (xs=ys):=Bl.hid (by
     have h:=Htk.out
     rwa [List.take_of_length_le (by rw [<-Hn.out];exact Nat.le_refl _),List.take_of_length_le (by rw [<-Hm.out];exact Nat.le_refl _)]at h)
    go_wp2_with fail
    go_ret
    exact⟨by rw [decide_eq_true Heq.out];rfl,HE.out⟩
 ·have hne:¬xs=ys:=fun q=>hnm (by rw [Hn.out,Hm.out,q])
  have Hne:=Bl.hid hne
  have hnm':((n:Int)==(m:Int))=false:=by rw [beq_eq_false_iff_ne];omega
  clear hne
  go_enter Tryz.func31,Tryz.ntmps31
  go_wp2_with fail
  go_ret
  exact⟨by rw [decide_eq_false Hne.out];rfl,Below.refl _ _⟩
end Go.Proofs.YtglenbikdahgjaaGreatDoor
