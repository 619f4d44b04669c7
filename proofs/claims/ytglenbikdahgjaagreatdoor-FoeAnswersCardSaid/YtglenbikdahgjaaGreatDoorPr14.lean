/- Texts that stood apart, in one: PathQ, WBytesOf, WFold, WRefMake, WRefFold. -/
import Derived.Test.YtglenbikdahgjaaGreatDoorPr12
set_option maxRecDepth 100000
set_option maxHeartbeats 16000000
open And renaming intro->DT
open Bool renaming eq_iff_iff->Iu
open Go renaming Calls->DN,Value->DG,World->DF,bodyPost_ret->DK,maxLen->DV,run_loadAt_mid->EX
open Go.Instr renaming loadAt->Fm
open Go.Region renaming wanted->DP
open Go.RowKit renaming intOf->Ef
open Go.RowKit.Below renaming refl->DI,trans->Ei
open List renaming getD_eq_getElem?_getD->DJ,getElem?_eq_getElem->DL,getElem_mem->Fc,length_append->DS,length_cons->Eu,length_drop->DR,length_map->D2,length_take->DX,take_of_length_le->DW
open Nat renaming le_refl->DH,lt_of_lt_of_le->D9,pow_lt_pow_iff_right->Ip,zero_le->DZ
namespace Go.Proofs.Bl
open Go Go.RowKit Go.Proofs
open Go.Proofs.Tryz renaming prog->DE,underlying26->DQ,underlying27->Fy,underlying3->FR,underlying5->Gy,underlying54->EC,underlying57->Fz,underlying9->Gd
variable {b m sb:Nat}
def BZ (T:List (Bool × Nat × Nat)) (p:List (List Int)):List (Bool × List Int):=(T.reverse.zip p).map fun x=>(x.1.1,x.2)
def B1 (n i:Nat) (l:List Int) (p:List (List Int)):List (List Int):=Aj sha (0 :: l) (BZ (bU n i) p)
def B3 (root:List Int) (n i:Int) (l:List Int) (p:List (List Int)):Nat:=
 if iD n i=true then(if p.length=(bU n.toNat i.toNat).length then(if Ab eo n.toNat i.toNat (im l) p=root then 0 else 15)else 8)else 1
theorem pW:∀(n:Nat) (ds:List (List Int)) (i:Nat) (v:DG) (w:DF),ds.length=n->n<=512->i < n->dm ds->eY w v ds->dX w->
  DN DE 43 #[v,.int .i64 i] w fun e w'=>∃s,e=.returned s/\jd w' s w.heap.size 52 (dr eo zD ds i)/\az w w':=by
 intro n;induction n using Nat.strongRecOn with
 | _ n ih=>
  intro ds i v w A hn hi f K hg;have Q:=aa ih;clear ih;obtain⟨p,c,aJ,aK,aU⟩:=K.form;subst aJ;rw[A]at K aK⊢;by_cases h1:n=1
  ·subst h1;have t:=aa (gu eo zD ds i (by omega));clear K hg f A;go_enter Tryz.func43,Tryz.ntmps43
   go_wp2
   go_ret;exact⟨_,rfl,by rw[t.out];exact jd.nil _ _ _,DI _ _⟩
  ·have aR:((n:Int)==1)=false:=by rw[beq_eq_false_iff_ne];omega
   obtain⟨s1,s2,s3⟩:=bR n (by omega) (by omega);have E:=aa (fun h:i < sp n=>gL eo zD ds i (by omega) (by omega) (by rw[A];exact h));have F:=aa (fun h:¬i < sp n=>fU eo zD ds i (by omega) (by omega) (by rw[A];exact h));rw[A]at E F;have r:=aa A;have S:=aa K;have j:=aa f;have P:=aa hg;clear K f hg;go_enter Tryz.func43,Tryz.ntmps43
   go_wp2_with fail
   refine(jT _ _ (by omega) (by omega)).mono ?_;rintro e w3 ⟨rfl,aO⟩;subst aO;rw[Int.toNat_natCast];obtain⟨b,o,cc,aE,aA,aC,ap,aI⟩:=eY.pos (by have h:=S.out;rw[<-r.out]at h;exact h) j (by omega);injection aE with aF aG aH;clear aG aH aA aC ap aI A;subst aF;obtain⟨q,hq⟩:=exq (sp n);rw[<-hq]at s1 s2 s3 E F⊢;clear hq;have aV:(q:Int) < (n:Int):=by omega
   have aW:¬(q=c):=by omega
   have aX:(0:Int)<=(q:Int):=by omega
   have aY:(q:Int)<=(n:Int):=by omega
   have a0:(q:Int)<=(c:Int):=by omega
   have a1:(n:Int)<=(c:Int):=by omega
   have aj:=aa (eY.take (by have h:=S.out;rw[<-r.out]at h;exact h) j q (by rw[r.out];omega));have ai:Hid (eY w (.slice (some ⟨b,o+q*32,none⟩) (n - q) (c - q)) (ds.drop q)):=aa (by have h:=eY.drop (by have h:=S.out;rw[<-r.out]at h;exact h) j q (by rw[r.out];omega);rw[r.out]at h;exact h);have H:Hid ((ds.take q).length=q):=aa (by rw[DX,r.out];omega);have G:Hid ((ds.drop q).length=n - q):=aa (by rw[DR,r.out]);by_cases ae:i < q
   ·have t:=aa (E ae);have aw:(i:Int) < (q:Int):=by omega
    have C:Hid (∀a,az w a->DN DE 43 #[.slice (some ⟨b,o,none⟩) q c,.int .i64 i] a fun e w'=>∃s,e=.returned s/\jd w' s a.heap.size 52 (dr eo zD (ds.take q) i)/\az a w'):=aa fun a h2=>Q q (by omega) (ds.take q) i _ a H (by omega) ae (j.take q) (bh.ext aj h2) (P.ext h2)
    have D:Hid (∀a,az w a->DN DE 49 #[.slice (some ⟨b,o+q*32,none⟩) (n - q) (c - q)] a fun e w'=>e=.returned (.agg (ao .u8 (cD (ds.drop q))).toArray)/\az a w'):=aa fun a h2=>kT (n - q) (ds.drop q) _ a G (by omega) (j.drop q) (bh.ext ai h2) (P.ext h2)
    have l:=aa (dS _ (ds.drop q) rfl (j.drop q) (by rw[G.out];omega))
    have y:Hid ((dr eo zD (ds.take q) i).length<=512):=aa (by
     rw[gv _ _ _ _ _ (DH _) (by rw[H.out];omega),H.out]
     have:=eF q q i (DH _) (by omega);omega)
    have x:Hid (dr eo zD ds i=dr eo zD (ds.take q) i++[cD (ds.drop q)]):=t;obtain⟨d,f⟩:=exq (cD (ds.drop q));rw[<-f]at D l x;obtain⟨V,J⟩:=exq (dr eo zD (ds.take q) i);rw[<-J]at C y x;clear f J t E F Q
    go_wp2_with fail
    apply aL 10 [15,16,17,18,19,20,21,22,23,24] [ar _,ar _,ar (.slice (some ⟨b,o,none⟩) q c),ar _,(fun v w'=>jd w' v w.heap.size 52 V),ar _,ar _,ar (.slice (some ⟨b,o+q*32,none⟩) (n - q) (c - q)),ar _,(fun v w'=>bh w' v 1 (aN [d]))] (by kernel_rfl) (by kernel_rfl) (by kernel_rfl) (by kernel_rfl);case hsteps=>
     refine⟨?_,?_,?_,?_,?_,?_,?_,?_,?_,?_,trivial⟩;all_goals
      intro ev O g m f;have W:=m 0 (by decide);have X:=m 1 (by decide);have Y:=m 5 (by decide);clear m;simp only[sB]at W X Y;simp only[sD]at f;have hc:=(aD g).1;simp only[dJ,DP,if_true];first
      | exact fg lP (by decide) f (by simp[l.out.1]) (fS O 52 d l.1)
      | (go_simp;first | (go_at_call 43;(with_reducible refine(C.out _ g).mono ?_);rintro e a ⟨v2,rfl,ab,z⟩;exact⟨_,rfl,z,ab.mono g.size⟩) | (go_at_call 49;(with_reducible refine(D.out _ g).mono ?_);rintro e a ⟨rfl,z⟩;exact⟨_,rfl,z,rfl⟩) | exact⟨DI _ _,by rw[if_neg (by omega)];rfl⟩ | exact⟨DI _ _,rfl⟩)
    case hmono=>exact⟨aB _,aB _,(aB _),aB _,(fun _ _ _ h k=>jd.ext h k),aB _,aB _,(aB _),aB _,(fun _ _ _ h k=>bh.ext h k),trivial⟩
    case hend=>
     intro u O g hend;simp only[sE]at hend;simp only[sF,hend];have af:=aa hend.2;obtain⟨p2,c2,N,L⟩:=hend.1.1.1.1.1.2;rw[N];have T:=aa L;have B:=aa g;clear g hend L N
     go_wp2_with (with_reducible refine ax ?_)
     refine au ?_;refine aZ lP T af rfl rfl (by rw[cZ,ints_length,l.out.1]) (cH _) (by have:=y.out;unfold DV;omega) (by have:=y.out;omega) B.size ?_;intro q3 d3 w9 M ad I Z ay av;have U:=aa M;have R:Hid (az w w9):=aa (Ei B I);clear M ad I Z
     go_wp2_with fail
     go_ret;refine⟨_,rfl,?_,R⟩;rw[x.out];refine⟨q3,d3,by rw[DS];rfl,?_⟩;rw[DS,cE];exact U
   ·have t:=aa (F ae);have aw:¬((i:Int) < (q:Int)):=by omega
    have e2:((i - q:Nat):Int)=(i:Int) - (q:Int):=by omega
    have C:Hid (∀a,az w a->DN DE 43 #[.slice (some ⟨b,o+q*32,none⟩) (n - q) (c - q),.int .i64 ((i:Int) - (q:Int))] a fun e w'=>∃s,e=.returned s/\jd w' s a.heap.size 52 (dr eo zD (ds.drop q) (i - q))/\az a w'):=aa fun a h2=>by rw[<-e2];exact Q (n - q) (by omega) (ds.drop q) (i - q) _ a G (by omega) (by omega) (j.drop q) (bh.ext ai h2) (P.ext h2)
    have D:Hid (∀a,az w a->DN DE 49 #[.slice (some ⟨b,o,none⟩) q c] a fun e w'=>e=.returned (.agg (ao .u8 (cD (ds.take q))).toArray)/\az a w'):=aa fun a h2=>kT q (ds.take q) _ a H (by omega) (j.take q) (bh.ext aj h2) (P.ext h2)
    have l:=aa (dS _ (ds.take q) rfl (j.take q) (by rw[H.out];omega))
    have y:Hid ((dr eo zD (ds.drop q) (i - q)).length<=512):=aa (by
     rw[gv _ _ _ _ _ (DH _) (by rw[G.out];omega),G.out]
     have:=eF (n - q) (n - q) (i - q) (DH _) (by omega);omega)
    have x:Hid (dr eo zD ds i=dr eo zD (ds.drop q) (i - q)++[cD (ds.take q)]):=t;obtain⟨d,f⟩:=exq (cD (ds.take q));rw[<-f]at D l x;obtain⟨V,J⟩:=exq (dr eo zD (ds.drop q) (i - q));rw[<-J]at C y x;have aM:IntKind.i64.wrap ((i:Int) - (q:Int))=(i:Int) - (q:Int):=IntWalk.i64_in _ (by omega);clear f J t E F Q e2
    go_wp2_with fail
    apply aL 12 [26,27,28,29,30,31,32,33,34,35,36,37] [ar _,ar _,ar (.slice (some ⟨b,o+q*32,none⟩) (n - q) (c - q)),ar _,ar _,ar (.int .i64 ((i:Int) - (q:Int))),(fun v w'=>jd w' v w.heap.size 52 V),ar _,ar _,ar (.slice (some ⟨b,o,none⟩) q c),ar _,(fun v w'=>bh w' v 1 (aN [d]))] (by kernel_rfl) (by kernel_rfl) (by kernel_rfl) (by kernel_rfl);case hsteps=>
     refine⟨?_,?_,?_,?_,?_,?_,?_,?_,?_,?_,?_,?_,trivial⟩;all_goals
      intro ev O g m f;have W:=m 0 (by decide);have X:=m 1 (by decide);have Y:=m 5 (by decide);clear m;simp only[sB]at W X Y;simp only[sD]at f;have hc:=(aD g).1;simp only[dJ,DP,if_true];first
      | exact fg lP (by decide) f (by simp[l.out.1]) (fS O 52 d l.1)
      | (go_simp;first | (go_at_call 43;(with_reducible refine(C.out _ g).mono ?_);rintro e a ⟨v2,rfl,ab,z⟩;exact⟨_,rfl,z,ab.mono g.size⟩) | (go_at_call 49;(with_reducible refine(D.out _ g).mono ?_);rintro e a ⟨rfl,z⟩;exact⟨_,rfl,z,rfl⟩) | exact⟨DI _ _,by rw[if_neg (by omega)];rfl⟩ | exact⟨DI _ _,rfl⟩)
    case hmono=>exact⟨aB _,aB _,(aB _),aB _,aB _,(aB _),(fun _ _ _ h k=>jd.ext h k),aB _,aB _,(aB _),aB _,(fun _ _ _ h k=>bh.ext h k),trivial⟩
    case hend=>
     intro u O g hend;simp only[sE]at hend;simp only[sF,hend];have af:=aa hend.2;obtain⟨p2,c2,N,L⟩:=hend.1.1.1.1.1.2;rw[N];have T:=aa L;have B:=aa g;clear g hend L N aM
     go_wp2_with (with_reducible refine ax ?_)
     refine au ?_;refine aZ lP T af rfl rfl (by rw[cZ,ints_length,l.out.1]) (cH _) (by have:=y.out;unfold DV;omega) (by have:=y.out;omega) B.size ?_;intro q3 d3 w9 M ad I Z ay av;have U:=aa M;have R:Hid (az w w9):=aa (Ei B I);clear M ad I Z
     go_wp2_with fail
     go_ret;refine⟨_,rfl,?_,R⟩;rw[x.out];refine⟨q3,d3,by rw[DS];rfl,?_⟩;rw[DS,cE];exact U
theorem wV (v:DG) (ps:List (List Int)) (i:Int) (w:DF) (a:Addr) (f:bf w v ps) (m:w.cell? ⟨3,0,none⟩=some (.iface 233 (.pointer (some a)))) (b:¬((ps.length:Int)<=512/\0<=i/\i < ps.length)):
  DN DE 46 #[v,.int .i64 i] w fun e w'=>e=.returned (.tuple #[.slice none 0 0,.iface 233 (.pointer (some a))])/\az w w':=by
 obtain⟨vs,d,k,l⟩:=f;obtain⟨p,c,j,n,h⟩:=d.form;subst j;unfold DV at h;have g:=aa (iT b);clear d k l b;go_enter Tryz.func46,Tryz.ntmps46
 go_wp2_with fail
 refine(nG _ _ _).mono ?_;rintro e o ⟨rfl,hw⟩;subst hw;rw[g.out]
 go_wp2_with fail
 go_quiet (fail)
 go_wp2_with fail
 go_ret2;exact⟨rfl,(DI _ _).drewN _⟩
theorem wW {s:eb} {l:Cp} (h:(bO s l).2=true):(bO s l).1.id=l.id/\(bO s l).1.obj=l.obj:=by
 unfold bO at h⊢;split at h
 ·next hc=>
  rw[if_pos hc];split at h
  ·next h1=>
   rw[if_pos h1];simp only[eH]
   repeat' split
   all_goals exact⟨rfl,rfl⟩
  ·next h1=>
   rw[if_neg h1];split at h
   ·next h3=>
    rw[if_pos h3];simp only[gB]
    repeat' split
    all_goals exact⟨rfl,rfl⟩
   ·next h3=>
    rw[if_neg h3];split at h
    ·next h5=>
     rw[if_pos h5];simp only[fp]
     repeat' split
     all_goals exact⟨rfl,rfl⟩
    ·cases h
 ·cases h
structure Cj (bs:List (List Int)) (l a:Cp):Prop where
 kd:¬(a.kind=4/\(a.shown.length:Int)≠l.places.length)
 le:a.shown.length<=l.places.length
 sh:∀i,i < a.shown.length->(a.shown.getD i h0).1=l.places.getD i 0/\0<=(a.shown.getD i h0).1/\(a.shown.getD i h0).1 < bs.length/\(a.shown.getD i h0).2.1=bs.getD (a.shown.getD i h0).1.toNat []/\(a.shown.getD i h0).2.2=gA bs (a.shown.getD i h0).1.toNat
 k4:a.kind=4->a.blocks.length=0
 k5:¬a.kind=4->a.shown.length=0
 bl:∀i,i < a.blocks.length->0<=a.Cq/\a.Cq+i < bs.length/\a.blocks.getD i []=bs.getD (a.Cq+i).toNat []
def B4 (bs:List (List Int)):Cp:=⟨1,0,0,[],[],0,0,bs,0⟩
theorem sR {a:Nat} (h:a<=b) (e:b < 2^63):dp a<=dp b:=by
 by_cases d:a < 2
 ·rw[yK a d];exact DZ _
 ·obtain⟨_,_,a3,_⟩:=gm a (by omega) (by omega);obtain⟨_,_,_,c⟩:=gm b (by omega) e;have:=(Ip (a:=2) (by decide)).1 (D9 (D9 a3 h) c);omega
theorem sS (j:Nat) (h:j < 63):dp (2^j)=j:=by
 cases j with
 | zero=>exact yK _ (by simp)
 | succ j=>
  have hp:2^(j+1)=2*2^j:=by rw[Nat.pow_succ];omega
  have h1:=Nat.one_le_two_pow (n:=j);have c:2^(j+1) < 2^63:=Nat.pow_lt_pow_right (by decide) h;obtain⟨d1,d2,d3,d4⟩:=gm (2^(j+1)) (by omega) c;have a:=(Nat.pow_le_pow_iff_right (a:=2) (by decide)).1 d4;have b:=(Ip (a:=2) (by decide)).1 d3;omega
theorem mu:∀(m n i:Nat),n<=m->n<=1048576->(bU n i).length<=dp n
 | 0,n,i,h,_=>by rw[ed n i (by omega)];exact DZ _
 | m+1,n,i,h,hn=>by
  by_cases h2:2<=n
  ·obtain⟨a,b,c⟩:=bR n h2 (by omega);obtain⟨d1,d2,d3,d4⟩:=gm n h2 (by omega);have f:2^(dp n - 1) < 2^63:=by omega
   have e:=(Ip (a:=2) (by decide)).1 f;have g:dp (sp n)=dp n - 1:=by rw[uT n (by omega),sS _ e]
   by_cases d:i < sp n
   ·rw[ee n i h2 (by omega) d,Eu];have:=mu m (sp n) i (by omega) (by omega);omega
   ·rw[dR n i h2 (by omega) d,Eu];have:=mu m (n - sp n) (i - sp n) (by omega) (by omega);have:=sR (a:=n - sp n) (b:=sp n) (by omega) (by omega);omega
  ·rw[ed n i (by omega)];exact DZ _
theorem zk {n:Nat} (h:n<=512):dp n<=9:=by
 have:=sR (a:=n) (b:=2^9) h (by decide);rw[sS 9 (by decide)]at this;exact this
theorem uq (all:List (List Int)) (i:Nat) (h:all.length<=512):(gA all i).length<=40:=by
 rw[gA,gv _ _ _ _ _ (DH _) (by rw[D2];omega),D2];have h1:=mu all.length all.length i (DH _) (by omega);have h2:=zk h;omega
theorem fv.bare (k i o f c d:Int):fv ⟨k,i,o,[],[],f,c,[],d⟩:=⟨DZ _,DZ _,DZ _,fun s a=>(by cases a),fun s a=>(by cases a)⟩
theorem yk {l:Cp} {all:List (List Int)} (c:wy all) (hp:l.places.length<=12):fv (mN l all):=by
 obtain⟨h1,h2,a⟩:=c;refine⟨DZ _,?_,DZ _,fun x hx=> ?_,fun x hx=>(by cases hx)⟩
 ·show(ie all l.places).length<=30;unfold ie;rw[D2];omega
 ·have hx:x∈ie all l.places:=hx;unfold ie at hx;obtain⟨p,_,rfl⟩:=List.mem_map.1 hx;refine⟨?_,uq all _ h2⟩;show(all.getD p.toNat []).length<=100;by_cases b:p.toNat < all.length
  ·have:=(a _ (aH [] b)).1;omega
  ·rw[DJ,List.getElem?_eq_none (by omega)];simp
theorem yl {l:Cp} {all:List (List Int)} (b:wy all):fv (kD l all):=by
 obtain⟨h1,h2,a⟩:=b;refine⟨DZ _,DZ _,?_,fun x hx=>(by cases hx),fun x hx=> ?_⟩
 ·show((all.drop l.Cq.toNat).take l.Cs.toNat).length<=600;rw[DX,DR];omega
 ·have hx:x∈(all.drop l.Cq.toNat).take l.Cs.toNat:=hx;have:=(a x (List.mem_of_mem_drop (List.mem_of_mem_take hx))).1;omega
theorem sT {s:eb} {l:Cp} (a:ey s):fv (bO s l).1:=by
 unfold bO;split
 ·next hc=>
  split
  ·simp only[eH]
   repeat' split
   all_goals exact fv.bare _ _ _ _ _ _
  split
  ·next h3=>
   simp only[gB];split
   ·exact fv.bare _ _ _ _ _ _
   ·next all hg=>
    split
    ·exact yk (a.get hg) (rr hc h3).2.1
    ·exact fv.bare _ _ _ _ _ _
  split
  ·simp only[fp];split
   ·exact fv.bare _ _ _ _ _ _
   ·next all hg=>
    split
    ·exact fv.bare _ _ _ _ _ _
    ·split
     ·exact yl (a.get hg)
     ·exact fv.bare _ _ _ _ _ _
  ·exact fv.bare _ _ _ _ _ _
 ·exact fv.bare _ _ _ _ _ _
theorem sU {s:eb} {l:Cp}: -1125899906842624<=(bO s l).1.id/\(bO s l).1.id<=1125899906842624:=by
 by_cases h:(bO s l).2=true
 ·rw[(wW h).1];unfold bO at h;split at h
  ·next hc=>
   obtain⟨_,a,_,_,_⟩:=iY hc;obtain⟨⟨h1,h2⟩,_,_⟩:=dK a;omega
  ·cases h
 ·have:(bO s l).1=dI:=by
   unfold bO at h⊢;split
   ·next hc=>
    rw[if_pos hc]at h;split
    ·next h1=>rw[if_pos h1]at h;exact absurd rfl h
    ·next h1=>
     rw[if_neg h1]at h;split
     ·next h3=>rw[if_pos h3]at h;exact absurd rfl h
     ·next h3=>
      rw[if_neg h3]at h;split
      ·next h5=>rw[if_pos h5]at h;exact absurd rfl h
      ·rfl
   ·rfl
  rw[this];decide
theorem wX (s:eb) (l:Cp):(du s l).ids.length<=s.ids.length+1:=by
 have h:(fJ s l).length<=s.ids.length+1:=by
  unfold fJ;split
  ·rw[DS];exact DH _
  ·omega
 unfold du;split
 ·unfold fX
  repeat' split
  all_goals exact h
 ·omega
theorem ur (l:Cp):(du uM l).ids.length<=1048576:=by
 have:=wX uM l;have h0:uM.ids.length=0:=rfl;omega
def fN (s:eb) (k at' y:Int) (bs:List Int):List Int × Bool:=
 if (dM bs).1=0 then
  (if (bO s (dM bs).2).2=true then
   (if (bE k at' y (bO s (dM bs).2).1).2=true then
    (if aW (bE k at' y (bO s (dM bs).2).1).1=0 then(bL (bE k at' y (bO s (dM bs).2).1).1,true)else([],false))
   else([],false))
  else([],false))
 else([],false)
def B5 (s:eb) (l:Cp) (ot:List Int):Cp × Bool:=
 if l.kind=3/\aW l=0/\ot.length=16 then(match dv s l.obj with
  | none=>(dI,false)
  | some all=>if ∀p∈l.places,p < (all.length:Int)then(mN l (all.set (l.places.getD 0 0).toNat ot),true)else(dI,false))
 else(dI,false)
theorem mU (R vb:DG) (xs ys:List (List Int)) (w:DF) (hA:bf w R xs) (hB:bf w vb ys) (H:∀p∈xs,bA p) (I:∀p∈ys,bA p):
  DN DE 31 #[R,vb] w fun e w'=>e=.returned (.bool (decide (xs=ys)))/\az w w':=by
 obtain⟨wa,z,N,P⟩:=hA;obtain⟨wb,A,O,Q⟩:=hB;obtain⟨pa,ca,ao,aq,am⟩:=z.form;obtain⟨pb,cb,ap,ar,an⟩:=A.form;subst ao ap;have E:=aa z;have F:=aa A;have X:=aa P;have Y:=aa Q;have V:=aa N;have W:=aa O;have S:=aa H;have T:=aa I;unfold DV at am an;obtain⟨n,v⟩:=exq xs.length;obtain⟨m,hm⟩:=exq ys.length;rw[<-v]at E⊢aq;rw[<-hm]at F⊢ar;have l:=aa v;have j:=aa hm;clear z A P Q N O H I v hm;by_cases M:n=m
 ·subst M;go_enter Tryz.func31,Tryz.ntmps31
  go_wp2_with fail
  go_loopw [13] (fun i wr=>∃k:Nat,k<=n/\i=.int .i64 k/\az w wr/\Hid (xs.take k=ys.take k)) (fun i _=>n - (Ef i).toNat);case atStart=>exact⟨0,DZ _,rfl,DI _ _,aa rfl⟩
  case round=>
   obtain⟨k,hk,rfl,G,D⟩:=hrel;have a:=aa G;clear G;by_cases L:k < n
   ·have b:k < xs.length:=by rw[<-l.out];exact L
    have c:k < ys.length:=by rw[<-j.out];exact L
    obtain⟨b1,o1,ak,ag,ai⟩:=bf.Cv (ps:=xs) (n:=n) (by have:=E.ext a;rw[l.out]at this⊢;exact this) V k b;obtain⟨b2,o2,al,ah,aj⟩:=bf.Cv (ps:=ys) (n:=n) (by have:=F.ext a;rw[j.out]at this⊢;exact this) W k c;subst ak al;have d:=X k b;have f:=Y k c;have t:bA (xs.getD k []):=by rw[DJ,DL b];exact S _ (Fc b)
    have u:bA (ys.getD k []):=by rw[DJ,DL c];exact T _ (Fc c)
    have B:=aa (iG xs k b);have C:=aa (iG ys k c);obtain⟨x,hx⟩:=exq (xs.getD k []);obtain⟨y,hy⟩:=exq (ys.getD k []);rw[<-hx]at d t B;rw[<-hy]at f u C;obtain⟨p1,c1,J,_,_⟩:=d.form;obtain⟨p2,c2,K,_,_⟩:=f.form;rw[J]at ai d;rw[K]at aj f;have ay:∀m,(convert 27 9 (.slice p1 x.length c1)).run DE (wr.drewN m)=.ok (.string (gZ x)) (wr.drewN m):=fun m=>eE (d.ext (a.trans ((DI _ _).drewN m))) Fy Gy Gd
    have aA:∀m,(convert 27 9 (.slice p2 y.length c2)).run DE (wr.drewN m)=.ok (.string (gZ y)) (wr.drewN m):=fun m=>eE (f.ext (a.trans ((DI _ _).drewN m))) Fy Gy Gd
    have o:=oO t u;have Z:=aa hx;have Hy:=aa hy;clear d f J K ag ah hx hy b c t u;by_cases r:x=y
    ·subst r;clear o
     go_wp2_with fail
     go_quiet (fail)
     go_wp2_with fail
     go_roundw;case rel=>exact⟨k+1,by omega,by go_num,a.trans ((DI _ _).drewN _),aa (by rw[B.out,C.out,D.out])⟩
     case measure=>simp[Ef];omega
    ·rw[decide_eq_false r]at o;have g:¬xs=ys:=fun q=>r (by rw[Z.out,Hy.out,q])
     have s:=aa g;have aD:¬(gZ x=gZ y):=fun q=>by rw[q]at o;simp at o
     clear g r
     go_wp2_with fail
     go_quiet (fail)
     go_wp2_with fail
     go_ret;exact⟨by rw[decide_eq_false s.out];rfl,a.trans ((DI _ _).drewN _)⟩
   ·obtain rfl:k=n:=by omega
    have U:Hid (xs=ys):=aa (by
     have h:=D.out
     rwa[DW (by rw[<-l.out];exact DH _),DW (by rw[<-j.out];exact DH _)]at h)
    go_wp2_with fail
    go_ret;exact⟨by rw[decide_eq_true U.out];rfl,a⟩
 ·have g:¬xs=ys:=fun q=>M (by rw[l.out,j.out,q])
  have s:=aa g;have aC:((n:Int)==(m:Int))=false:=by rw[beq_eq_false_iff_ne];omega
  clear g;go_enter Tryz.func31,Tryz.ntmps31
  go_wp2_with fail
  go_ret;exact⟨by rw[decide_eq_false s.out];rfl,DI _ _⟩
theorem rL (C vb:DG) (xs ys:List Int) (w:DF) (f:Rd w .i64 C xs) (g:Rd w .i64 vb ys):
  DN DE 122 #[C,vb] w fun e w'=>e=.returned (.bool (decide (xs=ys)))/\az w w':=by
 obtain⟨pa,ca,U,W,S⟩:=f.form;obtain⟨pb,cb,V,X,T⟩:=g.form;subst U V;have E:=aa f;have F:=aa g;unfold DV at S T;obtain⟨n,o⟩:=exq xs.length;obtain⟨m,hm⟩:=exq ys.length;rw[<-o]at⊢W;rw[<-hm]at⊢X;have c:=aa o;have b:=aa hm;clear f g o hm;by_cases B:n=m
 ·subst B;go_enter Tryz.func122,Tryz.ntmps122
  go_wp2_with fail
  go_loopw [13] (fun i wr=>∃k:Nat,k<=n/\i=.int .i64 k/\az w wr/\Hid (xs.take k=ys.take k)) (fun i _=>n - (Ef i).toNat);case atStart=>exact⟨0,DZ _,rfl,DI _ _,aa rfl⟩
  case round=>
   obtain⟨k,hk,rfl,u,t⟩:=hrel;have a:=aa u;clear u;by_cases A:k < n
   ·have j:k < xs.length:=by rw[<-c.out];exact A
    have l:k < ys.length:=by rw[<-b.out];exact A
    obtain⟨Y,o1,c1,N,_,_,_,_,v⟩:=Rd.pos (E.ext a) (by omega);obtain⟨Z,o2,c2,O,_,_,_,_,z⟩:=Rd.pos (F.ext a) (by omega);injection N with K L M;injection O with P Q R;subst K P;have I:=v k j;have J:=z k l;have r:=aa (aP 0 xs k j);have s:=aa (aP 0 ys k l);obtain⟨x,hx⟩:=exq (xs.getD k 0);obtain⟨y,hy⟩:=exq (ys.getD k 0);rw[<-hx]at I r;rw[<-hy]at J s;have G:=aa hx;have H:=aa hy;clear v z L M Q R hx hy j l;by_cases p:x=y
    ·subst p
     go_wp2_with fail
     go_quiet (fail)
     go_wp2_with fail
     go_roundw;case rel=>exact⟨k+1,by omega,by go_num,a.trans ((DI _ _).drewN _),aa (by rw[r.out,s.out,t.out])⟩
     case measure=>simp[Ef];omega
    ·have hq:(x==y)=false:=by rw[beq_eq_false_iff_ne];exact p
     have d:Hid (¬xs=ys):=aa fun q=>p (by rw[G.out,H.out,q])
     go_wp2_with fail
     go_quiet (fail)
     go_wp2_with fail
     go_ret;exact⟨by rw[decide_eq_false d.out];rfl,a.trans ((DI _ _).drewN _)⟩
   ·obtain rfl:k=n:=by omega
    have D:Hid (xs=ys):=aa (by
     have h:=t.out
     rwa[DW (by rw[<-c.out];exact DH _),DW (by rw[<-b.out];exact DH _)]at h)
    go_wp2_with fail
    go_ret;exact⟨by rw[decide_eq_true D.out];rfl,a⟩
 ·have d:Hid (¬xs=ys):=aa fun q=>B (by rw[c.out,b.out,q])
  have ag:((n:Int)==(m:Int))=false:=by rw[beq_eq_false_iff_ne];omega
  go_enter Tryz.func122,Tryz.ntmps122
  go_wp2_with fail
  go_ret;exact⟨by rw[decide_eq_false d.out];rfl,DI _ _⟩
theorem rM (Z vb:DG) (xs ys:List (List Int)) (w:DF) (F:eY w Z xs) (G:eY w vb ys) (T:dm xs) (U:dm ys):
  DN DE 149 #[Z,vb] w fun e w'=>e=.returned (.bool (decide (xs=ys)))/\az w w':=by
 obtain⟨pa,ca,aC,aF,aA⟩:=F.form;obtain⟨pb,cb,aE,aG,aB⟩:=G.form;subst aC aE;have HA:=aa F;have HB:=aa G;have t:=aa T;have v:=aa U;unfold DV at aA aB;obtain⟨n,H⟩:=exq xs.length;obtain⟨m,hm⟩:=exq ys.length;rw[<-H]at⊢aF;rw[<-hm]at⊢aG;have A:=aa H;have z:=aa hm;clear F G T U H hm;by_cases W:n=m
 ·subst W;go_enter Tryz.func149,Tryz.ntmps149
  go_wp2_with fail
  go_loopw [13] (fun i wr=>∃k:Nat,k<=n/\i=.int .i64 k/\az w wr/\Hid (xs.take k=ys.take k)) (fun i _=>n - (Ef i).toNat);case atStart=>exact⟨0,DZ _,rfl,DI _ _,aa rfl⟩
  case round=>
   obtain⟨k,hk,rfl,S,R⟩:=hrel;have g:=aa S;clear S;by_cases V:k < n
   ·have p:k < xs.length:=by rw[<-A.out];exact V
    have r:k < ys.length:=by rw[<-z.out];exact V
    obtain⟨b1,o1,c1,I,an,ap,ak,X⟩:=eY.pos (bh.ext HA g) t (by omega);obtain⟨b2,o2,c2,J,av,aw,al,Y⟩:=eY.pos (bh.ext HB g) v (by omega);injection I with I aq au;injection J with J ax ay;clear aq au ax ay;subst I J;have K:=dW X t (i:=k) p;have L:=dW Y v (i:=k) r;obtain⟨l,_⟩:=t.get (i:=k) p;obtain⟨o,_⟩:=v.get (i:=k) r;have P:=aa (jt xs k p);have Q:=aa (jt ys k r);obtain⟨x,hx⟩:=exq (xs.getD k []);obtain⟨y,hy⟩:=exq (ys.getD k []);rw[<-hx]at K l P;rw[<-hy]at L o Q;have N:Hid (∀c,az wr c->(Fm 54 (.pointer (some ⟨b1,o1+k*32,none⟩))).run DE c=.ok (.agg (ao .u8 x).toArray) c):=aa fun c h2=>bC (aJ K h2) EC (by kernel_rfl) l
    have O:Hid (∀c,az wr c->(Fm 54 (.pointer (some ⟨b2,o2+k*32,none⟩))).run DE c=.ok (.agg (ao .u8 y).toArray) c):=aa fun c h2=>bC (aJ L h2) EC (by kernel_rfl) o
    have Hx:=aa hx;have Hy:=aa hy;have j:Hid (∀w,(Op.equalIn 10000 54 (.agg (ao .u8 x).toArray) (.agg (ao .u8 y).toArray)).run DE w=.ok (decide (x=y)) w):=aa fun w=>yG EC Gy (fun w=>by simp[go_sem]) x y l o w
    clear K L l o X Y ak al hx hy p r an ap av aw;have aQ:(0:Int)<=(k:Int):=by omega
    have aR:(k:Int) < (n:Int):=by omega
    by_cases f:x=y
    ·have heq:=j.out;rw[decide_eq_true f]at heq;have af:=aa f;clear f j
     go_wp2_with fail
     apply aL 8 [16,17,18,19,20,21,22,23] [ar _,ar _,ar _,ar _,ar _,ar _,ar _,ar _] (by kernel_rfl) (by kernel_rfl) (by kernel_rfl) (by kernel_rfl);case hsteps=>
      refine⟨?_,?_,?_,?_,?_,?_,?_,?_,trivial⟩;all_goals
       intro ev M a b d;have C:=b 0 (by decide);have D:=b 1 (by decide);have E:=b 5 (by decide);clear b;simp only[sB]at C D E;simp only[sD]at d;have hc:=(aD a).1;simp only[dJ,DP,if_true];first
       | ((with_reducible refine dY ?_ (N.out _ a) ?_);exact d;exact rfl) | ((with_reducible refine dY ?_ (O.out _ a) ?_);exact d;exact rfl)
       | (go_simp;first | exact⟨DI _ _,rfl⟩ | exact⟨DI _ _,rfl⟩)
     case hmono=>exact mL
     case hend=>
      intro u M a hend;simp only[sE]at hend;simp only[sF,hend];have s:=aa (g.trans a);clear a hend
      go_wp2_with fail
      go_roundw;case rel=>exact⟨k+1,by omega,by go_num,s,aa (by rw[P.out,Q.out,R.out,af.out])⟩
      case measure=>simp[Ef];omega
    ·have heq:=j.out;rw[decide_eq_false f]at heq;have B:Hid (¬xs=ys):=aa fun q=>f (by rw[Hx.out,Hy.out,q])
     clear f j
     go_wp2_with fail
     apply aL 8 [16,17,18,19,20,21,22,23] [ar _,ar _,ar _,ar _,ar _,ar _,ar _,ar _] (by kernel_rfl) (by kernel_rfl) (by kernel_rfl) (by kernel_rfl);case hsteps=>
      refine⟨?_,?_,?_,?_,?_,?_,?_,?_,trivial⟩;all_goals
       intro ev M a b d;have C:=b 0 (by decide);have D:=b 1 (by decide);have E:=b 5 (by decide);clear b;simp only[sB]at C D E;simp only[sD]at d;have hc:=(aD a).1;simp only[dJ,DP,if_true];first
       | ((with_reducible refine dY ?_ (N.out _ a) ?_);exact d;exact rfl) | ((with_reducible refine dY ?_ (O.out _ a) ?_);exact d;exact rfl)
       | (go_simp;first | exact⟨DI _ _,rfl⟩ | exact⟨DI _ _,rfl⟩)
     case hmono=>exact mL
     case hend=>
      intro u M a hend;simp only[sE]at hend;simp only[sF,hend];have s:=aa (g.trans a);clear a hend
      go_wp2_with fail
      go_ret;exact⟨by rw[decide_eq_false B.out];rfl,s⟩
   ·obtain rfl:k=n:=by omega
    have ad:Hid (xs=ys):=aa (by
     have h:=R.out
     rwa[DW (by rw[<-A.out];exact DH _),DW (by rw[<-z.out];exact DH _)]at h)
    go_wp2_with fail
    go_ret;exact⟨by rw[decide_eq_true ad.out];rfl,g⟩
 ·have B:Hid (¬xs=ys):=aa fun q=>W (by rw[A.out,z.out,q])
  have aS:((n:Int)==(m:Int))=false:=by rw[beq_eq_false_iff_ne];omega
  go_enter Tryz.func149,Tryz.ntmps149
  go_wp2_with fail
  go_ret;exact⟨by rw[decide_eq_false B.out];rfl,DI _ _⟩
theorem rN (x y:Sv) (w:DF) (hx:uL w x) (hy:uL w y):
  DN DE 124 #[.agg (cS x).toArray,.agg (cS y).toArray] w fun e w'=>e=.returned (.bool (decide (cf x=cf y)))/\az w w':=by
 obtain⟨a,⟨v1,d⟩,c,d1⟩:=x;obtain⟨i,⟨v2,f⟩,g,d2⟩:=y;obtain⟨u,n,s,p⟩:=hx;obtain⟨v,o,t,r⟩:=hy;have HEq:Hid (∀b,az w b->DN DE 51 #[v1,v2] b fun e w'=>e=.returned (.bool (decide (d=f)))/\b=w'):=aa fun b h2=>lQ v1 v2 d f b (u.ext h2) (v.ext h2) n o
 have z:Hid (∀b,az w b->DN DE 149 #[c,g] b fun e w'=>e=.returned (.bool (decide (d1=d2)))/\az b w'):=aa fun b h2=>rM c g d1 d2 b (bh.ext s h2) (bh.ext t h2) p r
 have HD:Hid (decide (cf (a,(v1,d),c,d1)=cf (i,(v2,f),g,d2))=(decide (a=i)&&decide (d=f)&&decide (d1=d2))):=aa (by
  rw[Iu];simp[cf,and_assoc])
 clear u n s p v o t r;have k:=aa ((ae w (.cells #[.int .i64 a,v1,c] 57)).trans (ae (w.alloc (.cells #[.int .i64 a,v1,c] 57)) (.cells #[.int .i64 i,v2,g] 57)));show DN DE 124 #[.agg #[.int .i64 a,v1,c],.agg #[.int .i64 i,v2,g]] w _;go_enter Tryz.func124,Tryz.ntmps124;by_cases h1:a=i
 ·subst h1
  go_wp2_with fail
  refine(HEq _ k).mono ?_;rintro e B ⟨rfl,A⟩;subst A;by_cases h2:d=f
  ·have h:=decide_eq_true h2;rw[h];have j:Hid (decide (cf (a,(v1,d),c,d1)=cf (a,(v2,f),g,d2))=decide (d1=d2)):=aa (by rw[HD.out,h];simp);clear h2 h
   go_wp2_with fail
   refine(z _ k).mono ?_;rintro e B ⟨rfl,m⟩;have l:=aa (k.trans m);clear m;generalize decide (d1=d2)=q at*;cases q
   ·go_wp2_with fail
    go_ret;exact⟨by rw[j.out];rfl,l⟩
   ·go_wp2_with fail
    go_ret;exact⟨by rw[j.out];rfl,l⟩
  ·have h:=decide_eq_false h2;rw[h];have j:Hid (decide (cf (a,(v1,d),c,d1)=cf (a,(v2,f),g,d2))=false):=aa (by rw[HD.out,h];simp);clear h2 h
   go_wp2_with fail
   go_ret;exact⟨by rw[j.out];rfl,k⟩
 ·have C:(a==i)=false:=by rw[beq_eq_false_iff_ne];exact h1
  have j:Hid (decide (cf (a,(v1,d),c,d1)=cf (i,(v2,f),g,d2))=false):=aa (by rw[HD.out,decide_eq_false h1];rfl)
  go_wp2_with fail
  go_ret;exact⟨by rw[j.out];rfl,k⟩
theorem wY (va vb:DG) (L M:List Sv) (w:DF) (v:oe w va L) (z:oe w vb M):
  DN DE 123 #[va,vb,.func (.func 124) #[] #[]] w fun e w'=>e=.returned (.bool (decide (L.map cf=M.map cf)))/\az w w':=by
 obtain⟨pa,ca,aO,aR,aM⟩:=v.rd.form;obtain⟨pb,cb,aQ,aS,aN⟩:=z.rd.form;subst aO aQ;have F:=aa v;have G:=aa z;unfold DV at aM aN;obtain⟨n,B⟩:=exq L.length;obtain⟨m,hm⟩:=exq M.length;rw[<-B]at⊢aR;rw[<-hm]at⊢aS;have u:=aa B;have t:=aa hm;clear v z B hm;by_cases ai:n=m
 ·subst ai;go_enter Tryz.func123,Tryz.ntmps123
  go_wp2_with fail
  go_loopw [17] (fun i wr=>∃k:Nat,k<=n/\i=.int .i64 k/\az w wr/\Hid ((L.map cf).take k=(M.map cf).take k)) (fun i _=>n - (Ef i).toNat);case atStart=>exact⟨0,DZ _,rfl,DI _ _,aa rfl⟩
  case round=>
   obtain⟨k,hk,rfl,W,T⟩:=hrel;have a:=aa W;clear W;by_cases ah:k < n
   ·have o:k < L.length:=by rw[<-u.out];exact ah
    have p:k < M.length:=by rw[<-t.out];exact ah
    obtain⟨b1,o1,c1,aE,_,_,_,ae⟩:=(F.ext a).pos (by omega);obtain⟨b2,o2,c2,aF,_,_,_,af⟩:=(G.ext a).pos (by omega);injection aE with aA aB aD;injection aF with aG aK aL;subst aA aG;have D:=ae k o;have E:=af k p;have r:=(F.ext a).ok _ (aH s0 o);have C:=(G.ext a).ok _ (aH s0 p);have R:Hid ((L.map cf).take (k+1)=(L.map cf).take k++[cf (L.getD k s0)]):=aa (by rw[<-cR];exact aP h0 (L.map cf) k (by simpa using o));have S:Hid ((M.map cf).take (k+1)=(M.map cf).take k++[cf (M.getD k s0)]):=aa (by rw[<-cR];exact aP h0 (M.map cf) k (by simpa using p));have d:Hid (¬cf (L.getD k s0)=cf (M.getD k s0)->¬L.map cf=M.map cf):=aa fun h q=>h (by rw[<-cR,<-cR,q])
    obtain⟨x,hx⟩:=exq (L.getD k s0);obtain⟨y,hy⟩:=exq (M.getD k s0);rw[<-hx]at D r R d;rw[<-hy]at E C S d;have J:=aa (EX (P:=DE) wr b1 (o1+k*3) 57 _ _ D Fz rfl (by rw[bz];kernel_rfl));obtain⟨U,Y⟩:=av.fresh (cs:=cS x) wr 57 fj rfl (pd x);have O:=aa (aI (P:=DE) (cs:=cS x) wr 57 fj rfl (gP r) (ty:=57) (by rw[bz];kernel_rfl));have g:=aa U;have j:=aa Y;have ap:=aa r;have N:=aa C;have aq:=aa E;clear ae af aB aD aK aL hx hy o p D E r C U Y;have a2:(0:Int)<=(k:Int):=by omega
    have a3:(k:Int) < (n:Int):=by omega
    go_wp2_with first | refine ak rfl J ?_ | (with_reducible refine aC (ty:=57) ?_)
    refine au ?_;refine ag rfl rfl O ?_;obtain⟨b,Z⟩:=exq ((wr.alloc (.cells fj 57)).setCells wr.heap.size 0 (cS x));obtain⟨X8,ac⟩:=exq wr.heap.size;rw[<-Z]at g j⊢;rw[<-ac]at g⊢;clear Z ac O J;have K:=aa (EX (P:=DE) b b2 (o2+k*3) 57 _ _ (aJ aq j) Fz rfl (by rw[bz];kernel_rfl));obtain⟨V,A⟩:=av.fresh (cs:=cS y) b 57 fj rfl (pd y);have Q:=aa (aI (P:=DE) (cs:=cS y) b 57 fj rfl (gP N) (ty:=57) (by rw[bz];kernel_rfl));have s:=aa V;have H:=aa (g.ext A);have l:=aa (j.trans A);clear V A
    go_wp2_with first | refine ak rfl K ?_ | (with_reducible refine aC (ty:=57) ?_)
    refine au ?_;refine ag rfl rfl Q ?_;obtain⟨W9,ab⟩:=exq ((b.alloc (.cells fj 57)).setCells b.heap.size 0 (cS y));obtain⟨X9,ad⟩:=exq b.heap.size;rw[<-ab]at s H l⊢;rw[<-ad]at s⊢;clear ab ad Q K g j;have am:=aa (H.load (P:=DE) Fz rfl (by rw[bz];kernel_rfl));have an:=aa (s.load (P:=DE) Fz rfl (by rw[bz];kernel_rfl))
    go_wp2_with first | refine ak rfl am ?_ | refine ak rfl an ?_
    refine(rN x y W9 (ap.ext l) (N.ext l)).mono ?_;rintro e w1 ⟨rfl,X⟩;have I:=aa ((a.trans l).trans X);clear X;by_cases c:cf x=cf y
    ·have f:=decide_eq_true c;have ar:=aa c;rw[f];clear f c
     go_wp2_with fail
     go_roundw;case rel=>exact⟨k+1,by omega,by go_num,I,aa (by rw[R.out,S.out,T.out,ar.out])⟩
     case measure=>simp[Ef];omega
    ·have f:=decide_eq_false c;have ao:=aa (d c);rw[f];clear f c
     go_wp2_with fail
     go_ret;exact⟨by rw[decide_eq_false ao.out];rfl,I⟩
   ·obtain rfl:k=n:=by omega
    have al:Hid (L.map cf=M.map cf):=aa (by
     have h:=T.out
     rwa[DW (by rw[D2,<-u.out];exact DH _),DW (by rw[D2,<-t.out];exact DH _)]at h)
    go_wp2_with fail
    go_ret;exact⟨by rw[decide_eq_true al.out];rfl,a⟩
 ·have d:Hid (¬L.map cf=M.map cf):=aa fun q=>ai (by have:=congrArg List.length q;rw[D2,D2]at this;rw[u.out,t.out,this])
  have a4:((n:Int)==(m:Int))=false:=by rw[beq_eq_false_iff_ne];omega
  go_enter Tryz.func123,Tryz.ntmps123
  go_wp2_with fail
  go_ret;exact⟨by rw[decide_eq_false d.out];rfl,DI _ _⟩
theorem pX (M vb:DG) (xs ys:List (List Int)) (w:DF) (W:bf w M xs) (X:bf w vb ys) (E:∀p∈xs,bA p) (F:∀p∈ys,bA p):
  DN DE 74 #[M,vb,.func (.func 51) #[] #[]] w fun e w'=>e=.returned (.bool (decide (xs=ys)))/\az w w':=by
 obtain⟨wa,u,I,K⟩:=W;obtain⟨wb,v,J,L⟩:=X;obtain⟨pa,ca,af,ah,ad⟩:=u.form;obtain⟨pb,cb,ag,ai,ae⟩:=v.form;subst af ag;have C:=aa u;have D:=aa v;have T:=aa K;have U:=aa L;have R:=aa I;have S:=aa J;have N:=aa E;have O:=aa F;unfold DV at ad ae;obtain⟨n,t⟩:=exq xs.length;obtain⟨m,hm⟩:=exq ys.length;rw[<-t]at C⊢ah;rw[<-hm]at D⊢ai;have j:=aa t;have g:=aa hm;clear u v K L I J E F t hm;by_cases H:n=m
 ·subst H;go_enter Tryz.func74,Tryz.ntmps74
  go_wp2_with fail
  go_loopw [17] (fun i wr=>∃k:Nat,k<=n/\i=.int .i64 k/\wr=w/\Hid (xs.take k=ys.take k)) (fun i _=>n - (Ef i).toNat);case atStart=>exact⟨0,DZ _,rfl,rfl,aa rfl⟩
  case round=>
   obtain⟨k,hk,rfl,ak,B⟩:=hrel;subst ak;by_cases G:k < n
   ·have d:k < xs.length:=by rw[<-j.out];exact G
    have f:k < ys.length:=by rw[<-g.out];exact G
    obtain⟨b1,o1,ab,Y,ar⟩:=bf.Cv (ps:=xs) (n:=n) (by have:=C.out;rw[j.out]at this⊢;exact this) R k d;obtain⟨b2,o2,ac,Z,au⟩:=bf.Cv (ps:=ys) (n:=n) (by have:=D.out;rw[g.out]at this⊢;exact this) S k f;subst ab ac;have l:=T k d;have o:=U k f;have r:bA (xs.getD k []):=N _ (aH [] d);have s:bA (ys.getD k []):=O _ (aH [] f);have z:=aa (aP [] xs k d);have A:=aa (aP [] ys k f);have b:Hid (¬xs.getD k []=ys.getD k []->¬xs=ys):=aa fun h q=>h (by rw[q])
    obtain⟨x,hx⟩:=exq (xs.getD k []);obtain⟨y,hy⟩:=exq (ys.getD k []);rw[<-hx]at l r z b;rw[<-hy]at o s A b;generalize wa.getD k undef=u1 at*;generalize wb.getD k undef=u2 at*;have HEq:=aa (lQ u1 u2 x y wr l o r s);clear l o Y Z hx hy d f r s
    go_wp2_with fail
    refine HEq.mono ?_;rintro e w1 ⟨rfl,aj⟩;subst aj;by_cases a:x=y
    ·have c:=decide_eq_true a;have V:=aa a;rw[c];clear c a
     go_wp2_with fail
     go_roundw;case rel=>exact⟨k+1,by omega,by go_num,trivial,aa (by rw[z.out,A.out,B.out,V.out])⟩
     case measure=>simp[Ef];omega
    ·have c:=decide_eq_false a;have Q:=aa (b a);rw[c];clear c a
     go_wp2_with fail
     go_ret;exact⟨by rw[decide_eq_false Q.out];rfl,DI _ _⟩
   ·obtain rfl:k=n:=by omega
    have P:Hid (xs=ys):=aa (by
     have h:=B.out
     rwa[DW (by rw[<-j.out];exact DH _),DW (by rw[<-g.out];exact DH _)]at h)
    go_wp2_with fail
    go_ret;exact⟨by rw[decide_eq_true P.out];rfl,DI _ _⟩
 ·have b:Hid (¬xs=ys):=aa fun q=>H (by rw[j.out,g.out,q])
  have aw:((n:Int)==(m:Int))=false:=by rw[beq_eq_false_iff_ne];omega
  go_enter Tryz.func74,Tryz.ntmps74
  go_wp2_with fail
  go_ret;exact⟨by rw[decide_eq_false b.out];rfl,DI _ _⟩
theorem uv (X vb:DG) (a b:Cp) (w:DF) (Y:dH w X a) (Z:dH w vb b):
  DN DE 71 #[X,vb] w fun e w'=>e=.returned (.bool (nB a b))/\az w w':=by
 obtain⟨ac,pa,q,n,L,rfl,o⟩:=Y;obtain⟨ad,t,u,r,M,rfl,p⟩:=Z;obtain rfl:=o.eq;obtain rfl:=p.eq;have U:Hid (∀c,az w c->DN DE 122 #[pa,t] c fun e w'=>e=.returned (.bool (decide (a.places=b.places)))/\az c w'):=aa fun c h2=>rL pa t _ _ c (o.pl.ext h2) (p.pl.ext h2)
 have V:Hid (∀c,az w c->DN DE 123 #[q,u,.func (.func 124) #[] #[]] c fun e w'=>e=.returned (.bool (decide (a.shown=b.shown)))/\az c w'):=aa fun c h2=>by rw[<-o.sl,<-p.sl];exact wY q u L M c (o.sh.ext h2) (p.sh.ext h2)
 have O:Hid (∀c,az w c->DN DE 74 #[n,r,.func (.func 51) #[] #[]] c fun e w'=>e=.returned (.bool (decide (a.blocks=b.blocks)))/\az c w'):=aa fun c h2=>pX n r _ _ c (o.bl.ext h2) (p.bl.ext h2) o.Ct p.Ct
 have HD:Hid (nB a b=(decide (a.CD=b.CD)&&decide (a.places=b.places)&&decide (a.shown=b.shown)&&decide (a.blocks=b.blocks))):=aa (by
  rw[Iu];simp[nB,Cp.CG,and_assoc])
 clear o p;obtain⟨g,i1,f,D,E,f1,d,A,d1⟩:=a;obtain⟨m,i2,l,x,y,f2,j,v,d2⟩:=b;have heq:∀w,(Op.equalIn 10000 177 (.agg #[.int .i64 g,.int .i64 i1,.int .i64 f,.int .i64 f1,.int .i64 d,.int .i64 d1]) (.agg #[.int .i64 m,.int .i64 i2,.int .i64 l,.int .i64 f2,.int .i64 j,.int .i64 d2])).run DE w=.ok (decide (Cp.CD ⟨g,i1,f,D,E,f1,d,A,d1⟩=Cp.CD ⟨m,i2,l,x,y,f2,j,v,d2⟩)) w:=fun w=>yG (k:=.i64) Tryz.underlying177 FR (fun w=>by simp[go_sem]) [g,i1,f,f1,d,d1] [m,i2,l,f2,j,d2] rfl rfl w
 obtain⟨z,s⟩:=exq ((w.alloc (.cells #[.int .i64 g,.int .i64 i1,.int .i64 f,pa,q,.int .i64 f1,.int .i64 d,n,.int .i64 d1] 26)).alloc (.cells #[.int .i64 m,.int .i64 i2,.int .i64 l,t,u,.int .i64 f2,.int .i64 j,r,.int .i64 d2] 26));have H:Hid (az w z):=aa (by rw[s];exact(ae _ _).trans (ae _ _));have P:Hid (av z w.heap.size (cL ⟨g,i1,f,D,E,f1,d,A,d1⟩ pa q n)):=aa (by rw[s];exact(av.box w 26 (cg _ _ _ _)).ext (ae _ _))
 have R:Hid (av z (w.heap.size+1) (cL ⟨m,i2,l,x,y,f2,j,v,d2⟩ t u r)):=aa (by
  rw[s];have h:=av.box (w.alloc (.cells #[.int .i64 g,.int .i64 i1,.int .i64 f,pa,q,.int .i64 f1,.int .i64 d,n,.int .i64 d1] 26)) 26 (cg ⟨m,i2,l,x,y,f2,j,v,d2⟩ t u r);rw[show(w.alloc (.cells #[.int .i64 g,.int .i64 i1,.int .i64 f,pa,q,.int .i64 f1,.int .i64 d,n,.int .i64 d1] 26)).heap.size=w.heap.size+1 from by simp]at h
  exact h)
 generalize decide (Cp.CD ⟨g,i1,f,D,E,f1,d,A,d1⟩=Cp.CD ⟨m,i2,l,x,y,f2,j,v,d2⟩)=q1 at*;simp only at U V O HD;generalize decide (D=x)=q2 at*;generalize decide (E=y)=q3 at*;generalize decide (A=v)=q4 at*;show DN DE 71 #[.agg #[.int .i64 g,.int .i64 i1,.int .i64 f,pa,q,.int .i64 f1,.int .i64 d,n,.int .i64 d1],.agg #[.int .i64 m,.int .i64 i2,.int .i64 l,t,u,.int .i64 f2,.int .i64 j,r,.int .i64 d2]] w _;go_enter Tryz.func71,Tryz.ntmps71;cases q1
 ·go_wp2_with fail
  go_ret;refine⟨by rw[HD.out];rfl,?_⟩;rw[<-s];exact H
 go_wp2_with fail
 rw[<-s];clear s;refine(U z H).mono ?_;rintro e w1 ⟨rfl,B⟩;have I:=aa (H.trans B);have F:=aa (P.ext B);have G:=aa (R.ext B);clear B P R;cases q2
 ·go_wp2_with fail
  go_ret;exact⟨by rw[HD.out];rfl,I⟩
 have K:=F.cell (i:=4) rfl;have N:=G.cell (i:=4) rfl
 go_wp2_with fail
 refine(V w1 I).mono ?_;rintro e c ⟨rfl,C⟩;have J:=aa (I.trans C);have Q:=aa (F.ext C);have S:=aa (G.ext C);clear C F G K N;cases q3
 ·go_wp2_with fail
  go_ret;exact⟨by rw[HD.out];rfl,J⟩
 have K:=Q.cell (i:=7) rfl;have N:=S.cell (i:=7) rfl
 go_wp2_with fail
 refine(O c J).mono ?_;rintro e w3 ⟨rfl,W⟩;have T:=aa (J.trans W);clear W K N Q S;cases q4
 ·go_wp2_with fail
  go_ret;exact⟨by rw[HD.out];rfl,T⟩
 ·go_wp2_with fail
  go_ret;exact⟨by rw[HD.out];rfl,T⟩
theorem gW (v:DG) (l:Cp) (w:DF) (S:List Nat) (a:Nat->Addr) (h:dH w v l) (he:kz S a w) (s1:1∈S) (s3:3∈S) (s4:4∈S) (s7:7∈S) (s8:8∈S):
  DN DE 36 #[v] w fun e w'=>e=.returned (oX a (aW l))/\az w w':=by
 have k:=aa h;obtain⟨cs,vp,vs,vb,L,rfl,Z⟩:=h;obtain rfl:=Z.eq;have c:=aa he;clear Z he;obtain⟨G,r⟩:=exq (wi l.kind 1 7);obtain⟨q2,D⟩:=exq (bn l);obtain⟨q3,E⟩:=exq (bH l);obtain⟨H,F⟩:=exq (eA l);obtain⟨N,C⟩:=exq ((bL l).length);have HV:Hid (aW l=if G=false then 7 else if q2=false then 1 else if q3=false then 8 else if H=false then 4 else if 8000 < N then 3 else 0):=aa (by unfold aW;rw[r,D,E,F,C]);have al:=aa r;have V:=aa D;have W:=aa E;have am:=aa F;have HN:=aa C;have M:Hid (G=true->1<=l.kind/\l.kind<=7):=aa fun q=>bJ.1 (by rw[<-r];exact q)
 clear r D E F C;obtain⟨n,d⟩:=exq (w.alloc (.cells (cL l vp vs vb).toArray 26));have s:Hid (av n w.heap.size (cL l vp vs vb)):=aa (by rw[d];exact av.box w 26 (cg _ _ _ _));have f:Hid (az w n):=aa (by rw[d];exact ae _ _);unfold cL at d;show DN DE 36 #[.agg #[.int .i64 l.kind,.int .i64 l.id,.int .i64 l.obj,vp,vs,.int .i64 l.Cq,.int .i64 l.Cs,vb,.int .i64 l.code]] w _;go_enter Tryz.func36,Tryz.ntmps36
 go_wp2_with fail
 rw[<-d];clear d;refine(bg _ _ _ _).mono ?_;rintro e I ⟨rfl,hw⟩;subst hw;rw[<-al.out];cases G
 ·have p:n.cell? ⟨2,0,none⟩=some (.iface 233 (.pointer (some (a 7)))):=(c.ext f).cell 7 s7
  go_wp2_with fail
  go_ret;have b:aW l=7:=by rw[HV.out];rfl
  exact⟨by rw[b,dt a 7 (by decide)];rfl,f⟩
 have m:=aa (M rfl);clear M;have Q:=aa (s.load (P:=DE) DQ rfl (by kernel_rfl))
 go_wp2_with refine ak rfl Q ?_
 refine(pA _ l n (k.ext f) m).mono ?_;rintro e I ⟨rfl,y⟩;have g:=aa (f.trans y);have t:=aa (s.ext y);clear y Q s;rw[<-V.out];cases q2
 ·have p:I.cell? ⟨3,0,none⟩=some (.iface 233 (.pointer (some (a 1)))):=(c.ext g).cell 1 s1
  go_wp2_with fail
  go_ret;have b:aW l=1:=by rw[HV.out];rfl
  exact⟨by rw[b,dt a 1 (by decide)];rfl,g⟩
 have R:=aa (t.load (P:=DE) DQ rfl (by kernel_rfl))
 go_wp2_with refine ak rfl R ?_
 refine(tM _ l I (k.ext g) m).mono ?_;rintro e w3 ⟨rfl,z⟩;have i:=aa (g.trans z);have u:=aa (t.ext z);clear z R t;rw[<-W.out];cases q3
 ·have p:w3.cell? ⟨4,0,none⟩=some (.iface 233 (.pointer (some (a 8)))):=(c.ext i).cell 8 s8
  go_wp2_with fail
  go_ret;have b:aW l=8:=by rw[HV.out];rfl
  exact⟨by rw[b,dt a 8 (by decide)];rfl,i⟩
 have T:=aa (u.load (P:=DE) DQ rfl (by kernel_rfl))
 go_wp2_with refine ak rfl T ?_
 refine(vP _ l w3 (k.ext i) m).mono ?_;rintro e w4 ⟨v4,rfl,Y,A⟩;have ai:=aa (i.trans A);have J:=aa (u.ext A);have O:=aa Y;clear A T u Y
 go_wp2_with fail
 refine(uv v4 _ (pn l) dI w4 O ⟨_,_,_,_,_,rfl,kA.zero w4⟩).mono ?_;rintro e w5 ⟨rfl,B⟩;have j:=aa (ai.trans B);have K:=aa (J.ext B);clear B J O;rw[show nB (pn l) dI=H from am.out.symm];cases H
 ·have p:w5.cell? ⟨5,0,none⟩=some (.iface 233 (.pointer (some (a 4)))):=(c.ext j).cell 4 s4
  go_wp2_with fail
  go_ret;have b:aW l=4:=by rw[HV.out];rfl
  exact⟨by rw[b,dt a 4 (by decide)];rfl,j⟩
 have U:=aa (K.load (P:=DE) DQ rfl (by kernel_rfl))
 go_wp2_with refine ak rfl U ?_
 refine(nC _ l w5 (k.ext j) m V.symm W.symm).mono ?_;rintro e w6 ⟨v6,rfl,ab,X⟩;obtain⟨p6,c6,ao,_,_⟩:=ab.form;subst ao;rw[<-HN.out];have x:=aa (j.trans X);clear X U K ab;by_cases o:8000 < N
 ·have an:(8000:Int) < (N:Int):=by omega
  have p:w6.cell? ⟨6,0,none⟩=some (.iface 233 (.pointer (some (a 3)))):=(c.ext x).cell 3 s3;have b:Hid (aW l=3):=aa (by rw[HV.out,if_neg (by decide),if_neg (by decide),if_neg (by decide),if_neg (by decide),if_pos o]);clear o
  go_wp2_with fail
  go_ret;exact⟨by rw[b.out,dt a 3 (by decide)];rfl,x⟩
 ·have an:¬((8000:Int) < (N:Int)):=by omega
  have b:Hid (aW l=0):=aa (by rw[HV.out,if_neg (by decide),if_neg (by decide),if_neg (by decide),if_neg (by decide),if_neg o]);clear o
  go_wp2_with fail
  go_ret;exact⟨by rw[b.out];rfl,x⟩
theorem wZ {l:Cp} (h:aW l=0):(1<=l.kind/\l.kind<=7)/\bn l=true/\bH l=true/\eA l=true/\(bL l).length<=8000:=by
 unfold aW at h;split at h
 ·cases h
 split at h
 ·cases h
 split at h
 ·cases h
 split at h
 ·cases h
 split at h
 ·cases h
 rename_i h1 h2 a b c;exact⟨bJ.1 (by simpa using h1),by simpa using h2,by simpa using a,by simpa using b,by omega⟩
theorem rO (v:DG) (l:Cp) (w:DF) (S:List Nat) (a:Nat->Addr) (h:dH w v l) (he:kz S a w) (s1:1∈S) (F:3∈S) (G:4∈S) (H:7∈S) (I:8∈S):
  DN DE 27 #[v] w fun e w'=>∃z,e=.returned (.tuple #[z,oX a (aW l)])/\Rd w' .u8 z (if aW l=0 then bL l else [])/\az w w':=by
 have p:=aa h;obtain⟨cs,vp,vs,vb,L,rfl,t⟩:=h;obtain rfl:=t.eq;have g:Hid (∀c,az w c->DN DE 36 #[.agg (cL l vp vs vb).toArray] c fun e w'=>e=.returned (oX a (aW l))/\az c w'):=aa fun c h2=>gW _ l c S a (p.ext h2) (he.ext h2) s1 F G H I
 obtain⟨K,n⟩:=exq (aW l);have C:=aa n;rw[<-n]at g⊢;clear t he n;obtain⟨k,d⟩:=exq (w.alloc (.cells (cL l vp vs vb).toArray 26));have f:Hid (av k w.heap.size (cL l vp vs vb)):=aa (by rw[d];exact av.box w 26 (cg _ _ _ _));have o:Hid (az w k):=aa (by rw[d];exact ae _ _);have r:=aa (f.load (P:=DE) DQ rfl (by kernel_rfl));unfold cL at d;show DN DE 27 #[.agg #[.int .i64 l.kind,.int .i64 l.id,.int .i64 l.obj,vp,vs,.int .i64 l.Cq,.int .i64 l.Cs,vb,.int .i64 l.code]] w _;go_enter Tryz.func27,Tryz.ntmps27
 go_wp2_with (with_reducible refine aA (ty:=26) ?_)
 refine au ?_;rw[<-d];clear d;refine ak rfl r ?_
 go_wp2_with fail
 refine(g k o).mono ?_;rintro e c ⟨rfl,m⟩;have i:=aa (o.trans m);have A:=aa (f.ext m);clear m f r g;by_cases b:K=0
 ·subst b;rw[ft];obtain⟨b,u,y,_,_⟩:=wZ C.symm;have j:=aa (DT b (DT u y));have D:=aa (A.load (P:=DE) DQ rfl (by kernel_rfl));clear b u y
  go_wp2_with refine ak rfl D ?_
  refine(nC _ l c (p.ext i) j.1 j.2.1 j.2.2).mono ?_;rintro e J ⟨v3,rfl,x,s⟩;have E:=aa x;have B:=aa (i.trans s);clear x s
  go_wp2_with fail
  exact DK (v:=.tuple #[v3,.nilIface]) (fh rfl rfl rfl) rfl ⟨v3,rfl,E,B⟩
 ·rw[dt a K b];have q:=aa b;clear b
  go_wp2_with fail
  exact DK (v:=.tuple #[.slice none 0 0,.iface 233 (.pointer (some (a K)))]) (fh rfl rfl rfl) rfl ⟨_,by rw[dt a K q.out],by first | exact Rd.nil _ _ | (rw[if_neg q.out];exact Rd.nil _ _),i⟩
def dO (l:Cp) (code:Int):Cp:=⟨7,l.id,l.obj,[],[],0,0,[],code⟩
abbrev ah:DG:=.slice none 0 0
theorem kA.Du (w:DF) (l:Cp) (code:Int):kA w (cL (dO l code) ah ah ah) (dO l code) ah ah ah []:=⟨rfl,Rd.nil _ _,oe.nil _,rfl,bf.nil _,fun b a=>by cases a⟩
theorem dP (v:DG) (l:Cp) (code:Int) (w:DF) (h:dH w v l):
  DN DE 67 #[v,.int .i64 code] w fun e w'=>e=.returned (.agg (cL (dO l code) ah ah ah).toArray)/\az w w':=by
 obtain⟨k,vp,vs,vb,L,rfl,b⟩:=h;obtain rfl:=b.eq;obtain⟨i,id,a,pl,sh,g,f,j,d⟩:=l;clear b;show DN DE 67 #[.agg #[.int .i64 i,.int .i64 id,.int .i64 a,vp,vs,.int .i64 g,.int .i64 f,vb,.int .i64 d],.int .i64 code] w _;have c:Hid (∀A R,az w ((w.alloc (.cells A 26)).alloc (.cells R 26))):=aa fun A R=>(ae _ _).trans (ae _ _)
 go_enter Tryz.func67,Tryz.ntmps67
 go_wp2_with fail
 exact DK (v:=.agg ([.int .i64 7,.int .i64 id,.int .i64 a,ah,ah,.int .i64 0,.int .i64 0,ah,.int .i64 code]:List DG).toArray) (aG rfl rfl ((gy w _ [.int .i64 7,.int .i64 id,.int .i64 a,ah,ah,.int .i64 0,.int .i64 0,ah,.int .i64 code] _ _ (fun h=>by cases h)).loadVar (P:=DE) DQ rfl (by kernel_rfl))) rfl ⟨rfl,c _ _⟩
structure rP (w:DF) (b m sb:Nat):Prop where
 c0:w.cell? ⟨b,0,none⟩=some (.map (some m))
 c1:w.cell? ⟨b,1,none⟩=some (.pointer (some ⟨sb,0,none⟩))
theorem rP.lt {w:DF} (h:rP w b m sb):b < w.heap.size:=World.block_lt_of_cell? _ _ h.c0
theorem rP.ext {w w':DF} (h:rP w b m sb) (a:az w w'):rP w' b m sb:=⟨((aD a).1 _ _ h.lt).trans h.c0,((aD a).1 _ _ h.lt).trans h.c1⟩
theorem xa (w:DF):DN DE 35 #[] w fun e w'=>e=.returned (.pointer (some ⟨w.heap.size,0,none⟩))/\av w' w.heap.size [.bool false,.int .i64 0,.int .u64 0]/\az w w':=by
 have a:=aa (av.box (cs:=[.bool false,.int .i64 0,.int .u64 0]) w 134 (fun h=>by cases h));have b:=aa (ae w (.cells ([.bool false,.int .i64 0,.int .u64 0]:List DG).toArray 134));go_enter Tryz.func35,Tryz.ntmps35
 go_wp2_with fail
 go_ret;exact⟨rfl,a,b⟩
theorem xc (w:DF):DN DE 9 #[] w fun e w'=>∃b m a,e=.returned (.pointer (some ⟨b,0,none⟩))/\w.heap.size<=b/\w.heap.size<=m/\w.heap.size<=a/\b≠m/\b≠a/\m≠a/\rP w' b m a/\av w' b [.map (some m),.pointer (some ⟨a,0,none⟩)]/\dG w' m []/\av w' a [.bool false,.int .i64 0,.int .u64 0]/\az w w':=by
 have t:=@run_makeMap DE;go_enter Tryz.func9,Tryz.ntmps9
 go_wp2_with fail
 have l:=dG.new w;have k:=ae w (.map #[] 0);have n:(w.alloc (.map #[] 0)).heap.size=w.heap.size+1:=World.size_alloc _ _;generalize w.alloc (.map #[] 0)=W1 at l k n⊢;refine(xa W1).mono ?_;rintro e d ⟨rfl,j,f⟩;have o:=aa j;have q:=aa (l.ext f);have p:=aa (k.trans f);have s:=f.size;have g:=aa (av.box (cs:=[.map (some w.heap.size),.pointer (some ⟨W1.heap.size,0,none⟩)]) d 88 (fun h=>by cases h));have i:=aa (ae d (.cells ([.map (some w.heap.size),.pointer (some ⟨W1.heap.size,0,none⟩)]:List DG).toArray 88));have r:=j.lt;have c:Hid (w.heap.size<=d.heap.size/\w.heap.size<=W1.heap.size/\d.heap.size≠w.heap.size/\d.heap.size≠W1.heap.size/\w.heap.size≠W1.heap.size):=aa (by omega);clear l k n j f s r
 go_wp2_with fail
 go_ret;exact⟨_,_,_,rfl,c.1,DH _,c.2.1,c.2.2.1,c.2.2.2.1,c.2.2.2.2,⟨g.cell rfl,g.cell rfl⟩,g,q.ext i,o.ext i,p.trans i⟩
theorem xd (b m sb:Nat) (mp:List (Int × DG)) (v:DG) (l:Cp) (w:DF) (K:rP w b m sb) (J:dG w m mp) (I:dH w v l) (N:eZ mp l.obj=none):
  DN DE 38 #[.pointer (some ⟨b,0,none⟩),v] w fun e w'=>e=.returned (.agg (cL (dO l 11) ah ah ah).toArray)/\az w w':=by
 have Z:=aa I;obtain⟨aq,vp,vs,vb,L,rfl,p⟩:=I;obtain rfl:=p.eq;clear p;obtain⟨s,g⟩:=exq ((w.alloc (.cells (cL l vp vs vb).toArray 26)).alloc (.cells zL 26));have H:=ae w (.cells (cL l vp vs vb).toArray 26);have o:=H.trans (ae (w.alloc (.cells (cL l vp vs vb).toArray 26)) (.cells zL 26));have q:Hid (av s w.heap.size (cL l vp vs vb)):=aa (by rw[g];exact(av.box w 26 (cg _ _ _ _)).ext (ae _ _));have z:Hid (av s (w.heap.size+1) zL.toList):=aa (by rw[g];exact gy w _ zL.toList _ _ (fun h=>by cases h));rw[<-g]at o;have B:=aa o;have ab:=aa (J.ext o);have x:=K.ext o;have r:Hid (∀n,az s n->(Instr.lookup 84 (.map (some m)) (.int .i64 l.obj) true).run DE n=.ok (.tuple #[.slice none 0 0,.bool false]) n):=aa fun n h2=>by
  have hz:(zeroValue 22).run DE n=.ok (.slice none 0 0) n:=by first | rfl | kernel_rfl | (simp[go_sem];done)
  have h:=(ab.ext h2).lookup (P:=DE) Tryz.underlying84 FR hz l.obj;rw[N]at h;exact h
 have M:=x.c0;have j:=x.lt;have y:=q.cell (i:=2) (v:=.int .i64 l.obj) rfl;have S:=q.lt;obtain⟨oj,Q⟩:=exq l.obj;rw[<-Q]at r y;clear K J N H o x Q;unfold cL at g;show DN DE 38 #[.pointer (some ⟨b,0,none⟩),.agg #[.int .i64 l.kind,.int .i64 l.id,.int .i64 l.obj,vp,vs,.int .i64 l.Cq,.int .i64 l.Cs,vb,.int .i64 l.code]] w _;go_enter Tryz.func38,Tryz.ntmps38
 go_wp2_with fail
 rw[<-g];clear g;apply ay (az) (fun _ _ _=>True) 12 [13,14,15,16,17,18,19,12,20,21,5,6] [ar _,ar _,ar _,ar _,ar _,ar _,ar _,ar _,ar _,ar _,ar _,ar _] (fun w=>DI _ w) (fun a b c h k=>az.trans h k) (by kernel_rfl) (by kernel_rfl) (by kernel_rfl) (by kernel_rfl);case hsteps=>
  refine⟨?_,?_,?_,?_,?_,?_,?_,?_,?_,?_,?_,?_,trivial⟩;all_goals
   intro d ev T f D E F O j hd;replace E:=aa E;replace D:=aa D;replace F:=aa F;replace O:=aa O;have e0:=j 0 (by decide);have e3:=j 3 (by decide);clear j;simp only[sB]at e0 e3;simp only[sG]at hd;have p:=(aD f).1;have c0:=(p _ 0 j).trans M;have c2:=(p _ 2 S).trans y;have lk:=r _ f;simp only[DP,if_true];go_simp;first | exact⟨DI _ _,rfl,trivial⟩ | exact⟨DI _ _,rfl⟩ | exact DI _ _
 case hmono=>exact mR
 case hR0=>exact(DI _ _).drew
 case hend=>
  intro u T f hJ hend;simp only[sE]at hend;simp only[sF,hend];have C:=aa f;have V:=aa (q.ext f);have W:=aa (z.ext f);clear f hend hJ M j y S q z r;have G:=aa (V.load (P:=DE) DQ rfl (by kernel_rfl))
  go_wp2_with refine ak rfl G ?_
  refine(dP _ l 11 T (Z.ext (B.trans C))).mono ?_;rintro e w3 ⟨rfl,t⟩;have X:=aa ((B.trans C).trans t);have A:=aa (W.ext t);clear t G;have R:=(kA.Du w3 l 11).one;have ac:=aa (A.store (P:=DE) (cs':=cL (dO l 11) ah ah ah) rfl R (ty:=26) (by kernel_rfl));have U:=aa (A.set (cs':=cL (dO l 11) ah ah ah) rfl);have Y:=aa (aE (cL (dO l 11) ah ah ah) (w.heap.size+1) 0 _ X (Nat.le_succ _));clear R
  go_wp2_with refine ag rfl rfl ac ?_
  exact DK (v:=.agg (cL (dO l 11) ah ah ah).toArray) (aG rfl rfl (U.loadVar (P:=DE) DQ rfl (by kernel_rfl))) rfl ⟨rfl,Y⟩
 case hJ0=>trivial
def Ck:Cp:=⟨3,0,0,[0],[],0,0,[],0⟩
end Go.Proofs.Bl
