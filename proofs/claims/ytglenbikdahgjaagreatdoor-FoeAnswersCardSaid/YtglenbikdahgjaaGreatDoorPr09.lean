/- Texts that stood apart, in one: WPath2P, WMake, WPath1, WPath2, WMake2, WRevT. -/
import Derived.Test.YtglenbikdahgjaaGreatDoorPr08
import Derived.Test.YtglenbikdahgjaaGreatDoorPr06
set_option maxRecDepth 100000
set_option maxHeartbeats 16000000
open Bool renaming and_eq_true->Ek
open Go renaming Value->DG,World->DF,maxLen->DV,run_loadAt_mid->EX
open Go.RowKit renaming intOf->Ef
open Go.RowKit.Below renaming refl->DI,trans->Ei
open Go.World renaming ownsRow_nil->EU
open Int renaming toNat_natCast->Eo
open List renaming append_assoc->Em,append_nil->Ew,length->EW,length_append->DS,length_drop->DR,length_eq_zero_iff->Ed,length_take->DX,mem_append->EL,mem_cons->Es,mem_singleton->F4
open Nat renaming le_refl->DH,le_trans->D0,zero_le->DZ
open Option.some renaming inj->Fk
namespace Go.Proofs.Bl
open Go Go.RowKit Go.Proofs
open Go.Proofs.Tryz renaming prog->DE
variable {n:Int}
def gA (ps:List (List Int)) (i:Nat):List (List Int):=dr eo zD (ps.map im) i
theorem l6:∀(m:Nat) (l:List (List Int)) (i:Nat),l.length<=m->l.length < 2^63->dm l->dm (dr eo zD l i)
 | 0,l,i,h,_,_=>by rw[gu _ _ l i (by omega)];exact dm.nil
 | m+1,l,i,h,hn,hd=>by
  by_cases h2:2<=l.length
  ·obtain⟨a,b,c⟩:=bR l.length h2 hn;have one:∀x:List (List Int),dm x->x.length < 2^63->dm [over eo zD x]:=fun x hx e=>dm.one (dS _ x rfl hx e).1 (dS _ x rfl hx e).2
   by_cases d:i < sp l.length
   ·rw[gL _ _ l i h2 hn d];exact(l6 m _ i (by rw[DX];omega) (by rw[DX];omega) (hd.take _)).append (one _ (hd.drop _) (by rw[DR];omega))
   ·rw[fU _ _ l i h2 hn d];exact(l6 m _ _ (by rw[DR];omega) (by rw[DR];omega) (hd.drop _)).append (one _ (hd.take _) (by rw[DX];omega))
  ·rw[gu _ _ l i (by omega)];exact dm.nil
theorem sM:jE DE 143 146 (.agg #[.bool false,.int .i64 0,.int .i64 0]) 3 24:=⟨Tryz.underlying143,by kernel_rfl,rfl,by decide⟩
theorem nG (n i:Int) (w:DF):Calls DE 80 #[.int .i64 n,.int .i64 i] w fun e w'=>e=.returned (.bool (iD n i))/\w=w':=by
 by_cases h1:n<=512
 ·by_cases h2:0<=i
  ·by_cases a:i < n
   ·have H:=aa (nk h1 h2 a);go_enter Tryz.func80,Tryz.ntmps80
    go_wp2
    go_ret;exact⟨by rw[H.out];rfl,rfl⟩
   ·have H:=aa (iT (n:=n) (i:=i) (by omega));go_enter Tryz.func80,Tryz.ntmps80
    go_wp2
    go_ret;exact⟨by rw[H.out];rfl,rfl⟩
  ·have H:=aa (iT (n:=n) (i:=i) (by omega));go_enter Tryz.func80,Tryz.ntmps80
   go_wp2
   go_ret;exact⟨by rw[H.out];rfl,rfl⟩
 ·have H:=aa (iT (n:=n) (i:=i) (by omega));go_enter Tryz.func80,Tryz.ntmps80
  go_wp2
  go_ret;exact⟨by rw[H.out];rfl,rfl⟩
theorem tU (n i:Nat) (w:DF) (hn:n<=512) (X:i < n):
  Calls DE 82 #[.int .i64 n,.int .i64 i] w fun e w'=>∃p c,e=.returned (.slice p (bU n i).length c)/\w'.ownsRow w.heap.size 146 3 (.slice p (bU n i).length c) (bU n i).length (de (bU n i))/\az w w':=by
 have t:=eF n n i (DH _) (by omega);obtain⟨T,D⟩:=exq (bU n i);rw[<-D]at t⊢;have S:=aa D;have U:Hid (T.length<=512):=aa (by omega);clear D t;go_enter Tryz.func82,Tryz.ntmps82
 go_wp2_with fail
 go_loopw [0,1,5] (fun I i' o wr=>∃(m j:Nat) (p:Option Addr) (k c:Nat) (acc:List (Bool × Nat × Nat)),m<=512/\j < m/\I=.int .i64 m/\i'=.int .i64 j/\o=.slice p k c/\Hid (k=acc.length/\acc++bU m j=T/\wr.ownsRow w.heap.size 146 3 (.slice p k c) k (de acc))/\az w wr) (fun I _ _ _=>(Ef I).toNat);case atStart=>exact⟨n,i,none,0,0,[],hn,X,rfl,rfl,rfl,aa ⟨rfl,by rw[S.out];rfl,EU _ _ _ _⟩,DI _ _⟩
 case round=>
  obtain⟨m,j,p,k,c,acc,hm,hj,rfl,rfl,rfl,b,O⟩:=hrel;have A:=aa O;clear O;by_cases h2:2<=m
  ·obtain⟨s1,s2,s3⟩:=bR m h2 (by omega);have al:k<=512:=by have:=b.2.1;have:=congrArg EW this;rw[DS]at this;have:=U.out;have:=b.1;omega
   have Z:(1:Int) < (m:Int):=by omega
   go_wp2_with fail
   refine(tq _ _ (by omega)).mono ?_;rintro e f ⟨rfl,ad⟩;subst ad;rw[Eo];have v:=aa (fun h=>ee m j h2 (by omega) h);have x:=aa (fun h=>dR m j h2 (by omega) h);obtain⟨q,R⟩:=exq (sp m);rw[<-R]at s1 s2 s3 v x⊢;clear R;by_cases F:j < q
   ·have J:=aa (v F);have Y:(j:Int) < (q:Int):=by omega
    clear v x
    go_wp2_with (with_reducible refine db ?_)
    refine au ?_;refine da sM (by decide) rfl rfl ?_;have r:=aa (aR b.2.2 (ae wr (.cells #[.bool true,.int .i64 q,.int .i64 j] 146)));have l:=aa (oY wr 146 #[.bool true,.int .i64 q,.int .i64 j]);have d:Hid (az w (wr.alloc (.cells #[.bool true,.int .i64 q,.int .i64 j] 146))):=aa (A.trans (ae _ _))
    go_wp2_with (with_reducible refine ax ?_)
    refine au ?_;refine aZ sM r l rfl rfl rfl (kP [(true,q,j)]) (by unfold DV;omega) (by omega) d.size ?_;intro g d3 f u E s C ac W;have L:Hid (f.ownsRow w.heap.size 146 3 (.slice g (k+1) d3) (k+1) (de (acc++[(true,q,j)]))):=aa (by rw[jh];exact u);have B:Hid (az w f):=aa (Ei d s);have z:Hid (k+1=(acc++[(true,q,j)]).length/\(acc++[(true,q,j)])++bU q j=T/\f.ownsRow w.heap.size 146 3 (.slice g (k+1) d3) (k+1) (de (acc++[(true,q,j)]))):=
     aa ⟨by rw[DS,b.out.1];rfl,by rw[Em];show acc++(true,q,j) :: bU q j=T;rw[<-J.out];exact b.2.1,L⟩
    clear u E s C r l d L J
    go_wp2_with fail
    go_roundw;case rel=>exact⟨q,j,g,k+1,d3,_,by omega,F,rfl,rfl,rfl,z,B⟩
    case measure=>simp[Ef];omega
   ·have y:=aa (x F);have Y:¬((j:Int) < (q:Int)):=by omega
    have M:(m:Int) - (q:Int)=((m - q:Nat):Int):=by omega
    have N:(j:Int) - (q:Int)=((j - q:Nat):Int):=by omega
    obtain⟨m2,Q⟩:=exq (m - q);obtain⟨a,P⟩:=exq (j - q);rw[<-Q]at M y;rw[<-P]at N y;have b1:m2<=512:=by omega
    have b2:a < m2:=by omega
    have b3:m2 < m:=by omega
    clear v x Q P
    go_wp2_with (with_reducible refine db ?_)
    refine au ?_;refine da sM (by decide) rfl rfl ?_;have r:=aa (aR b.2.2 (ae wr (.cells #[.bool false,.int .i64 m2,.int .i64 a] 146)));have l:=aa (oY wr 146 #[.bool false,.int .i64 m2,.int .i64 a]);have d:Hid (az w (wr.alloc (.cells #[.bool false,.int .i64 m2,.int .i64 a] 146))):=aa (A.trans (ae _ _))
    go_wp2_with (with_reducible refine ax ?_)
    refine au ?_;refine aZ sM r l rfl rfl rfl (kP [(false,m2,a)]) (by unfold DV;omega) (by omega) d.size ?_;intro g d3 f u E s C ac W;have B:Hid (az w f):=aa (Ei d s);have z:Hid (k+1=(acc++[(false,m2,a)]).length/\(acc++[(false,m2,a)])++bU m2 a=T/\f.ownsRow w.heap.size 146 3 (.slice g (k+1) d3) (k+1) (de (acc++[(false,m2,a)]))):=
     aa ⟨by rw[DS,b.out.1];rfl,by rw[Em];show acc++(false,m2,a) :: bU m2 a=T;rw[<-y.out];exact b.2.1,by rw[jh];exact u⟩
    clear u E s C r l d y M N
    go_wp2_with fail
    go_roundw;case rel=>exact⟨m2,a,g,k+1,d3,_,by omega,by omega,rfl,rfl,rfl,z,B⟩
    case measure=>simp[Ef];omega
  ·have t:acc=T:=by have:=b.2.1;rw[ed m j (by omega),Ew]at this;exact this
   have G:=b.1;have H:=b.2.2;rw[t]at G H;have V:=aa H;have K:Hid (T.length=k):=aa G.symm;have Z:¬((1:Int) < (m:Int)):=by omega
   clear t H G
   go_wp2_with fail
   go_ret;exact⟨p,c,by rw[K.out];rfl,by rw[K.out];exact V,A⟩
theorem pJ (w:DF) (x:Bool) (n i:Nat):
  (Instr.storeAt 146 (.pointer (some ⟨w.heap.size,0,none⟩)) (.agg #[.bool x,.int .i64 n,.int .i64 i])).run DE (w.alloc (.cells #[.bool false,.int .i64 0,.int .i64 0] 146))=.ok () ((w.alloc (.cells #[.bool false,.int .i64 0,.int .i64 0] 146)).setCells w.heap.size 0 [.bool x,.int .i64 n,.int .i64 i])/\
  ((w.alloc (.cells #[.bool false,.int .i64 0,.int .i64 0] 146)).setCells w.heap.size 0 [.bool x,.int .i64 n,.int .i64 i]).cell? ⟨w.heap.size,0,none⟩=some (.bool x)/\
  ((w.alloc (.cells #[.bool false,.int .i64 0,.int .i64 0] 146)).setCells w.heap.size 0 [.bool x,.int .i64 n,.int .i64 i]).cell? ⟨w.heap.size,1,none⟩=some (.int .i64 n)/\
  az w ((w.alloc (.cells #[.bool false,.int .i64 0,.int .i64 0] 146)).setCells w.heap.size 0 [.bool x,.int .i64 n,.int .i64 i]):=by
 have d:=iU w #[.bool false,.int .i64 0,.int .i64 0] 146 3 rfl;have e:=run_storeAt_mid (P:=DE) (w.alloc (.cells #[.bool false,.int .i64 0,.int .i64 0] 146)) w.heap.size 0 146 #[.bool x,.int .i64 n,.int .i64 i] (by simpa using d) (by kernel_rfl) (all_oneCell_toArray (cs:=[.bool x,.int .i64 n,.int .i64 i]) (by intro c a;simp only[Es,List.not_mem_nil,or_false]at a;rcases a with rfl | rfl | rfl<;>rfl));have b:=World.rangeAt_setCells_same (w.alloc (.cells #[.bool false,.int .i64 0,.int .i64 0] 146)) w.heap.size 0 [.bool x,.int .i64 n,.int .i64 i] d;exact⟨e,b 0 _ rfl,b 1 _ rfl,aE _ _ _ _ (ae _ _) (DH _)⟩
theorem tV (v:DG) (ps:List (List Int)) (i:Nat) (w:DF) (hR:bf w v ps) (hg:fO w) (bH:∀p∈ps,bA p) (bJ:∀p∈ps,p.length<=1099511627000) (hn:ps.length<=512) (hi:i < ps.length):
  Calls DE 46 #[v,.int .i64 i] w fun e w'=>∃v',e=.returned (.tuple #[v',.nilIface])/\eY w' v' (gA ps i)/\(∀k,v'.ownBlock=some k->w.heap.size<=k)/\az w w':=by
 have aJ:=aa (rj v ps w hR hg bH bJ (by omega));have HT:=aa (fun R=>tU ps.length i R hn hi);have bO:=aa (nk (n:=(ps.length:Int)) (i:=(i:Int)) (by omega) (by omega) (by omega));obtain⟨vs,bP,cp,cq⟩:=hR;obtain⟨p,c,aB,_,_⟩:=bP.form;subst aB;have bv:Hid (dm (ps.map im)):=aa (jx ps);have aO:Hid ((ps.map im).length=ps.length):=aa (List.length_map _);have a2:Hid (dr eo zD (ps.map im) i=gA ps i):=aa rfl;obtain⟨ds,bI⟩:=exq (ps.map im);rw[<-bI]at aJ bv aO a2;obtain⟨PD,bF⟩:=exq (gA ps i);rw[<-bF]at a2⊢;obtain⟨n,bK⟩:=exq ps.length;rw[<-bK]at aJ HT bO hn hi aO⊢;obtain⟨T,hT⟩:=exq (bU n i);rw[<-hT]at HT;have bu:=aa hT;have Hg:=aa hg;clear bP cp cq bK hg bH bJ bI bF hT;go_enter Tryz.func46,Tryz.ntmps46
 go_wp2_with fail
 refine(nG _ _ _).mono ?_;rintro e R ⟨rfl,hw⟩;subst hw;rw[bO.out]
 go_wp2_with fail
 refine aJ.mono ?_;rintro e R ⟨pl,l,rfl,bL,bD⟩;have br:Hid (eY R (.slice pl n l) ds):=aa (by show bh R _ ds.length _;rw[aO.out];exact bh.AS bL);have bq:=aa bD;clear bL bD aJ
 go_wp2_with fail
 refine(HT R).mono ?_;rintro e r ⟨pt,ct,rfl,bM,a7⟩;have bs:Hid (eY r (.slice pl n l) ds):=aa (bh.ext br a7);have bt:Hid (bh r (.slice pt T.length ct) T.length (de T)):=aa (bh.AS bM);have G:=aa (bq.trans a7);have b6:T.length<=512:=by rw[bu.out];have:=eF n n i (DH _) (by omega);omega
 obtain⟨F,bl⟩:=exq T.length;rw[<-bl]at bt b6⊢;have aQ:=aa bl;clear bM a7 br bq HT bl
 go_wp2_with fail
 go_loopw [6,7,24] (fun li out x wr=>∃(k j m l f co:Nat) (pl po:Option Addr) (a acc:List (List Int)),k<=F/\x=.int .i64 k/\li=.slice pl m l/\out=.slice po f co/\m<=512/\j < m/\f<=F/\Hid (a.length=m/\acc.length=f/\f=k/\T.drop k=bU m j/\dm a/\dm acc/\dr eo zD a j++acc.reverse=PD/\eY r (.slice pl m l) a/\wr.ownsRow r.heap.size 54 32 (.slice po f co) f (aN acc))/\az r wr) (fun _ _ x _=>F - (Ef x).toNat);case atStart=>exact⟨0,i,n,l,0,0,pl,none,ds,[],DZ _,rfl,rfl,rfl,hn,hi,DZ _,aa ⟨aO,rfl,rfl,bu,bv,dm.nil,by rw[List.reverse_nil,Ew];exact a2,bs,EU _ _ _ _⟩,DI _ _⟩
 case round=>
  obtain⟨k,j,m,l,f,co,pl,po,a,acc,hk,rfl,rfl,rfl,hm,hj,cI,U,hE⟩:=hrel;have W:=aa hE;clear hE bs;by_cases cK:k < F
  ·have h2:2<=m:=by
    rcases Nat.lt_or_ge m 2 with h | h
    ·exfalso;have h1:=U.2.2.2.1;rw[ed m j h]at h1;have:=congrArg EW h1;rw[DR,<-aQ.out]at this;simp at this;omega
    ·exact h
   obtain⟨s1,s2,s3⟩:=bR m h2 (by omega);obtain⟨t,ah,aT,A,ai,aj,N,al,am⟩:=U.out;have aG:=aa aT;have HD:=aa ai;have V:=aa aj;have aH:=aa al;have y:=aa am;have z:=aa ah;have u:=aa t;have aI:=aa (fun h:j < sp m=>ee m j h2 (by omega) h);have aK:=aa (fun h:¬j < sp m=>dR m j h2 (by omega) h);have Y:=aa (fun h:j < sp m=>gL eo zD a j (by rw[t];exact h2) (by rw[t];omega) (by rw[t];exact h));have Z:=aa (fun h:¬j < sp m=>fU eo zD a j (by rw[t];exact h2) (by rw[t];omega) (by rw[t];exact h));rw[t]at Y Z;have H4:=aa A;have S:=aa N;obtain⟨b,o,cB,cf,cb,ca,b7,bN⟩:=RdT.pos (by have h:=bt.out;rw[aQ.out]at h;exact bh.ext h W) (by rw[<-aQ.out];omega);injection cf with cg ch ci;clear ch ci;subst cg;have bz:=aa bN;obtain⟨b2,o2,c2,hq,ck,cL,b8,_⟩:=eY.pos al ai (by omega);injection hq with cl cm cn;subst cl cn;rw[t]at ck;clear t ah aT A ai aj N al am U bN b7 cb ca cm b8;obtain⟨q,hq⟩:=exq (sp m);rw[<-hq]at s1 s2 s3 aI aK Y Z;clear hq;have cF:(0:Int)<=(k:Int):=by omega
   have cG:(k:Int) < (F:Int):=by omega
   by_cases D:j < q
   ·have ap:T.drop k=(true,q,j) :: bU q j:=by rw[H4.out];exact aI D
    obtain⟨av,ar,aq⟩:=nt default ap;have O:=Y D;have a3:=aa aq;have a1:=aa O;have ab:=aa (EX (P:=DE) wr b (o+k*3) 146 _ _ (su bz av ar) Tryz.underlying146 rfl (by kernel_rfl));clear ap av ar aq O aI aK Y Z H4
    go_wp2_with (with_reducible refine aA (ty:=146) ?_)
    refine au ?_;refine ak rfl ab ?_;obtain⟨ay,bb,bc,an⟩:=pJ wr true q j;have af:=aa ay;have X:=aa an;clear ay an ab
    go_wp2_with (with_reducible refine aC (ty:=146) ?_)
    refine au ?_;refine ag rfl rfl af ?_;clear af;generalize (wr.alloc (.cells #[.bool false,.int .i64 0,.int .i64 0] 146)).setCells wr.heap.size 0 [.bool true,.int .i64 q,.int .i64 j]=W6 at*;have H:=aa (W.trans X);have a9:=aa (aR y X);have cs:(q:Int) < (m:Int):=by omega
    have cu:¬(q=l):=by omega
    have cv:(0:Int)<=(q:Int):=by omega
    have cw:(q:Int)<=(m:Int):=by omega
    have cx:(q:Int)<=(l:Int):=by omega
    have cy:(m:Int)<=(l:Int):=by omega
    have aM:=aa (eY.drop (bh.ext aH H) HD q (by rw[u.out];omega));have aP:=aa (eY.take aH HD q (by rw[u.out];omega));have J:=aa (pI _ (a.drop q) W6 (by rw[DR,u.out];omega) (HD.drop q) aM (Hg.ext (G.trans H)));have s:=aa (dS _ (a.drop q) rfl (HD.drop q) (by rw[DR,u.out];omega));obtain⟨d,B⟩:=exq (cD (a.drop q));rw[<-B]at J s;have Hd:Hid (d=Bl.over eo zD (a.drop q)):=aa B;clear B aM
    go_wp2_with fail
    refine J.mono ?_;rintro e L ⟨rfl,K⟩;have aY:=aa (H.trans K);have ad:=aa (aR (aR a9 K) (ae L (.cells (ao .u8 d).toArray 54)));have ac:=aa (fS L 54 d s.1);have I:Hid (az r (L.alloc (.cells (ao .u8 d).toArray 54))):=aa (aY.trans (ae _ _));clear K J bb bc
    go_wp2_with (with_reducible refine db ?_)
    refine au ?_;refine da jS (by decide) rfl (by simp[s.out.1]) ?_
    go_wp2_with (with_reducible refine ax ?_)
    refine au ?_;refine aZ jS ad ac rfl rfl (by rw[cZ,ints_length,s.out.1]) (cH _) (by unfold DV;omega) (by omega) I.size ?_;intro q3 d3 M aw be C a8 ce b9;have a0:Hid (az r M):=aa (Ei I C);have aX:Hid ((a.take q).length=q/\(acc++[d]).length=f+1/\f+1=k+1/\T.drop (k+1)=bU q j/\dm (a.take q)/\dm (acc++[d])/\dr eo zD (a.take q) j++(acc++[d]).reverse=PD/\eY r (.slice (some ⟨b2,o2,none⟩) q l) (a.take q)/\M.ownsRow r.heap.size 54 32 (.slice q3 (f+1) d3) (f+1) (aN (acc++[d]))):=aa
     ⟨by rw[DX,u.out];omega,by rw[DS,z.out];rfl,by rw[aG.out],a3,HD.take q,V.append (dm.one s.1 s.2),
      by rw[<-S.out,a1.out,List.reverse_append,Em,Hd.out];rfl,aP,by rw[cE];exact aw⟩
    have bj:f+1<=F:=by have:=aG.out;omega
    clear aw be C a8 ad ac I
    go_wp2_with fail
    go_roundw;case rel=>exact⟨k+1,j,q,l,f+1,d3,_,q3,_,_,by omega,by go_num,rfl,rfl,by omega,D,bj,aX,a0⟩
    case measure=>simp[Ef];omega
   ·obtain⟨E,bi⟩:=exq (j - q);obtain⟨m2,aV⟩:=exq (m - q);have ap:T.drop k=(false,m2,E) :: bU m2 E:=by rw[H4.out,aV,bi];exact aK D
    obtain⟨av,ar,aq⟩:=nt default ap;have O:=Z D;rw[<-bi]at O;have a3:=aa aq;have a1:=aa O;have ab:=aa (EX (P:=DE) wr b (o+k*3) 146 _ _ (su bz av ar) Tryz.underlying146 rfl (by kernel_rfl));have b1:m2<=512:=by omega
    have b3:E < m2:=by omega
    have e1:(m:Int) - (m2:Int)=(q:Int):=by omega
    have a5:=aa aV;clear ap av ar aq O aI aK Y Z H4 bi aV
    go_wp2_with (with_reducible refine aA (ty:=146) ?_)
    refine au ?_;refine ak rfl ab ?_;obtain⟨ay,bb,bc,an⟩:=pJ wr false m2 E;have af:=aa ay;have X:=aa an;clear ay an ab
    go_wp2_with (with_reducible refine aC (ty:=146) ?_)
    refine au ?_;refine ag rfl rfl af ?_;clear af;generalize (wr.alloc (.cells #[.bool false,.int .i64 0,.int .i64 0] 146)).setCells wr.heap.size 0 [.bool false,.int .i64 m2,.int .i64 E]=W6 at*;have H:=aa (W.trans X);have a9:=aa (aR y X);have cs:(q:Int) < (m:Int):=by omega
    have cu:¬(q=l):=by omega
    have cv:(0:Int)<=(q:Int):=by omega
    have cw:(q:Int)<=(m:Int):=by omega
    have cx:(q:Int)<=(l:Int):=by omega
    have cy:(m:Int)<=(l:Int):=by omega
    have aM:Hid (eY r (.slice (some ⟨b2,o2+q*32,none⟩) m2 (l - q)) (a.drop q)):=aa (by have h:=eY.drop aH HD q (by rw[u.out];omega);rw[<-a5.out]at h;exact h);have aP:=aa (eY.take (bh.ext aH H) HD q (by rw[u.out];omega));have J:=aa (pI _ (a.take q) W6 (by rw[DX,u.out];omega) (HD.take q) aP (Hg.ext (G.trans H)));have s:=aa (dS _ (a.take q) rfl (HD.take q) (by rw[DX,u.out];omega));obtain⟨d,B⟩:=exq (cD (a.take q));rw[<-B]at J s;have Hd:Hid (d=Bl.over eo zD (a.take q)):=aa B;clear B aP
    go_wp2_with fail
    refine J.mono ?_;rintro e L ⟨rfl,K⟩;have aY:=aa (H.trans K);have ad:=aa (aR (aR a9 K) (ae L (.cells (ao .u8 d).toArray 54)));have ac:=aa (fS L 54 d s.1);have I:Hid (az r (L.alloc (.cells (ao .u8 d).toArray 54))):=aa (aY.trans (ae _ _));clear K J bb bc
    go_wp2_with (with_reducible refine db ?_)
    refine au ?_;refine da jS (by decide) rfl (by simp[s.out.1]) ?_
    go_wp2_with (with_reducible refine ax ?_)
    refine au ?_;refine aZ jS ad ac rfl rfl (by rw[cZ,ints_length,s.out.1]) (cH _) (by unfold DV;omega) (by omega) I.size ?_;intro q3 d3 M aw be C a8 ce b9;have a0:Hid (az r M):=aa (Ei I C);have aX:Hid ((a.drop q).length=m2/\(acc++[d]).length=f+1/\f+1=k+1/\T.drop (k+1)=bU m2 E/\dm (a.drop q)/\dm (acc++[d])/\dr eo zD (a.drop q) E++(acc++[d]).reverse=PD/\eY r (.slice (some ⟨b2,o2+q*32,none⟩) m2 (l - q)) (a.drop q)/\M.ownsRow r.heap.size 54 32 (.slice q3 (f+1) d3) (f+1) (aN (acc++[d]))):=aa
     ⟨by rw[DR,u.out,a5.out],by rw[DS,z.out];rfl,by rw[aG.out],a3,HD.drop q,V.append (dm.one s.1 s.2),
      by rw[<-S.out,a1.out,List.reverse_append,Em,Hd.out];rfl,aM,by rw[cE];exact aw⟩
    have bj:f+1<=F:=by have:=aG.out;omega
    have bW:Hid (m - q=m2):=aa a5.symm;clear aw be C a8 ad ac I e1
    go_wp2_with fail
    try rw[bW.out]
    go_roundw;case rel=>exact⟨k+1,E,m2,l - q,f+1,d3,_,q3,_,_,by omega,by go_num,rfl,rfl,b1,b3,bj,aX,a0⟩
    case measure=>simp[Ef];omega
  ·obtain rfl:k=F:=by omega
   obtain⟨t,ah,aT,A,ai,aj,N,al,am⟩:=U.out;have aV:m < 2:=by
    rcases Nat.lt_or_ge m 2 with h | h
    ·exact h
    ·exfalso;obtain⟨s1,s2,s3⟩:=bR m h (by omega);rw[aQ.out,List.drop_length]at A;by_cases D:j < sp m
     ·rw[ee m j h (by omega) D]at A;cases A
     ·rw[dR m j h (by omega) D]at A;cases A
   rw[gu _ _ _ _ (by omega),List.nil_append]at N;have y:=aa am;have V:=aa aj;have z:=aa ah;have S:=aa N;clear t ah aT A ai aj N al am U;by_cases h0:f=0
   ·subst h0;have bX:Hid (PD=[]):=aa (by rw[<-S.out,Ed.1 z.out];rfl)
    go_wp2_with fail
    refine(vY _ _ _).mono ?_;rintro e M ⟨rfl,cr⟩;subst cr
    go_wp2_with fail
    go_ret2;refine⟨.slice po 0 co,rfl,?_,fun k hk=>D0 G.size (y.lt k hk).1,G.trans W⟩;have h:=bh.AS y;rw[Ed.1 z.out]at h;rw[bX.out];exact h
   ·obtain⟨g,cj⟩:∃g,po=some ⟨g,0,none⟩:=by
     rcases y.2 with ⟨Q,_⟩ | ⟨g,cap,cur,Q,_⟩
     ·injection Q with _ Q;omega
     ·injection Q with Q;exact⟨g,Q⟩
    subst cj;obtain⟨_,_,aB,bn,bm⟩:=(bh.AS y).form;injection aB with cc cd aB;clear cc cd;subst aB;have bx:=aa (y.lt g rfl).1;have HH:Hid (HD wr g acc):=aa (HD.AS (by have h:=y.out;rw[<-z.out]at h;exact h) V);have cJ:f<=512:=by omega
    have bB:=aa (vX g co f acc wr z.symm HH (by omega) bn bm);have bZ:=aa bn;have bY:=aa bm;clear bn bm
    go_wp2_with fail
    refine bB.mono ?_;rintro e M ⟨rfl,bE,C⟩;have bV:=aa bE;have bS:=aa C;clear bE C bB
    go_wp2_with fail
    go_ret2;refine⟨.slice (some ⟨g,0,none⟩) f co,rfl,?_,fun k hk=>(by have e:g=k:=Fk hk;subst e;exact D0 G.size bx),Ei (G.trans W) (bS.mono (D0 G.size bx))⟩;rw[<-S.out];have h:=bV.AT (c:=co) (fun d B=>V d (List.mem_reverse.1 B)) (by rw[List.length_reverse,z.out];exact bZ) bY;rw[List.length_reverse,z.out]at h;exact h
def Bt (t:Bool × Nat × Nat):List DG:=[.bool t.1,.int .i64 t.2.1,.int .i64 t.2.2]
structure HV (w:DF) (g:Nat) (L:List (List DG)):Prop where
 len:∀i,i < L.length->(L.getD i []).length=3
 at':∀i,i < L.length->w.rangeAt g (i*3) ((L.getD i []))
 th:w.there g 0 (L.length*3)
def Bu (g:Nat) (L0 L1 L2:List (List DG)) (d:Nat->Bool) (_u:Nat->DG) (w:DF):Prop:=HV w g (if d 15=true then L2 else if d 13=true then L1 else L0)
def BW (L:List (List DG)) (k:Nat):List (List DG):=(List.range L.length).map fun i=>if i < k\/L.length<=i+k then L.getD (L.length - 1 - i) []else L.getD i []
def ke:Int->List Int->Int
 | g,[]=>g
 | g,x :: r=>ke (if g < x then x else g) r
theorem lB:∀(l:List Int) (g x:Int),ke g (l++[x])=if ke g l < x then x else ke g l
 | [],_,_=>rfl
 | y :: r,g,x=>lB r (if g < y then y else g) x
theorem oz:∀(l:List Int) (g:Int),g<=ke g l/\∀x∈l,x<=ke g l
 | [],g=>⟨Int.le_refl g,fun x hx=>(by cases hx)⟩
 | y :: r,g=>by
  obtain⟨h1,h2⟩:=oz r (if g < y then y else g);have a:g<=ke g (y :: r)/\y<=ke g (y :: r):=by
   show g<=ke (if g < y then y else g) r/\y<=ke (if g < y then y else g) r;by_cases b:g < y
   ·rw[if_pos b]at h1⊢;omega
   ·rw[if_neg b]at h1⊢;omega
  refine⟨a.1,fun x hx=> ?_⟩;rcases Es.1 hx with rfl | hx
  ·exact a.2
  ·exact h2 x hx
theorem oA:∀(l:List Int) (g:Int),ke g l=g\/ke g l∈l
 | [],g=>.inl rfl
 | y :: r,g=>by
  show ke (if g < y then y else g) r=g\/ke (if g < y then y else g) r∈y :: r;rcases oA r (if g < y then y else g)with h | h
  ·rw[h];split
   ·exact .inr (by simp)
   ·exact .inl rfl
  ·exact .inr (List.mem_cons_of_mem _ h)
def gU (ids:List Int) (x:Int):Bool:= !ids.isEmpty&&decide (x<=ke 0 ids - 64)
def jB (ids:List Int) (x:Int):Bool:=decide (x∈ids)&& !gU ids x
def fa (ids:List Int) (x:Int):Bool:=wi x 0 1099511627776&& !gU ids x&& !jB ids x
structure cC (any:Bool) (g:Int) (c:Nat) (ids:List Int):Prop where
 an:any= !ids.isEmpty
 gr:g=ke 0 ids
 lt:c < 2^64
 rn:∀x∈ids,0<=x/\x<=1099511627776
 bt:∀k:Nat,k < 64->c.testBit k=decide ((g - (k:Int))∈ids)
theorem cC.zero:cC false 0 0 []:=⟨rfl,rfl,by decide,fun x h=>(by cases h),fun k _=>by simp⟩
section
variable {any:Bool} {g:Int} {c:Nat} {ids:List Int}
theorem cC.Dk (h:cC any g c ids):0<=g/\g<=1099511627776:=by
 have h1:=(oz ids 0).1;rw[h.gr];refine⟨h1,?_⟩;rcases oA ids 0 with q | q
 ·omega
 ·exact(h.rn _ q).2
theorem cC.top (h:cC any g c ids) {x:Int} (hx:x∈ids):x<=g:=by rw[h.gr];exact(oz ids 0).2 x hx
theorem cC.C4 (h:cC any g c ids) (a:any=false):ids=[]:=by
 have:=h.an;rw[a]at this;simpa using this.symm
theorem cC.old (h:cC any g c ids) (x:Int):gU ids x=(any&&decide (x<=g - 64)):=by unfold gU;rw[h.an,h.gr]
theorem cC.has (h:cC any g c ids) {x:Int} (b:gU ids x=false) (a:any=true) (d:x<=g):jB ids x=c.testBit (g - x).toNat:=by
 rw[h.old,a]at b;have h2:¬x<=g - 64:=by simpa using b
 rw[h.bt (g - x).toNat (by omega),show g - ((g - x).toNat:Int)=x by omega];unfold jB;rw[h.old,a];simp[h2]
theorem cC.De (h:cC any g c ids) {x:Int} (a:any=false\/wi x 0 1099511627776=false\/gU ids x=true\/g < x):jB ids x=false:=by
 unfold jB;rcases a with q | q | q | q
 ·rw[h.C4 q];simp
 ·have hx:x ∉ ids:=fun hm=>by have:=h.rn x hm;have:=iK.1 q;omega
  simp[hx]
 ·rw[q];simp
 ·have hx:x ∉ ids:=fun hm=>by have:=h.top hm;omega
  simp[hx]
theorem l7 {x:Int} (h:wi x 0 1099511627776=false\/gU ids x=true\/jB ids x=true):fa ids x=false:=by
 unfold fa;rcases h with q | q | q<;>rw[q]<;>simp
theorem sN {x:Int} (h1:wi x 0 1099511627776=true) (h2:gU ids x=false) (a:jB ids x=false):fa ids x=true:=by
 unfold fa;rw[h1,h2,a];rfl
theorem kU (ids:List Int) (x:Int):(ids++[x]).isEmpty=false:=by simp
theorem xS (k:Nat):(1:Nat).testBit k=decide (k=0):=by
 cases k with
 | zero=>rfl
 | succ k=>rw[Nat.testBit_succ];simp
theorem y6 (c d k:Nat) (a:k < 64):(((c*2^d) % 2^64)||| 1).testBit k=(decide (k=0)||(decide (d<=k)&&c.testBit (k - d))):=by
 rw[Nat.testBit_or,Nat.testBit_mod_two_pow,xS,Nat.testBit_mul_two_pow];simp only[a,decide_true,Bool.true_and];rw[Bool.or_comm]
theorem cC.up (h:cC any g c ids) {x:Int} {d:Nat} (hx:0<=x/\x<=1099511627776) (b:any=false\/g < x) (o:d=min (x - g).toNat 64):cC true x (((c*2^d) % 2^64)||| 1) (ids++[x]):=by
 have r:ke 0 ids<=x:=by
  rcases b with q | q
  ·rw[h.C4 q];exact hx.1
  ·rw[<-h.gr];omega
 have m:∀k:Nat,x - (k:Int)=x↔k=0:=fun k=>by omega
 refine⟨by rw[kU];rfl,?_,?_,fun y hy=> ?_,fun k i=> ?_⟩
 ·rw[lB];split<;>omega
 ·exact Nat.or_lt_two_pow (Nat.mod_lt _ (by decide)) (by decide)
 ·rcases EL.1 hy with hy | hy
  ·exact h.rn y hy
  ·obtain rfl:y=x:=by simpa using hy
   exact hx
 ·rw[y6 _ _ _ i];have hm:decide ((x - (k:Int))∈ids++[x])=(decide (k=0)||decide ((x - (k:Int))∈ids)):=by simp only[EL,F4,m,Bool.decide_or];rw[Bool.or_comm]
  rw[hm];congr 1;rcases b with q | q
  ·have he:=h.C4 q;have n:∀j:Nat,j < 64->c.testBit j=false:=fun j f=>by rw[h.bt j f,he];simp
   rw[n (k - d) (by omega),he];simp
  ·by_cases a:d<=k
   ·have p:d=(x - g).toNat:=by omega
    rw[h.bt (k - d) (by omega)];have e:g - ((k - d:Nat):Int)=x - (k:Int):=by omega
    rw[e];simp[a]
   ·have l:(x - (k:Int)) ∉ ids:=fun hm=>by have:=h.top hm;omega
    simp[a,l]
theorem cC.add (h:cC any g c ids) {x:Int} (hx:0<=x/\x<=1099511627776) (b:any=true) (a:gU ids x=false) (f:x<=g):cC true g (c||| 2^(g - x).toNat) (ids++[x]):=by
 rw[h.old,b]at a;have h2:¬x<=g - 64:=by simpa using a
 refine⟨by rw[kU];rfl,?_,?_,fun y hy=> ?_,fun k d=> ?_⟩
 ·rw[lB,<-h.gr,if_neg (by omega)]
 ·exact Nat.or_lt_two_pow h.lt (Nat.pow_lt_pow_right (by decide) (by omega))
 ·rcases EL.1 hy with hy | hy
  ·exact h.rn y hy
  ·obtain rfl:y=x:=by simpa using hy
   exact hx
 ·rw[Nat.testBit_or,Nat.testBit_two_pow,h.bt k d];have e:g - (k:Int)=x↔(g - x).toNat=k:=by omega
  simp only[EL,F4,Bool.decide_or,e]
end
theorem vZ (c:Nat) (a:c < 2^64) (k:Nat):bits .and .u64 ((c:Int) / 2^k) 1=if c.testBit k then 1 else 0:=by
 have h1:((c:Int) / 2^k)=((c / 2^k:Nat):Int):=by simp
 have b:c / 2^k < 2^64:=Nat.lt_of_le_of_lt (Nat.div_le_self _ _) a;have hw:∀n:Int,0<=n->n < 2^64->IntKind.u64.wrap n=n:=fun n h0 h1=>by simp only[IntKind.wrap,IntKind.bits,IntKind.signed];simp;omega
 rw[h1];show bits .and .u64 ((c / 2^k:Nat):Int) ((1:Nat):Int)=_;rw[(bits_nat .u64 64 (by decide) hw (c / 2^k) 1 b (by decide)).1,Nat.testBit_eq_decide_div_mod_eq];have e:c / 2^k&&& 1=c / 2^k % 2:=Nat.and_two_pow_sub_one_eq_mod (c / 2^k) 1;rw[e];have:=Nat.mod_lt (c / 2^k) (y:=2) (by decide);by_cases q:c / 2^k % 2=1
 ·rw[q];simp
 ·have:c / 2^k % 2=0:=by omega
  rw[this];simp
theorem wj (n:Int) (h0:0<=n) (h1:n < 2^64):IntKind.u64.wrap n=n:=by
 simp only[IntKind.wrap,IntKind.bits,IntKind.signed];simp;omega
theorem wu (a b:Nat) (c:a < 2^64) (d:b < 2^64):bits .or .u64 (a:Int) (b:Int)=((a||| b:Nat):Int):=
 (bits_nat .u64 64 (by decide) wj a b c d).2
theorem xT (c k:Nat) (a:k < 64):Op.shift .shr .u64 (c:Int) .i64 (k:Int)=pure (.int .u64 ((c:Int) / 2^k)):=by
 unfold Op.shift;rw[if_neg (by omega)];have h1:min (k:Int).toNat IntKind.u64.bits=k:=by rw[Eo];exact Nat.min_eq_left (Nat.le_of_lt a)
 simp only[h1];rw[Int.fdiv_eq_ediv_of_nonneg _ (Int.le_of_lt (Int.pow_pos (by decide)))]
theorem pK (c d:Nat):IntKind.u64.wrap ((c:Int)*2^d)=(((c*2^d) % 2^64:Nat):Int):=by
 simp only[IntKind.wrap,IntKind.bits,IntKind.signed];simp
structure eb where
 BY:List (Int × List (List Int))
 ids:List Int
def dv (s:eb) (n:Int):Option (List (List Int)):=(s.BY.find? fun p=>decide (p.1=n)).map (·.2)
def wy (st:List (List Int)):Prop:=1<=st.length/\st.length<=512/\∀b∈st,b.length=16/\bA b
structure ey (s:eb):Prop where
 nd:(s.BY.map (·.1)).Nodup
 ob:∀p∈s.BY,wy p.2
 ln:s.BY.length<=4
def uM:eb:=⟨[],[]⟩
theorem ey.zero:ey uM:=⟨by simp[uM],fun p hp=>(by cases hp),by decide⟩
theorem wA {s:eb} {st:List (List Int)} (h:dv s n=some st):(n,st)∈s.BY:=by
 unfold dv at h;cases hf:s.BY.find? (fun p=>decide (p.1=n))with
 | none=>rw[hf]at h;cases h
 | some p=>
  rw[hf]at h;have h1:=List.find?_some hf;have h2:=List.mem_of_find?_eq_some hf;have a:p.1=n:=by simpa using h1
  have b:p.2=st:=by simpa using h
  rw[<-a,<-b];exact h2
theorem ey.get {s:eb} (h:ey s) {st:List (List Int)} (a:dv s n=some st):wy st:=h.ob _ (wA a)
def rp (code:Int) (l:Cp):Cp:=⟨7,l.id,l.obj,[],[],0,0,[],code⟩
def fo (l:Cp):Cp:=⟨2,l.id,l.obj,[],[],0,0,[],0⟩
def ie (all:List (List Int)) (ps:List Int):List Sh:=ps.map fun p=>(p,all.getD p.toNat [],gA all p.toNat)
def mN (l:Cp) (all:List (List Int)):Cp:=⟨4,l.id,l.obj,[],ie all l.places,0,0,[],0⟩
def kD (l:Cp) (all:List (List Int)):Cp:=⟨6,l.id,l.obj,[],[],l.Cq,0,(all.drop l.Cq.toNat).take l.Cs.toNat,0⟩
def fJ (s:eb) (l:Cp):List Int:=if fa s.ids l.id=true then s.ids++[l.id]else s.ids
def fX (s:eb) (l:Cp):eb:=match dv s l.obj with
 | some _=>⟨s.BY,fJ s l⟩
 | none=>if 4<=s.BY.length then⟨s.BY,fJ s l⟩else⟨s.BY++[(l.obj,l.blocks)],fJ s l⟩
def eH (s:eb) (l:Cp):Cp:=match dv s l.obj with
 | some st=>if fa s.ids l.id=false\/st=l.blocks then fo l else rp 10 l
 | none=>if 4<=s.BY.length then rp 12 l else fo l
def gB (s:eb) (l:Cp):Cp:=match dv s l.obj with
 | none=>rp 11 l
 | some all=>if ∀p∈l.places,p < (all.length:Int)then mN l all else rp 1 l
def fp (s:eb) (l:Cp):Cp:=match dv s l.obj with
 | none=>rp 11 l
 | some all=>if (all.length:Int)<=l.Cq then rp 1 l else if aW (kD l all)=0 then kD l all else rp 3 l
def du (s:eb) (l:Cp):eb:=if aW l=0/\l.kind=1 then fX s l else s
def bO (s:eb) (l:Cp):Cp × Bool:=
 if aW l=0 then(if l.kind=1 then(eH s l,true)else if l.kind=3 then(gB s l,true)else if l.kind=5 then(fp s l,true)else(dI,false))else(dI,false)
theorem wB {s:eb} {st:List (List Int)} {ids:List Int} (a:dv s n=none) (x:Int):dv ⟨s.BY++[(n,st)],ids⟩ x=if x=n then some st else dv s x:=by
 unfold dv;simp only[List.find?_append,Option.map_or];by_cases hx:x=n
 ·subst hx;unfold dv at a;cases hf:s.BY.find? (fun p=>decide (p.1=x))with
  | some p=>rw[hf]at a;cases a
  | none=>simp
 ·rw[if_neg hx];have:¬n=x:=fun q=>hx q.symm
  cases hf:s.BY.find? (fun p=>decide (p.1=x))with
  | some p=>simp
  | none=>simp[this]
theorem tW {s:eb} (h:dv s n=none):n ∉ s.BY.map (·.1):=fun hm=>by
 obtain⟨p,hp,rfl⟩:=List.mem_map.1 hm;unfold dv at h;cases hf:s.BY.find? (fun q=>decide (q.1=p.1))with
 | some q=>rw[hf]at h;cases h
 | none=>have:=List.find?_eq_none.1 hf p hp;simp at this
theorem rq {l:Cp} (h:aW l=0) (e:l.kind=1) (d:∀b∈l.blocks,bA b):wy l.blocks:=by
 obtain⟨_,_,a,_,_⟩:=iY h;unfold bH at a;rw[if_pos (.inl e),Ek]at a;have hw:=bJ.1 a.1;have c:∀x∈l.blocks,fk x=false:=df a.2;exact⟨by omega,by omega,fun b hm=>⟨fI (c b hm),d b hm⟩⟩
theorem ey.put {s:eb} (h:ey s) {l:Cp} (f:aW l=0) (g:l.kind=1) (c:∀b∈l.blocks,bA b):ey (fX s l):=by
 unfold fX;cases hg:dv s l.obj with
 | some st=>exact⟨h.nd,h.ob,h.ln⟩
 | none=>
  simp only;by_cases d:4<=s.BY.length
  ·rw[if_pos d];exact⟨h.nd,h.ob,h.ln⟩
  ·rw[if_neg d];refine⟨?_,fun p hp=> ?_,by simp;omega⟩
   ·simp only[List.map_append,List.map_cons,List.map_nil];refine List.nodup_append.2 ⟨h.nd,by simp,fun a e b c=> ?_⟩;simp only[F4]at c;subst c;exact fun q=>tW hg (q▸e)
   ·rcases EL.1 hp with hp | hp
    ·exact h.ob p hp
    ·obtain rfl:p=(l.obj,l.blocks):=by simpa using hp
     exact rq f g c
theorem ey.Dx {s:eb} (h:ey s) {l:Cp} (a:∀b∈l.blocks,bA b):ey (du s l):=by
 unfold du;split
 ·next q=>exact h.put q.1 q.2 a
 ·exact h
theorem rr {l:Cp} (h:aW l=0) (c:l.kind=3):1<=l.places.length/\l.places.length<=12/\∀p∈l.places,0<=p/\p<=511:=by
 obtain⟨_,d,b,_,_⟩:=iY h;obtain⟨_,_,a⟩:=dK d;unfold bH at b;rw[if_neg (by omega),if_pos c]at b;unfold lp at a;rw[if_pos c]at a;have hw:=bJ.1 b;exact⟨by omega,by omega,fun p hp=>iL (df a p hp)⟩
theorem wC {l:Cp} (h:aW l=0) (b:l.kind=5):(1<=l.Cs/\l.Cs<=512)/\(0<=l.Cq/\l.Cq<=511):=by
 obtain⟨_,c,_,_,_⟩:=iY h;obtain⟨_,_,a⟩:=dK c;unfold lp at a;rw[if_neg (by omega),if_neg (by omega),if_pos b,Ek]at a;exact⟨bJ.1 a.1,bJ.1 a.2⟩
end Go.Proofs.Bl
