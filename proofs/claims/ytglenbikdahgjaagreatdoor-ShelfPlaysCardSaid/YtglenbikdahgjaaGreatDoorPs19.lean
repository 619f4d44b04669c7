/- The contracts of slices.Sorted over maps.Keys, laid. -/
import Derived.Shelf.SlIterI.Nil
import Derived.Shelf.SortM.Plain
import Derived.Shelf.SortM.SortNone
import Derived.Ground.GgzProg
import Derived.Ground.SlgmProg
import Derived.Test.YtglenbikdahgjaaGreatDoorPs13
set_option maxRecDepth 100000
set_option maxHeartbeats 16000000
open Bool renaming and_eq_true->Du
open Go renaming Calls->CZ,Value->CQ,World->CP,callsIn_wide->Gi,maxLen->Dc
open Go.Fence renaming wide->E4
open Go.Region renaming wanted->C8
open Go.RowKit.Below renaming refl->CT
open Go.Value renaming int->Dx
open Go.World renaming cell?_alloc_new->Df,cell?_of_block->Dp
open List renaming append_assoc->DH,append_nil->DV,getD_eq_getElem?_getD->CR,getElem?_eq_getElem->CV,length_append->C7,length_map->CY,map_map->FM,mem_map->DM,pairwise_iff_getElem->Gt,take_of_length_le->CX,take_zero->Ek
open Nat renaming le_refl->CU,le_trans->Dk,lt_of_lt_of_le->Dd,zero_add->Dq,zero_le->C9
section
open Go.Shelf
namespace Go.Proofs
open Go Go.RowKit Go.Proofs
open Go.Proofs.Tryz renaming ntmps60->Gs,prog->CO,underlying23->Gb,underlying3->DP
def Tryz.BX:Go.Shelf.Ren:=⟨fun | 7=>62 | 10=>108 | n=>n,fun | 23=>84 | 26=>3 | 3=>22 | 28=>124 | 0=>0 | 27=>123 | 33=>93 | 4=>4 | n=>n,fun | n=>n⟩
theorem Tryz.Ch:Go.Proofs.SlLaysZI.n7 CO Tryz.BX:= {
 mixed:=by kernel_rfl
 f7:=⟨Tryz.f62.name,by decide,Tryz.func62.trans (congrArg some (by kernel_rfl))⟩
 f10:=⟨Tryz.f108.name,by decide,Tryz.func108.trans (congrArg some (by kernel_rfl))⟩
 t0:=Tryz.underlying0
 a0:=Tryz.isAgg0
 z0:=Tryz.sizeOf0
 v0:=Tryz.zeroValue0
 t4:=Tryz.underlying4
 a4:=Tryz.isAgg4
 z4:=Tryz.sizeOf4
 v4:=Tryz.zeroValue4
 t23:=Tryz.underlying84
 a23:=Tryz.isAgg84
 z23:=Tryz.sizeOf84
 v23:=Tryz.zeroValue84
 t26:=DP
 a26:=Tryz.isAgg3
 z26:=Tryz.sizeOf3
 v26:=Tryz.zeroValue3
 t27:=Tryz.underlying123
 a27:=Tryz.isAgg123
 z27:=Tryz.sizeOf123
 v27:=Tryz.zeroValue123
 t28:=Tryz.underlying124
 a28:=Tryz.isAgg124
 z28:=Tryz.sizeOf124
 v28:=Tryz.zeroValue124
 t33:=Tryz.underlying93
 a33:=Tryz.isAgg93
 z33:=Tryz.sizeOf93
 v33:=Tryz.zeroValue93}
def Tryz.BR:Go.Shelf.Ren:=⟨fun | 6=>61 | 8=>106 | 9=>107 | 11=>143 | 13=>145 | 12=>144 | 23=>163 | 24=>164 | 14=>154 | 15=>155 | 16=>156 | 17=>157 | 18=>158 | 19=>159 | 20=>160 | 21=>161 | 22=>162 | 25=>168 | 26=>169 | 27=>170 | 28=>171 | 29=>172 | 30=>173 | 31=>176 | n=>n,fun | 26=>3 | 28=>124 | 24=>23 | 0=>0 | 3=>3 | 37=>186 | 48=>187 | 50=>132 | 4=>4 | 40=>214 | 39=>213 | 45=>180 | 5=>5 | 9=>9 | 51=>223 | 55=>227 | 57=>230 | 58=>231 | 33=>93 | n=>n,fun | n=>n⟩
theorem Tryz.Co:Go.Proofs.SlLaysZI.n6 CO Tryz.BR:= {
 mixed:=by kernel_rfl
 f6:=⟨Tryz.f61.name,by decide,Tryz.func61.trans (congrArg some (by kernel_rfl))⟩
 f8:=⟨Tryz.f106.name,by decide,Tryz.func106.trans (congrArg some (by kernel_rfl))⟩
 f11:=⟨Tryz.f143.name,by decide,Tryz.func143.trans (congrArg some (by kernel_rfl))⟩
 t0:=Tryz.underlying0
 a0:=Tryz.isAgg0
 z0:=Tryz.sizeOf0
 v0:=Tryz.zeroValue0
 t24:=Gb
 a24:=Tryz.isAgg23
 z24:=Tryz.sizeOf23
 v24:=Tryz.zeroValue23
 t26:=DP
 a26:=Tryz.isAgg3
 z26:=Tryz.sizeOf3
 v26:=Tryz.zeroValue3
 t28:=Tryz.underlying124
 a28:=Tryz.isAgg124
 z28:=Tryz.sizeOf124
 v28:=Tryz.zeroValue124
 i26:=by kernel_rfl}
def Tryz.B8:Go.Shelf.Ren:=⟨fun | 5=>107 | 8=>145 | 7=>144 | 19=>163 | 20=>164 | 10=>154 | 11=>155 | 12=>156 | 13=>157 | 14=>158 | 15=>159 | 16=>160 | 17=>161 | 18=>162 | 30=>168 | 31=>169 | 32=>170 | 33=>171 | 34=>172 | 35=>173 | 40=>176 | n=>n,fun | 23=>23 | 25=>3 | 3=>3 | 32=>186 | 22=>23 | 0=>0 | 44=>187 | 46=>132 | 4=>4 | 36=>214 | 35=>213 | 41=>180 | 5=>5 | 9=>9 | 53=>223 | 57=>227 | 63=>230 | 64=>231 | n=>n,fun | n=>n⟩
theorem Tryz.Cn:Go.Proofs.SlLaysM.n5 CO Tryz.B8:= {
 mixed:=by kernel_rfl
 f5:=⟨Tryz.f107.name,by decide,Tryz.func107.trans (congrArg some (by kernel_rfl))⟩
 f7:=⟨Tryz.f144.name,by decide,Tryz.func144.trans (congrArg some (by kernel_rfl))⟩
 f8:=Tryz.func145.trans (congrArg some (by kernel_rfl))
 f10:=⟨Tryz.f154.name,by decide,Tryz.func154.trans (congrArg some (by kernel_rfl))⟩
 f11:=⟨Tryz.f155.name,by decide,Tryz.func155.trans (congrArg some (by kernel_rfl))⟩
 f12:=⟨Tryz.f156.name,by decide,Tryz.func156.trans (congrArg some (by kernel_rfl))⟩
 f13:=⟨Tryz.f157.name,by decide,Tryz.func157.trans (congrArg some (by kernel_rfl))⟩
 f14:=⟨Tryz.f158.name,by decide,Tryz.func158.trans (congrArg some (by kernel_rfl))⟩
 f15:=⟨Tryz.f159.name,by decide,Tryz.func159.trans (congrArg some (by kernel_rfl))⟩
 f16:=⟨Tryz.f160.name,by decide,Tryz.func160.trans (congrArg some (by kernel_rfl))⟩
 f17:=⟨Tryz.f161.name,by decide,Tryz.func161.trans (congrArg some (by kernel_rfl))⟩
 f18:=⟨Tryz.f162.name,by decide,Tryz.func162.trans (congrArg some (by kernel_rfl))⟩
 f19:=Tryz.func163.trans (congrArg some (by kernel_rfl))
 f20:=Tryz.func164.trans (congrArg some (by kernel_rfl))
 f30:=⟨Tryz.f168.name,by decide,Tryz.func168.trans (congrArg some (by kernel_rfl))⟩
 f31:=Tryz.func169.trans (congrArg some (by kernel_rfl))
 f32:=Tryz.func170.trans (congrArg some (by kernel_rfl))
 f33:=⟨Tryz.f171.name,by decide,Tryz.func171.trans (congrArg some (by kernel_rfl))⟩
 f34:=⟨Tryz.f172.name,by decide,Tryz.func172.trans (congrArg some (by kernel_rfl))⟩
 f35:=⟨Tryz.f173.name,by decide,Tryz.func173.trans (congrArg some (by kernel_rfl))⟩
 f40:=⟨Tryz.f176.name,by decide,Tryz.func176.trans (congrArg some (by kernel_rfl))⟩
 t0:=Tryz.underlying0
 a0:=Tryz.isAgg0
 z0:=Tryz.sizeOf0
 v0:=Tryz.zeroValue0
 t3:=DP
 a3:=Tryz.isAgg3
 z3:=Tryz.sizeOf3
 v3:=Tryz.zeroValue3
 t4:=Tryz.underlying4
 a4:=Tryz.isAgg4
 z4:=Tryz.sizeOf4
 v4:=Tryz.zeroValue4
 t5:=Tryz.underlying5
 a5:=Tryz.isAgg5
 z5:=Tryz.sizeOf5
 v5:=Tryz.zeroValue5
 t9:=Tryz.underlying9
 a9:=Tryz.isAgg9
 z9:=Tryz.sizeOf9
 v9:=Tryz.zeroValue9
 t22:=Gb
 a22:=Tryz.isAgg23
 z22:=Tryz.sizeOf23
 v22:=Tryz.zeroValue23
 t23:=Gb
 a23:=Tryz.isAgg23
 z23:=Tryz.sizeOf23
 v23:=Tryz.zeroValue23
 t25:=DP
 a25:=Tryz.isAgg3
 z25:=Tryz.sizeOf3
 v25:=Tryz.zeroValue3
 t32:=Tryz.underlying186
 a32:=Tryz.isAgg186
 z32:=Tryz.sizeOf186
 v32:=Tryz.zeroValue186
 t35:=Tryz.underlying213
 a35:=Tryz.isAgg213
 z35:=Tryz.sizeOf213
 v35:=Tryz.zeroValue213
 t36:=Tryz.underlying214
 a36:=Tryz.isAgg214
 z36:=Tryz.sizeOf214
 v36:=Tryz.zeroValue214
 t41:=Tryz.underlying180
 a41:=Tryz.isAgg180
 z41:=Tryz.sizeOf180
 v41:=Tryz.zeroValue180
 t44:=Tryz.underlying187
 a44:=Tryz.isAgg187
 z44:=Tryz.sizeOf187
 v44:=Tryz.zeroValue187
 t46:=Tryz.underlying132
 a46:=Tryz.isAgg132
 z46:=Tryz.sizeOf132
 v46:=Tryz.zeroValue132
 t53:=Tryz.underlying223
 a53:=Tryz.isAgg223
 z53:=Tryz.sizeOf223
 v53:=Tryz.zeroValue223
 t57:=Tryz.underlying227
 a57:=Tryz.isAgg227
 z57:=Tryz.sizeOf227
 v57:=Tryz.zeroValue227
 t63:=Tryz.underlying230
 a63:=Tryz.isAgg230
 z63:=Tryz.sizeOf230
 v63:=Tryz.zeroValue230
 t64:=Tryz.underlying231
 a64:=Tryz.isAgg231
 z64:=Tryz.sizeOf231
 v64:=Tryz.zeroValue231}
end Go.Proofs
end
namespace Go.Proofs.Bl
open Go Go.RowKit Go.Proofs
open Go.Proofs.Tryz renaming ntmps60->Gs,prog->CO,underlying23->Gb,underlying3->DP
variable {m i:Nat}
section
open Go.Maps
theorem kM {H:Type} (x:Lit × DataW H):∀l,(DataW.insert x l).Perm (x :: l)
 | []=>.refl _
 | y :: r=>by
  unfold DataW.insert;split
  ·exact .refl _
  ·exact((kM x r).cons y).trans (.swap x y r)
theorem jr {H:Type}:∀l:List (Lit × DataW H),(l.foldr DataW.insert []).Perm l
 | []=>.refl _
 | x :: l=>(kM x _).trans ((jr l).cons x)
theorem bJ.own {P:Program} {k:TypeId} (j:P.underlying k=some (.int .i64)) {w:CP} {mp:List (Int × CQ)} (h:bJ w m mp) (hw:∀p∈mp,(Lit.int .i64 p.1).wf=true) (o:mp.length<=Dc):
  ∃d:DataW Unit,w.ownsMap P k (fun _=>some (.lit (.bool true),[])) m mp.length d/\(intKeys d).Perm (mp.map (·.1))/\Maps.size d=mp.length:=by
 obtain⟨es,c,h1,h2,i⟩:=h;have n:es.size=mp.length:=by have:=congrArg List.length h2;simpa using this
 have g:∀x∈es.toList,∃p∈mp,x.key=.int .i64 p.1/\Go.WideElems.rd (H:=Unit) P k (fun _=>some (.lit (.bool true),[])) x=some (.int .i64 p.1,.lit (.bool true)):=fun x hx=>by obtain⟨p,hp,b,f⟩:=bJ.key h2 hx;refine⟨p,hp,b,?_⟩;unfold Go.WideElems.rd;rw[b,keyOf_int_mk j (hw p hp)];rfl
 have l:es.toList.map (Go.WideElems.rg (H:=Unit) P k (fun _=>some (.lit (.bool true),[])))=mp.map fun p=>(Lit.int .i64 p.1,DataW.lit (.bool true)):=by
  have e:mp.map (fun p=>(Lit.int .i64 p.1,(DataW.lit (.bool true):DataW Unit)))=(mp.map fun x=>(Dx .i64 x.1,x.2)).map fun y=>(match y.1 with | .int _ a=>Lit.int .i64 a | _=>.bool false,DataW.lit (.bool true)):=by rw[FM];rfl
  rw[e,<-h2,FM];refine List.map_congr_left fun x hx=> ?_
  obtain⟨p,hp,b,f⟩:=g x hx;unfold Go.WideElems.rg;rw[f];show _=((match x.key with | .int _ a=>Lit.int .i64 a | _=>.bool false),_);rw[b];rfl
 refine⟨_,⟨es,c,h1,⟨by omega,i,fun x hx=> ?_⟩,by omega,rfl⟩,?_,?_⟩
 ·obtain⟨p,_,_,e⟩:=g x hx;exact⟨_,e⟩
 ·rw[l];show((List.foldr DataW.insert [] _).map fun p=>Go.intOf p.1).Perm _;refine((jr _).map _).trans ?_;rw[FM];exact .refl _
 ·rw[Maps.size_eq,(jr _).length_eq,CY,Array.length_toList,n]
def dA (s:bL):List Int:=(s.AT.map (·.1)).mergeSort fun x y=>decide (x<=y)
def mn (s:bL):Prop:=∀p∈s.AT,0<=p.1/\p.1<=1099511627776
theorem js (s:bL):(dA s).Perm (s.AT.map (·.1)):=List.mergeSort_perm _ _
theorem ku (s:bL):(dA s).length=s.AT.length:=by rw[(js s).length_eq,CY]
theorem tm {s:bL} {n:Int} (h:n∈dA s):(bn s n).isSome=true:=by
 have h1:=(js s).mem_iff.1 h;obtain⟨p,hp,rfl⟩:=DM.1 h1;unfold bn;rw[Option.isSome_map,List.find?_isSome];exact⟨p,hp,by simp⟩
theorem vF {s:bL} (h:cH s) (d:i+1 < (dA s).length):(dA s).getD i 0 < (dA s).getD (i+1) 0:=by
 have f:∀a b c:Int,decide (a<=b)=true->decide (b<=c)=true->decide (a<=c)=true:=fun a b c h1 h2=>by simp only[decide_eq_true_eq]at*;omega
 have to:∀a b:Int,(decide (a<=b)||decide (b<=a))=true:=fun a b=>by simp only[Bool.or_eq_true,decide_eq_true_eq];omega
 have h1:=List.pairwise_mergeSort f to (s.AT.map (·.1));have h2:(dA s).Nodup:=(js s).nodup_iff.2 h.nd;rw[Gt]at h1;have e:=h1 i (i+1) (by exact(by omega:i < (dA s).length)) d (Nat.lt_succ_self i);have g:=(Gt.1 h2) i (i+1) (by omega) d (Nat.lt_succ_self i);have j:(dA s)[i]'(by omega)<=(dA s)[i+1]'d:=of_decide_eq_true e;rw[CR,CR,CV (by omega:i < (dA s).length),CV d];simp only[Option.getD_some];omega
theorem eR.keys {N Q:Nat->Prop} {w:CP} {b d:Nat} {mp:List (Int × Value)} {s:bL} (h:eR N Q w b m d mp s) (c:cH s):(mp.map (·.1)).Perm (s.AT.map (·.1)):=by
 refine(List.perm_ext_iff_of_nodup h.mt.nd c.nd).2 fun n=> ?_
 constructor
 ·intro a;obtain⟨p,hp,rfl⟩:=List.mem_map.1 a;obtain⟨st,h1,_⟩:=h.row (eO h.mt.nd hp);exact List.mem_map_of_mem (f:=fun x:Int × List (List Int)=>x.1) (oC h1)
 ·intro a;obtain⟨p,hp,rfl⟩:=List.mem_map.1 a;cases hg:bn s p.1 with
  | none=>unfold bn at hg;rw[Option.map_eq_none_iff,List.find?_eq_none]at hg;exact absurd (by simp) (hg p hp)
  | some st=>obtain⟨v,h1,_⟩:=h.some hg;exact List.mem_map_of_mem (f:=fun x:Int × Value=>x.1) (dt h1)
end
section
open Go.Maps Go.Shelf Go.Sort
theorem yo (m:Nat):AnyZI.SortsIn CO Tryz.BR E4 m:=
 ⟨fun a off cap e W b c d=>Gi.2 (AnyM.slices_Sort_int Tryz.Cn a off cap e W b c d),
  fun p cap W=>Gi.2 (AnyM.slices_Sort_int_none Tryz.Cn p cap W)⟩
theorem vG (b:Nat) (N Q:Nat->Prop) (s:bL) (w:CP) (j:gx N Q w b s) (o:cH s) (A:mn s):
  CZ CO 32 #[.pointer (some ⟨b,0,none⟩)] w fun e w'=>∃v,e=.returned v/\Bu w' .i64 v (dA s)/\au w w':=by
 obtain⟨m,O,mp,c⟩:=j;have l:=c.keys o;have hlen:mp.length<=4:=by rw[c.ln];exact o.ln
 obtain⟨d,r,B,t⟩:=bJ.own (P:=CO) DP c.mt (fun p hp=>by
  have h1:p.1∈s.AT.map (·.1):=l.mem_iff.1 (List.mem_map_of_mem (f:=fun x:Int × Value=>x.1) hp);obtain⟨q,H,e⟩:=DM.1 h1;have:=A q H;rw[e]at this;simp only[Lit.wf,Du,decide_eq_true_eq]
  exact⟨by show(-9223372036854775808:Int)<=_;omega,by show _<=(9223372036854775807:Int);omega⟩) (by unfold Dc;omega)
 have J:=c.bx.cell (i:=0) (v:=.map (some m)) rfl;have z:=r.lt;have D:SeqGives E4 2 CO 108 #[.pointer (some ⟨w.heap.size,0,none⟩)] encZ (fun a=>a.Perm (intKeys d)) (Maps.size d) (w.alloc (.cells #[.map (some m)] 84)):=
  AnyZI.keys_gives (ρ :=Tryz.BX) {Tryz.Ch with} E4 _ trivial rfl (by omega) w.heap.size m mp.length d _ (by simp) (by simp) (by
   obtain⟨es,clock,k,E,I,G⟩:=r
   exact⟨es,clock,(Below.heap_alloc _ _ m z).trans k,E,I,G⟩)
 have cK:Hid (∀g W,CallsIn E4 5 CO 62 #[.map g] W fun e w'=>e=.returned (.func (.func 108) #[] #[.pointer (some ⟨W.heap.size,0,none⟩)])/\w'=W.alloc (.cells #[.map g] 84)):=aa fun g W=>AnyZI.keys_in Tryz.Ch E4 5 trivial rfl g W
 have cS:=AnyZI.sorted_in Tryz.Co E4 5 trivial trivial trivial trivial rfl (by omega) (yo _) (enters_of Tryz.func107 (by kernel_rfl) rfl) 108 #[.pointer (some ⟨w.heap.size,0,none⟩)] trivial (enters_of Tryz.func108 (by kernel_rfl) rfl) _ _ (by rw[t];unfold Dc;omega) (by rw[t];omega) _ D;change CallsIn _ _ CO 61 _ _ _ at cS;have cS:=aa cS;have F:Hid (∀a:List Int,a.Perm (intKeys d)->(a.mergeSort fun x y=>decide (x<=y))=dA s/\a.length=(dA s).length):=aa fun a h=>by have h1:=h.trans (B.trans l);exact⟨mergeSort_of_perm_i h1,by rw[h1.length_eq,ku,CY]⟩
 clear c l hlen r B t D z o A;refine(Gi (n:=6)).1 ?_;have K:Fence.wide.fn 62:=trivial;have L:Fence.wide.fn 61:=trivial;refine callsIn_of_wp Tryz.func32 rfl trivial ?_ rfl;simp only[Tryz.ntmps32,List.size_toArray,List.length_cons,List.length_nil,Nat.reduceAdd,Nat.reduceSub,Array.replicate_succ,Array.replicate_zero,List.push_toArray,List.append_toArray,List.nil_append,List.cons_append]
 gi_wp2_with (first
  | (gi_at_call 62;refine(cK _ _).mono ?_;rintro e w' ⟨rfl,rfl⟩)
  | (gi_at_call 61;refine cS.mono ?_;rintro e w' ⟨v,a,rfl,j,C,M,k⟩))
 go_ret;obtain⟨h1,h2⟩:=F a j;rw[h1]at C;refine⟨v,rfl,?_,(ae _ _).trans (k.mono (by simp))⟩;have u:=aX.AS C;rw[h2]at u;exact u
end
structure eQ (w0:CP) (cs:List CQ) (w:CP) (v:CQ) (n:Nat) (l:List Int):Prop where
 box:aw w w0.heap.size cs
 own:Pk w (w0.heap.size+1) 1 v n (aj .u8 l)
 ext:au w0 w
section
variable {w0 w w':CP} {cs:List CQ} {v v':CQ} {n m:Nat} {l u:List Int}
theorem eQ.ext' (h:eQ w0 cs w v n l) (a:au w w'):eQ w0 cs w' v n l:=⟨h.box.ext a,h.own.ext a,h.ext.trans a⟩
theorem eQ.le (h:eQ w0 cs w v n l):w0.heap.size+1<=w.heap.size:=h.box.lt
theorem eQ.push (h:eQ w0 cs w v n l) (h2:Pk w' (w0.heap.size+1) 1 v' (n+m) (aj .u8 l++aj .u8 u)) (a:w.grownBy w' v.ownBlock):eQ w0 cs w' v' (n+m) (l++u):=by
 refine⟨h.box.grown a (fun q=>by have:=(h.own.block _ q).1;omega),by rw[aP];exact h2,h.ext.grown a h.ext.size (fun k b=>by have:=(h.own.block k b).1;omega)⟩
theorem eQ.form (h:eQ w0 cs w v n l):∃p c,v=.slice p n c:=by
 obtain⟨p,c,h1,_⟩:=h.own.BD.form;exact⟨p,c,h1⟩
theorem eQ.rd (h:eQ w0 cs w v n l) (a:l.length=n):Bu w .u8 v l:=by
 subst a;exact h.own.BD
end
theorem gW (w:CP) (e:TypeId) (c:CQ) {B:Nat} (a:B<=w.heap.size):Pk (w.alloc (.cells #[c] e)) B 1 (.slice (some ⟨w.heap.size,0,none⟩) 1 1) 1 [c]:=Pk.AS (cX w e #[c] B 1 1 a (by decide) rfl)
theorem dy {w:CP} {v:CQ} {l:List Int} (h:dD w v l) (h0:0 < l.length):∃b o c,v=.slice (some ⟨b,o,none⟩) l.length c/\w.rangeAt b o (aj .u8 l):=by
 obtain⟨p,c,rfl,d⟩:=h;obtain⟨b,o,a,h1,_,_,_,h2,_⟩:=Bu.pos d h0;exact⟨b,o,a,h1,h2⟩
theorem xF (l:List (List Int)) (h:i < l.length):l.getD i []∈l:=by
 rw[CR,CV h];exact List.getElem_mem h
theorem rD {c:Int} {j:Nat} {x:CQ} (hx:(aj .u8 [c])[j]? =some x):(#[Dx .u8 c])[j]? =some x:=by
 cases j with
 | zero=>exact hx
 | succ j=>cases hx
structure JL (W n:Nat) (v0:CQ) (B:Nat) (l tw st:List Int) (lb:Int) (d:Nat->Bool) (u:Nat->CQ) (w:CP):Prop where
 le:W<=w.heap.size
 bw:B<=W
 a:d 4=false->Pk w B 1 v0 n (aj .u8 l)
 b:d 3=true->d 4=false->∃b o c,u 105=.slice (some ⟨b,o,none⟩) 2 c/\w.rangeAt b o (aj .u8 tw)
 c:d 4=true->d 7=false->Pk w B 1 (u 106) (n+2) (aj .u8 l++aj .u8 tw)/\∀k,(u 106).ownBlock=some k->v0.ownBlock=some k\/W<=k
 f:d 7=true->Pk w B 1 (u 109) (n+2+16) (aj .u8 l++aj .u8 tw++aj .u8 st)
 g:d 12=true->∃g,u 114=.slice (some ⟨g,0,none⟩) 1 1/\W<=g/\g < w.heap.size/\w.rangeAt g 0 [.int .u8 lb]/\(d 4=true->d 7=false->(u 106).ownBlock≠some g)/\(d 7=true->(u 109).ownBlock≠some g)
 h:v0.ownBlock=none\/∃k,v0.ownBlock=some k/\k < W
 k9:d 7=true->∀k,(u 109).ownBlock=some k->v0.ownBlock=some k\/W<=k
section
variable {W n B:Nat} {v0:CQ} {l tw st:List Int} {lb:Int} {d:Nat->Bool} {u:Nat->CQ} {w w':CP}
theorem JL.start (h:Pk w B 1 v0 n (aj .u8 l)) (a:W=w.heap.size) (b:B<=W):JL W n v0 B l tw st lb (fun _=>false) u w:=
 ⟨Nat.le_of_eq a,b,fun _=>h,fun q=>(by cases q),fun q=>(by cases q),fun q=>(by cases q),fun q=>(by cases q),by
  cases hv:v0.ownBlock with
  | none=>exact .inl rfl
  | some k=>exact .inr ⟨k,rfl,by rw[a];exact(h.block k hv).2⟩,fun q=>(by cases q)⟩
theorem JL.ext {i t:Nat} {v:CQ} (h:JL W n v0 B l tw st lb d u w) (j:au w w') (A:(decide (i=3)||decide (i=4)||decide (i=7)||decide (i=12)||decide (t=105)||decide (t=106)||decide (t=109)||decide (t=114))=false):JL W n v0 B l tw st lb (bW d i) (bH (some t) u v) w':=by
 simp only[Bool.or_eq_false_iff,decide_eq_false_iff_not]at A;obtain⟨⟨⟨⟨⟨⟨⟨h1,h2⟩,H⟩,I⟩,J⟩,K⟩,L⟩,M⟩:=A;have a3:bW d i 3=d 3:=if_neg (fun e=>h1 e.symm);have a4:bW d i 4=d 4:=if_neg (fun e=>h2 e.symm);have k:bW d i 7=d 7:=if_neg (fun e=>H e.symm);have a12:bW d i 12=d 12:=if_neg (fun e=>I e.symm);have D:bH (some t) u v 105=u 105:=if_neg (fun e=>J e.symm);have s:bH (some t) u v 106=u 106:=if_neg (fun e=>K e.symm);have o:bH (some t) u v 109=u 109:=if_neg (fun e=>L e.symm);have C:bH (some t) u v 114=u 114:=if_neg (fun e=>M e.symm);refine⟨Dk h.le j.size,h.bw,?_,?_,?_,?_,?_,h.h,by rw[k,o];exact h.k9⟩
 ·rw[a4];exact fun q=>(h.a q).ext j
 ·rw[a3,a4,D];exact fun q m=>(by obtain⟨x,y,z,p,r⟩:=h.b q m;exact⟨x,y,z,p,aL r j⟩)
 ·rw[a4,k,s];exact fun q m=>⟨(h.c q m).1.ext j,(h.c q m).2⟩
 ·rw[k,o];exact fun q=>(h.f q).ext j
 ·rw[a12,a4,k,s,o,C];exact fun q=>(by obtain⟨g,p,r,E,F,G⟩:=h.g q;exact⟨g,p,r,Dd E j.size,aL F j,G⟩)
theorem JL.same {i t:Nat} {v:CQ} (h:JL W n v0 B l tw st lb d u w) (a:(decide (i=3)||decide (i=4)||decide (i=7)||decide (i=12)||decide (t=105)||decide (t=106)||decide (t=109)||decide (t=114))=false):JL W n v0 B l tw st lb (bW d i) (bH (some t) u v) w:=h.ext (CT _ _) a
theorem JL.call {v:CQ} (h:JL W n v0 B l tw st lb d u w) (r:d 4=false) (f:d 7=false) (e:au w w') (s:∃b o c,v=.slice (some ⟨b,o,none⟩) 2 c/\w'.rangeAt b o (aj .u8 tw)):JL W n v0 B l tw st lb (bW d 3) (bH (some 105) u v) w':=by
 refine⟨Dk h.le e.size,h.bw,fun q=>(h.a q).ext e,fun _ _=>s,fun q=> ?_,fun q=> ?_,fun q=> ?_,h.h,fun q=>(by have q:d 7=true:=q;rw[f]at q;cases q)⟩
 ·have q:d 4=true:=q;rw[r]at q;cases q
 ·have q:d 7=true:=q;rw[f]at q;cases q
 ·obtain⟨g,i,j,k,m,p⟩:=h.g q;exact⟨g,i,j,Dd k e.size,aL m e,p⟩
theorem JL.BS (h:JL W n v0 B l tw st lb d u w) (e:TypeId):JL W n v0 B l tw st lb (bW d 12) (bH (some 114) u (.slice (some ⟨w.heap.size,0,none⟩) 1 1)) (w.alloc (.cells #[.int .u8 lb] e)):=by
 have i:=ae w (.cells #[.int .u8 lb] e);refine⟨Dk h.le i.size,h.bw,fun q=>(h.a q).ext i,fun q g=>(by obtain⟨x,y,z,k,m⟩:=h.b q g;exact⟨x,y,z,k,aL m i⟩),fun q g=>⟨(h.c q g).1.ext i,(h.c q g).2⟩,fun q=>(h.f q).ext i,fun _=>⟨w.heap.size,rfl,h.le,by rw[World.size_alloc];omega,fun j x hx=> ?_,fun q g z=> ?_,fun q z=> ?_⟩,h.h,h.k9⟩
 ·rw[Dq,Df];exact rD hx
 ·have:=((h.c q g).1.block _ z).2;omega
 ·have:=((h.f q).block _ z).2;omega
theorem JL.Ce {e:CQ} (h:JL W n v0 B l tw st lb d u w) (_:d 4=false) (c:d 7=false) (h2:Pk w' B 1 e (n+2) (aj .u8 l++aj .u8 tw)) (a:w.grownBy w' v0.ownBlock) (b:∀j,e.ownBlock=some j->v0.ownBlock=some j\/w.heap.size<=j):Kq (fun k=>v0.ownBlock=some k\/W<=k) w w'/\JL W n v0 B l tw st lb (bW d 4) (bH (some 106) u e) w':=by
 refine⟨Kq.grown a fun k b=>.inl b,Dk h.le a.size,h.bw,fun q=>(by cases q),fun _ q=>(by cases q),fun _ _=>⟨h2,fun k q=>(b k q).imp id fun z=>Dk h.le z⟩,fun q=> ?_,fun q=> ?_,h.h,fun q=>(by have q:d 7=true:=q;rw[c]at q;cases q)⟩
 ·have q:d 7=true:=q;rw[c]at q;cases q
 ·obtain⟨g,m,o,f,p,s⟩:=h.g q;have i:v0.ownBlock≠some g:=fun z=>by
   rcases h.h with y | ⟨k,r,v⟩
   ·rw[y]at z;cases z
   ·rw[r]at z;injection z with z;omega
  refine⟨g,m,o,Dd f a.size,fun j x hx=>by rw[Dp (w:=w) (a.block g f (fun z=>i z.symm))];exact p j x hx,fun _ _ z=> ?_,fun z=> ?_⟩
  ·rcases b g z with y | y
   ·exact i y
   ·omega
  ·have z:d 7=true:=z;rw[c]at z;cases z
theorem JL.Cf {f:CQ} (h:JL W n v0 B l tw st lb d u w) (a:d 4=true) (e:d 7=false) (h2:Pk w' B 1 f (n+2+16) (aj .u8 l++aj .u8 tw++aj .u8 st)) (b:w.grownBy w' (u 106).ownBlock) (m:∀j,f.ownBlock=some j->(u 106).ownBlock=some j\/w.heap.size<=j):Kq (fun k=>v0.ownBlock=some k\/W<=k) w w'/\JL W n v0 B l tw st lb (bW d 7) (bH (some 109) u f) w':=by
 refine⟨Kq.grown b (h.c a e).2,Dk h.le b.size,h.bw,fun q=> ?_,fun _ q=> ?_,fun _ q=>(by cases q),fun _=>h2,fun q=> ?_,h.h,fun _ k q=> ?_⟩
 ·have q:d 4=false:=q;rw[a]at q;cases q
 ·have q:d 4=false:=q;rw[a]at q;cases q
 ·obtain⟨g,p,r,i,s,t,_⟩:=h.g q;have o:=t a e;refine⟨g,p,r,Dd i b.size,fun j x hx=>by rw[Dp (w:=w) (b.block g i (fun z=>o z.symm))];exact s j x hx,fun _ z=>(by cases z),fun _ z=> ?_⟩;rcases m g z with y | y
  ·exact o y
  ·omega
 ·rcases m k q with y | y
  ·exact(h.c a e).2 k y
  ·exact .inr (Dk h.le y)
end
theorem eG (x:Int) (w:CP) (h0:0<=x) (h1:x<=65535):
  CZ CO 105 #[.int .i64 x] w fun e w'=>∃b o c,e=.returned (.slice (some ⟨b,o,none⟩) 2 c)/\w'.rangeAt b o (aj .u8 (bB x))/\au w w':=
 (uz x w h0 h1).mono fun _ _ ⟨v,h1,h2,d⟩=>by
  obtain⟨b,o,c,a,f⟩:=dy h2 (show 0 < 2 by decide);have a:v=.slice (some ⟨b,o,none⟩) 2 c:=a;subst a;exact⟨b,o,c,h1,f,d⟩
theorem qS (v:CQ) (l:BC) (w:CP) (h:eg w v l) (n:l.kind=1) (hn:br l=true) (hz:bA l=true):
  CZ CO 60 #[v] w fun e w'=>∃v',e=.returned v'/\Bu w' .u8 v' (bE l)/\au w w':=by
 obtain⟨b1,vp,vs,vb,L,rfl,m⟩:=h;obtain rfl:=m.eq;obtain⟨hid,aI,aH⟩:=dr hn;obtain⟨kd,id,j,pl,sh,B,A,a,z⟩:=l;obtain⟨p1,E,Q,az,bt⟩:=m.pl.form;obtain⟨p2,F,H,bi,bu⟩:=m.sh.rd.form;obtain⟨K,G,e3,aA,bv⟩:=m.bl.form;have a5:Hid (Bu w .i64 vp pl):=aa m.pl;have a6:=aa m.sh;have bT:Hid (L.map cC=sh):=aa m.sl;have ak:Hid (aU w vb a):=aa m.bl;simp only at Q H e3 n hid aI az aA;subst Q H e3;clear m hn;unfold Dc at bt bu bv;obtain⟨I,Y⟩:=exq pl.length;obtain⟨J,Z⟩:=exq L.length;obtain⟨d,W⟩:=exq a.length;have bQ:=aa Y;have bR:=aa Z;have D:=aa W;rw[<-Y]at a5 az⊢;rw[<-Z]at a6 bi⊢;rw[<-W]at ak aA⊢;clear Y Z W;have bS:=aa aH;have Hz:=aa hz;clear aH hz;subst n;obtain⟨W0,S⟩:=exq (w.alloc (.cells #[.int .i64 1,.int .i64 id,.int .i64 j,.slice p1 I E,.slice p2 J F,.int .i64 B,.int .i64 A,.slice K d G,.int .i64 z] 43));have aj:Hid (au w W0):=aa (by rw[S];exact ae _ _);obtain⟨f,V⟩:=exq (cL ⟨1,id,j,pl,sh,B,A,a,z⟩ (.slice p1 I E) (.slice p2 J F) (.slice K d G));have C:Hid (aw W0 w.heap.size f):=aa (by rw[S,V];exact aw.box w 43 (cs:=(cL ⟨1,id,j,pl,sh,B,A,a,z⟩ (.slice p1 I E) (.slice p2 J F) (.slice K d G))) (fun h=>by cases h));have s:Hid (f[0]? =some (.int .i64 1)/\f[1]? =some (.int .i64 id)/\f[2]? =some (.int .i64 j)/\f[3]? =some (.slice p1 I E)/\f[4]? =some (.slice p2 J F)/\f[5]? =some (.int .i64 B)/\f[6]? =some (.int .i64 A)/\f[7]? =some (.slice K d G)/\f[8]? =some (.int .i64 z)):=aa (by rw[V];exact⟨rfl,rfl,rfl,rfl,rfl,rfl,rfl,rfl,rfl⟩);show CZ CO 60 #[.agg #[.int .i64 1,.int .i64 id,.int .i64 j,.slice p1 I E,.slice p2 J F,.int .i64 B,.int .i64 A,.slice K d G,.int .i64 z]] w _;obtain⟨bm,bn⟩:=hid;obtain⟨bo,bp⟩:=aI;have a0:IntKind.u8.wrap 1=1:=rfl;clear V;go_enter Tryz.func60,Gs
 go_wp2_with fail
 rw[<-S];clear S;apply aG 7 [12,13,14,15,16,17,18] [ar _,ar _,ar _,(fun v w'=>Pk w' (w.heap.size+1) 1 v 1 [.int .u8 1]),ar _,ar _,(fun v w'=>dD w' v (aM id))] (by kernel_rfl) (by kernel_rfl) (by kernel_rfl) (by kernel_rfl);case hsteps=>
  refine⟨?_,?_,?_,?_,?_,?_,?_,trivial⟩;all_goals
   intro ev M q hb hd;have Q:=hb 1 (by decide);clear hb;simp only[sB]at Q;simp only[sD]at hd;have m:=(ay q).1;have q0:=(C.ext q).cell s.1;have q1:=(C.ext q).cell s.2.1;simp only[dw,C8,if_true];go_simp;first | exact⟨ae _ _,gW _ _ _ (C.ext q).lt⟩ | (go_at_call 104;(with_reducible refine(bM id M bm bn).mono ?_);rintro e w2 ⟨v',rfl,h1,h2⟩;exact⟨_,rfl,h2,h1⟩) | exact⟨CT _ _,by rw[a0];rfl⟩ | exact⟨CT _ _,rfl⟩
 case hmono=>exact⟨ah _,ah _,ah _,(fun _ _ _ h k=>Pk.ext h k),ah _,ah _,(fun _ _ _ h k=>dD.ext h k),trivial⟩
 case hend=>
  intro u M q hend;simp only[sE]at hend;simp only[sF,hend];have aJ:Pk M (w.heap.size+1) 1 (u 15) 1 [.int .u8 1]:=(by first | ((repeat(first | exact hend | exact hend.2 | replace hend:=hend.1));done) | ((repeat(first | exact hend | exact hend.1 | replace hend:=hend.2));first | done | fail));have aP:dD M (u 18) (aM id):=(by first | ((repeat(first | exact hend | exact hend.2 | replace hend:=hend.1));done) | ((repeat(first | exact hend | exact hend.1 | replace hend:=hend.2));first | done | fail));obtain⟨bc,bC,be,aV,aN⟩:=dy aP (show 0 < 8 by decide);have aT:u 18=.slice (some ⟨bc,bC,none⟩) 8 be:=aV;have t:Hid (eQ w f M (u 15) 1 [1]):=aa ⟨C.ext q,aJ,aj.trans q⟩;obtain⟨ce,ac⟩:=exq (u 15);rw[<-ac]at t;rw[<-ac,aT];have a9:=aa aN;clear aJ aP aT aV aN ac hend q C a0 aj;obtain⟨b9,bV,rfl⟩:=t.form
  go_wp2_with (with_reducible refine av ?_)
  refine ax ?_;refine aS aQ t.own a9 rfl (aE _ _) (by decide) (by decide) (by decide) t.le rfl rfl ?_;intro bH bN hp g n;have h:eQ w f bN bH (9) (1 :: aM id):=t.push hp g;obtain⟨ca,bW,rfl⟩:=h.form;have U:=aa h;clear hp g n h t;have q2:=U.box.cell s.2.2.1
  go_wp2_with fail
  refine(bM j _ bo bp).mono ?_;rintro e wx ⟨vx,rfl,aR,ap⟩;obtain⟨bx,ox,cx,aZ,aO⟩:=dy aR (show 0 < 8 by decide);have bz:vx=.slice (some ⟨bx,ox,none⟩) 8 cx:=aZ;clear aZ;subst bz;have O:=aa (U.ext' ap);have Rx:=aa aO;clear aR ap aO q2 U
  go_wp2_with (with_reducible refine av ?_)
  refine ax ?_;refine aS aQ O.own Rx rfl (aE _ _) (by decide) (by decide) (by decide) O.le rfl rfl ?_;intro bI bO hp g n;have h:eQ w f bO bI (17) (1 :: (aM id++aM j)):=O.push hp g;obtain⟨cb,bX,rfl⟩:=h.form;have N:=aa h;clear hp g n h O;have q0:=N.box.cell s.1
  ·have X:Hid ((1<=d/\d<=512)/\∀b∈a,fa b=false):=aa (by
    have h:(wi a.length 1 512&& !a.any fa)=true:=Hz.out;rw[Du]at h;have h1:=bj.1 h.1
    exact⟨by have:=D.out;omega,cG h.2⟩)
   have b4:(d:Int)<=512:=by have:=X.1.2;omega
   have bh:(0:Int)<=(d:Int):=by omega
   have a4:Hid (a.flatten.length=d*16):=aa (by rw[D.out];exact dJ 16 a (fun x hx=>ep (X.2 x hx)));have HV:Hid (bE ⟨1,id,j,pl,sh,B,A,a,z⟩=1 :: (aM id++aM j)++bB d++a.flatten):=aa (by unfold bE eu;simp[D.out]);have q7:=N.box.cell s.2.2.2.2.2.2.2.1
   go_wp2_with fail
   refine(eG (d:Int) _ bh (by omega)).mono ?_;rintro e ch ⟨bU,b7,bY,rfl,hr,hE⟩;have P:=aa (N.ext' hE);have ba:=aa hr;clear hr hE N;clear q7
   go_wp2_with (with_reducible refine av ?_)
   refine ax ?_;refine aS aQ P.own ba rfl (aE _ _) (by decide) (by decide) (by decide) P.le rfl rfl ?_;intro bJ bP hp g n;have h:eQ w f bP bJ (17+2) (1 :: (aM id++aM j)++bB d):=P.push hp g;obtain⟨cc,bZ,rfl⟩:=h.form;have ai:=aa h;clear hp g n h P;have q7:=ai.box.cell s.2.2.2.2.2.2.2.1
   go_wp2_with fail
   clear q7 q0;go_loopw [3,55] (fun o i wr=>∃(k:Nat) (p:Option Addr) (c:Nat),k<=d/\i=.int .i64 k/\o=.slice p (17+2+k*16) c/\Hid (eQ w f wr (.slice p (17+2+k*16) c) (17+2+k*16) (1 :: (aM id++aM j)++bB d++(a.take k).flatten))) (fun _ i _=>d - (intOf i).toNat);case atStart=>exact⟨0,_,_,C9 _,rfl,rfl,by rw[Ek,List.flatten_nil,DV];exact ai⟩
   case round=>
    obtain⟨k,p,c,n,rfl,rfl,r⟩:=hrel;by_cases bs:k < d
    ·have T:k < a.length:=by rw[<-D.out];exact bs
     obtain⟨cf,aW,aX,aY⟩:=ak.ext r.ext;obtain⟨gb,ob,bw,bl,aB⟩:=aU.BK aW aX k T;subst bw;have ab:=aY k T;have R:=ep (X.2 _ (xF a T));have al:Hid ((a.take (k+1)).flatten=(a.take k).flatten++a.getD k []):=aa (by rw[aF [] a k T];simp);obtain⟨y,hy⟩:=exq (a.getD k []);rw[<-hy]at ab R al;obtain⟨g1,o1,b0,aC,_,_,_,aL,_⟩:=Bu.pos ab (by omega);rw[aC,R]at aB;have R1:=aa aL;have a2:=aa R;clear aW aX aY bl ab R hy aC aL
     go_wp2_with (with_reducible refine av ?_)
     refine ax ?_;refine aS aQ r.own R1 (by rw[ints_length,a2.out]) (aE _ _) (by decide) (by unfold Dc;omega) (by omega) r.le rfl rfl ?_;intro v5 w5 hp g bq;have h:eQ w f w5 v5 (17+2+k*16+16) _:=r.push hp g;have H:17+2+k*16+16=17+2+(k+1)*16:=by omega
     rw[H]at h;obtain⟨p5,c5,rfl⟩:=h.form;have H5:=aa h;clear hp g bq h H aB
     go_wp2_with fail
     go_roundw;case rel=>exact⟨k+1,p5,c5,by omega,by go_num,rfl,aa (by rw[al.out,<-DH];exact H5)⟩
     case measure=>simp[intOf];omega
    ·obtain rfl:k=d:=by omega
     have q0:=r.box.cell s.1
     go_wp2_with fail
     go_ret;refine⟨_,rfl,?_,r.ext⟩;have h:=r.out;rw[CX (by rw[<-D.out];exact CU _)]at h;rw[HV.out];exact h.rd (by rw[C7,a4.out];rfl)
theorem qT (v:CQ) (l:BC) (w:CP) (h:eg w v l) (m:l.kind=2) (W:br l=true) (hz:bA l=true):
  CZ CO 60 #[v] w fun e w'=>∃N,e=.returned N/\Bu w' .u8 N (bE l)/\au w w':=by
 obtain⟨bb,vp,vs,vb,L,rfl,b⟩:=h;obtain rfl:=b.eq;obtain⟨hid,Y,X⟩:=dr W;obtain⟨kd,id,c,pl,sh,j,i,o,g⟩:=l;obtain⟨p1,p,D,U,aN⟩:=b.pl.form;obtain⟨p2,q,Q,aF,aO⟩:=b.sh.rd.form;obtain⟨z,r,R,V,aP⟩:=b.bl.form;have ao:Hid (Bu w .i64 vp pl):=aa b.pl;have ap:=aa b.sh;have a6:Hid (L.map cC=sh):=aa b.sl;have am:Hid (aU w vb o):=aa b.bl;simp only at D Q R m hid Y U V;subst D Q R;clear b W;unfold Dc at aN aO aP;obtain⟨x,J⟩:=exq pl.length;obtain⟨y,K⟩:=exq L.length;obtain⟨t,I⟩:=exq o.length;have a3:=aa J;have a4:=aa K;have an:=aa I;rw[<-J]at ao U⊢;rw[<-K]at ap aF⊢;rw[<-I]at am V⊢;clear J K I;have a5:=aa X;have Hz:=aa hz;clear X hz;subst m;obtain⟨P,E⟩:=exq (w.alloc (.cells #[.int .i64 2,.int .i64 id,.int .i64 c,.slice p1 x p,.slice p2 y q,.int .i64 j,.int .i64 i,.slice z t r,.int .i64 g] 43));have O:Hid (au w P):=aa (by rw[E];exact ae _ _);obtain⟨a,H⟩:=exq (cL ⟨2,id,c,pl,sh,j,i,o,g⟩ (.slice p1 x p) (.slice p2 y q) (.slice z t r));have n:Hid (aw P w.heap.size a):=aa (by rw[E,H];exact aw.box w 43 (cs:=(cL ⟨2,id,c,pl,sh,j,i,o,g⟩ (.slice p1 x p) (.slice p2 y q) (.slice z t r))) (fun h=>by cases h));have C:Hid (a[0]? =some (.int .i64 2)/\a[1]? =some (.int .i64 id)/\a[2]? =some (.int .i64 c)/\a[3]? =some (.slice p1 x p)/\a[4]? =some (.slice p2 y q)/\a[5]? =some (.int .i64 j)/\a[6]? =some (.int .i64 i)/\a[7]? =some (.slice z t r)/\a[8]? =some (.int .i64 g)):=aa (by rw[H];exact⟨rfl,rfl,rfl,rfl,rfl,rfl,rfl,rfl,rfl⟩);show CZ CO 60 #[.agg #[.int .i64 2,.int .i64 id,.int .i64 c,.slice p1 x p,.slice p2 y q,.int .i64 j,.int .i64 i,.slice z t r,.int .i64 g]] w _;obtain⟨aI,aJ⟩:=hid;obtain⟨aK,aL⟩:=Y;have ak:IntKind.u8.wrap 2=2:=rfl;clear H;go_enter Tryz.func60,Gs
 go_wp2_with fail
 rw[<-E];clear E;apply aG 7 [12,13,14,15,16,17,18] [ar _,ar _,ar _,(fun v w'=>Pk w' (w.heap.size+1) 1 v 1 [.int .u8 2]),ar _,ar _,(fun v w'=>dD w' v (aM id))] (by kernel_rfl) (by kernel_rfl) (by kernel_rfl) (by kernel_rfl);case hsteps=>
  refine⟨?_,?_,?_,?_,?_,?_,?_,trivial⟩;all_goals
   intro ev A d T hd;have D:=T 1 (by decide);clear T;simp only[sB]at D;simp only[sD]at hd;have b:=(ay d).1;have q0:=(n.ext d).cell C.1;have q1:=(n.ext d).cell C.2.1;simp only[dw,C8,if_true];go_simp;first | exact⟨ae _ _,gW _ _ _ (n.ext d).lt⟩ | (go_at_call 104;(with_reducible refine(bM id A aI aJ).mono ?_);rintro e w2 ⟨N,rfl,h1,h2⟩;exact⟨_,rfl,h2,h1⟩) | exact⟨CT _ _,by rw[ak];rfl⟩ | exact⟨CT _ _,rfl⟩
 case hmono=>exact⟨ah _,ah _,ah _,(fun _ _ _ h k=>Pk.ext h k),ah _,ah _,(fun _ _ _ h k=>dD.ext h k),trivial⟩
 case hend=>
  intro u A d hend;simp only[sE]at hend;simp only[sF,hend];have Z:Pk A (w.heap.size+1) 1 (u 15) 1 [.int .u8 2]:=(by first | ((repeat(first | exact hend | exact hend.2 | replace hend:=hend.1));done) | ((repeat(first | exact hend | exact hend.1 | replace hend:=hend.2));first | done | fail));have ad:dD A (u 18) (aM id):=(by first | ((repeat(first | exact hend | exact hend.2 | replace hend:=hend.1));done) | ((repeat(first | exact hend | exact hend.1 | replace hend:=hend.2));first | done | fail));obtain⟨aA,aT,aC,ai,ab⟩:=dy ad (show 0 < 8 by decide);have ag:u 18=.slice (some ⟨aA,aT,none⟩) 8 aC:=ai;have f:Hid (eQ w a A (u 15) 1 [2]):=aa ⟨n.ext d,Z,O.trans d⟩;obtain⟨bi,M⟩:=exq (u 15);rw[<-M]at f;rw[<-M,ag];have aq:=aa ab;clear Z ad ag ai ab M hend d n ak O;obtain⟨be,a8,rfl⟩:=f.form
  go_wp2_with (with_reducible refine av ?_)
  refine ax ?_;refine aS aQ f.own aq rfl (aE _ _) (by decide) (by decide) (by decide) f.le rfl rfl ?_;intro aY a1 hp s m;have h:eQ w a a1 aY (9) (2 :: aM id):=f.push hp s;obtain⟨bf,a9,rfl⟩:=h.form;have F:=aa h;clear hp s m h f;have q2:=F.box.cell C.2.2.1
  go_wp2_with fail
  refine(bM c _ aK aL).mono ?_;rintro e wx ⟨vx,rfl,af,S⟩;obtain⟨bx,ox,cx,aj,ac⟩:=dy af (show 0 < 8 by decide);have aR:vx=.slice (some ⟨bx,ox,none⟩) 8 cx:=aj;clear aj;subst aR;have B:=aa (F.ext' S);have Rx:=aa ac;clear af S ac q2 F
  go_wp2_with (with_reducible refine av ?_)
  refine ax ?_;refine aS aQ B.own Rx rfl (aE _ _) (by decide) (by decide) (by decide) B.le rfl rfl ?_;intro aZ a2 hp s m;have h:eQ w a a2 aZ (17) (2 :: (aM id++aM c)):=B.push hp s;obtain⟨bg,ba,rfl⟩:=h.form;have G:=aa h;clear hp s m h B;have q0:=G.box.cell C.1
  ·have HV:Hid (bE ⟨2,id,c,pl,sh,j,i,o,g⟩=2 :: (aM id++aM c)):=aa (by unfold bE eu;simp)
   go_wp2_with fail
   go_ret;refine⟨_,rfl,?_,G.ext⟩;rw[HV.out];exact G.rd rfl
theorem qU (v:CQ) (l:BC) (w:CP) (h:eg w v l) (m:l.kind=3) (hn:br l=true) (hz:bA l=true):
  CZ CO 60 #[v] w fun e w'=>∃v',e=.returned v'/\Bu w' .u8 v' (bE l)/\au w w':=by
 obtain⟨bX,vp,vs,vb,L,rfl,g⟩:=h;obtain rfl:=g.eq;obtain⟨hid,aF,aD⟩:=dr hn;obtain⟨kd,id,f,pl,sh,A,z,C,y⟩:=l;obtain⟨p1,D,O,ap,bo⟩:=g.pl.form;obtain⟨p2,E,G,bf,bp⟩:=g.sh.rd.form;obtain⟨J,F,e3,aq,bq⟩:=g.bl.form;have T:Hid (Bu w .i64 vp pl):=aa g.pl;have a1:=aa g.sh;have bO:Hid (L.map cC=sh):=aa g.sl;have aZ:Hid (aU w vb C):=aa g.bl;simp only at O G e3 m hid aF ap aq;subst O G e3;clear g hn;unfold Dc at bo bp bq;obtain⟨a,X⟩:=exq pl.length;obtain⟨I,Y⟩:=exq L.length;obtain⟨H,W⟩:=exq C.length;have t:=aa X;have bN:=aa Y;have bL:=aa W;rw[<-X]at T ap⊢;rw[<-Y]at a1 bf⊢;rw[<-W]at aZ aq⊢;clear X Y W;have a0:=aa aD;have Hz:=aa hz;clear aD hz;subst m;obtain⟨W0,P⟩:=exq (w.alloc (.cells #[.int .i64 3,.int .i64 id,.int .i64 f,.slice p1 a D,.slice p2 I E,.int .i64 A,.int .i64 z,.slice J H F,.int .i64 y] 43));have ag:Hid (au w W0):=aa (by rw[P];exact ae _ _);obtain⟨b,U⟩:=exq (cL ⟨3,id,f,pl,sh,A,z,C,y⟩ (.slice p1 a D) (.slice p2 I E) (.slice J H F));have B:Hid (aw W0 w.heap.size b):=aa (by rw[P,U];exact aw.box w 43 (cs:=(cL ⟨3,id,f,pl,sh,A,z,C,y⟩ (.slice p1 a D) (.slice p2 I E) (.slice J H F))) (fun h=>by cases h));have q:Hid (b[0]? =some (.int .i64 3)/\b[1]? =some (.int .i64 id)/\b[2]? =some (.int .i64 f)/\b[3]? =some (.slice p1 a D)/\b[4]? =some (.slice p2 I E)/\b[5]? =some (.int .i64 A)/\b[6]? =some (.int .i64 z)/\b[7]? =some (.slice J H F)/\b[8]? =some (.int .i64 y)):=aa (by rw[U];exact⟨rfl,rfl,rfl,rfl,rfl,rfl,rfl,rfl,rfl⟩);show CZ CO 60 #[.agg #[.int .i64 3,.int .i64 id,.int .i64 f,.slice p1 a D,.slice p2 I E,.int .i64 A,.int .i64 z,.slice J H F,.int .i64 y]] w _;obtain⟨bh,bi⟩:=hid;obtain⟨bk,bl⟩:=aF;have aV:IntKind.u8.wrap 3=3:=rfl;clear U;go_enter Tryz.func60,Gs
 go_wp2_with fail
 rw[<-P];clear P;apply aG 7 [12,13,14,15,16,17,18] [ar _,ar _,ar _,(fun v w'=>Pk w' (w.heap.size+1) 1 v 1 [.int .u8 3]),ar _,ar _,(fun v w'=>dD w' v (aM id))] (by kernel_rfl) (by kernel_rfl) (by kernel_rfl) (by kernel_rfl);case hsteps=>
  refine⟨?_,?_,?_,?_,?_,?_,?_,trivial⟩;all_goals
   intro ev K n hb hd;have O:=hb 1 (by decide);clear hb;simp only[sB]at O;simp only[sD]at hd;have g:=(ay n).1;have q0:=(B.ext n).cell q.1;have q1:=(B.ext n).cell q.2.1;simp only[dw,C8,if_true];go_simp;first | exact⟨ae _ _,gW _ _ _ (B.ext n).lt⟩ | (go_at_call 104;(with_reducible refine(bM id K bh bi).mono ?_);rintro e w2 ⟨v',rfl,h1,h2⟩;exact⟨_,rfl,h2,h1⟩) | exact⟨CT _ _,by rw[aV];rfl⟩ | exact⟨CT _ _,rfl⟩
 case hmono=>exact⟨ah _,ah _,ah _,(fun _ _ _ h k=>Pk.ext h k),ah _,ah _,(fun _ _ _ h k=>dD.ext h k),trivial⟩
 case hend=>
  intro u K n hend;simp only[sE]at hend;simp only[sF,hend];have aH:Pk K (w.heap.size+1) 1 (u 15) 1 [.int .u8 3]:=(by first | ((repeat(first | exact hend | exact hend.2 | replace hend:=hend.1));done) | ((repeat(first | exact hend | exact hend.1 | replace hend:=hend.2));first | done | fail));have aN:dD K (u 18) (aM id):=(by first | ((repeat(first | exact hend | exact hend.2 | replace hend:=hend.1));done) | ((repeat(first | exact hend | exact hend.1 | replace hend:=hend.2));first | done | fail));obtain⟨a7,bv,a9,aR,aK⟩:=dy aN (show 0 < 8 by decide);have aP:u 18=.slice (some ⟨a7,bv,none⟩) 8 a9:=aR;have s:Hid (eQ w b K (u 15) 1 [3]):=aa ⟨B.ext n,aH,ag.trans n⟩;obtain⟨cb,Z⟩:=exq (u 15);rw[<-Z]at s;rw[<-Z,aP];have a3:=aa aK;clear aH aN aP aR aK Z hend n B aV ag;obtain⟨b6,bR,rfl⟩:=s.form
  go_wp2_with (with_reducible refine av ?_)
  refine ax ?_;refine aS aQ s.own a3 rfl (aE _ _) (by decide) (by decide) (by decide) s.le rfl rfl ?_;intro bD bJ hp d m;have h:eQ w b bJ bD (9) (3 :: aM id):=s.push hp d;obtain⟨b7,bS,rfl⟩:=h.form;have R:=aa h;clear hp d m h s;have q2:=R.box.cell q.2.2.1
  go_wp2_with fail
  refine(bM f _ bk bl).mono ?_;rintro e wx ⟨vx,rfl,aO,an⟩;obtain⟨bx,ox,cx,aT,aL⟩:=dy aO (show 0 < 8 by decide);have bt:vx=.slice (some ⟨bx,ox,none⟩) 8 cx:=aT;clear aT;subst bt;have M:=aa (R.ext' an);have Rx:=aa aL;clear aO an aL q2 R
  go_wp2_with (with_reducible refine av ?_)
  refine ax ?_;refine aS aQ M.own Rx rfl (aE _ _) (by decide) (by decide) (by decide) M.le rfl rfl ?_;intro bF Q hp d m;have h:eQ w b Q bF (17) (3 :: (aM id++aM f)):=M.push hp d;obtain⟨b8,bT,rfl⟩:=h.form;have S:=aa h;clear hp d m h M;have q0:=S.box.cell q.1
  ·have aC:Hid ((1<=a/\a<=12)/\∀x∈pl,fE x=false):=aa (by
    have h:wi pl.length 1 12=true:=Hz.out;have h1:=bj.1 h
    exact⟨by have:=t.out;omega,cG a0⟩)
   have b0:(a:Int)<=12:=by have:=aC.1.2;omega
   have bZ:(0:Int)<=(a:Int):=by omega
   have HV:Hid (bE ⟨3,id,f,pl,sh,A,z,C,y⟩=3 :: (aM id++aM f)++[(a:Int)]++pl.flatMap bB):=aa (by unfold bE eu;simp[t.out]);have q3:=S.box.cell q.2.2.2.1;have N:=aa (S.ext' (ae Q (.cells #[.int .u8 (a:Int)] 5)));have a4:Hid ((Q.alloc (.cells #[.int .u8 (a:Int)] 5)).rangeAt Q.heap.size 0 (aj .u8 [(a:Int)])):=aa fun j x hx=>by rw[Dq,Df];exact rD hx
   go_wp2_with (with_reducible refine av ?_)
   refine ax ?_;refine aS aQ N.own a4 rfl (aE _ _) (by decide) (by decide) (by decide) N.le rfl rfl ?_;intro bG bK hp d m;have h:eQ w b bK bG (18) (3 :: (aM id++aM f)++[(a:Int)]):=N.push hp d;obtain⟨b9,bU,rfl⟩:=h.form;have af:=aa h;clear hp d m h N;clear q3 q0;have q3:=af.box.cell q.2.2.2.1
   go_wp2_with fail
   clear q3;go_loopw [3,76] (fun o i wr=>∃(k:Nat) (p:Option Addr) (c:Nat),k<=a/\i=.int .i64 k/\o=.slice p (18+k*2) c/\Hid (eQ w b wr (.slice p (18+k*2) c) (18+k*2) (3 :: (aM id++aM f)++[(a:Int)]++(pl.take k).flatMap bB))) (fun _ i _=>a - (intOf i).toNat);case atStart=>exact⟨0,_,_,C9 _,rfl,rfl,by rw[Ek,List.flatMap_nil,DV];exact af⟩
   case round=>
    obtain⟨k,p,c,m,rfl,rfl,r⟩:=hrel;by_cases bn:k < a
    ·have V:k < pl.length:=by rw[<-t.out];exact bn
     obtain⟨b1,o1,bW,bs,_,_,_,_,aA⟩:=Bu.pos (k:=.i64) (l:=pl) (by rw[t.out]at T;exact T.ext r.ext) (by omega);injection bs with bc bd be;subst bc;have az:=aA k V;have aW:=fv (aC.2 _ (aJ 0 V));have ai:=aa (fb 0 bB pl k V);obtain⟨x,hx⟩:=exq (pl.getD k 0);rw[<-hx]at az aW ai;obtain⟨bu,b2⟩:=aW;clear aA bd be hx
     go_wp2_with fail
     refine(eG x _ bu (by omega)).mono ?_;rintro e cd ⟨bQ,b5,bV,rfl,hr,hE⟩;have HD:=aa (r.ext' hE);have a5:=aa hr;clear hr hE r;clear az
     go_wp2_with (with_reducible refine av ?_)
     refine ax ?_;refine aS aQ HD.own a5 rfl (aE _ _) (by decide) (by unfold Dc;omega) (by omega) HD.le rfl rfl ?_;intro v5 w5 hp d bm;have h:eQ w b w5 v5 (18+k*2+2) _:=HD.push hp d;have G:18+k*2+2=18+(k+1)*2:=by omega
     rw[G]at h;obtain⟨p5,c5,rfl⟩:=h.form;have H5:=aa h;clear hp d bm h G
     go_wp2_with fail
     go_roundw;case rel=>exact⟨k+1,p5,c5,by omega,by go_num,rfl,aa (by rw[ai.out,<-DH];exact H5)⟩
     case measure=>simp[intOf];omega
    ·obtain rfl:k=a:=by omega
     have q0:=r.box.cell q.1
     go_wp2_with fail
     go_ret;refine⟨_,rfl,?_,r.ext⟩;have h:=r.out;rw[CX (by rw[<-t.out];exact CU _)]at h;rw[HV.out];exact h.rd (by rw[C7,uF,<-t.out,Nat.mul_comm];rfl)
theorem qV (v:CQ) (l:BC) (w:CP) (h:eg w v l) (i:l.kind=5) (hn:br l=true) (hz:bA l=true):
  CZ CO 60 #[v] w fun e w'=>∃V,e=.returned V/\Bu w' .u8 V (bE l)/\au w w':=by
 obtain⟨bJ,vp,vs,vb,L,rfl,g⟩:=h;obtain rfl:=g.eq;obtain⟨hid,ak,aj⟩:=dr hn;obtain⟨kd,id,f,pl,sh,b,c,q,o⟩:=l;obtain⟨p1,r,K,ad,a6⟩:=g.pl.form;obtain⟨p2,s,Y,aV,a7⟩:=g.sh.rd.form;obtain⟨C,t,Z,af,a8⟩:=g.bl.form;have aH:Hid (Bu w .i64 vp pl):=aa g.pl;have aI:=aa g.sh;have bt:Hid (L.map cC=sh):=aa g.sl;have aD:Hid (aU w vb q):=aa g.bl;simp only at K Y Z i hid ak ad af;subst K Y Z;clear g hn;unfold Dc at a6 a7 a8;obtain⟨A,S⟩:=exq pl.length;obtain⟨B,T⟩:=exq L.length;obtain⟨z,R⟩:=exq q.length;have bq:=aa S;have bs:=aa T;have bp:=aa R;rw[<-S]at aH ad⊢;rw[<-T]at aI aV⊢;rw[<-R]at aD af⊢;clear S T R;have aF:=aa aj;have Hz:=aa hz;clear aj hz;subst i;obtain⟨X,M⟩:=exq (w.alloc (.cells #[.int .i64 5,.int .i64 id,.int .i64 f,.slice p1 A r,.slice p2 B s,.int .i64 b,.int .i64 c,.slice C z t,.int .i64 o] 43));have W:Hid (au w X):=aa (by rw[M];exact ae _ _);obtain⟨a,P⟩:=exq (cL ⟨5,id,f,pl,sh,b,c,q,o⟩ (.slice p1 A r) (.slice p2 B s) (.slice C z t));have p:Hid (aw X w.heap.size a):=aa (by rw[M,P];exact aw.box w 43 (cs:=(cL ⟨5,id,f,pl,sh,b,c,q,o⟩ (.slice p1 A r) (.slice p2 B s) (.slice C z t))) (fun h=>by cases h));have j:Hid (a[0]? =some (.int .i64 5)/\a[1]? =some (.int .i64 id)/\a[2]? =some (.int .i64 f)/\a[3]? =some (.slice p1 A r)/\a[4]? =some (.slice p2 B s)/\a[5]? =some (.int .i64 b)/\a[6]? =some (.int .i64 c)/\a[7]? =some (.slice C z t)/\a[8]? =some (.int .i64 o)):=aa (by rw[P];exact⟨rfl,rfl,rfl,rfl,rfl,rfl,rfl,rfl,rfl⟩);show CZ CO 60 #[.agg #[.int .i64 5,.int .i64 id,.int .i64 f,.slice p1 A r,.slice p2 B s,.int .i64 b,.int .i64 c,.slice C z t,.int .i64 o]] w _;obtain⟨a2,a3⟩:=hid;obtain⟨a4,a5⟩:=ak;have aB:IntKind.u8.wrap 5=5:=rfl;clear P;go_enter Tryz.func60,Gs
 go_wp2_with fail
 rw[<-M];clear M;apply aG 7 [12,13,14,15,16,17,18] [ar _,ar _,ar _,(fun v w'=>Pk w' (w.heap.size+1) 1 v 1 [.int .u8 5]),ar _,ar _,(fun v w'=>dD w' v (aM id))] (by kernel_rfl) (by kernel_rfl) (by kernel_rfl) (by kernel_rfl);case hsteps=>
  refine⟨?_,?_,?_,?_,?_,?_,?_,trivial⟩;all_goals
   intro ev E m hb hd;have K:=hb 1 (by decide);clear hb;simp only[sB]at K;simp only[sD]at hd;have g:=(ay m).1;have D:=(p.ext m).cell j.1;have q1:=(p.ext m).cell j.2.1;simp only[dw,C8,if_true];go_simp;first | exact⟨ae _ _,gW _ _ _ (p.ext m).lt⟩ | (go_at_call 104;(with_reducible refine(bM id E a2 a3).mono ?_);rintro e w2 ⟨V,rfl,h1,h2⟩;exact⟨_,rfl,h2,h1⟩) | exact⟨CT _ _,by rw[aB];rfl⟩ | exact⟨CT _ _,rfl⟩
 case hmono=>exact⟨ah _,ah _,ah _,(fun _ _ _ h k=>Pk.ext h k),ah _,ah _,(fun _ _ _ h k=>dD.ext h k),trivial⟩
 case hend=>
  intro u E m hend;simp only[sE]at hend;simp only[sF,hend];have al:Pk E (w.heap.size+1) 1 (u 15) 1 [.int .u8 5]:=(by first | ((repeat(first | exact hend | exact hend.2 | replace hend:=hend.1));done) | ((repeat(first | exact hend | exact hend.1 | replace hend:=hend.2));first | done | fail));have ao:dD E (u 18) (aM id):=(by first | ((repeat(first | exact hend | exact hend.2 | replace hend:=hend.1));done) | ((repeat(first | exact hend | exact hend.1 | replace hend:=hend.2));first | done | fail));obtain⟨aO,ba,aR,az,am⟩:=dy ao (show 0 < 8 by decide);have aq:u 18=.slice (some ⟨aO,ba,none⟩) 8 aR:=az;have n:Hid (eQ w a E (u 15) 1 [5]):=aa ⟨p.ext m,al,W.trans m⟩;obtain⟨bV,U⟩:=exq (u 15);rw[<-U]at n;rw[<-U,aq];have aJ:=aa am;clear al ao aq az am U hend m p aB W;obtain⟨bP,bz,rfl⟩:=n.form
  go_wp2_with (with_reducible refine av ?_)
  refine ax ?_;refine aS aQ n.own aJ rfl (aE _ _) (by decide) (by decide) (by decide) n.le rfl rfl ?_;intro bf bl hp d i;have h:eQ w a bl bf (9) (5 :: aM id):=n.push hp d;obtain⟨bQ,bC,rfl⟩:=h.form;have N:=aa h;clear hp d i h n;have q2:=N.box.cell j.2.2.1
  go_wp2_with fail
  refine(bM f _ a4 a5).mono ?_;rintro e wx ⟨vx,rfl,ap,ab⟩;obtain⟨bx,ox,cx,aA,an⟩:=dy ap (show 0 < 8 by decide);have a9:vx=.slice (some ⟨bx,ox,none⟩) 8 cx:=aA;clear aA;subst a9;have G:=aa (N.ext' ab);have Rx:=aa an;clear ap ab an q2 N
  go_wp2_with (with_reducible refine av ?_)
  refine ax ?_;refine aS aQ G.own Rx rfl (aE _ _) (by decide) (by decide) (by decide) G.le rfl rfl ?_;intro bg bm hp d i;have h:eQ w a bm bg (17) (5 :: (aM id++aM f)):=G.push hp d;obtain⟨bR,bD,rfl⟩:=h.form;have F:=aa h;clear hp d i h G;have D:=F.box.cell j.1
  ·have Q:wi c 1 512=true/\wi b 0 511=true:=by have h:(wi c 1 512&&wi b 0 511)=true:=aF.out;rwa[Du]at h
   have aZ:=bj.1 Q.1;have ag:=bj.1 Q.2;have aW:0<=c:=by omega
   have aX:c<=65535:=by omega
   have a0:0<=b:=ag.1;have a1:b<=65535:=by omega
   clear Q aZ ag;have HV:Hid (bE ⟨5,id,f,pl,sh,b,c,q,o⟩=5 :: (aM id++aM f)++bB b++bB c):=aa (by unfold bE eu;simp);have q5:=F.box.cell j.2.2.2.2.2.1
   go_wp2_with fail
   refine(eG b _ a0 a1).mono ?_;rintro e bX ⟨bv,bN,bF,rfl,y,x⟩;have H:=aa (F.ext' x);have aK:=aa y;clear y x F;clear q5 D
   go_wp2_with (with_reducible refine av ?_)
   refine ax ?_;refine aS aQ H.own aK rfl (aE _ _) (by decide) (by decide) (by decide) H.le rfl rfl ?_;intro bh bn hp d i;have h:eQ w a bn bh (19) (5 :: (aM id++aM f)++bB b):=H.push hp d;obtain⟨bS,bG,rfl⟩:=h.form;have I:=aa h;clear hp d i h H;have D:=I.box.cell j.1;have q6:=I.box.cell j.2.2.2.2.2.2.1
   go_wp2_with fail
   refine(eG c _ aW aX).mono ?_;rintro e bY ⟨bw,bO,bH,rfl,y,x⟩;have J:=aa (I.ext' x);have aL:=aa y;clear y x I;clear q6 D
   go_wp2_with (with_reducible refine av ?_)
   refine ax ?_;refine aS aQ J.own aL rfl (aE _ _) (by decide) (by decide) (by decide) J.le rfl rfl ?_;intro bi bo hp d i;have h:eQ w a bo bi (21) (5 :: (aM id++aM f)++bB b++bB c):=J.push hp d;obtain⟨bT,bI,rfl⟩:=h.form;have O:=aa h;clear hp d i h J;have D:=O.box.cell j.1
   go_wp2_with fail
   go_ret;refine⟨_,rfl,?_,O.ext⟩;rw[HV.out];exact O.rd rfl
theorem qW (v:CQ) (l:BC) (w:CP) (h:eg w v l) (i:l.kind=7) (hn:br l=true) (hz:bA l=true):
  CZ CO 60 #[v] w fun e w'=>∃R,e=.returned R/\Bu w' .u8 R (bE l)/\au w w':=by
 obtain⟨bm,vp,vs,vb,L,rfl,c⟩:=h;obtain rfl:=c.eq;obtain⟨hid,ag,af⟩:=dr hn;obtain⟨kd,id,d,pl,sh,o,n,r,b⟩:=l;obtain⟨p1,s,G,Z,aY⟩:=c.pl.form;obtain⟨p2,t,V,aP,aZ⟩:=c.sh.rd.form;obtain⟨C,y,W,ab,a0⟩:=c.bl.form;have aD:Hid (Bu w .i64 vp pl):=aa c.pl;have aF:=aa c.sh;have bf:Hid (L.map cC=sh):=aa c.sl;have aB:Hid (aU w vb r):=aa c.bl;simp only at G V W i hid ag Z ab;subst G V W;clear c hn;unfold Dc at aY aZ a0;obtain⟨A,O⟩:=exq pl.length;obtain⟨B,P⟩:=exq L.length;obtain⟨z,N⟩:=exq r.length;have bd:=aa O;have be:=aa P;have bc:=aa N;rw[<-O]at aD Z⊢;rw[<-P]at aF aP⊢;rw[<-N]at aB ab⊢;clear O P N;have aC:=aa af;have Hz:=aa hz;clear af hz;subst i;obtain⟨U,H⟩:=exq (w.alloc (.cells #[.int .i64 7,.int .i64 id,.int .i64 d,.slice p1 A s,.slice p2 B t,.int .i64 o,.int .i64 n,.slice C z y,.int .i64 b] 43));have T:Hid (au w U):=aa (by rw[H];exact ae _ _);obtain⟨a,M⟩:=exq (cL ⟨7,id,d,pl,sh,o,n,r,b⟩ (.slice p1 A s) (.slice p2 B t) (.slice C z y));have p:Hid (aw U w.heap.size a):=aa (by rw[H,M];exact aw.box w 43 (cs:=(cL ⟨7,id,d,pl,sh,o,n,r,b⟩ (.slice p1 A s) (.slice p2 B t) (.slice C z y))) (fun h=>by cases h));have q:Hid (a[0]? =some (.int .i64 7)/\a[1]? =some (.int .i64 id)/\a[2]? =some (.int .i64 d)/\a[3]? =some (.slice p1 A s)/\a[4]? =some (.slice p2 B t)/\a[5]? =some (.int .i64 o)/\a[6]? =some (.int .i64 n)/\a[7]? =some (.slice C z y)/\a[8]? =some (.int .i64 b)):=aa (by rw[M];exact⟨rfl,rfl,rfl,rfl,rfl,rfl,rfl,rfl,rfl⟩);show CZ CO 60 #[.agg #[.int .i64 7,.int .i64 id,.int .i64 d,.slice p1 A s,.slice p2 B t,.int .i64 o,.int .i64 n,.slice C z y,.int .i64 b]] w _;obtain⟨aT,aV⟩:=hid;obtain⟨aW,aX⟩:=ag;have az:IntKind.u8.wrap 7=7:=rfl;clear M;go_enter Tryz.func60,Gs
 go_wp2_with fail
 rw[<-H];clear H;apply aG 7 [12,13,14,15,16,17,18] [ar _,ar _,ar _,(fun v w'=>Pk w' (w.heap.size+1) 1 v 1 [.int .u8 7]),ar _,ar _,(fun v w'=>dD w' v (aM id))] (by kernel_rfl) (by kernel_rfl) (by kernel_rfl) (by kernel_rfl);case hsteps=>
  refine⟨?_,?_,?_,?_,?_,?_,?_,trivial⟩;all_goals
   intro ev D f Y hd;have G:=Y 1 (by decide);clear Y;simp only[sB]at G;simp only[sD]at hd;have c:=(ay f).1;have q0:=(p.ext f).cell q.1;have q1:=(p.ext f).cell q.2.1;simp only[dw,C8,if_true];go_simp;first | exact⟨ae _ _,gW _ _ _ (p.ext f).lt⟩ | (go_at_call 104;(with_reducible refine(bM id D aT aV).mono ?_);rintro e w2 ⟨R,rfl,h1,h2⟩;exact⟨_,rfl,h2,h1⟩) | exact⟨CT _ _,by rw[az];rfl⟩ | exact⟨CT _ _,rfl⟩
 case hmono=>exact⟨ah _,ah _,ah _,(fun _ _ _ h k=>Pk.ext h k),ah _,ah _,(fun _ _ _ h k=>dD.ext h k),trivial⟩
 case hend=>
  intro u D f hend;simp only[sE]at hend;simp only[sF,hend];have ai:Pk D (w.heap.size+1) 1 (u 15) 1 [.int .u8 7]:=(by first | ((repeat(first | exact hend | exact hend.2 | replace hend:=hend.1));done) | ((repeat(first | exact hend | exact hend.1 | replace hend:=hend.2));first | done | fail));have am:dD D (u 18) (aM id):=(by first | ((repeat(first | exact hend | exact hend.2 | replace hend:=hend.1));done) | ((repeat(first | exact hend | exact hend.1 | replace hend:=hend.2));first | done | fail));obtain⟨aK,a2,aN,ap,ak⟩:=dy am (show 0 < 8 by decide);have ao:u 18=.slice (some ⟨aK,a2,none⟩) 8 aN:=ap;have m:Hid (eQ w a D (u 15) 1 [7]):=aa ⟨p.ext f,ai,T.trans f⟩;obtain⟨bB,Q⟩:=exq (u 15);rw[<-Q]at m;rw[<-Q,ao];have aH:=aa ak;clear ai am ao ap ak Q hend f p az T;obtain⟨bs,bh,rfl⟩:=m.form
  go_wp2_with (with_reducible refine av ?_)
  refine ax ?_;refine aS aQ m.own aH rfl (aE _ _) (by decide) (by decide) (by decide) m.le rfl rfl ?_;intro a6 ba hp g i;have h:eQ w a ba a6 (9) (7 :: aM id):=m.push hp g;obtain⟨bt,bi,rfl⟩:=h.form;have J:=aa h;clear hp g i h m;have q2:=J.box.cell q.2.2.1
  go_wp2_with fail
  refine(bM d _ aW aX).mono ?_;rintro e wx ⟨vx,rfl,an,X⟩;obtain⟨bx,ox,cx,aq,al⟩:=dy an (show 0 < 8 by decide);have a1:vx=.slice (some ⟨bx,ox,none⟩) 8 cx:=aq;clear aq;subst a1;have E:=aa (J.ext' X);have Rx:=aa al;clear an X al q2 J
  go_wp2_with (with_reducible refine av ?_)
  refine ax ?_;refine aS aQ E.own Rx rfl (aE _ _) (by decide) (by decide) (by decide) E.le rfl rfl ?_;intro a7 I hp g i;have h:eQ w a I a7 (17) (7 :: (aM id++aM d)):=E.push hp g;obtain⟨bu,bk,rfl⟩:=h.form;have K:=aa h;clear hp g i h E;have q0:=K.box.cell q.1
  ·have ac:wi b 1 255=true:=aC.out;have bo:=bj.1 ac;have bp:IntKind.u8.wrap b=b:=IntWalk.u8_in _ (by omega);clear ac;have HV:Hid (bE ⟨7,id,d,pl,sh,o,n,r,b⟩=7 :: (aM id++aM d)++[b]):=aa (by unfold bE eu;simp);have q8:=K.box.cell q.2.2.2.2.2.2.2.2;have F:=aa (K.ext' (ae I (.cells #[.int .u8 b] 5)));have aI:Hid ((I.alloc (.cells #[.int .u8 b] 5)).rangeAt I.heap.size 0 (aj .u8 [b])):=aa fun j x hx=>by rw[Dq,Df];exact rD hx
   go_wp2_with (with_reducible refine av ?_)
   refine ax ?_;refine aS aQ F.own aI rfl (aE _ _) (by decide) (by decide) (by decide) F.le rfl rfl ?_;intro a8 bb hp g i;have h:eQ w a bb a8 (18) (7 :: (aM id++aM d)++[b]):=F.push hp g;obtain⟨bv,bl,rfl⟩:=h.form;have S:=aa h;clear hp g i h F
   go_wp2_with fail
   go_ret;refine⟨_,rfl,?_,S.ext⟩;rw[HV.out];exact S.rd rfl
end Go.Proofs.Bl
