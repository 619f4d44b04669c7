/- Texts that stood apart, in one: OpenL, LetT. -/
import Derived.Test.YtglenbikdahgjaaGreatDoorPk04
import Derived.Test.YtglenbikdahgjaaGreatDoorPk05
import Derived.Test.YtglenbikdahgjaaGreatDoorPk38
set_option maxRecDepth 100000
set_option maxHeartbeats 16000000
namespace Go.Proofs.Bl
open Go Go.ChangeShapes Go.WideShapes Go.ChangeAt Go.RowKit Go.Deep
section
variable {H:Type} {enc:TypeId × Value->H} {P:Program} {w:World} {n:Nat} {t:TypeId} {cs:List Value} {y:DataW H × List MemPlace}
theorem od_i64s {e:TypeId} (ht:P.underlying t=some (.slice e)) (he:P.underlying e=some (.int .i64)) (hc:P.cellsOf e=1) (h:DataW.trod enc P w 0 (fun _=>true) true n t cs=some y):∃v l,cs=[v]/\Rd w .i64 v l:=by
 rcases open_ints ht he hc h with ⟨hcs,_⟩ | ⟨a,len,cap,zs,hcs,_,hl,hm,hz,_,hcell,hw⟩
 ·exact⟨_,[],hcs,Rd.nil _ _⟩
 ·simp only [if_true]at hz
  exact⟨_,zs.take len,hcs,rd_parts64 hl hm hz (fun q=>by cases q) (fun a' ha c hc=>by cases ha;exact hcell c (by omega))⟩
theorem od_bytess {e q:TypeId} (ht:P.underlying t=some (.slice e)) (he:P.underlying e=some (.slice q)) (hq:P.underlying q=some (.int .u8)) (ce:P.cellsOf e=1) (cq:P.cellsOf q=1) (h:DataW.trod enc P w 0 (fun _=>true) true n t cs=some y):∃v ps,cs=[v]/\Rdss w v ps/\∀b∈ps,Byt b:=by
 obtain⟨v,m,hcs,hv,hel⟩:=od_slice ht ce (by decide) h
 rcases hv with ⟨p,rfl,rfl⟩ | ⟨b,o,c,rfl,hc1,hc2⟩
 ·exact⟨_,[],hcs,⟨[],.inl ⟨⟨p,rfl⟩,rfl,rfl⟩,rfl,fun i hi=>by cases hi⟩,fun b hb=>by cases hb⟩
 ·by_cases h0:m=0
  ·subst h0
   exact⟨_,[],hcs,⟨[],.inr ⟨b,o,c,rfl,hc1,hc2,fun j v hj=>by simp at hj⟩,rfl,fun i hi=>by cases hi⟩,fun b hb=>by cases hb⟩
  ·obtain⟨L,hL,hr⟩:=list_of ((.slice none 0 0,[]):Value × List Int) (fun i x=>w.rangeAt b (o+i*1) [x.1]/\Rd w .u8 x.1 x.2/\Byt x.2) m (fun i hi=>by
    obtain⟨cs',k,y',_,h2,h3⟩:=hel b o ⟨c,rfl,by omega⟩ i hi
    obtain⟨v,l,rfl,h4,h5⟩:=od_bytes he hq cq h3
    exact⟨(v,l),h2,h4,h5⟩)
   have hg:∀i,i < L.length->L.getD i (.slice none 0 0,[])=L[i]?.getD (.slice none 0 0,[]):=fun i _=>by rw [List.getD_eq_getElem?_getD]
   refine⟨_,L.map (·.2),hcs,⟨L.map (·.1),.inr ⟨b,o,c,by rw [List.length_map,hL],by rw [List.length_map,hL];exact hc1,hc2,fun j v hj=> ?_⟩,by simp,fun i hi=> ?_⟩,fun l hl=> ?_⟩
   ·rw [List.getElem?_map]at hj
    cases hx:L[j]? with
    | none=>rw [hx]at hj;cases hj
    | some x=>
     rw [hx]at hj
     have hjl:=(List.getElem?_eq_some_iff.1 hx).1
     have h1:=(hr j (by omega)).1
     rw [List.getD_eq_getElem?_getD,hx,Nat.mul_one]at h1
     have h2:=h1 0 x.1 rfl
     rw [Nat.add_zero]at h2
     rw [h2]
     exact hj
   ·rw [List.length_map]at hi
    have h1:=(hr i (by omega)).2.1
    rw [List.getD_eq_getElem?_getD,List.getElem?_eq_getElem hi]at h1
    rw [List.getD_eq_getElem?_getD,List.getD_eq_getElem?_getD,List.getElem?_map,List.getElem?_map,List.getElem?_eq_getElem hi]
    exact h1
   ·obtain⟨x,hx,rfl⟩:=List.mem_map.1 hl
    obtain⟨i,hi,rfl⟩:=List.getElem_of_mem hx
    have h1:=(hr i (by omega)).2.2
    rw [List.getD_eq_getElem?_getD,List.getElem?_eq_getElem hi]at h1
    exact h1
theorem od_one {j:Nat} {x:Value} (h:(cs.drop j).take 1=[x]):cs[j]? =some x:=by
 have:=congrArg (fun l=>l[0]?) h
 simpa [List.getElem?_take,List.getElem?_drop] using this
theorem list3 {a b c:Value} (h:cs.length=3) (h0:cs[0]? =some a) (h1:cs[1]? =some b) (h2:cs[2]? =some c):cs=[a,b,c]:=by
 match cs,h with
 | [x,y,z],_=>
  simp at h0 h1 h2
  rw [h0,h1,h2]
theorem list9 {a b c d e f g i j:Value} (h:cs.length=9) (h0:cs[0]? =some a) (h1:cs[1]? =some b) (h2:cs[2]? =some c) (h3:cs[3]? =some d) (h4:cs[4]? =some e) (h5:cs[5]? =some f) (h6:cs[6]? =some g) (h7:cs[7]? =some i) (h8:cs[8]? =some j):cs=[a,b,c,d,e,f,g,i,j]:=by
 match cs,h with
 | [x0,x1,x2,x3,x4,x5,x6,x7,x8],_=>
  simp at h0 h1 h2 h3 h4 h5 h6 h7 h8
  rw [h0,h1,h2,h3,h4,h5,h6,h7,h8]
theorem od_shown {ts ti tb tp tr u:TypeId} {f0 f1 f2:Field} (hT:P.underlying t=some (.slice ts)) (ht:P.underlying ts=some (.struct #[f0,f1,f2])) (e0:f0.type=ti) (e1:f1.type=tb) (e2:f2.type=tp) (o0:f0.offset=0) (o1:f1.offset=1) (o2:f2.offset=2)
  (hi:P.underlying ti=some (.int .i64)) (hb:P.underlying tb=some (.slice u)) (hp:P.underlying tp=some (.slice tr)) (hr:P.underlying tr=some (.array 32 u)) (hu:P.underlying u=some (.int .u8))
  (cu:P.cellsOf u=1) (cr:P.cellsOf tr=32) (ci:P.cellsOf ti=1) (cb:P.cellsOf tb=1) (cp:P.cellsOf tp=1) (cts:P.cellsOf ts=3) (h:DataW.trod enc P w 0 (fun _=>true) true n t cs=some y):∃v L,cs=[v]/\RdS w v L:=by
 obtain⟨v,m,hcs,hv,hel⟩:=od_slice hT cts (by decide) h
 rcases hv with ⟨p,rfl,rfl⟩ | ⟨b,o,c,rfl,hc1,hc2⟩
 ·exact⟨_,[],hcs,.inl ⟨⟨p,rfl⟩,rfl,rfl⟩,fun x hx=>by cases hx⟩
 ·by_cases h0:m=0
  ·subst h0
   exact⟨_,[],hcs,.inr ⟨b,o,c,rfl,hc1,hc2,fun j v hj=>by simp [cellsR]at hj⟩,fun x hx=>by cases hx⟩
  ·obtain⟨L,hL,hr'⟩:=list_of s0 (fun i x=>w.rangeAt b (o+i*3) (cS x)/\OkS w x) m (fun i hi'=>by
    obtain⟨cs',k,y',hl,h2,h3⟩:=hel b o ⟨c,rfl,by omega⟩ i hi'
    obtain⟨_,k2,hk⟩:=od_fields ht h3
    obtain⟨_,g0⟩:=hk 0 f0 rfl
    obtain⟨_,g1⟩:=hk 1 f1 rfl
    obtain⟨_,g2⟩:=hk 2 f2 rfl
    rw [e0,o0,ci]at g0
    rw [e1,o1,cb]at g1
    rw [e2,o2,cp]at g2
    obtain⟨z,hz,_⟩:=DataW.trod_int hi g0
    obtain⟨vb,lb,hvb,hlb,hbb⟩:=od_bytes hb hu cu g1
    obtain⟨vp,ds,hvp,hd,hdd⟩:=od_digs hp hr hu cu cr g2
    refine⟨(z,(vb,lb),vp,ds),?_,hlb,hbb,hd,hdd⟩
    have e:cs'=cS (z,(vb,lb),vp,ds):=list3 hl (od_one hz) (od_one hvb) (od_one hvp)
    rw [<-e];exact h2)
   have hs:∀x∈L,OkS w x:=fun x hx=>by
    obtain⟨i,hi',rfl⟩:=List.getElem_of_mem hx
    have:=(hr' i (by omega)).2
    rw [List.getD_eq_getElem?_getD,List.getElem?_eq_getElem hi']at this
    exact this
   exact⟨_,L,hcs,.inr ⟨b,o,c,by rw [hL],by rw [hL];exact hc1,hc2,range_cellsR s0 (by decide) (fun x _=>cS_len x) (fun i hi'=>(hr' i (by omega)).1)⟩,hs⟩
structure LetT (P:Program) (t ti tpl tsl ts tb tbb tp tr u:TypeId) (f0 f1 f2:Field) (g0 g1 g2 g3 g4 g5 g6 g7 g8:Field):Prop where
 st:P.underlying t=some (.struct #[g0,g1,g2,g3,g4,g5,g6,g7,g8])
 ty:g0.type=ti/\g1.type=ti/\g2.type=ti/\g3.type=tpl/\g4.type=tsl/\g5.type=ti/\g6.type=ti/\g7.type=tbb/\g8.type=ti
 of:g0.offset=0/\g1.offset=1/\g2.offset=2/\g3.offset=3/\g4.offset=4/\g5.offset=5/\g6.offset=6/\g7.offset=7/\g8.offset=8
 fs:P.underlying ts=some (.struct #[f0,f1,f2])/\(f0.type=ti/\f1.type=tb/\f2.type=tp)/\(f0.offset=0/\f1.offset=1/\f2.offset=2)
 i:P.underlying ti=some (.int .i64)
 pl:P.underlying tpl=some (.slice ti)
 sl:P.underlying tsl=some (.slice ts)
 b:P.underlying tb=some (.slice u)
 bb:P.underlying tbb=some (.slice tb)
 p:P.underlying tp=some (.slice tr)
 r:P.underlying tr=some (.array 32 u)
 uu:P.underlying u=some (.int .u8)
 c:P.cellsOf u=1/\P.cellsOf tr=32/\P.cellsOf ti=1/\P.cellsOf tb=1/\P.cellsOf tp=1/\P.cellsOf ts=3/\P.cellsOf tpl=1/\P.cellsOf tsl=1/\P.cellsOf tbb=1/\P.cellsOf t=9
theorem od_letter {ti tpl tsl ts tb tbb tp tr u:TypeId} {f0 f1 f2 g0 g1 g2 g3 g4 g5 g6 g7 g8:Field} (hT:LetT P t ti tpl tsl ts tb tbb tp tr u f0 f1 f2 g0 g1 g2 g3 g4 g5 g6 g7 g8) (h:DataW.trod enc P w 0 (fun _=>true) true n t cs=some y):
  ∃l vp vs vb L,LtC w cs l vp vs vb L:=by
 obtain⟨hst,⟨t0,t1,t2,t3,t4,t5,t6,t7,t8⟩,⟨o0,o1,o2,o3,o4,o5,o6,o7,o8⟩,⟨hfs,⟨y0,y1,y2⟩,z0,z1,z2⟩,hi,hpl,hsl,hb,hbb,hp,hr,hu,cu,cr,ci,cb,cp,cts,cpl,csl,cbb,ct⟩:=hT
 obtain⟨hlen,k,hk⟩:=od_fields hst h
 obtain⟨_,h0⟩:=hk 0 g0 rfl
 obtain⟨_,h1⟩:=hk 1 g1 rfl
 obtain⟨_,h2⟩:=hk 2 g2 rfl
 obtain⟨_,h3⟩:=hk 3 g3 rfl
 obtain⟨_,h4⟩:=hk 4 g4 rfl
 obtain⟨_,h5⟩:=hk 5 g5 rfl
 obtain⟨_,h6⟩:=hk 6 g6 rfl
 obtain⟨_,h7⟩:=hk 7 g7 rfl
 obtain⟨_,h8⟩:=hk 8 g8 rfl
 rw [t0,o0,ci]at h0
 rw [t1,o1,ci]at h1
 rw [t2,o2,ci]at h2
 rw [t3,o3,cpl]at h3
 rw [t4,o4,csl]at h4
 rw [t5,o5,ci]at h5
 rw [t6,o6,ci]at h6
 rw [t7,o7,cbb]at h7
 rw [t8,o8,ci]at h8
 obtain⟨kd,e0,_⟩:=DataW.trod_int hi h0
 obtain⟨id,e1,_⟩:=DataW.trod_int hi h1
 obtain⟨oj,e2,_⟩:=DataW.trod_int hi h2
 obtain⟨vp,pl,e3,hP⟩:=od_i64s hpl hi ci h3
 obtain⟨vs,L,e4,hS⟩:=od_shown hsl hfs y0 y1 y2 z0 z1 z2 hi hb hp hr hu cu cr ci cb cp cts h4
 obtain⟨fr,e5,_⟩:=DataW.trod_int hi h5
 obtain⟨ct',e6,_⟩:=DataW.trod_int hi h6
 obtain⟨vb,bl,e7,hB,hby⟩:=od_bytess hbb hb hu cb cu h7
 obtain⟨cd,e8,_⟩:=DataW.trod_int hi h8
 refine⟨⟨kd,id,oj,pl,L.map plS,fr,ct',bl,cd⟩,vp,vs,vb,L,?_,hP,hS,rfl,hB,hby⟩
 exact list9 (hlen.trans ct) (od_one e0) (od_one e1) (od_one e2) (od_one e3) (od_one e4) (od_one e5) (od_one e6) (od_one e7) (od_one e8)
theorem open_letter {base:Nat} {ti tpl tsl ts tb tbb tp tr u:TypeId} {f0 f1 f2 g0 g1 g2 g3 g4 g5 g6 g7 g8:Field} (hT:LetT P t ti tpl tsl ts tb tbb tp tr u f0 f1 f2 g0 g1 g2 g3 g4 g5 g6 g7 g8) {v:Value} {d:DataW H} {p:List MemPlace}
  (hval:Value.okWide P w .any base t v) (h:DataW.Trod enc P w 0 (fun _=>true) true t v d p):∃l,LtV w v l:=by
 obtain⟨⟨L⟩,rfl,hsz⟩:=okWide_struct hT.st hval
 obtain⟨fuel,hf⟩:=h
 obtain⟨l,vp,vs,vb,M,h1⟩:=od_letter hT hf
 simp only [Value.cells]at h1
 exact⟨l,L,vp,vs,vb,M,rfl,h1⟩
end
theorem cells_of_strs {H:Type} {enc:TypeId × Value->H} {P:Program} {w:World} {base:Nat} {sp:Nat->Bool} {held:Bool} {fuel:Nat} {t e:TypeId} {n:Nat} {cs:List Value} {zs:List (List UInt8)} {p:List MemPlace}
  (ht:P.underlying t=some (.array n e)) (he:P.underlying e=some .string) (hce:P.cellsOf e=1) (hct:P.cellsOf t=n)
  (h:DataW.trod enc P w base sp held fuel t cs=some ((DataW.agg (zs.map fun z=>DataW.lit (Lit.string z)):DataW H),p)):∀(i:Nat) (z:List UInt8),zs[i]? =some z->cs[i]? =some (Value.string ⟨z.toArray⟩):=by
 cases fuel with
 | zero=>simp [DataW.trod]at h
 | succ fuel=>
  simp only [DataW.trod,ht,hce,hct,Nat.mul_one]at h
  split at h
  ·rename_i hl
   obtain⟨xs,hm,hx⟩:=Option.map_eq_some_iff.1 h
   have hxs:xs.map (·.1)=zs.map fun z=>(DataW.lit (Lit.string z):DataW H):=by
    have:=congrArg Prod.fst hx
    simpa using this
   have hxl:xs.length=n:=by simpa using Lib.mapM_length hm
   have hzl:zs.length=n:=by
    have:=congrArg List.length hxs
    simp at this
    omega
   intro i z hz
   have hi:i < n:=by have:=(List.getElem?_eq_some_iff.1 hz).1;omega
   obtain⟨b,hb,hf⟩:=Lib.mapM_at hm i i (by simp [hi])
   obtain⟨s,hc,hbs,_⟩:=DataW.trod_string he hf
   have h1:cs[i]? =some (.string s):=by
    have:=congrArg (·[0]?) hc
    simpa [List.getElem?_take,List.getElem?_drop] using this
   have h2:(xs.map (·.1))[i]? =some (DataW.lit (.string s.data.toList):DataW H):=by simp [hb,hbs]
   rw [hxs,List.getElem?_map,hz]at h2
   simp only [Option.map_some,Option.some.injEq,DataW.lit.injEq,Lit.string.injEq]at h2
   rw [h1,h2]
  ·cases h
theorem laid_strs {P:Program} {L:List (String × DataW Unit)} {w:World} {name:String} {zs:List (List UInt8)} {g:Nat} {t e:TypeId} {n:Nat} (h:laidMetH P L w)
  (hf:(L.filter fun x=>x.1==name)=[(name,DataW.agg (zs.map fun z=>DataW.lit (Lit.string z)))]) (hg:P.globalNamed name=some g) (hty:(P.globals[g]?).map (·.type)=some t) (ht:P.underlying t=some (.array n e)) (he:P.underlying e=some .string) (hce:P.cellsOf e=1) (hct:P.cellsOf t=n)
  (hpl:(([(name,DataW.agg (zs.map fun z=>DataW.lit (Lit.string z)))]:List (String × DataW Unit)).all fun x=>x.2.handleName?.isNone)=true):
  ∀(i:Nat) (z:List UInt8),zs[i]? =some z->w.cell? ⟨g,i,none⟩=some (Value.string ⟨z.toArray⟩):=by
 have h1:=h.filter (fun x=>x.1==name)
 rw [hf,MakeChecks.laidMetH_plain _ _ _ hpl]at h1
 obtain⟨ps,⟨g',t',cs,fuel,p,q,hg',ht',hvar,hd,_,_⟩,_⟩:=h1
 obtain rfl:=Option.some.inj (hg.symm.trans hg')
 obtain rfl:=Option.some.inj (hty.symm.trans ht')
 intro i z hz
 have h2:=World.var?_cell hg hvar i
 rw [h2]
 have h3:=cells_of_strs ht he hce hct hd i z hz
 simpa using h3
end Go.Proofs.Bl
namespace Go.Proofs.YtglenbikdahgjaaGreatDoor
open Go Go.ChangeShapes Go.WideShapes Go.ChangeAt Go.RowKit Go.Proofs.Bl
theorem letT:∃f0 f1 f2 g0 g1 g2 g3 g4 g5 g6 g7 g8,LetT Tryz.prog 26 3 23 24 57 27 22 55 54 5 f0 f1 f2 g0 g1 g2 g3 g4 g5 g6 g7 g8:=
 ⟨_,_,_,_,_,_,_,_,_,_,_,_,Tryz.underlying26,⟨rfl,rfl,rfl,rfl,rfl,rfl,rfl,rfl,rfl⟩,⟨rfl,rfl,rfl,rfl,rfl,rfl,rfl,rfl,rfl⟩,⟨Tryz.underlying57,⟨rfl,rfl,rfl⟩,rfl,rfl,rfl⟩,Tryz.underlying3,Tryz.underlying23,Tryz.underlying24,Tryz.underlying27,Tryz.underlying22,Tryz.underlying55,Tryz.underlying54,Tryz.underlying5,
  ⟨by kernel_rfl,by kernel_rfl,by kernel_rfl,by kernel_rfl,by kernel_rfl,by kernel_rfl,by kernel_rfl,by kernel_rfl,by kernel_rfl,by kernel_rfl⟩⟩
theorem open_letter22 {H:Type} {enc:TypeId × Value->H} {w:World} {base:Nat} {v:Value} {d:DataW H} {p:List MemPlace} (hval:Value.okWide Tryz.prog w .any base 26 v) (h:DataW.Trod enc Tryz.prog w 0 (fun _=>true) true 26 v d p):∃l,LtV w v l:=by
 exact letT.elim fun _ h1=>h1.elim fun _ h1=>h1.elim fun _ h1=>h1.elim fun _ h1=>h1.elim fun _ h1=>h1.elim fun _ h1=>h1.elim fun _ h1=>h1.elim fun _ h1=>h1.elim fun _ h1=>h1.elim fun _ h1=>h1.elim fun _ h1=>h1.elim fun _ hT=>open_letter hT hval h
end Go.Proofs.YtglenbikdahgjaaGreatDoor
namespace Go.Proofs.Bl
open Go Go.ChangeShapes Go.WideShapes Go.ChangeAt Go.RowKit Go.Deep
end Go.Proofs.Bl
namespace Go.Proofs.YtglenbikdahgjaaGreatDoor
open Go Go.ChangeShapes Go.WideShapes Go.ChangeAt Go.RowKit Go.Proofs.Bl
theorem globW_of {L:List (String × DataW Unit)} {w:World} (h:laidMetH Tryz.prog L w) (hf:(L.filter fun x=>x.1== "bailee/foe.words")=[("bailee/foe.words",DataW.agg (fwords.map fun z=>DataW.lit (Lit.string z)))]):GlobW w:=
 ⟨laid_strs h hf (by kernel_rfl) (t:=131) (by kernel_rfl) Tryz.underlying131 Tryz.underlying9 (by kernel_rfl) (by kernel_rfl) (by kernel_rfl)⟩
end Go.Proofs.YtglenbikdahgjaaGreatDoor
