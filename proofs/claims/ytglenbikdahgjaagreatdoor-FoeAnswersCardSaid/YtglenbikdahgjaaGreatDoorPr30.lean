/- Texts that stood apart, in one: OpenL, LetT. -/
import Derived.Test.YtglenbikdahgjaaGreatDoorPr20
set_option maxRecDepth 100000
set_option maxHeartbeats 16000000
open Go renaming Program->Ee,TypeId->Ec,Value->DG,World->DF
open Go.MakeChecks renaming laidMetH_plain->Ii
open Go.Value renaming okWide->H9
open List renaming getElem?_drop->E3,getElem?_take->EA
open Option.some renaming inj->Fk
namespace Go.Proofs.Bl
open Go Go.RowKit Go.Proofs
open Go.Proofs.Tryz renaming prog->DE
variable {base n:Nat}
section
open Go.ChangeAt Go.ChangeShapes Go.Deep Go.WideShapes
section
variable {H:Type} {enc:Ec × DG->H} {P:Ee} {w:DF} {n:Nat} {t:Ec} {cs:List DG} {y:DataW H × List MemPlace}
theorem sj {j:Nat} {x:DG} (h:(cs.drop j).take 1=[x]):cs[j]? =some x:=by
 have:=congrArg (fun l=>l[0]?) h;simpa[EA,E3] using this
theorem AU {a b c:DG} (h:cs.length=3) (h0:cs[0]? =some a) (h1:cs[1]? =some b) (h2:cs[2]? =some c):cs=[a,b,c]:=by
 match cs,h with
 | [x,y,z],_=>simp at h0 h1 h2;rw[h0,h1,h2]
structure B9 (P:Ee) (t ti tpl tsl ts tb tbb tp tr u:Ec) (f0 f1 f2:Field) (g0 g1 g2 g3 g4 g5 g6 g7 g8:Field):Prop where
 st:P.underlying t=some (.struct #[g0,g1,g2,g3,g4,g5,g6,g7,g8])
 ty:g0.type=ti/\g1.type=ti/\g2.type=ti/\g3.type=tpl/\g4.type=tsl/\g5.type=ti/\g6.type=ti/\g7.type=tbb/\g8.type=ti
 of:g0.offset=0/\g1.offset=1/\g2.offset=2/\g3.offset=3/\g4.offset=4/\g5.offset=5/\g6.offset=6/\g7.offset=7/\g8.offset=8
 fs:P.underlying ts=some (.struct #[f0,f1,f2])/\(f0.type=ti/\f1.type=tb/\f2.type=tp)/\(f0.offset=0/\f1.offset=1/\f2.offset=2)
 i:P.underlying ti=some (.int .i64)
 pl:P.underlying tpl=some (.slice ti)
 sl:P.underlying tsl=some (.slice ts)
 b:P.underlying tb=some (.slice u)
 bb:P.underlying tbb=some (.slice tb)
 p:P.underlying tp=some (.slice tr)
 r:P.underlying tr=some (.array 32 u)
 uu:P.underlying u=some (.int .u8)
 c:P.cellsOf u=1/\P.cellsOf tr=32/\P.cellsOf ti=1/\P.cellsOf tb=1/\P.cellsOf tp=1/\P.cellsOf ts=3/\P.cellsOf tpl=1/\P.cellsOf tsl=1/\P.cellsOf tbb=1/\P.cellsOf t=9
end
theorem mW {H:Type} {enc:Ec × DG->H} {P:Ee} {w:DF} {sp:Nat->Bool} {held:Bool} {fuel:Nat} {t e:Ec} {cs:List DG} {a:List (List UInt8)} {p:List MemPlace}
  (q:P.underlying t=some (.array n e)) (he:P.underlying e=some .string) (k:P.cellsOf e=1) (l:P.cellsOf t=n)
  (h:DataW.trod enc P w base sp held fuel t cs=some ((DataW.agg (a.map fun z=>DataW.lit (Lit.string z)):DataW H),p)):∀(i:Nat) (z:List UInt8),a[i]? =some z->cs[i]? =some (Value.string ⟨z.toArray⟩):=by
 cases fuel with
 | zero=>simp[DataW.trod]at h
 | succ fuel=>
  simp only[DataW.trod,q,k,l,Nat.mul_one]at h;split at h
  ·rename_i r;obtain⟨xs,hm,hx⟩:=Option.map_eq_some_iff.1 h;have c:xs.map (·.1)=a.map fun z=>(DataW.lit (Lit.string z):DataW H):=by have:=congrArg Prod.fst hx;simpa using this
   have u:xs.length=n:=by simpa using Lib.mapM_length hm
   have v:a.length=n:=by have:=congrArg List.length c;simp at this;omega
   intro i z d;have o:i < n:=by have:=(List.getElem?_eq_some_iff.1 d).1;omega
   obtain⟨b,f,m⟩:=Lib.mapM_at hm i i (by simp[o]);obtain⟨s,j,g,_⟩:=DataW.trod_string he m;have h1:cs[i]? =some (.string s):=by have:=congrArg (·[0]?) j;simpa[EA,E3] using this
   have h2:(xs.map (·.1))[i]? =some (DataW.lit (.string s.data.toList):DataW H):=by simp[f,g]
   rw[c,List.getElem?_map,d]at h2;simp only[Option.map_some,Option.some.injEq,DataW.lit.injEq,Lit.string.injEq]at h2;rw[h1,h2]
  ·cases h
theorem uK {P:Ee} {L:List (String × DataW Unit)} {w:DF} {name:String} {a:List (List UInt8)} {g:Nat} {t e:Ec} (h:laidMetH P L w)
  (k:(L.filter fun x=>x.1==name)=[(name,DataW.agg (a.map fun z=>DataW.lit (Lit.string z)))]) (b:P.globalNamed name=some g) (s:(P.globals[g]?).map (·.type)=some t) (o:P.underlying t=some (.array n e)) (he:P.underlying e=some .string) (d:P.cellsOf e=1) (f:P.cellsOf t=n)
  (m:(([(name,DataW.agg (a.map fun z=>DataW.lit (Lit.string z)))]:List (String × DataW Unit)).all fun x=>x.2.handleName?.isNone)=true):
  ∀(i:Nat) (z:List UInt8),a[i]? =some z->w.cell? ⟨g,i,none⟩=some (Value.string ⟨z.toArray⟩):=by
 have h1:=h.filter (fun x=>x.1==name);rw[k,Ii _ _ _ m]at h1;obtain⟨ps,⟨y,A,cs,fuel,p,q,l,r,u,j,_,_⟩,_⟩:=h1;obtain rfl:=Fk (b.symm.trans l);obtain rfl:=Fk (s.symm.trans r);intro i z v;have h2:=World.var?_cell b u i;rw[h2];have c:=mW o he d f j i z v;simpa using c
end
section
open Go.ChangeAt Go.ChangeShapes Go.Deep Go.WideShapes
theorem sk {H:Type} {enc:Ec × DG->H} {P:Ee} {w:DF} {t ti:Ec} {f0 f1 f2:Field} (i:P.underlying t=some (.struct #[f0,f1,f2])) (l:f0.type=ti) (m:f1.type=ti) (n:f2.type=ti) (o0:f0.offset=0) (r:f1.offset=1) (s:f2.offset=2)
  (f:P.underlying ti=some (.int .i64)) (ci:P.cellsOf ti=1) (j:P.cellsOf t=3) {v:DG} {d:DataW H} {p:List MemPlace}
  (q:H9 P w .any base t v) (h:DataW.Trod enc P w 0 (fun _=>true) true t v d p):∃a b c,v=.agg #[.int .i64 a,.int .i64 b,.int .i64 c]:=by
 obtain⟨⟨L⟩,rfl,z⟩:=okWide_struct i q;obtain⟨fuel,o⟩:=h;obtain⟨hlen,k,g⟩:=tz i o;obtain⟨_,h0⟩:=g 0 f0 rfl;obtain⟨_,h1⟩:=g 1 f1 rfl;obtain⟨_,h2⟩:=g 2 f2 rfl;simp only[Value.cells]at h0 h1 h2 hlen;rw[l,o0,ci]at h0;rw[m,r,ci]at h1;rw[n,s,ci]at h2;obtain⟨a,u,_⟩:=DataW.trod_int f h0;obtain⟨b,x,_⟩:=DataW.trod_int f h1;obtain⟨c,y,_⟩:=DataW.trod_int f h2;have e:=AU (hlen.trans j) (sj u) (sj x) (sj y);exact⟨a,b,c,by rw[e]⟩
end
section
open Go.ChangeAt Go.ChangeShapes Go.WideShapes
theorem sm {H:Type} {enc:Ec × DG->H} {w:DF} {v:DG} {d:DataW H} {p:List MemPlace} (e:H9 DE w .any base 65 v) (h:DataW.Trod enc DE w 0 (fun _=>true) true 65 v d p):∃a b c,v=.agg #[.int .i64 a,.int .i64 b,.int .i64 c]:=
 sk (ti:=3) Tryz.underlying65 rfl rfl rfl rfl rfl rfl Tryz.underlying3 (by kernel_rfl) (by kernel_rfl) e h
theorem xy {L:List (String × DataW Unit)} {w:DF} (h:laidMetH DE L w) (a:(L.filter fun x=>x.1== "bailee/foe.words")=[("bailee/foe.words",DataW.agg (rR.map fun z=>DataW.lit (Lit.string z)))]):my w:=
 ⟨uK h a (by kernel_rfl) (t:=131) (by kernel_rfl) Tryz.underlying131 Tryz.underlying9 (by kernel_rfl) (by kernel_rfl) (by kernel_rfl)⟩
end
end Go.Proofs.Bl
