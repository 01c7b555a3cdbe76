/- Lemmas. -/
import Derived.Test.YtnepiccbpokmiaaGreatDoorMg29
import Derived.Test.YtnepiccbpokmiaaGreatDoorMg16
import Derived.Test.YtnepiccbpokmiaaGreatDoorMg10
set_option linter.all false
set_option maxHeartbeats 4000000
set_option maxRecDepth 100000
namespace Go.Proofs.YtnepiccbpokmiaaGreatDoor
open Tryz List Nat Go.RowKit Go.Sort Go.Shelf Go.Lib
variable {F:List Nat}{b:Nat}{w w':World}
def mf(P:Nat->Prop)(w:World):El->Nat->Prop
  | .coin s k,b=>P b/\gn w b 252 #[k,s,.slice none 0 0]
  | .pack x y, b => ∃ g b1 b2, P b /\ P g /\ gn w b 252 #[.int .i64 ((x.wt + y.wt : Nat) : Int), .int .i64 0, .slice (some ⟨g, 0, none⟩) 2 2] /\
      gn w g 250 #[.pointer (some ⟨b1,0,none⟩),.pointer (some ⟨b2,0,none⟩)]/\mf P w x b1/\mf P w y b2
theorem mf.head{P:Nat->Prop}{e:El}(h:mf P w e b):P b/\b<w.heap.size/\w.cell? b=some (.int .i64 e.wt):=by
 cases e with
 | coin s k=>exact⟨h.1,h.2.lt,by have := h.2.X 0;simpa[El.wt]using this⟩
 | pack x y=>
  obtain⟨g,d,f,c,i,a,_⟩:=h;exact⟨c,a.lt,by have:=a.X 0;simpa[El.wt]using this⟩
theorem mf.Z{P:Nat->Prop}(a:gf F w w')(hF:∀x∈F,¬P x):∀ {e:El} {b:Nat},mf P w e b->mf P w' e b:=by
 intro e
 induction e with
 | coin s k=>intro b h;exact⟨h.1,h.2.Z a λhm=>hF _ hm h.1⟩
 | pack x y ihx ihy=>
  intro b h;obtain⟨g,f,i,c,d,j,l,m,n⟩:=h;exact⟨g,f,i,c,d,j.Z a λhm=>hF _ hm c,l.Z a λhm=>hF _ hm d,ihx m,ihy n⟩
theorem mf.Y{P:Nat->Prop}(a:gf [] w w'){e:El}(h:mf P w e b):mf P w' e b:=h.Z a (by simp)
theorem mf.imp{P Q:Nat->Prop}(h:∀x,x<w.heap.size->P x->Q x):∀ {e:El} {b:Nat},mf P w e b->mf Q w e b:=by
 intro e
 induction e with
 | coin s k=>intro b k;exact⟨h _ k.2.lt k.1,k.2⟩
 | pack x y ihx ihy=>
  intro b k;obtain⟨g,d,f,i,j,a,c,l,m⟩:=k;exact⟨g,d,f,h _ a.lt i,h _ c.lt j,a,c,ihx l,ihy m⟩
abbrev PE:=Nat × El
def kx(p:PE):Value:=.pointer (some ⟨p.1,0,none⟩)
def kU(P:Nat->Prop)(w:World)(l:List PE):Prop:=∀p∈l,mf P w p.2 p.1
theorem kU.Z{P:Nat->Prop}{l:List PE}(h:kU P w l)(a:gf F w w')(hF:∀x∈F,¬P x):kU P w' l:=λp hp=>(h p hp).Z a hF
theorem kU.Y{P:Nat->Prop}{l:List PE}(h:kU P w l)(a:gf [] w w'):kU P w' l:=λp hp=>(h p hp).Y a
theorem kU.imp{P Q:Nat->Prop}{l:List PE}(h:kU P w l)(hi:∀x,x<w.heap.size->P x->Q x):kU Q w l:=λp hp=>(h p hp).imp hi
theorem NM(blk d c h a:Nat)(W:World)(G K:Nat->Nat)(n:W.cell? h=some (.slice (some ⟨blk,d,none⟩) a c))(f:∀t,t<a->W.cell? ⟨blk,d+t,none⟩=some (.pointer (some ⟨G t,0,none⟩)))(g:∀t,t<a->W.cell? ⟨G t,0,none⟩=some (.int .i64 (K t:Int)))(i j:Nat)(hi:i<a)(k:j<a):Calls prog 316 #[i,j,.pointer h] W λe w'=>e=.returned (.bool (decide (K i<K j)))/\∃q,w'=W.drewN q:=by
 have l:=f i hi;have m:=f j k;have o:=g i hi;have p:=g j k;clear f g;have e:decide (K i<K j)=decide ((K i:Int)<(K j:Int)):=by simp
 rw[e];generalize K i=ki at *;generalize K j=kj at *;generalize G i=gi at *;generalize G j=gj at *;clear e;go_enter func316,ntmps316;go_wp2
 go_quiet (fail)
 go_wp2;go_ret;exact⟨by simp,nq,rfl⟩
open Go.RowKit Go.Sort Go.Shelf Go.Lib
noncomputable def OV:TypeInfo:=(prog.info? 249).get (by kernel_rfl)
noncomputable def rN:TypeInfo:=(prog.info? 250).get (by kernel_rfl)
theorem LV(n:Nat)(e:2<=n):Lib.swapperK n rN 22=3:=by
 have a:rN.hasPointers=true:=by kernel_rfl
 have b:rN.bytes=8:=by kernel_rfl
 have c:(n==0)=false:=by simp;omega
 have d:(n==1)=false:=by simp;omega
 simp[Lib.swapperK,a,b,c,d]
theorem Er(w:World)(v:Value)(g:Nat)(E:List PE)(z:2<=E.length)(q:E.length<1099511627776)(r:gv w 250 v g (E.map kx))(Q:kU (·≠g) w E):Calls prog 281 #[v] w λe w'=>e=.returned (.tuple #[])/\gv w' 250 v g ((pn (·.2) E (E.headD default)).map kx)/\gf [g] w w':=by
 have aG:=r.lt;obtain⟨a,rfl,am,au,_,_⟩:=r.oq;have⟨n,hn⟩:=zX E.length;rw[<-hn]at z q am⊢
 -- the elements by their places
 have⟨e0,ak⟩:=zX (E.headD default);have L:e0∈E:=by
  rw[ak]
  cases E with
  | nil=>simp at hn;omega
  | cons x l=>simp
 have H:∀k,E.getD k e0∈E:=λk=>by
  rw[zD]
  cases hk:E[k]? with
  | none=>exact L
  | some x=>exact mem_of_getElem? hk
 let enc:Nat->Value:=λk=>kx (E.getD k e0)
 let T:List El:=E.map (·.2)
 have D:∀k,(E.getD k e0).2.wt=lZ T k:=λk=>by
  unfold lZ;show _=((E.map λp:PE=>p.2).getD k ((E.map λp:PE=>p.2).headD default)).wt;rw[zD,zD,zW,ak]
  cases hk:E[k]? with
  | none=>
   cases E with
   | nil=>rfl
   | cons x l=>rfl
  | some x=>rfl
 let lt:Nat->Nat->Bool:=λx y=>decide (lZ T x<lZ T y)
 have G:(range n).map enc=E.map kx:=by
  have e:(range n).map enc=((range n).map λk=>E.getD k e0).map kx:=by rw[map_map];rfl
  rw[e,hn,tP]
 rw[<-hn,<-G]at r;have u:=r.alloc (.cells #[.slice g n a] 249);have⟨W1,ab⟩:=zX (w.alloc (.cells #[.slice g n a] 249));have s:Holds enc W1 g 0 (range n).toArray:=by rw[ab];exact u.holds
 have K:g<W1.heap.size:=by rw[ab];simp;omega
 have h:(range n).toArray.size=n:=by simp
 have C:W1.cell? ⟨w.heap.size,0,none⟩=some (.slice g n a):=by rw[ab];simp
 have I:kU (·≠g) W1 E:=Q.Y (by rw[ab];exact(zR [] w).alloc _);have B:LessReads prog 316 #[.pointer (some ⟨w.heap.size,0,none⟩)] enc lt g 0 n W1:=by
  intro m os d hs i j hi A;have f:SW enc W1 g 0 d (sortWorld enc W1 g 0 m d os):=⟨m,os,rfl⟩;have U:=f.holds K s (hs.trans h.symm);have hl:=NM g 0 a w.heap.size n (sortWorld enc W1 g 0 m d os) (λt=>(E.getD d[t]! e0).1) (λt=>lZ T d[t]!)
   ((kW f (p:=⟨w.heap.size,0,none⟩) (by rw[ab];simp) (by show w.heap.size≠g;omega)).trans C)
   (λt ht=>(U t (by omega)).1)
   (λt ht=>by
    have o:=(I _ (H d[t]!)).head;rw[kW f (p:=⟨(E.getD d[t]! e0).1,0,none⟩) o.2.1 o.1,o.2.2,D]) i j hi A
  exact hl
 have ad:qF lt (kR T) 0 n (range n).toArray:=by
  intro i j _ aH A;have ei:(range n).toArray[i]! = i:=by simp[show i<n by omega]
  have ej:(range n).toArray[j]! = j:=by simp[A]
  rw[ei,ej];show decide (lZ T j<lZ T i)=kR T j i;unfold kR
  congr 1
  simp only[eq_iff_iff];omega
 have J:T.length=n:=by show(E.map (·.2)).length=n;rw[zE];exact hn.symm
 have R:=Any.sort_SliceStable_of_stable (P:=prog) laysGt8 249 250 OV rN (by kernel_rfl) (by kernel_rfl) (by kernel_rfl) (by kernel_rfl) 22 (λ_=>by kernel_rfl) (some ⟨g,0,none⟩) n a (by omega) 335
  (by rw[LV _ z];kernel_rfl) (.func 316) #[] #[.pointer (some ⟨w.heap.size,0,none⟩)] W1
  (λW=>gv W 250 (.slice g n a) g ((pn (·.2) E e0).map kx)/\gf [g] W1 W) (by
   have hB:sliceBound prog 250 rN 22 (some ⟨g,0,none⟩) n a=#[.slice g n a,typeHandle prog 250]:=by
    unfold sliceBound;rw[if_neg (swapperK_gt _ _ _ z)]
   rw[hB];have S:kQ prog enc lt 316 #[.pointer (some ⟨w.heap.size,0,none⟩)] g 0 n W1 (range n).toArray:=⟨B,s,K,h⟩;have ao:=swapSwaps_of_literal (P:=prog) true 335
    (λargs W=>run_callFunc_extern func335 (by kernel_rfl) (by kernel_rfl) (by kernel_rfl) (e:=Extern.ReflectliteSwapper.swap true) (by kernel_rfl) args W) 250 rN (by kernel_rfl) (by kernel_rfl) (λ_=>by kernel_rfl) enc (λ_=>rfl) g 0 n a
   have Z:=LE enc lt (kR T) 316 #[.pointer (some ⟨w.heap.size,0,none⟩)] 335 #[.slice g n a,typeHandle prog 250] g 0 n (Ek T)
    (enters_of func316 (by kernel_rfl) rfl) ao q _ _
    ((S.alloc (.cells #[.slice g n a] 249)).alloc (.cells #[.pointer (some ⟨(prog).globals.size,249,none⟩),.pointer (some ⟨W1.heap.size,0,none⟩),.int .u64 151] (laysGt8_ren.t 36))) ad
   refine Z.mono ?_;rintro e w' ⟨rfl,c,Y,M,f⟩;have X:c.toList=nU T:=by
    have o:=sorted_unique_holds (Ek T) (Jc T) (range n).toArray c (by rw[h];exact M) (by rw[h];exact Y);rw[o];unfold nU;rw[J]
   refine⟨rfl,?_,?_⟩
   .obtain⟨m,os,rfl⟩:=f
    have N:=(u.alloc (.cells #[.slice g n a] 249)).alloc (.cells #[.pointer (some ⟨(prog).globals.size,249,none⟩),.pointer (some ⟨W1.heap.size,0,none⟩),.int .u64 151] (laysGt8_ren.t 36));rw[<-ab]at N;have O:=((N.aheadN m).putRow (ys:=c.toList) (by
     have:c.toList.length=c.size:=Array.length_toList
     rw[this,M.1];simp)).growO os
    rw[Array.toArray_toList]at O;have em:(pn (·.2) E e0).map kx=c.toList.map enc:=by
     unfold pn;rw[map_map,X];rfl
    rw[em];exact O
   .obtain⟨m,os,rfl⟩:=f
    exact((((((zR [g] W1).alloc _).alloc _).aheadN m).putRow (.inl (by simp)) 0 c).growO os))
 have V:Calls prog 315 _ _ _:=R;clear R B I C s u r Q ad J D;have⟨ap,aA⟩:=gy ab ak;clear ab hn G h H L ak;go_enter func281,ntmps281;go_wp2_with fail;rw[<-ap.o];refine V.mono ?_;rintro e w' ⟨rfl,k3,k4⟩;go_wp2
 go_end0
 rw[ap.o]at k4;refine⟨rfl,?_,((zR [g] w).alloc _).tq k4⟩;rw[<-aA.o];exact k3
end Go.Proofs.YtnepiccbpokmiaaGreatDoor
