/- package palette by its contracts: Get. -/
import Derived.Test.YtepjepkgcdfboaaGreatDoorMg47
import Derived.Test.YtepjepkgcdfboaaGreatDoorMg54
set_option linter.unusedVariables false
set_option linter.unusedSimpArgs false
set_option maxHeartbeats 1000000
set_option maxRecDepth 100000
namespace Go.Proofs.YtepjepkgcdfboaaGreatDoor
open Go.RowKit
def c3w (pos d:Nat) (C:List (List Int)) (i j:Nat):Nat:=pos+(a3o d C i).length+(a1v ((C.getD i []).take j) d).length
theorem e4o {pos d:Nat} {C:List (List Int)} {i j:Nat} (hj:j<(C.getD i []).length):c3w pos d C i (j+1)=c3w pos d C i j+d:=by
 unfold c3w
 rw [b2q hj,zC,a0a]
 omega
theorem e9i {pos d:Nat} {C:List (List Int)} {i n:Nat} (hi:i<C.length) (hn:(C.getD i []).length=n):c3w pos d C i n=c3w pos d C (i+1) 0:=by
 unfold c3w
 rw [a6n hi,zC,zT (by omega),List.take_zero]
 show _=_+0
 omega
theorem e0a {pos d:Nat} {C:List (List Int)} {ds:List Nat} (ha:a0y ds pos (a3o d C C.length)):∀ (k i j:Nat),i+k+1=C.length->j<(C.getD i []).length->a0y ds (c3w pos d C i j) (a0b ((C.getD i []).getD j 0).toNat d):=by
 have ab:∀ (l:List Int) (k j:Nat),j+k=l.length->∃ r,a1v l d=a1v (l.take j) d++r:=fun l k=>by
  induction k with
  | zero=>intro j hj;exact ⟨[],by rw [List.append_nil,zT (by omega)]⟩
  | succ k ih =>
   intro j hj
   obtain ⟨r,hr⟩:=ih (j+1) (by omega)
   exact ⟨_,by rw [hr,b2q (by omega),zH]⟩
 have aa:∀ k i,i+k=C.length->∃ r,a3o d C C.length=a3o d C i++r:=fun k=>by
  induction k with
  | zero=>intro i hi;exact ⟨[],by rw [List.append_nil,show i=C.length by omega]⟩
  | succ k ih =>
   intro i hi
   obtain ⟨r,hr⟩:=ih (i+1) (by omega)
   exact ⟨_,by rw [hr,a6n (by omega),zH]⟩
 intro k i j hi hj
 obtain ⟨r,hr⟩:=aa k (i+1) (by omega)
 obtain ⟨r2,ac⟩:=ab (C.getD i []) ((C.getD i []).length-(j+1)) (j+1) (by omega)
 rw [hr,a6n (by omega),ac,b2q hj] at ha
 simp only [zH] at ha
 have h1:=ha.right.right.left
 unfold c3w
 exact h1
def b6p (w:World) (b:Nat) (F ds:List Nat) (pos n d:Nat) (C:List (List Int)) (e:Ending) (w':World):Prop :=
 ∃ (gL:Nat) (xs:List Value) (gs:List Nat),e=.returned (.tuple #[d1i n d C.length gL 0 C.length,.int .i64 0])/\b3f w' n d C gL C.length xs gs/\a1r w' b F ds pos/\Chg [b] w w'/\∀ x∈gL::gs,w.heap.size<=x
theorem e4m {w:World} {n d:Nat} {C:List (List Int)} (hok:e1e n d C) {b:Nat} {F ds:List Nat} {pos:Nat} (hr:a1r w b F ds pos) (ha:a0y ds pos (a2q n d C)) :
  Calls Tryz.prog 99 #[.pointer (some ⟨b,0,none⟩)] w (b6p w b F ds (pos+(a2q n d C).length) n d C):=by
 unfold b6p d1i
 have co:=hr.lt b hr.mem
 have cr:=hok.d0
 have bP:=hok.d1
 have cw:=hok.n0
 have cC:=hok.n1
 have ca:=hok.c0
 have ce:=hok.c1
 have au:=fun i (hi:i<C.length)=>hok.len _ (a0n hi)
 have bl:=fun i (hi:i<C.length)=>hok.smp _ (a0n hi)
 obtain ⟨D1,ck⟩:∃ D1,d=D1+1:=⟨d-1,by omega⟩
 obtain ⟨N1,ci⟩:∃ N1,n=N1+1:=⟨n-1,by omega⟩
 obtain ⟨M1,bF⟩:∃ M1,C.length=M1+1:=⟨C.length-1,by omega⟩
 have aW:a2q n d C=a0b D1 4++(a0b N1 2++(a0b M1 8++a3o d C C.length)):=by
  unfold a2q
  rw [show d-1=D1 by omega,show n-1=N1 by omega,show C.length-1=M1 by omega]
 have aq:pos+(a2q n d C).length=c3w (pos+4+2+8) d C C.length 0:=by
  rw [aW]
  unfold c3w
  simp only [zC,a0a,List.take_zero]
  show _=_+0
  omega
 rw [aq]
 rw [aW] at ha
 have bp:=ha.left
 have aM:=ha.right
 rw [a0a] at aM
 have bm:=aM.left
 have ae:=aM.right
 rw [a0a] at ae
 have bj:=ae.left
 have aN:=ae.right
 rw [a0a] at aN
 have bz:=fun w1 (h:a1r w1 b F ds pos)=>a0j w1 b F ds pos 4 D1 h (by omega) (by omega) bp
 have aG:=fun w1 (h:a1r w1 b F ds (pos+4))=>a0j w1 b F ds _ 2 N1 h (by omega) (by omega) bm
 have ap:=fun w1 (h:a1r w1 b F ds (pos+4+2))=>a0j w1 b F ds _ 8 M1 h (by omega) (by omega) bj
 obtain ⟨P0,a9⟩:=zX (pos+4+2+8)
 rw [<-a9] at aN ⊢
 have an:∀ i j,i<C.length->∃ v:Nat,(C.getD i []).getD j 0=(v:Int)/\v<2^d:=fun k i hk=>by
  obtain ⟨s0,s1⟩:=b0l (bl k hk) i
  refine ⟨((C.getD k []).getD i 0).toNat,(Int.toNat_of_nonneg s0).symm,?_⟩
  have e2:((2^d:Nat):Int)=(2:Int)^d:=by simp
  omega
 have aa:∀ i j,i<C.length->j<n->∃ v:Nat,(C.getD i []).getD j 0=(v:Int)/\v<65536/\∀ w1,a1r w1 b F ds (c3w P0 d C i j)->Calls Tryz.prog 68 #[.pointer (some ⟨b,0,none⟩),.int .i64 d] w1 fun e w'=>e=.returned (.int .u64 v)/\a1r w' b F ds (c3w P0 d C i (j+1))/\Chg [b] w1 w':=fun i j hi hj=>by
  obtain ⟨v,hv,bJ⟩:=an i j hi
  have bk:j<(C.getD i []).length:=by rw [au i hi];exact hj
  refine ⟨v,hv,Nat.lt_of_lt_of_le bJ (Nat.pow_le_pow_right (n:=2) (by decide) bP),fun w1 h => ?_⟩
  have h2:=e0a aN (C.length-(i+1)) i j (by omega) bk
  rw [hv,Int.toNat_natCast] at h2
  have h3:=a0j w1 b F ds _ d v h (by omega) bJ h2
  rw [e4o bk]
  exact h3
 have ac:∀ i,i<C.length->c3w P0 d C i n=c3w P0 d C (i+1) 0:=fun i hi=>e9i hi (au i hi)
 have bH:c3w P0 d C 0 0=P0:=by
  unfold c3w a3o
  simp [a1v]
 obtain ⟨m,hm⟩:=zX (C.length)
 rw [<-hm] at ca ce au bF aa ac ⊢
 have cv:=a1p (P:=Tryz.prog) b7k rfl .i64 .i64 m (by omega) (by omega)
 have cm:=a1p (P:=Tryz.prog) a0p rfl .i64 .i64 n (by omega) (by omega)
 have bV:IntKind.i64.wrap (D1:Int)=(D1:Int):=IntWalk.i64_in _ (by omega)
 have cj:IntKind.i64.wrap (N1:Int)=(N1:Int):=IntWalk.i64_in _ (by omega)
 have cx:IntKind.i64.wrap (M1:Int)=(M1:Int):=IntWalk.i64_in _ (by omega)
 have e1:(D1:Int)+1=(d:Int):=by omega
 have e2:(N1:Int)+1=(n:Int):=by omega
 have e3:(M1:Int)+1=(m:Int):=by omega
 have cu:D1<=15:=by omega
 have cs:N1<=3:=by omega
 have cB:M1<=255:=by omega
 obtain ⟨w1,aI⟩:=zX (w.alloc (.cells #[.int .i64 0,.int .i64 0,.slice none 0 0] 45))
 obtain ⟨R,hR⟩:=zX (w.heap.size)
 have aO:c4m w1 R (.int .i64 0) (.int .i64 0) (.slice none 0 0):=⟨by rw [aI,hR];exact Blk.new w _ _⟩
 have bE:Chg [] w w1:=by rw [aI];exact (zR [] w).alloc _
 have aJ:Hid (w.heap.size<=R/\R<w1.heap.size/\b<R):=hid ⟨by omega,aO.blk.lt,by omega⟩
 have b9:=hid bH
 have bT:=hid a9
 have aD:=hid ac
 have a3:=hid aa
 have af:=hid au
 have aF:=hid hm
 have bu:=hid hok
 have b7:=hid bz
 have b0:=hid aG
 have cg:=hid ap
 have bS:=hid aI
 have bR:=hid hR
 have ch:=hid aO
 have aY:=hid bE
 have bG:=hid hr
 clear co au bl aW aq ha bp aM bm ae bj aN bz aG ap a9 an aa ac bH hm hok aI hR aO bE hr ck ci bF
 go_enter Tryz.func99,Tryz.ntmps99
 go_wp2_with fail
 rw [<-bS.out,<-bR.out]
 refine (b7.out w1 (bG.out.chg aY.out (by simp))).mono ?_
 rintro e w2 ⟨rfl,bf,bN⟩
 have aT:=hid bN
 have aG:=b0.out w2 bf
 clear bf bN
 go_wp2_with fail
 refine aG.mono ?_
 rintro e w3 ⟨rfl,bB,br⟩
 have aU:=hid (aT.out.trans br (fun x hx => .inl hx))
 have ap:=cg.out w3 bB
 clear aG bB br
 go_wp2_with fail
 refine ap.mono ?_
 rintro e w4 ⟨rfl,ak,bq⟩
 have aA:=hid (aU.out.trans bq (fun x hx => .inl hx))
 rw [<-bT.out,<-b9.out] at ak
 obtain ⟨wA,aQ⟩:=zX (w4.alloc (.cells (Array.replicate m (Value.slice none 0 0)) 22))
 obtain ⟨gC,aS⟩:=zX (w4.heap.size)
 have ar:b6n w4 [b] m gC wA [] [] []:=by
  have:=b6n.start (w0:=w4) (E:=[b]) (n:=m) (by omega) (fun x hx=>by simp at hx;subst hx;exact ak.lt _ ak.mem)
  rw [List.toArray_replicate] at this
  rw [aS,aQ]
  exact this
 have cb:=hid ar
 have b6:Hid (a1r wA b F ds (c3w P0 d C 0 0)):=hid (by rw [aQ];exact ak.chg ((zR [] w4).alloc _) (by simp))
 have bZ:=hid aQ
 have b5:=hid aS
 have bL:=hid ak.lt
 clear ap ak bq aQ aS ar bV cj e1 e2
 go_wp2_with fail
 rw [<-bZ.out,<-b5.out]
 go_loopg [7,8,26] m (fun j v7 v8 v26 wr=>∃ (i:Nat) (xs:List Value) (gs:List Nat),v26=.int .i64 i/\i+j=m/\Hid (b6n w4 [b] m gC wr (C.take i) xs gs)/\Hid (a1r wr b F ds (c3w P0 d C i 0)))
 case atStart=>exact ⟨0,[],[],rfl,by omega,cb,b6⟩
 case round =>
  obtain ⟨i,xs,gs,rfl,cy,HS,a8⟩:=hrel
  rcases gk with _ | j
  ·obtain rfl:i=m:=by omega
   have t1:decide ((i:Int)<(i:Int))=false:=by simp
   have aH:=a2b wr b F ds _ a8.out
   have hs:=HS.out
   rw [zT (by rw [<-aF.out];exact zQ _)] at hs
   have ai:=hs.row
   rw [<-aF.out,Nat.sub_self,List.replicate_zero,List.append_nil] at ai
   have aj:b3f wr n d C gC i xs gs:=⟨bu.out,by rw [<-aF.out];exact ai,hs.pl⟩
   have ah:=fun wz (hz:Chg [] wr wz)=>c7q i (aj.at_.same hz)
   unfold d1i at ah
   rw [<-aF.out] at ah
   have a5:=hid ah
   have aC:=hid aj
   have be:Hid (Chg [b] w1 wr):=hid (aA.out.trans hs.chg (fun x hx => .inl hx))
   have aw:Hid (∀ x∈gC::gs,w1.heap.size<=x):=hid (fun x hx=>by have:=hs.new x hx;have:=aA.out.size;omega)
   obtain ⟨wX,ao⟩:=zX (wr.alloc (.cells #[.int .i64 d,.int .i64 n,.slice (some ⟨gC,0,none⟩) i i] 45))
   obtain ⟨X,hX⟩:=zX (wr.heap.size)
   have bx:Chg [] wr wX:=by rw [ao];exact (zR [] wr).alloc _
   have bb:c4m wX X (.int .i64 d) (.int .i64 n) (.slice (some ⟨gC,0,none⟩) i i):=⟨by rw [ao,hX];exact Blk.new wr _ _⟩
   obtain ⟨a0,a1,a2⟩:=bb.cells
   have bX:=hid bb
   have bC:=hid bx
   have cf:=hid ao
   have cn:=hid hX
   rw [ao,hX] at a0 a1 a2
   clear hs ai aj ah ao hX bx bb
   go_wp2_with (go_at_call 69;refine aH.mono ?_;rintro e w' ⟨rfl,rfl⟩)
   rw [<-cf.out,<-cn.out]
   refine (a5.out wX bC.out).mono ?_
   rintro e w5 ⟨rfl,ba⟩
   clear aH a0 a1 a2
   have bK:=hid (bC.out.tq ba)
   obtain ⟨a0,a1,a2⟩:=(bX.out.same ba).cells
   have am:c4m w5 R (.int .i64 0) (.int .i64 0) (.slice none 0 0):=((ch.out.chg be.out (by have:=aJ.out;simp;omega)).same bK.out)
   obtain ⟨z0,z1,z2⟩:=am.cells
   have f0:=am.blk.frozen 0
   have f1:=am.blk.frozen 1
   have f2:=am.blk.frozen 2
   have bW:=hid am
   clear am ba
   go_wp2_with fail
   refine d4b bW.out ?_
   intro V hV hY
   obtain ⟨x0,x1,x2⟩:=hV.cells
   refine bodyPost_ret (v:=.tuple #[.agg #[.int .i64 d,.int .i64 n,.slice (some ⟨gC,0,none⟩) i i],.int .i64 0]) (by simp [results,Tryz.results99,go_sem,x0,x1,x2]) rfl ?_
   have aL:Chg [R] wr V:=(bK.out.mono (F':=[R]) (by simp)).trans hY (fun x hx => .inl hx)
   have bh:∀ x∈gC::gs,x≠R:=fun x hx e=>by have:=aw.out x hx;have:=aJ.out;omega
   refine ⟨gC,xs,gs,rfl,⟨bu.out,aC.out.row.chg aL (by simpa using bh gC (by simp)),aC.out.pl.chg aL (fun x hx=>by simpa using bh x (by simp [hx]))⟩,?_,?_,fun x hx=>by have:=aw.out x hx;have:=aY.out.size;omega⟩
   ·refine a8.out.chg aL (fun x hx hm => ?_)
    simp at hm
    subst hm
    have:=bG.out.lt _ hx
    have:=aJ.out
    omega
   ·refine ((aY.out.mono (F':=[b]) (by simp)).tq be.out).trans aL (fun x hx => .inr ?_)
    simp at hx
    have:=aJ.out
    omega
  ·have hi:i<m:=by omega
   have t1:decide ((i:Int)<(m:Int))=true:=zB (by omega)
   have bd:i<C.length:=by rw [<-aF.out];exact hi
   have ag:(C.take i).length=i:=by rw [zI];omega
   obtain ⟨_,-,-,-,bI,bn⟩:=HS.out.row.open_
   have aR:xs.length=i:=by rw [HS.out.pl.lx,ag]
   have y1:wr.cell? ⟨gC,i,none⟩=some (.slice none 0 0):=by
    rw [bI i (by rw [zC,zV,aR,ag];omega),zS (by omega),List.getElem?_replicate,if_pos (by omega)]
   have bw:=HS.out.row.lt
   have f1:=bn i
   obtain ⟨wB,al⟩:=zX (wr.alloc (.cells (Array.replicate n (Value.int .i64 0)) 3))
   obtain ⟨g5,aP⟩:=zX (wr.heap.size)
   have ax:Chg [] wr wB:=by rw [al];exact (zR [] wr).alloc _
   have bo:Row wB 3 (.slice (some ⟨g5,0,none⟩) n n) g5 ((a1a [] n).map vi):=by
    have:=Row.zeros wr n (by omega)
    rw [List.toArray_replicate] at this
    rw [al,aP]
    exact this
   have av:=HS.out.next (by rw [ag];exact hi) ax (by omega) bo
   rw [ag] at av
   have y2:wB.cell? ⟨gC,i,none⟩=some (.slice none 0 0):=(World.cell?_of_block (w:=wr) (ax.block gC bw (by simp))).trans y1
   have f2:wB.frozen? ⟨gC,i,none⟩=false:=by
    obtain ⟨_,_,_,_,_,aK⟩:=(HS.out.row.chg ax (by simp)).open_
    exact aK i
   obtain ⟨wD,az⟩:=zX (wB.setCell ⟨gC,i,none⟩ (.slice (some ⟨g5,0,none⟩) n n))
   rw [<-az] at av
   have aV:(xs++[Value.slice (some ⟨g5,0,none⟩) n n])[i]?=some (.slice (some ⟨g5,0,none⟩) n n):=by rw [<-aR];simp
   have ay:gs.length=i:=by rw [HS.out.pl.lg,ag]
   have aZ:(gs++[g5])[i]?=some g5:=by rw [<-ay];simp
   have ad:∀ wz l,b6n w4 [b] m gC wz (C.take i++[l]) (xs++[Value.slice (some ⟨g5,0,none⟩) n n]) (gs++[g5])->wz.cell? ⟨gC,i,none⟩=some (.slice (some ⟨g5,0,none⟩) n n)/\Row wz 3 (.slice (some ⟨g5,0,none⟩) n n) g5 (l.map vi):=fun wz l h=>by
    obtain ⟨g,c,h1,h2,h3,h4,_⟩:=h.last (by rw [ag];exact hi)
    rw [ag] at h1 h3 h4
    rw [aV] at h3
    rw [aZ] at h4
    injection h4 with h4
    subst h4
    injection h3 with h3
    rw [<-h3] at h1 h2
    exact ⟨h1,h2⟩
   obtain ⟨y4,-⟩:=ad wD _ av
   have bQ:=hid aV
   have bv:=hid aZ
   have ab:=hid ad
   have bD:a1r wD b F ds (c3w P0 d C i 0):=(a8.out.chg ax (by simp)).chg (show Chg [gC] wB wD from by rw [az];exact (zR [gC] wB).setCell (p:=⟨gC,i,none⟩) (.inl (by simp)) _) (fun x hx hm=>by
    simp at hm
    subst hm
    have h1:=bL.out _ hx
    have h2:=HS.out.new _ (List.mem_cons_self)
    omega)
   have bO:Hid (0+i=i/\i<C.length):=hid ⟨by omega,bd⟩
   have b1:=hid al
   have b2:=hid aP
   have cd:=hid az
   have bM:Hid (b6n w4 [b] m gC wD (C.take i++[a1a ((C.getD i []).take 0) n]) (xs++[Value.slice (some ⟨g5,0,none⟩) n n]) (gs++[g5])):=hid (by rw [List.take_zero];exact av)
   have a7:=hid bD
   have bA:=hid ag
   rw [al] at y2 f2
   rw [az,al,aP] at y4
   clear bI bn aR bw ax bo av al aP az aV ay aZ ad bD ag bd
   obtain ⟨wo,cp⟩:=zX (wr)
   subst cp
   go_wp2_with fail
   rw [<-b2.out,<-b1.out,<-cd.out]
   clear y1 y2 y4 f1 f2
   go_loopg [8,39] n (fun j2 v8 v39 wr2=>∃ k:Nat,v39=.int .i64 k/\k+j2=n/\Hid (b6n w4 [b] m gC wr2 (C.take i++[a1a ((C.getD i []).take k) n]) (xs++[Value.slice (some ⟨g5,0,none⟩) n n]) (gs++[g5]))/\Hid (a1r wr2 b F ds (c3w P0 d C i k)))
   case atStart=>exact ⟨0,rfl,by omega,bM,a7⟩
   case round =>
    obtain ⟨k,rfl,ct,HK,bg⟩:=hrel
    rcases gk with _ | j2
    ·obtain rfl:k=n:=by omega
     have t2:decide ((k:Int)<(k:Int))=false:=by simp
     have hk:=HK.out
     have e5:C.take i++[a1a ((C.getD i []).take k) k]=C.take (i+1):=by
      rw [zT (l:=C.getD i []) (by rw [af.out i hi];exact zQ _),a7l (af.out i hi),List.take_succ_eq_append_getElem bO.out.2,zD,zF bO.out.2]
      rfl
     rw [e5] at hk
     have a6:=bg.out
     rw [aD.out i hi] at a6
     have b3:=hid hk
     have bc:=hid a6
     clear hk e5 a6
     go_wp2_with fail
     go_roundg j
     case measure=>omega
     case rel=>exact ⟨i+1,_,_,by go_num,by omega,b3,bc⟩
    ·have hk:k<n:=by omega
     have t2:decide ((k:Int)<(n:Int))=true:=zB (by omega)
     obtain ⟨y5,aE⟩:=ab.out wr _ HK.out
     obtain ⟨v,hv,cA,aa⟩:=a3.out i k hi hk
     have cz:IntKind.i64.wrap (v:Int)=(v:Int):=IntWalk.i64_in _ (by omega)
     have bi:((C.getD i []).take k).length=k:=by rw [zI,af.out i hi];omega
     have ar:∀ wz,Chg [b] wr wz->b6n w4 [b] m gC (wz.setCell ⟨g5,k,none⟩ (.int .i64 v)) (C.take i++[a1a ((C.getD i []).take (k+1)) n]) (xs++[Value.slice (some ⟨g5,0,none⟩) n n]) (gs++[g5])/\(∃ x,wz.cell? ⟨g5,k,none⟩=some (.int .i64 x))/\wz.frozen? ⟨g5,k,none⟩=false/\wz.cell? ⟨gC,i,none⟩=some (.slice (some ⟨g5,0,none⟩) n n):=fun wz hz=>by
      have h1:=HK.out.turn hz
      obtain ⟨h2,h3⟩:=ab.out wz _ h1
      have h4:=h1.fill (by rw [bA.out];exact bQ.out) (by rw [bA.out];exact bv.out) h3 (j:=k) (by rw [a4g (by omega)];exact hk) (v:Int)
      have e6:(a1a ((C.getD i []).take k) n).set k (v:Int)=a1a ((C.getD i []).take (k+1)) n:=by
       have h5:=b5g (done:=(C.getD i []).take k) (n:=n) (by omega) (v:Int)
       rw [bi] at h5
       have h7:k<(C.getD i []).length:=by rw [af.out i hi];exact hk
       rw [h5,List.take_succ_eq_append_getElem h7,<-hv,zD (l:=C.getD i []),zF h7]
       rfl
      rw [e6] at h4
      obtain ⟨_,_,_,_,h8,h9⟩:=h3.open_
      refine ⟨h4,?_,h9 k,h2⟩
      have aK:k<(a1a ((C.getD i []).take k) n).length:=by rw [a4g (by omega)];exact hk
      refine ⟨(a1a ((C.getD i []).take k) n)[k],?_⟩
      rw [h8 k (by rw [zE];exact aK),zW,zF aK]
      rfl
     have aB:=hid ar
     have b4:=hid aa
     have cq:(0:Int)<=(i:Int):=by omega
     have aO:(i:Int)<(m:Int):=by omega
     clear hv aa bi aE ar
     go_wp2_with fail
     go_region_held3 (fun w'=>w'.cell? ⟨gC,i,none⟩=some (.slice (some ⟨g5,0,none⟩) n n))
      (first | (go_keep;done) | exact (aB.out _ (((zR [b] wr).drew).tq a4)).2.2.2 | exact (ab.out _ _ aX).1 | trivial)
      (first | (go_at_call 68;refine (b4.out _ (bg.out.same ((zR [] wr).drew))).mono ?_;rintro e w6 ⟨rfl,bs,a4⟩;obtain ⟨aX,⟨x6,cl⟩,bU,-⟩:=aB.out _ (((zR [b] wr).drew).trans a4 (fun x hx => .inl hx))))
     have cc:=hid aX
     have bY:Hid (a1r (w6.setCell ⟨g5,k,none⟩ (.int .i64 v)) b F ds (c3w P0 d C i (k+1))):=hid (bs.chg ((zR [g5] w6).setCell (p:=⟨g5,k,none⟩) (.inl (by simp)) _) (fun x hx hm=>by
      simp at hm
      subst hm
      have h1:=bL.out _ hx
      have h2:=bM.out.new _ (List.mem_cons_of_mem _ (List.mem_of_getElem? bv.out))
      omega))
     clear aX bs a4 cl bU y5
     go_wp2_with fail
     go_roundg j2
     case measure=>omega
     case rel=>exact ⟨k+1,by go_num,by omega,cc,bY⟩
theorem e9f {p:a2a} {k i:Nat} (hk:k<p.P.length) (hi:i<p.W*p.H):((a2y p).getD ((a2y p).idxOf (ptC p i)) []).getD k 0=(p.P.getD k []).getD i 0:=by
 have hm:ptC p i∈a2y p:=(a7h p _).2 ⟨i,hi,rfl⟩
 have e3:(a2y p).getD ((a2y p).idxOf (ptC p i)) []=ptC p i:=by
  rw [zD,zF (List.idxOf_lt_length_of_mem hm),List.getElem_idxOf]
  rfl
 rw [e3,e4w p i hk]
theorem e9g {w:World} {p:a2a} (hok:p.Ok) {gL oL:Nat} {BL:Nat->Option Addr} {cL:Nat->Nat} {GL:List Nat} (capL:Nat) (hp:b1a w p.P.length p.d (a2y p) gL oL BL cL GL)
  {A:Option Addr} (cap:Nat) (hl:a0d vi w A (a3q p)) :
  Calls Tryz.prog 102 #[.slice A (a3q p).length cap,.int .i64 p.W,.int .i64 p.H,d1i p.P.length p.d (a2y p).length gL oL capL] w (a2x w p):=by
 unfold a2x a6y
 have a4:=hp.ok
 have aa:∀ w',Chg [] w w'->_:=fun w' (hc':Chg [] w w')=>c7q capL (hp.same hc')
 have ay:=fun i (hi:i<p.P.length)=>hok.len _ (a0n hi)
 have aA:∀ i,i<p.W*p.H->(a2y p).idxOf (ptC p i)<(a2y p).length:=fun i hi=>List.idxOf_lt_length_of_mem ((a7h p _).2 ⟨i,hi,rfl⟩)
 have aj:∀ i,i<p.W*p.H->∃ (x a o:Nat),x<(a2y p).length/\A=some ⟨a,o,none⟩/\∀ wz,Chg [] w wz->wz.cell? ⟨a,o+i,none⟩=some (.int .i64 x)/\∃ b q c,wz.cell? ⟨gL,oL+x,none⟩=some (.slice (some ⟨b,q,none⟩) p.P.length c)/\∀ k,k<p.P.length->wz.cell? ⟨b,q+k,none⟩=some (.int .i64 ((p.P.getD k []).getD i 0)):=fun i hi=>by
  have h1:=d0p hi
  have h2:i<(a3q p).length:=by rw [a9r];exact hi
  obtain ⟨a,o,rfl,bj,aB⟩:=hl.ex (by omega)
  refine ⟨(a2y p).idxOf (ptC p i),a,o,aA i hi,rfl,fun wz hz=>⟨(World.cell?_of_block (w:=w) (hz.block a bj (by simp))).trans (aB i _ h1),?_⟩⟩
  have aV:=hp.same hz
  obtain ⟨b,q,e1,-,e3⟩:=aV.at_ (aA i hi)
  refine ⟨b,q,_,(aV.cell _ (aA i hi)).trans (by rw [e1]),fun k hk => ?_⟩
  rw [e3 k hk,e9f hk hi]
 have bf:=hok.area
 have aZ:=a9r p
 obtain ⟨n,hn⟩:=zX (p.P.length)
 obtain ⟨N,hN⟩:=zX (p.W*p.H)
 obtain ⟨m,hm⟩:=zX ((a2y p).length)
 have bI:n<=4:=by rw [hn];exact hok.n1
 have bG:m<=256:=by rw [hm];exact a4.c1
 unfold d1i at aa ⊢
 rw [aZ]
 rw [<-hn] at aa aj ay ⊢
 rw [<-hm] at aa aj ⊢
 rw [<-hN] at aj ay bf ⊢
 have bH:=a1p (P:=Tryz.prog) b7k rfl .i64 .i64 n (by omega) (by omega)
 have bv:=a1p (P:=Tryz.prog) a0p rfl .i64 .i64 N (by omega) (by omega)
 have bA:(p.W:Int)*(p.H:Int)=(N:Int):=by rw [hN];simp
 have bD:=hok.w1
 have bF:=hok.h1
 have bm:=hok.w0
 have be:=hok.h0
 have t1:decide ((p.W:Int)<1)=false:=zA (by omega)
 have t2:decide ((64:Int)<(p.W:Int))=false:=zA (by omega)
 have t3:decide ((p.H:Int)<1)=false:=zA (by omega)
 have t4:decide ((64:Int)<(p.H:Int))=false:=zA (by omega)
 have t5:((N:Int) != (N:Int))=false:=by simp
 obtain ⟨w1,ag⟩:=zX ((w.alloc (.cells #[.int .i64 p.d,.int .i64 n,.slice (some ⟨gL,oL,none⟩) m capL] 45)).alloc (.cells #[.int .i64 0,.int .i64 0,.int .i64 0,.slice none 0 0] 27))
 obtain ⟨X7,al⟩:=zX (w.heap.size)
 obtain ⟨R,hR⟩:=zX (X7+1)
 have aD:c4m w1 X7 (.int .i64 p.d) (.int .i64 n) (.slice (some ⟨gL,oL,none⟩) m capL):=⟨by rw [ag,al];exact (Blk.new w _ _).alloc _⟩
 have aP:Box w1 R (.int .i64 0) (.int .i64 0) (.int .i64 0) (.slice none 0 0):=⟨by rw [ag,hR,al];exact Blk.new2 w _ _ _⟩
 have a2:Chg [] w w1:=by rw [ag];exact ((zR [] w).alloc _).alloc _
 obtain ⟨b0,b1,b2⟩:=aD.cells
 have aX:Hid (X7=w.heap.size/\R=X7+1/\R<w1.heap.size):=hid ⟨al,hR,aP.blk.lt⟩
 have a8:=hid ag
 have bo:=hid al
 have a7:=hid hR
 have aI:=hid aD
 have ba:=hid aP
 have am:=hid a2
 have aK:=hid aa
 have a3:=hid aj
 have au:=hid ay
 have az:Hid (n=p.P.length):=hid hn
 have bk:=hid hok
 clear ag al hR aD aP a2 aa aj ay hn hok a4 aA hl aZ hp hm hN bm be
 go_enter Tryz.func102,Tryz.ntmps102
 go_wp2_with fail
 rw [<-a8.out,<-bo.out,<-a7.out]
 refine (aK.out w1 am.out).mono ?_
 rintro e w2 ⟨rfl,a5⟩
 have ai:=hid a5
 clear a5 b0 b1 b2
 go_wp2_with fail
 go_loopg [11,46] N (fun j v11 v46 wr=>∃ i:Nat,v46=.int .i64 i/\i+j=N/\w2=wr)
 case atStart=>exact ⟨0,rfl,by omega,rfl⟩
 case round =>
  obtain ⟨i,rfl,bK,rfl⟩:=hrel
  obtain ⟨b0,b1,b2⟩:=(aI.out.same ai.out).cells
  rcases gk with _ | j
  ·obtain rfl:i=N:=by omega
   have t6:decide ((i:Int)<(i:Int))=false:=by simp
   obtain ⟨wA,aQ⟩:=zX (w2.alloc (.cells (Array.replicate n (Value.slice none 0 0)) 22))
   obtain ⟨gC,aE⟩:=zX (w2.heap.size)
   have ah:b6n w2 [] n gC wA [] [] []:=by
    have:=b6n.start (w0:=w2) (E:=[]) (n:=n) (by omega) (by simp)
    rw [List.toArray_replicate] at this
    rw [aE,aQ]
    exact this
   have br:=hid ah
   have bc:=hid aQ
   have bn:=hid aE
   clear aQ aE ah t6
   go_wp2_with fail
   rw [<-bc.out,<-bn.out]
   clear b0 b1 b2
   go_loopg [13,14,15,66] n (fun j v13 v14 v15 v66 wr=>∃ (k:Nat) (xs:List Value) (gs:List Nat),v66=.int .i64 k/\k+j=n/\Hid (b6n w2 [] n gC wr (p.P.take k) xs gs))
   case atStart=>exact ⟨0,[],[],rfl,by omega,br⟩
   case round =>
    obtain ⟨k,xs,gs,rfl,bE,HS⟩:=hrel
    have an:Chg [] w1 wr:=ai.out.tq HS.out.chg
    obtain ⟨b0,b1,b2⟩:=(aI.out.same an).cells
    rcases gk with _ | j
    ·obtain rfl:k=n:=by omega
     have t7:decide ((k:Int)<(k:Int))=false:=by simp
     have hs:=HS.out
     rw [zT (by rw [<-az.out];exact zQ _)] at hs
     have ae:=hs.row
     rw [<-az.out,Nat.sub_self,List.replicate_zero,List.append_nil] at ae
     have aq:a1x wr p gC k xs gs:=⟨bk.out,by rw [<-az.out];exact ae,hs.pl⟩
     have hz:=ba.out.same an
     obtain ⟨z0,z1,z2,z3⟩:=hz.cells
     have f0:=hz.blk.frozen 0
     have f1:=hz.blk.frozen 1
     have f2:=hz.blk.frozen 2
     have f3:=hz.blk.frozen 3
     have ao:Hid (∀ x∈gC::gs,w1.heap.size<=x):=hid (fun x hx=>by have:=hs.new x hx;have:=ai.out.size;omega)
     have aM:=hid aq
     have HZ:=hid hz
     have bp:=hid (am.out.tq an)
     clear hs ae aq hz an
     go_wp2_with fail
     refine b1x HZ.out ?_
     intro V hV hY
     obtain ⟨x0,x1,x2,x3⟩:=hV.cells
     refine bodyPost_ret (v:=.tuple #[.agg #[.int .i64 p.W,.int .i64 p.H,.int .i64 p.d,.slice (some ⟨gC,0,none⟩) k k],.int .i64 0]) (by simp [results,Tryz.results102,go_sem,x0,x1,x2,x3]) rfl ?_
     have aR:∀ x∈gC::gs,x∉[R]:=fun x hx hm=>by have:=ao.out x hx;have:=aX.out;simp at hm;omega
     exact ⟨gC,k,xs,gs,rfl,aM.out.chg hY (aR gC (by simp)) (fun x hx=>aR x (by simp [hx])),bp.out.trans hY (fun x hx => .inr (by simp at hx;have:=aX.out;omega)),fun x hx=>by have:=ao.out x hx;have:=am.out.size;omega⟩
    ·have hk:k<n:=by omega
     have t7:decide ((k:Int)<(n:Int))=true:=zB (by omega)
     have aW:k<p.P.length:=by rw [<-az.out];exact hk
     have ab:(p.P.take k).length=k:=by rw [zI];omega
     obtain ⟨_,-,-,-,aB,bd⟩:=HS.out.row.open_
     have aC:xs.length=k:=by rw [HS.out.pl.lx,ab]
     have y1:wr.cell? ⟨gC,k,none⟩=some (.slice none 0 0):=by
      rw [aB k (by rw [zC,zV,aC,ab];omega),zS (by omega),List.getElem?_replicate,if_pos (by omega)]
     have aY:=HS.out.row.lt
     obtain ⟨wB,ak⟩:=zX (wr.alloc (.cells (Array.replicate i (Value.int .i64 0)) 3))
     obtain ⟨g5,aO⟩:=zX (wr.heap.size)
     have ax:Chg [] wr wB:=by rw [ak];exact (zR [] wr).alloc _
     have aT:Row wB 3 (.slice (some ⟨g5,0,none⟩) i i) g5 ((a1a [] i).map vi):=by
      have:=Row.zeros wr i (by omega)
      rw [List.toArray_replicate] at this
      rw [ak,aO]
      exact this
     have aw:=HS.out.next (by rw [ab];exact hk) ax (by omega) aT
     rw [ab] at aw
     have y2:wB.cell? ⟨gC,k,none⟩=some (.slice none 0 0):=(World.cell?_of_block (w:=wr) (ax.block gC aY (by simp))).trans y1
     have f2:wB.frozen? ⟨gC,k,none⟩=false:=by
      obtain ⟨_,_,_,_,_,av⟩:=(HS.out.row.chg ax (by simp)).open_
      exact av k
     obtain ⟨wD,aL⟩:=zX (wB.setCell ⟨gC,k,none⟩ (.slice (some ⟨g5,0,none⟩) i i))
     rw [<-aL] at aw
     have aF:(xs++[Value.slice (some ⟨g5,0,none⟩) i i])[k]?=some (.slice (some ⟨g5,0,none⟩) i i):=by rw [<-aC];simp
     have ap:gs.length=k:=by rw [HS.out.pl.lg,ab]
     have aJ:(gs++[g5])[k]?=some g5:=by rw [<-ap];simp
     have ad:∀ wz l,b6n w2 [] n gC wz (p.P.take k++[l]) (xs++[Value.slice (some ⟨g5,0,none⟩) i i]) (gs++[g5])->wz.cell? ⟨gC,k,none⟩=some (.slice (some ⟨g5,0,none⟩) i i)/\Row wz 3 (.slice (some ⟨g5,0,none⟩) i i) g5 (l.map vi):=fun wz l h=>by
      obtain ⟨g,c,h1,h2,h3,h4,_⟩:=h.last (by rw [ab];exact hk)
      rw [ab] at h1 h3 h4
      rw [aF] at h3
      rw [aJ] at h4
      injection h4 with h4
      subst h4
      injection h3 with h3
      rw [<-h3] at h1 h2
      exact ⟨h1,h2⟩
     have a6:=hid aF
     have bl:=hid aJ
     have ac:=hid ad
     have bg:=hid ak
     have bh:=hid aO
     have bs:=hid aL
     have bw:Hid (b6n w2 [] n gC wD (p.P.take k++[a1a ((p.P.getD k []).take 0) i]) (xs++[Value.slice (some ⟨g5,0,none⟩) i i]) (gs++[g5])):=hid (by rw [List.take_zero];exact aw)
     have a0:=hid ab
     have a1:=hid aW
     rw [ak] at y2 f2
     clear aB bd aC aY ax aT aw ak aO aL aF ap aJ ad ab aW b0 b1 b2 an
     obtain ⟨wo,bz⟩:=zX (wr)
     subst bz
     go_wp2_with fail
     rw [<-bh.out,<-bg.out,<-bs.out]
     clear y1 y2 f2
     go_loopg [14,15,77] i (fun j2 v14 v15 v77 wr2=>∃ q:Nat,v77=.int .i64 q/\q+j2=i/\Hid (b6n w2 [] n gC wr2 (p.P.take k++[a1a ((p.P.getD k []).take q) i]) (xs++[Value.slice (some ⟨g5,0,none⟩) i i]) (gs++[g5])))
     case atStart=>exact ⟨0,rfl,by omega,bw⟩
     case round =>
      obtain ⟨q,rfl,bC,HK⟩:=hrel
      rcases gk with _ | j2
      ·obtain rfl:q=i:=by omega
       have t8:decide ((q:Int)<(q:Int))=false:=by simp
       have aH:=HK.out
       have e5:p.P.take k++[a1a ((p.P.getD k []).take q) q]=p.P.take (k+1):=by
        rw [zT (l:=p.P.getD k []) (by rw [au.out k hk];exact zQ _),a7l (au.out k hk),List.take_succ_eq_append_getElem a1.out,zD,zF a1.out]
        rfl
       rw [e5] at aH
       have bi:=hid aH
       clear aH e5
       go_wp2_with fail
       go_roundg j
       case measure=>omega
       case rel=>exact ⟨k+1,_,_,by go_num,by omega,bi⟩
      ·have hq:q<i:=by omega
       have t8:decide ((q:Int)<(i:Int))=true:=zB (by omega)
       obtain ⟨y5,ar⟩:=ac.out wr _ HK.out
       have aN:Chg [] w1 wr:=ai.out.tq HK.out.chg
       obtain ⟨x,a,o,a9,rfl,af⟩:=a3.out q hq
       obtain ⟨cx,bx,qx,c',bu,cv⟩:=af wr (am.out.tq aN)
       specialize cv k hk
       obtain ⟨b0,b1,b2⟩:=(aI.out.same aN).cells
       have aS:((p.P.getD k []).take q).length=q:=by rw [zI,au.out k hk];omega
       obtain ⟨v,hv⟩:=zX ((p.P.getD k []).getD q 0)
       rw [<-hv] at cv
       have e6:(a1a ((p.P.getD k []).take q) i).set q v=a1a ((p.P.getD k []).take (q+1)) i:=by
        have h5:=b5g (done:=(p.P.getD k []).take q) (n:=i) (by omega) v
        rw [aS] at h5
        have h7:q<(p.P.getD k []).length:=by rw [au.out k hk];exact hq
        rw [h5,List.take_succ_eq_append_getElem h7,hv,zD (l:=p.P.getD k []),zF h7]
        rfl
       have ah:∀ wz,Chg [] wr wz->b6n w2 [] n gC (wz.setCell ⟨g5,q,none⟩ (.int .i64 v)) (p.P.take k++[a1a ((p.P.getD k []).take (q+1)) i]) (xs++[Value.slice (some ⟨g5,0,none⟩) i i]) (gs++[g5])/\(∃ x,wz.cell? ⟨g5,q,none⟩=some (.int .i64 x))/\wz.frozen? ⟨g5,q,none⟩=false:=fun wz hz=>by
        have h1:=HK.out.turn hz
        obtain ⟨h2,h3⟩:=ac.out wz _ h1
        have h4:=h1.fill (by rw [a0.out];exact a6.out) (by rw [a0.out];exact bl.out) h3 (j:=q) (by rw [a4g (by omega)];exact hq) v
        rw [e6] at h4
        obtain ⟨_,_,_,_,h8,h9⟩:=h3.open_
        refine ⟨h4,?_,h9 q⟩
        have av:q<(a1a ((p.P.getD k []).take q) i).length:=by rw [a4g (by omega)];exact hq
        refine ⟨(a1a ((p.P.getD k []).take q) i)[q],?_⟩
        rw [h8 q (by rw [zE];exact av),zW,zF av]
        rfl
       have aG:=hid ah
       clear aS ar ah e6 hv aN af
       go_wp2_with fail
       refine a0c 14 (by kernel_rfl) (by kernel_rfl) ?_
       simp only [List.take_succ_cons,List.take_zero,List.drop_succ_cons,List.drop_zero]
       repeat (go_big_quiet_step (fail))
       refine wpQuiet_nil ?_
       intro _ bb
       obtain ⟨nq,rfl⟩:=bb
       obtain ⟨aU,⟨x6,bJ⟩,bB⟩:=aG.out _ ((zR [] wr).drewN nq)
       have bq:=hid aU
       clear aU cx bu cv b0 b1 b2 y5
       go_wp2_with fail
       go_roundg j2
       case measure=>omega
       case rel=>exact ⟨q+1,by go_num,by omega,bq⟩
  ·have hi:i<N:=by omega
   have t6:decide ((i:Int)<(N:Int))=true:=zB (by omega)
   obtain ⟨x,a,o,a9,rfl,af⟩:=a3.out i hi
   obtain ⟨cx,-⟩:=af w2 (am.out.tq ai.out)
   have t7:decide ((x:Int)<0)=false:=zA (by omega)
   have t8:decide ((m:Int)<=(x:Int))=false:=zA (by omega)
   have t9:decide (m<=x)=false:=zA (by omega)
   clear af
   go_wp2_with fail
   go_roundg j
   case measure=>omega
   case rel=>exact ⟨i+1,by go_num,by omega,rfl⟩
theorem e2s {way:Option Nat} (hway:b1b way) {w:World} {b:Nat} {F ds:List Nat} {pos:Nat} (hr:a1r w b F ds pos) {p:a2a} (hq:p.Ok) (hc:(a2y p).length<=256) (hmay:b5l way p=true)
  (hp:Pts w) (h0F:0∉F) (ha:a0y ds pos (a2q p.P.length p.d (a2y p)++a1y way (a3q p) p.W p.H (a7i (a2y p).length))) :
  Calls Tryz.prog 70 #[.pointer (some ⟨b,0,none⟩),.int .i64 p.W,.int .i64 p.H,.int .i64 p.d,.int .i64 p.P.length] w (a9h w b F ds (pos+(a2q p.P.length p.d (a2y p)).length+(a1y way (a3q p) p.W p.H (a7i (a2y p).length)).length) p):=by
 unfold a9h
 have bn:=hr.lt b hr.mem
 have aL:b≠0:=fun e=>h0F (by rw [<-e];exact hr.mem)
 have aC:=c2b hq hc
 have ak:=fun w1 (h:a1r w1 b F ds pos)=>e4m aC h ha.left
 obtain ⟨P1,aU⟩:=zX (pos+(a2q p.P.length p.d (a2y p)).length)
 have aF:=ha.right
 rw [<-aU] at aF ak ⊢
 have aj:=fun w'=>d7c (a2y p).length w' aC.c0 hc
 have ac:=fun w' (h:a1r w' b F ds P1) (hp':Pts w')=>c0y hway h (a9r p) (d0q hc) hq.w0 hq.w1 hq.h0 hq.h1 (b0o hc).1 (b0o hc).2.1 hp' h0F hmay aF
 obtain ⟨P2,aJ⟩:=zX (P1+(a1y way (a3q p) p.W p.H (a7i (a2y p).length)).length)
 rw [<-aJ] at ac ⊢
 have ad:=fun w' gL xs gs (ho:b3f w' p.P.length p.d (a2y p) gL (a2y p).length xs gs) A cap (hl:a0d vi w' A (a3q p))=>e9g hq (a2y p).length ho.at_ (A:=A) cap hl
 have bo:=a9r p
 unfold b6p d1i at ak
 unfold a6l at ac
 unfold a2x d1i at ad
 have a5:a6y p=fun gP o' cap' => .agg #[.int .i64 p.W,.int .i64 p.H,.int .i64 p.d,.slice (some ⟨gP,o',none⟩) p.P.length cap']:=rfl
 rw [a5] at ad ⊢
 obtain ⟨n,hn⟩:=zX (p.P.length)
 obtain ⟨m,hm⟩:=zX ((a2y p).length)
 obtain ⟨N,hN⟩:=zX ((a3q p).length)
 have bs:n<=4:=by rw [hn];exact hq.n1
 have bq:m<=256:=by rw [hm];exact hc
 rw [<-hm] at ak aj ac ad
 rw [<-hN] at ac ad
 rw [<-hn] at ak ad ⊢
 obtain ⟨PB,aN⟩:=zX (a7i m)
 rw [<-aN] at aj ac
 have t1:((p.d:Int) != (p.d:Int))=false:=by simp
 have t2:((n:Int) != (n:Int))=false:=by simp
 obtain ⟨w1,aq⟩:=zX (w.alloc (.cells #[.int .i64 0,.int .i64 0,.int .i64 0,.slice none 0 0] 27))
 obtain ⟨R,hR⟩:=zX (w.heap.size)
 have az:Box w1 R (.int .i64 0) (.int .i64 0) (.int .i64 0) (.slice none 0 0):=⟨by rw [aq,hR];exact Blk.new w _ _⟩
 have a4:Chg [] w w1:=by rw [aq];exact (zR [] w).alloc _
 have al:Hid (w.heap.size<=R/\R<w1.heap.size/\b<R):=hid ⟨by omega,az.blk.lt,by omega⟩
 have bd:=hid ak
 have bm:=hid aj
 have bh:=hid ac
 have bc:=hid ad
 have a7:=hid aq
 have a6:=hid hR
 have bl:=hid az
 have ar:=hid a4
 have aK:=hid hr
 have HP:=hid hp
 have bi:=hid aL
 clear bn aL aC ak aU aF aj ac aJ ad bo a5 hn hm hN aN aq hR az a4 hr hp ha hmay hc hway hq h0F
 go_enter Tryz.func70,Tryz.ntmps70
 go_wp2_with fail
 rw [<-a7.out,<-a6.out]
 refine (bd.out w1 (aK.out.chg ar.out (by simp))).mono ?_
 rintro e w2 ⟨gL,xs,gs,rfl,aa,aO,au,ab⟩
 obtain ⟨wA,ao⟩:=zX (w2.alloc (.cells #[.int .i64 p.d,.int .i64 n,.slice (some ⟨gL,0,none⟩) m m] 45))
 obtain ⟨X,hX⟩:=zX (w2.heap.size)
 have am:Chg [] w2 wA:=by rw [ao];exact (zR [] w2).alloc _
 have aE:c4m wA X (.int .i64 p.d) (.int .i64 n) (.slice (some ⟨gL,0,none⟩) m m):=⟨by rw [ao,hX];exact Blk.new w2 _ _⟩
 have aj:=fun w'=>bm.out w'
 have aM:=aO.chg am (by simp)
 have aW:X∉[b]:=by have:=au.size;have:=al.out;simp;omega
 have bb:Hid (Chg [b] w1 wA):=hid (au.tq (am.mono (by simp)))
 have bp:Hid (∀ x∈gL::gs,w1.heap.size<=x):=hid ab
 have aA:Hid (∀ wz,Chg [b] wA wz->b3f wz n p.d (a2y p) gL m xs gs):=hid (fun wz hz=>by
  have aT:∀ x∈gL::gs,x∉[b]:=fun x hx hm=>by have:=ab x hx;have:=al.out;simp at hm;omega
  exact ⟨aa.ok,(aa.row.chg am (by simp)).chg hz (aT gL (by simp)),(aa.pl.same am).chg hz (fun x hx=>aT x (by simp [hx]))⟩)
 have ac:=bh.out wA aM (((HP.out.same ar.out).chg au (by simpa using fun e=>bi.out e.symm)).same am)
 have aG:=hid ac
 obtain ⟨a0,a1,a2⟩:=aE.cells
 have a9:=hid aE
 have a8:=hid aW
 have bk:=hid ao
 have ba:=hid hX
 rw [ao,hX] at a0 a1 a2
 clear aa aO au ab ao hX am aE aM aW ac
 go_wp2_with (go_at_call 24;refine (aj _).mono ?_;rintro e w' ⟨rfl,rfl⟩)
 rw [<-bk.out,<-ba.out]
 refine aG.out.mono ?_
 rintro e w3 ⟨g3,rfl,ai,aQ,ap,bf⟩
 clear aj a0 a1 a2 t1 t2
 obtain ⟨a0,a1,a2⟩:=(a9.out.chg ap a8.out).cells
 have aP:a0d vi w3 (some ⟨g3,0,none⟩) (a3q p):=ai.toOwn.cells
 have ad:=bc.out w3 gL xs gs (aA.out w3 ap) (some ⟨g3,0,none⟩) N aP
 have aH:=hid ad
 have aD:=hid (bb.out.trans ap (fun x hx => .inl hx))
 have bj:=hid aQ
 clear ai aQ ap bf aP ad
 go_wp2_with fail
 refine aH.out.mono ?_
 rintro e w5 ⟨gQ,af,ys,hs,rfl,ag,aw,ah⟩
 clear a0 a1 a2
 obtain ⟨wX,an⟩:=zX (w5.alloc (.cells #[.int .i64 p.W,.int .i64 p.H,.int .i64 p.d,.slice (some ⟨gQ,0,none⟩) n af] 27))
 obtain ⟨Z,hZ⟩:=zX (w5.heap.size)
 have av:Chg [] w5 wX:=by rw [an];exact (zR [] w5).alloc _
 have ax:Box wX Z (.int .i64 p.W) (.int .i64 p.H) (.int .i64 p.d) (.slice (some ⟨gQ,0,none⟩) n af):=⟨by rw [an,hZ];exact Blk.new w5 _ _⟩
 have ae:Box wX R (.int .i64 0) (.int .i64 0) (.int .i64 0) (.slice none 0 0):=((bl.out.chg aD.out (by have:=al.out;simp;omega)).same aw).same av
 obtain ⟨a0,a1,a2,a3⟩:=ax.cells
 have br:=hid ax
 have be:=hid ae
 have aX:=hid an
 have aV:=hid hZ
 have aI:=hid (ag.same av)
 have aS:=hid (aw.tq av)
 have aY:Hid (∀ x∈gQ::hs,w1.heap.size<=x):=hid (fun x hx=>Nat.le_trans aD.out.size (ah x hx))
 rw [an,hZ] at a0 a1 a2 a3
 clear an hZ av ax ae ag aw ah
 go_wp2_with fail
 rw [<-aX.out,<-aV.out]
 rw [<-aX.out,<-aV.out] at a0 a1 a2 a3
 have aZ:=e5f b
 refine a0c 4 (by kernel_rfl) (by kernel_rfl) ?_
 simp only [List.take_succ_cons,List.take_zero,List.drop_succ_cons,List.drop_zero]
 repeat (go_big_quiet_step ((go_at_call 100;exact Calls.quiet_of_same ((aZ _).mono (fun _ _ h=>⟨h.1,h.2.symm⟩)))))
 refine wpQuiet_nil ?_
 intro _ bg
 obtain ⟨nq,rfl⟩:=bg
 have ae:=be.out.same ((zR [] wX).drewN nq)
 obtain ⟨z0,z1,z2,z3⟩:=ae.cells
 have f0:=ae.blk.frozen 0
 have f1:=ae.blk.frozen 1
 have f2:=ae.blk.frozen 2
 have f3:=ae.blk.frozen 3
 have aB:=hid ae
 clear ae aZ a0 a1 a2 a3
 go_wp2_with fail
 refine b1x aB.out ?_
 intro V hV hY
 obtain ⟨x0,x1,x2,x3⟩:=hV.cells
 refine bodyPost_ret (v:=.tuple #[.agg #[.int .i64 p.W,.int .i64 p.H,.int .i64 p.d,.slice (some ⟨gQ,0,none⟩) n af],.int .i64 0]) (by simp [results,Tryz.results70,go_sem,x0,x1,x2,x3]) rfl ?_
 have ay:Chg [R] wX V:=((zR [R] wX).drewN nq).tq hY
 have aR:∀ x∈gQ::hs,x≠R:=fun x hx e=>by have:=aY.out x hx;have:=al.out;omega
 refine ⟨gQ,af,ys,hs,rfl,aI.out.chg ay (by simpa using aR gQ (by simp)) (fun x hx=>by simpa using aR x (by simp [hx])),?_,?_,fun x hx=>by have:=aY.out x hx;have:=ar.out.size;omega⟩
 ·refine ((bj.out.chg aS.out (by simp))).chg ay (fun x hx hm => ?_)
  simp at hm
  subst hm
  have:=aK.out.lt _ hx
  have:=al.out
  omega
 ·refine (((ar.out.mono (F':=[b]) (by simp)).tq aD.out).tq (aS.out.mono (by simp))).trans ay (fun x hx => .inr ?_)
  simp at hx
  have:=al.out
  omega
end Go.Proofs.YtepjepkgcdfboaaGreatDoor
