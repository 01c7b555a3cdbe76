/- package palette by its contracts: Get. -/
import Derived.Test.YtepjepkgcdfboaaGreatDoorMg47
import Derived.Test.YtepjepkgcdfboaaGreatDoorMg54
set_option linter.unusedVariables false
set_option linter.unusedSimpArgs false
set_option maxHeartbeats 1000000
set_option maxRecDepth 100000
namespace Go.Proofs.YtepjepkgcdfboaaGreatDoor
open Go.RowKit
def c3w (pos d:Nat) (C:List (List Int)) (i j:Nat):Nat:=pos+(a3o d C i).length+(a1v ((C.getD i []).take j) d).length
theorem e4o {pos d:Nat} {C:List (List Int)} {i j:Nat} (hj:j<(C.getD i []).length):c3w pos d C i (j+1)=c3w pos d C i j+d:=by
 unfold c3w
 rw [b2q hj,zC,a0a]
 omega
theorem e9i {pos d:Nat} {C:List (List Int)} {i n:Nat} (hi:i<C.length) (hn:(C.getD i []).length=n):c3w pos d C i n=c3w pos d C (i+1) 0:=by
 unfold c3w
 rw [a6n hi,zC,zT (by omega),List.take_zero]
 show _=_+0
 omega
theorem e0a {pos d:Nat} {C:List (List Int)} {ds:List Nat} (ha:a0y ds pos (a3o d C C.length)):∀ (k i j:Nat),i+k+1=C.length->j<(C.getD i []).length->a0y ds (c3w pos d C i j) (a0b ((C.getD i []).getD j 0).toNat d):=by
 have aa:∀ (l:List Int) (k j:Nat),j+k=l.length->∃ r,a1v l d=a1v (l.take j) d++r:=fun l k=>by
  induction k with
  | zero=>intro j hj;exact ⟨[],by rw [List.append_nil,zT (by omega)]⟩
  | succ k ih =>
   intro j hj
   obtain ⟨r,hr⟩:=ih (j+1) (by omega)
   exact ⟨_,by rw [hr,b2q (by omega),zH]⟩
 have ab:∀ k i,i+k=C.length->∃ r,a3o d C C.length=a3o d C i++r:=fun k=>by
  induction k with
  | zero=>intro i hi;exact ⟨[],by rw [List.append_nil,show i=C.length by omega]⟩
  | succ k ih =>
   intro i hi
   obtain ⟨r,hr⟩:=ih (i+1) (by omega)
   exact ⟨_,by rw [hr,a6n (by omega),zH]⟩
 intro k i j hi hj
 obtain ⟨r,hr⟩:=ab k (i+1) (by omega)
 obtain ⟨r2,ac⟩:=aa (C.getD i []) ((C.getD i []).length-(j+1)) (j+1) (by omega)
 rw [hr,a6n (by omega),ac,b2q hj] at ha
 simp only [zH] at ha
 have h1:=ha.right.right.left
 unfold c3w
 exact h1
def b6p (w:World) (b:Nat) (F ds:List Nat) (pos n d:Nat) (C:List (List Int)) (e:Ending) (w':World):Prop :=
 ∃ (gL:Nat) (xs:List Value) (gs:List Nat),e=.returned (.tuple #[d1i n d C.length gL 0 C.length,.int .i64 0])/\b3f w' n d C gL C.length xs gs/\a1r w' b F ds pos/\Chg [b] w w'/\∀ x∈gL::gs,w.heap.size<=x
theorem e4m {w:World} {n d:Nat} {C:List (List Int)} (hok:e1e n d C) {b:Nat} {F ds:List Nat} {pos:Nat} (hr:a1r w b F ds pos) (ha:a0y ds pos (a2q n d C)) :
  Calls Tryz.prog 99 #[.pointer (some ⟨b,0,none⟩)] w (b6p w b F ds (pos+(a2q n d C).length) n d C):=by
 unfold b6p d1i
 have b4:=hr.lt b hr.mem
 have cs:=hok.d0
 have b9:=hok.d1
 have cB:=hok.n0
 have cx:=hok.n1
 have ce:=hok.c0
 have b2:=hok.c1
 have ax:=fun i (hi:i<C.length)=>hok.len _ (a0n hi)
 have bx:=fun i (hi:i<C.length)=>hok.smp _ (a0n hi)
 obtain ⟨D1,bQ⟩:∃ D1,d=D1+1:=⟨d-1,by omega⟩
 obtain ⟨N1,bW⟩:∃ N1,n=N1+1:=⟨n-1,by omega⟩
 obtain ⟨M1,bl⟩:∃ M1,C.length=M1+1:=⟨C.length-1,by omega⟩
 have aX:a2q n d C=a0b D1 4++(a0b N1 2++(a0b M1 8++a3o d C C.length)):=by
  unfold a2q
  rw [show d-1=D1 by omega,show n-1=N1 by omega,show C.length-1=M1 by omega]
 have ay:pos+(a2q n d C).length=c3w (pos+4+2+8) d C C.length 0:=by
  rw [aX]
  unfold c3w
  simp only [zC,a0a,List.take_zero]
  show _=_+0
  omega
 rw [ay]
 rw [aX] at ha
 have bf:=ha.left
 have aP:=ha.right
 rw [a0a] at aP
 have bn:=aP.left
 have af:=aP.right
 rw [a0a] at af
 have bO:=af.left
 have aI:=af.right
 rw [a0a] at aI
 have bk:=fun w1 (h:a1r w1 b F ds pos)=>a0j w1 b F ds pos 4 D1 h (by omega) (by omega) bf
 have ap:=fun w1 (h:a1r w1 b F ds (pos+4))=>a0j w1 b F ds _ 2 N1 h (by omega) (by omega) bn
 have aB:=fun w1 (h:a1r w1 b F ds (pos+4+2))=>a0j w1 b F ds _ 8 M1 h (by omega) (by omega) bO
 obtain ⟨P0,aT⟩:=zX (pos+4+2+8)
 rw [<-aT] at aI ⊢
 have aw:∀ i j,i<C.length->∃ v:Nat,(C.getD i []).getD j 0=(v:Int)/\v<2^d:=fun k i hk=>by
  obtain ⟨s0,s1⟩:=b0l (bx k hk) i
  refine ⟨((C.getD k []).getD i 0).toNat,(Int.toNat_of_nonneg s0).symm,?_⟩
  have e2:((2^d:Nat):Int)=(2:Int)^d:=by simp
  omega
 have aa:∀ i j,i<C.length->j<n->∃ v:Nat,(C.getD i []).getD j 0=(v:Int)/\v<65536/\∀ w1,a1r w1 b F ds (c3w P0 d C i j)->Calls Tryz.prog 68 #[.pointer (some ⟨b,0,none⟩),.int .i64 d] w1 fun e w'=>e=.returned (.int .u64 v)/\a1r w' b F ds (c3w P0 d C i (j+1))/\Chg [b] w1 w':=fun i j hi hj=>by
  obtain ⟨v,hv,bK⟩:=aw i j hi
  have bd:j<(C.getD i []).length:=by rw [ax i hi];exact hj
  refine ⟨v,hv,Nat.lt_of_lt_of_le bK (Nat.pow_le_pow_right (n:=2) (by decide) b9),fun w1 h => ?_⟩
  have h2:=e0a aI (C.length-(i+1)) i j (by omega) bd
  rw [hv,Int.toNat_natCast] at h2
  have h3:=a0j w1 b F ds _ d v h (by omega) bK h2
  rw [e4o bd]
  exact h3
 have ad:∀ i,i<C.length->c3w P0 d C i n=c3w P0 d C (i+1) 0:=fun i hi=>e9i hi (ax i hi)
 have bg:c3w P0 d C 0 0=P0:=by
  unfold c3w a3o
  simp [a1v]
 obtain ⟨m,hm⟩:=zX (C.length)
 rw [<-hm] at ce b2 ax bl aa ad ⊢
 have cq:=a1p (P:=Tryz.prog) b7k rfl .i64 .i64 m (by omega) (by omega)
 have bR:=a1p (P:=Tryz.prog) a0p rfl .i64 .i64 n (by omega) (by omega)
 have b5:IntKind.i64.wrap (D1:Int)=(D1:Int):=IntWalk.i64_in _ (by omega)
 have bU:IntKind.i64.wrap (N1:Int)=(N1:Int):=IntWalk.i64_in _ (by omega)
 have ct:IntKind.i64.wrap (M1:Int)=(M1:Int):=IntWalk.i64_in _ (by omega)
 have e1:(D1:Int)+1=(d:Int):=by omega
 have e2:(N1:Int)+1=(n:Int):=by omega
 have e3:(M1:Int)+1=(m:Int):=by omega
 have cw:D1<=15:=by omega
 have cy:N1<=3:=by omega
 have cA:M1<=255:=by omega
 obtain ⟨w1,aK⟩:=zX (w.alloc (.cells #[.int .i64 0,.int .i64 0,.slice none 0 0] 45))
 obtain ⟨R,hR⟩:=zX (w.heap.size)
 have aJ:c4m w1 R (.int .i64 0) (.int .i64 0) (.slice none 0 0):=⟨by rw [aK,hR];exact Blk.new w _ _⟩
 have bA:Chg [] w w1:=by rw [aK];exact (zR [] w).alloc _
 have aO:Hid (w.heap.size<=R/\R<w1.heap.size/\b<R):=hid ⟨by omega,aJ.blk.lt,by omega⟩
 have bX:=hid bg
 have co:=hid aT
 have aA:=hid ad
 have a5:=hid aa
 have ae:=hid ax
 have aC:=hid hm
 have bu:=hid hok
 have cf:=hid bk
 have ca:=hid ap
 have b0:=hid aB
 have ci:=hid aK
 have cc:=hid hR
 have cp:=hid aJ
 have a9:=hid bA
 have bI:=hid hr
 clear b4 ax bx aX ay ha bf aP bn af bO aI bk ap aB aT aw aa ad bg hm hok aK hR aJ bA hr bQ bW bl
 go_enter Tryz.func99,Tryz.ntmps99
 go_wp2_with fail
 rw [<-ci.out,<-cc.out]
 refine (cf.out w1 (bI.out.chg a9.out (by simp))).mono ?_
 rintro e w2 ⟨rfl,bG,bM⟩
 have a7:=hid bM
 have ap:=ca.out w2 bG
 clear bG bM
 go_wp2_with fail
 refine ap.mono ?_
 rintro e w3 ⟨rfl,bL,br⟩
 have a3:=hid (a7.out.trans br (fun x hx => .inl hx))
 have aB:=b0.out w3 bL
 clear ap bL br
 go_wp2_with fail
 refine aB.mono ?_
 rintro e w4 ⟨rfl,ak,bF⟩
 have an:=hid (a3.out.trans bF (fun x hx => .inl hx))
 rw [<-co.out,<-bX.out] at ak
 obtain ⟨wA,aM⟩:=zX (w4.alloc (.cells (Array.replicate m (Value.slice none 0 0)) 22))
 obtain ⟨gC,ba⟩:=zX (w4.heap.size)
 have aF:b6n w4 [b] m gC wA [] [] []:=by
  have:=b6n.start (w0:=w4) (E:=[b]) (n:=m) (by omega) (fun x hx=>by simp at hx;subst hx;exact ak.lt _ ak.mem)
  rw [List.toArray_replicate] at this
  rw [ba,aM]
  exact this
 have b1:=hid aF
 have bP:Hid (a1r wA b F ds (c3w P0 d C 0 0)):=hid (by rw [aM];exact ak.chg ((zR [] w4).alloc _) (by simp))
 have bY:=hid aM
 have cb:=hid ba
 have bD:=hid ak.lt
 clear aB ak bF aM ba aF b5 bU e1 e2
 go_wp2_with fail
 rw [<-bY.out,<-cb.out]
 go_loopg [7,8,26] m (fun j v7 v8 v26 wr=>∃ (i:Nat) (xs:List Value) (gs:List Nat),v26=.int .i64 i/\i+j=m/\Hid (b6n w4 [b] m gC wr (C.take i) xs gs)/\Hid (a1r wr b F ds (c3w P0 d C i 0)))
 case atStart=>exact ⟨0,[],[],rfl,by omega,b1,bP⟩
 case round =>
  obtain ⟨i,xs,gs,rfl,cr,HS,a4⟩:=hrel
  rcases gk with _ | j
  ·obtain rfl:i=m:=by omega
   have t1:decide ((i:Int)<(i:Int))=false:=by simp
   have ao:=a2b wr b F ds _ a4.out
   have hs:=HS.out
   rw [zT (by rw [<-aC.out];exact zQ _)] at hs
   have ai:=hs.row
   rw [<-aC.out,Nat.sub_self,List.replicate_zero,List.append_nil] at ai
   have aj:b3f wr n d C gC i xs gs:=⟨bu.out,by rw [<-aC.out];exact ai,hs.pl⟩
   have ag:=fun wz (hz:Chg [] wr wz)=>c7q i (aj.at_.same hz)
   unfold d1i at ag
   rw [<-aC.out] at ag
   have aY:=hid ag
   have aH:=hid aj
   have bE:Hid (Chg [b] w1 wr):=hid (an.out.trans hs.chg (fun x hx => .inl hx))
   have aq:Hid (∀ x∈gC::gs,w1.heap.size<=x):=hid (fun x hx=>by have:=hs.new x hx;have:=an.out.size;omega)
   obtain ⟨wX,aE⟩:=zX (wr.alloc (.cells #[.int .i64 d,.int .i64 n,.slice (some ⟨gC,0,none⟩) i i] 45))
   obtain ⟨X,hX⟩:=zX (wr.heap.size)
   have bh:Chg [] wr wX:=by rw [aE];exact (zR [] wr).alloc _
   have aZ:c4m wX X (.int .i64 d) (.int .i64 n) (.slice (some ⟨gC,0,none⟩) i i):=⟨by rw [aE,hX];exact Blk.new wr _ _⟩
   obtain ⟨a0,a1,a2⟩:=aZ.cells
   have bS:=hid aZ
   have bj:=hid bh
   have cj:=hid aE
   have cg:=hid hX
   rw [aE,hX] at a0 a1 a2
   clear hs ai aj ag aE hX bh aZ
   go_wp2_with (go_at_call 69;refine ao.mono ?_;rintro e w' ⟨rfl,rfl⟩)
   rw [<-cj.out,<-cg.out]
   refine (aY.out wX bj.out).mono ?_
   rintro e w5 ⟨rfl,aW⟩
   clear ao a0 a1 a2
   have bq:=hid (bj.out.tq aW)
   obtain ⟨a0,a1,a2⟩:=(bS.out.same aW).cells
   have al:c4m w5 R (.int .i64 0) (.int .i64 0) (.slice none 0 0):=((cp.out.chg bE.out (by have:=aO.out;simp;omega)).same bq.out)
   obtain ⟨z0,z1,z2⟩:=al.cells
   have f0:=al.blk.frozen 0
   have f1:=al.blk.frozen 1
   have f2:=al.blk.frozen 2
   have cd:=hid al
   clear al aW
   go_wp2_with fail
   refine d4b cd.out ?_
   intro V hV hY
   obtain ⟨x0,x1,x2⟩:=hV.cells
   refine bodyPost_ret (v:=.tuple #[.agg #[.int .i64 d,.int .i64 n,.slice (some ⟨gC,0,none⟩) i i],.int .i64 0]) (by simp [results,Tryz.results99,go_sem,x0,x1,x2]) rfl ?_
   have aL:Chg [R] wr V:=(bq.out.mono (F':=[R]) (by simp)).trans hY (fun x hx => .inl hx)
   have be:∀ x∈gC::gs,x≠R:=fun x hx e=>by have:=aq.out x hx;have:=aO.out;omega
   refine ⟨gC,xs,gs,rfl,⟨bu.out,aH.out.row.chg aL (by simpa using be gC (by simp)),aH.out.pl.chg aL (fun x hx=>by simpa using be x (by simp [hx]))⟩,?_,?_,fun x hx=>by have:=aq.out x hx;have:=a9.out.size;omega⟩
   ·refine a4.out.chg aL (fun x hx hm => ?_)
    simp at hm
    subst hm
    have:=bI.out.lt _ hx
    have:=aO.out
    omega
   ·refine ((a9.out.mono (F':=[b]) (by simp)).tq bE.out).trans aL (fun x hx => .inr ?_)
    simp at hx
    have:=aO.out
    omega
  ·have hi:i<m:=by omega
   have t1:decide ((i:Int)<(m:Int))=true:=zB (by omega)
   have bv:i<C.length:=by rw [<-aC.out];exact hi
   have ah:(C.take i).length=i:=by rw [zI];omega
   obtain ⟨_,-,-,-,bi,bH⟩:=HS.out.row.open_
   have aR:xs.length=i:=by rw [HS.out.pl.lx,ah]
   have y1:wr.cell? ⟨gC,i,none⟩=some (.slice none 0 0):=by
    rw [bi i (by rw [zC,zV,aR,ah];omega),zS (by omega),List.getElem?_replicate,if_pos (by omega)]
   have bw:=HS.out.row.lt
   have f1:=bH i
   obtain ⟨wB,am⟩:=zX (wr.alloc (.cells (Array.replicate n (Value.int .i64 0)) 3))
   obtain ⟨g5,aN⟩:=zX (wr.heap.size)
   have ar:Chg [] wr wB:=by rw [am];exact (zR [] wr).alloc _
   have bm:Row wB 3 (.slice (some ⟨g5,0,none⟩) n n) g5 ((a1a [] n).map vi):=by
    have:=Row.zeros wr n (by omega)
    rw [List.toArray_replicate] at this
    rw [am,aN]
    exact this
   have aG:=HS.out.next (by rw [ah];exact hi) ar (by omega) bm
   rw [ah] at aG
   have y2:wB.cell? ⟨gC,i,none⟩=some (.slice none 0 0):=(World.cell?_of_block (w:=wr) (ar.block gC bw (by simp))).trans y1
   have f2:wB.frozen? ⟨gC,i,none⟩=false:=by
    obtain ⟨_,_,_,_,_,aQ⟩:=(HS.out.row.chg ar (by simp)).open_
    exact aQ i
   obtain ⟨wD,aD⟩:=zX (wB.setCell ⟨gC,i,none⟩ (.slice (some ⟨g5,0,none⟩) n n))
   rw [<-aD] at aG
   have bb:(xs++[Value.slice (some ⟨g5,0,none⟩) n n])[i]?=some (.slice (some ⟨g5,0,none⟩) n n):=by rw [<-aR];simp
   have av:gs.length=i:=by rw [HS.out.pl.lg,ah]
   have aS:(gs++[g5])[i]?=some g5:=by rw [<-av];simp
   have ab:∀ wz l,b6n w4 [b] m gC wz (C.take i++[l]) (xs++[Value.slice (some ⟨g5,0,none⟩) n n]) (gs++[g5])->wz.cell? ⟨gC,i,none⟩=some (.slice (some ⟨g5,0,none⟩) n n)/\Row wz 3 (.slice (some ⟨g5,0,none⟩) n n) g5 (l.map vi):=fun wz l h=>by
    obtain ⟨g,c,h1,h2,h3,h4,_⟩:=h.last (by rw [ah];exact hi)
    rw [ah] at h1 h3 h4
    rw [bb] at h3
    rw [aS] at h4
    injection h4 with h4
    subst h4
    injection h3 with h3
    rw [<-h3] at h1 h2
    exact ⟨h1,h2⟩
   obtain ⟨y4,-⟩:=ab wD _ aG
   have b6:=hid bb
   have bp:=hid aS
   have ac:=hid ab
   have bz:a1r wD b F ds (c3w P0 d C i 0):=(a4.out.chg ar (by simp)).chg (show Chg [gC] wB wD from by rw [aD];exact (zR [gC] wB).setCell (p:=⟨gC,i,none⟩) (.inl (by simp)) _) (fun x hx hm=>by
    simp at hm
    subst hm
    have h1:=bD.out _ hx
    have h2:=HS.out.new _ (List.mem_cons_self)
    omega)
   have bB:Hid (0+i=i/\i<C.length):=hid ⟨by omega,bv⟩
   have b7:=hid am
   have ch:=hid aN
   have cn:=hid aD
   have bo:Hid (b6n w4 [b] m gC wD (C.take i++[a1a ((C.getD i []).take 0) n]) (xs++[Value.slice (some ⟨g5,0,none⟩) n n]) (gs++[g5])):=hid (by rw [List.take_zero];exact aG)
   have a8:=hid bz
   have bN:=hid ah
   rw [am] at y2 f2
   rw [aD,am,aN] at y4
   clear bi bH aR bw ar bm aG am aN aD bb av aS ab bz ah bv
   obtain ⟨wo,b3⟩:=zX (wr)
   subst b3
   go_wp2_with fail
   rw [<-ch.out,<-b7.out,<-cn.out]
   clear y1 y2 y4 f1 f2
   go_loopg [8,39] n (fun j2 v8 v39 wr2=>∃ k:Nat,v39=.int .i64 k/\k+j2=n/\Hid (b6n w4 [b] m gC wr2 (C.take i++[a1a ((C.getD i []).take k) n]) (xs++[Value.slice (some ⟨g5,0,none⟩) n n]) (gs++[g5]))/\Hid (a1r wr2 b F ds (c3w P0 d C i k)))
   case atStart=>exact ⟨0,rfl,by omega,bo,a8⟩
   case round =>
    obtain ⟨k,rfl,cC,HK,bs⟩:=hrel
    rcases gk with _ | j2
    ·obtain rfl:k=n:=by omega
     have t2:decide ((k:Int)<(k:Int))=false:=by simp
     have hk:=HK.out
     have e5:C.take i++[a1a ((C.getD i []).take k) k]=C.take (i+1):=by
      rw [zT (l:=C.getD i []) (by rw [ae.out i hi];exact zQ _),a7l (ae.out i hi),List.take_succ_eq_append_getElem bB.out.2,zD,zF bB.out.2]
      rfl
     rw [e5] at hk
     have aV:=bs.out
     rw [aA.out i hi] at aV
     have bT:=hid hk
     have a6:=hid aV
     clear hk e5 aV
     go_wp2_with fail
     go_roundg j
     case measure=>omega
     case rel=>exact ⟨i+1,_,_,by go_num,by omega,bT,a6⟩
    ·have hk:k<n:=by omega
     have t2:decide ((k:Int)<(n:Int))=true:=zB (by omega)
     obtain ⟨y5,az⟩:=ac.out wr _ HK.out
     obtain ⟨v,hv,cv,aa⟩:=a5.out i k hi hk
     have cz:IntKind.i64.wrap (v:Int)=(v:Int):=IntWalk.i64_in _ (by omega)
     have bC:((C.getD i []).take k).length=k:=by rw [zI,ae.out i hi];omega
     have aF:∀ wz,Chg [b] wr wz->b6n w4 [b] m gC (wz.setCell ⟨g5,k,none⟩ (.int .i64 v)) (C.take i++[a1a ((C.getD i []).take (k+1)) n]) (xs++[Value.slice (some ⟨g5,0,none⟩) n n]) (gs++[g5])/\(∃ x,wz.cell? ⟨g5,k,none⟩=some (.int .i64 x))/\wz.frozen? ⟨g5,k,none⟩=false/\wz.cell? ⟨gC,i,none⟩=some (.slice (some ⟨g5,0,none⟩) n n):=fun wz hz=>by
      have h1:=HK.out.turn hz
      obtain ⟨h2,h3⟩:=ac.out wz _ h1
      have h4:=h1.fill (by rw [bN.out];exact b6.out) (by rw [bN.out];exact bp.out) h3 (j:=k) (by rw [a4g (by omega)];exact hk) (v:Int)
      have e6:(a1a ((C.getD i []).take k) n).set k (v:Int)=a1a ((C.getD i []).take (k+1)) n:=by
       have h5:=b5g (done:=(C.getD i []).take k) (n:=n) (by omega) (v:Int)
       rw [bC] at h5
       have h7:k<(C.getD i []).length:=by rw [ae.out i hi];exact hk
       rw [h5,List.take_succ_eq_append_getElem h7,<-hv,zD (l:=C.getD i []),zF h7]
       rfl
      rw [e6] at h4
      obtain ⟨_,_,_,_,h8,h9⟩:=h3.open_
      refine ⟨h4,?_,h9 k,h2⟩
      have aQ:k<(a1a ((C.getD i []).take k) n).length:=by rw [a4g (by omega)];exact hk
      refine ⟨(a1a ((C.getD i []).take k) n)[k],?_⟩
      rw [h8 k (by rw [zE];exact aQ),zW,zF aQ]
      rfl
     have au:=hid aF
     have cm:=hid aa
     have cu:(0:Int)<=(i:Int):=by omega
     have aJ:(i:Int)<(m:Int):=by omega
     clear hv aa bC az aF
     go_wp2_with fail
     go_region_held3 (fun w'=>w'.cell? ⟨gC,i,none⟩=some (.slice (some ⟨g5,0,none⟩) n n))
      (first | (go_keep;done) | exact (au.out _ (((zR [b] wr).drew).tq bc)).2.2.2 | exact (ac.out _ _ aU).1 | trivial)
      (first | (go_at_call 68;refine (cm.out _ (bs.out.same ((zR [] wr).drew))).mono ?_;rintro e w6 ⟨rfl,bJ,bc⟩;obtain ⟨aU,⟨x6,cl⟩,ck,-⟩:=au.out _ (((zR [b] wr).drew).trans bc (fun x hx => .inl hx))))
     have bZ:=hid aU
     have bV:Hid (a1r (w6.setCell ⟨g5,k,none⟩ (.int .i64 v)) b F ds (c3w P0 d C i (k+1))):=hid (bJ.chg ((zR [g5] w6).setCell (p:=⟨g5,k,none⟩) (.inl (by simp)) _) (fun x hx hm=>by
      simp at hm
      subst hm
      have h1:=bD.out _ hx
      have h2:=bo.out.new _ (List.mem_cons_of_mem _ (List.mem_of_getElem? bp.out))
      omega))
     clear aU bJ bc cl ck y5
     go_wp2_with fail
     go_roundg j2
     case measure=>omega
     case rel=>exact ⟨k+1,by go_num,by omega,bZ,bV⟩
theorem e9f {p:a2a} {k i:Nat} (hk:k<p.P.length) (hi:i<p.W*p.H):((a2y p).getD ((a2y p).idxOf (ptC p i)) []).getD k 0=(p.P.getD k []).getD i 0:=by
 have hm:ptC p i∈a2y p:=(a7h p _).2 ⟨i,hi,rfl⟩
 have e3:(a2y p).getD ((a2y p).idxOf (ptC p i)) []=ptC p i:=by
  rw [zD,zF (List.idxOf_lt_length_of_mem hm),List.getElem_idxOf]
  rfl
 rw [e3,e4w p i hk]
theorem e9g {w:World} {p:a2a} (hok:p.Ok) {gL oL:Nat} {BL:Nat->Option Addr} {cL:Nat->Nat} {GL:List Nat} (capL:Nat) (hp:b1a w p.P.length p.d (a2y p) gL oL BL cL GL)
  {A:Option Addr} (cap:Nat) (hl:a0d vi w A (a3q p)) :
  Calls Tryz.prog 102 #[.slice A (a3q p).length cap,.int .i64 p.W,.int .i64 p.H,d1i p.P.length p.d (a2y p).length gL oL capL] w (a2x w p):=by
 unfold a2x a6y
 have aY:=hp.ok
 have aa:∀ w',Chg [] w w'->_:=fun w' (hc':Chg [] w w')=>c7q capL (hp.same hc')
 have aw:=fun i (hi:i<p.P.length)=>hok.len _ (a0n hi)
 have az:∀ i,i<p.W*p.H->(a2y p).idxOf (ptC p i)<(a2y p).length:=fun i hi=>List.idxOf_lt_length_of_mem ((a7h p _).2 ⟨i,hi,rfl⟩)
 have ao:∀ i,i<p.W*p.H->∃ (x a o:Nat),x<(a2y p).length/\A=some ⟨a,o,none⟩/\∀ wz,Chg [] w wz->wz.cell? ⟨a,o+i,none⟩=some (.int .i64 x)/\∃ b q c,wz.cell? ⟨gL,oL+x,none⟩=some (.slice (some ⟨b,q,none⟩) p.P.length c)/\∀ k,k<p.P.length->wz.cell? ⟨b,q+k,none⟩=some (.int .i64 ((p.P.getD k []).getD i 0)):=fun i hi=>by
  have h1:=d0p hi
  have h2:i<(a3q p).length:=by rw [a9r];exact hi
  obtain ⟨a,o,rfl,br,au⟩:=hl.ex (by omega)
  refine ⟨(a2y p).idxOf (ptC p i),a,o,az i hi,rfl,fun wz hz=>⟨(World.cell?_of_block (w:=w) (hz.block a br (by simp))).trans (au i _ h1),?_⟩⟩
  have aT:=hp.same hz
  obtain ⟨b,q,e1,-,e3⟩:=aT.at_ (az i hi)
  refine ⟨b,q,_,(aT.cell _ (az i hi)).trans (by rw [e1]),fun k hk => ?_⟩
  rw [e3 k hk,e9f hk hi]
 have be:=hok.area
 have aW:=a9r p
 obtain ⟨n,hn⟩:=zX (p.P.length)
 obtain ⟨N,hN⟩:=zX (p.W*p.H)
 obtain ⟨m,hm⟩:=zX ((a2y p).length)
 have bF:n<=4:=by rw [hn];exact hok.n1
 have bC:m<=256:=by rw [hm];exact aY.c1
 unfold d1i at aa ⊢
 rw [aW]
 rw [<-hn] at aa ao aw ⊢
 rw [<-hm] at aa ao ⊢
 rw [<-hN] at ao aw be ⊢
 have bA:=a1p (P:=Tryz.prog) b7k rfl .i64 .i64 n (by omega) (by omega)
 have a6:=a1p (P:=Tryz.prog) a0p rfl .i64 .i64 N (by omega) (by omega)
 have bK:(p.W:Int)*(p.H:Int)=(N:Int):=by rw [hN];simp
 have bJ:=hok.w1
 have bD:=hok.h1
 have bu:=hok.w0
 have bh:=hok.h0
 have t1:decide ((p.W:Int)<1)=false:=zA (by omega)
 have t2:decide ((64:Int)<(p.W:Int))=false:=zA (by omega)
 have t3:decide ((p.H:Int)<1)=false:=zA (by omega)
 have t4:decide ((64:Int)<(p.H:Int))=false:=zA (by omega)
 have t5:((N:Int) != (N:Int))=false:=by simp
 obtain ⟨w1,ag⟩:=zX ((w.alloc (.cells #[.int .i64 p.d,.int .i64 n,.slice (some ⟨gL,oL,none⟩) m capL] 45)).alloc (.cells #[.int .i64 0,.int .i64 0,.int .i64 0,.slice none 0 0] 27))
 obtain ⟨X7,an⟩:=zX (w.heap.size)
 obtain ⟨R,hR⟩:=zX (X7+1)
 have aN:c4m w1 X7 (.int .i64 p.d) (.int .i64 n) (.slice (some ⟨gL,oL,none⟩) m capL):=⟨by rw [ag,an];exact (Blk.new w _ _).alloc _⟩
 have aK:Box w1 R (.int .i64 0) (.int .i64 0) (.int .i64 0) (.slice none 0 0):=⟨by rw [ag,hR,an];exact Blk.new2 w _ _ _⟩
 have aZ:Chg [] w w1:=by rw [ag];exact ((zR [] w).alloc _).alloc _
 obtain ⟨b0,b1,b2⟩:=aN.cells
 have a0:Hid (X7=w.heap.size/\R=X7+1/\R<w1.heap.size):=hid ⟨an,hR,aK.blk.lt⟩
 have bq:=hid ag
 have bf:=hid an
 have bn:=hid hR
 have aH:=hid aN
 have bo:=hid aK
 have aj:=hid aZ
 have aE:=hid aa
 have a1:=hid ao
 have ay:=hid aw
 have ax:Hid (n=p.P.length):=hid hn
 have bc:=hid hok
 clear ag an hR aN aK aZ aa ao aw hn hok aY az hl aW hp hm hN bu bh
 go_enter Tryz.func102,Tryz.ntmps102
 go_wp2_with fail
 rw [<-bq.out,<-bf.out,<-bn.out]
 refine (aE.out w1 aj.out).mono ?_
 rintro e w2 ⟨rfl,a3⟩
 have am:=hid a3
 clear a3 b0 b1 b2
 go_wp2_with fail
 go_loopg [11,46] N (fun j v11 v46 wr=>∃ i:Nat,v46=.int .i64 i/\i+j=N/\w2=wr)
 case atStart=>exact ⟨0,rfl,by omega,rfl⟩
 case round =>
  obtain ⟨i,rfl,bB,rfl⟩:=hrel
  obtain ⟨b0,b1,b2⟩:=(aH.out.same am.out).cells
  rcases gk with _ | j
  ·obtain rfl:i=N:=by omega
   have t6:decide ((i:Int)<(i:Int))=false:=by simp
   obtain ⟨wA,aI⟩:=zX (w2.alloc (.cells (Array.replicate n (Value.slice none 0 0)) 22))
   obtain ⟨gC,aM⟩:=zX (w2.heap.size)
   have ap:b6n w2 [] n gC wA [] [] []:=by
    have:=b6n.start (w0:=w2) (E:=[]) (n:=n) (by omega) (by simp)
    rw [List.toArray_replicate] at this
    rw [aM,aI]
    exact this
   have bd:=hid ap
   have ba:=hid aI
   have bl:=hid aM
   clear aI aM ap t6
   go_wp2_with fail
   rw [<-ba.out,<-bl.out]
   clear b0 b1 b2
   go_loopg [13,14,15,66] n (fun j v13 v14 v15 v66 wr=>∃ (k:Nat) (xs:List Value) (gs:List Nat),v66=.int .i64 k/\k+j=n/\Hid (b6n w2 [] n gC wr (p.P.take k) xs gs))
   case atStart=>exact ⟨0,[],[],rfl,by omega,bd⟩
   case round =>
    obtain ⟨k,xs,gs,rfl,bI,HS⟩:=hrel
    have aq:Chg [] w1 wr:=am.out.tq HS.out.chg
    obtain ⟨b0,b1,b2⟩:=(aH.out.same aq).cells
    rcases gk with _ | j
    ·obtain rfl:k=n:=by omega
     have t7:decide ((k:Int)<(k:Int))=false:=by simp
     have hs:=HS.out
     rw [zT (by rw [<-ax.out];exact zQ _)] at hs
     have ae:=hs.row
     rw [<-ax.out,Nat.sub_self,List.replicate_zero,List.append_nil] at ae
     have ar:a1x wr p gC k xs gs:=⟨bc.out,by rw [<-ax.out];exact ae,hs.pl⟩
     have hz:=bo.out.same aq
     obtain ⟨z0,z1,z2,z3⟩:=hz.cells
     have f0:=hz.blk.frozen 0
     have f1:=hz.blk.frozen 1
     have f2:=hz.blk.frozen 2
     have f3:=hz.blk.frozen 3
     have ah:Hid (∀ x∈gC::gs,w1.heap.size<=x):=hid (fun x hx=>by have:=hs.new x hx;have:=am.out.size;omega)
     have aQ:=hid ar
     have HZ:=hid hz
     have bw:=hid (aj.out.tq aq)
     clear hs ae ar hz aq
     go_wp2_with fail
     refine b1x HZ.out ?_
     intro V hV hY
     obtain ⟨x0,x1,x2,x3⟩:=hV.cells
     refine bodyPost_ret (v:=.tuple #[.agg #[.int .i64 p.W,.int .i64 p.H,.int .i64 p.d,.slice (some ⟨gC,0,none⟩) k k],.int .i64 0]) (by simp [results,Tryz.results102,go_sem,x0,x1,x2,x3]) rfl ?_
     have aR:∀ x∈gC::gs,x∉[R]:=fun x hx hm=>by have:=ah.out x hx;have:=a0.out;simp at hm;omega
     exact ⟨gC,k,xs,gs,rfl,aQ.out.chg hY (aR gC (by simp)) (fun x hx=>aR x (by simp [hx])),bw.out.trans hY (fun x hx => .inr (by simp at hx;have:=a0.out;omega)),fun x hx=>by have:=ah.out x hx;have:=aj.out.size;omega⟩
    ·have hk:k<n:=by omega
     have t7:decide ((k:Int)<(n:Int))=true:=zB (by omega)
     have a5:k<p.P.length:=by rw [<-ax.out];exact hk
     have ab:(p.P.take k).length=k:=by rw [zI];omega
     obtain ⟨_,-,-,-,au,bm⟩:=HS.out.row.open_
     have aC:xs.length=k:=by rw [HS.out.pl.lx,ab]
     have y1:wr.cell? ⟨gC,k,none⟩=some (.slice none 0 0):=by
      rw [au k (by rw [zC,zV,aC,ab];omega),zS (by omega),List.getElem?_replicate,if_pos (by omega)]
     have aX:=HS.out.row.lt
     obtain ⟨wB,al⟩:=zX (wr.alloc (.cells (Array.replicate i (Value.int .i64 0)) 3))
     obtain ⟨g5,aJ⟩:=zX (wr.heap.size)
     have av:Chg [] wr wB:=by rw [al];exact (zR [] wr).alloc _
     have aV:Row wB 3 (.slice (some ⟨g5,0,none⟩) i i) g5 ((a1a [] i).map vi):=by
      have:=Row.zeros wr i (by omega)
      rw [List.toArray_replicate] at this
      rw [al,aJ]
      exact this
     have aB:=HS.out.next (by rw [ab];exact hk) av (by omega) aV
     rw [ab] at aB
     have y2:wB.cell? ⟨gC,k,none⟩=some (.slice none 0 0):=(World.cell?_of_block (w:=wr) (av.block gC aX (by simp))).trans y1
     have f2:wB.frozen? ⟨gC,k,none⟩=false:=by
      obtain ⟨_,_,_,_,_,aA⟩:=(HS.out.row.chg av (by simp)).open_
      exact aA k
     obtain ⟨wD,aP⟩:=zX (wB.setCell ⟨gC,k,none⟩ (.slice (some ⟨g5,0,none⟩) i i))
     rw [<-aP] at aB
     have aO:(xs++[Value.slice (some ⟨g5,0,none⟩) i i])[k]?=some (.slice (some ⟨g5,0,none⟩) i i):=by rw [<-aC];simp
     have ai:gs.length=k:=by rw [HS.out.pl.lg,ab]
     have aD:(gs++[g5])[k]?=some g5:=by rw [<-ai];simp
     have ac:∀ wz l,b6n w2 [] n gC wz (p.P.take k++[l]) (xs++[Value.slice (some ⟨g5,0,none⟩) i i]) (gs++[g5])->wz.cell? ⟨gC,k,none⟩=some (.slice (some ⟨g5,0,none⟩) i i)/\Row wz 3 (.slice (some ⟨g5,0,none⟩) i i) g5 (l.map vi):=fun wz l h=>by
      obtain ⟨g,c,h1,h2,h3,h4,_⟩:=h.last (by rw [ab];exact hk)
      rw [ab] at h1 h3 h4
      rw [aO] at h3
      rw [aD] at h4
      injection h4 with h4
      subst h4
      injection h3 with h3
      rw [<-h3] at h1 h2
      exact ⟨h1,h2⟩
     have bi:=hid aO
     have a9:=hid aD
     have ad:=hid ac
     have bk:=hid al
     have bp:=hid aJ
     have bz:=hid aP
     have a8:Hid (b6n w2 [] n gC wD (p.P.take k++[a1a ((p.P.getD k []).take 0) i]) (xs++[Value.slice (some ⟨g5,0,none⟩) i i]) (gs++[g5])):=hid (by rw [List.take_zero];exact aB)
     have a4:=hid ab
     have aU:=hid a5
     rw [al] at y2 f2
     clear au bm aC aX av aV aB al aJ aP aO ai aD ac ab a5 b0 b1 b2 aq
     obtain ⟨wo,bg⟩:=zX (wr)
     subst bg
     go_wp2_with fail
     rw [<-bp.out,<-bk.out,<-bz.out]
     clear y1 y2 f2
     go_loopg [14,15,77] i (fun j2 v14 v15 v77 wr2=>∃ q:Nat,v77=.int .i64 q/\q+j2=i/\Hid (b6n w2 [] n gC wr2 (p.P.take k++[a1a ((p.P.getD k []).take q) i]) (xs++[Value.slice (some ⟨g5,0,none⟩) i i]) (gs++[g5])))
     case atStart=>exact ⟨0,rfl,by omega,a8⟩
     case round =>
      obtain ⟨q,rfl,bE,HK⟩:=hrel
      rcases gk with _ | j2
      ·obtain rfl:q=i:=by omega
       have t8:decide ((q:Int)<(q:Int))=false:=by simp
       have aF:=HK.out
       have e5:p.P.take k++[a1a ((p.P.getD k []).take q) q]=p.P.take (k+1):=by
        rw [zT (l:=p.P.getD k []) (by rw [ay.out k hk];exact zQ _),a7l (ay.out k hk),List.take_succ_eq_append_getElem aU.out,zD,zF aU.out]
        rfl
       rw [e5] at aF
       have a7:=hid aF
       clear aF e5
       go_wp2_with fail
       go_roundg j
       case measure=>omega
       case rel=>exact ⟨k+1,_,_,by go_num,by omega,a7⟩
      ·have hq:q<i:=by omega
       have t8:decide ((q:Int)<(i:Int))=true:=zB (by omega)
       obtain ⟨y5,ak⟩:=ad.out wr _ HK.out
       have aL:Chg [] w1 wr:=am.out.tq HK.out.chg
       obtain ⟨x,a,o,bs,rfl,af⟩:=a1.out q hq
       obtain ⟨cx,bx,qx,c',bv,cv⟩:=af wr (aj.out.tq aL)
       specialize cv k hk
       obtain ⟨b0,b1,b2⟩:=(aH.out.same aL).cells
       have a2:((p.P.getD k []).take q).length=q:=by rw [zI,ay.out k hk];omega
       obtain ⟨v,hv⟩:=zX ((p.P.getD k []).getD q 0)
       rw [<-hv] at cv
       have e6:(a1a ((p.P.getD k []).take q) i).set q v=a1a ((p.P.getD k []).take (q+1)) i:=by
        have h5:=b5g (done:=(p.P.getD k []).take q) (n:=i) (by omega) v
        rw [a2] at h5
        have h7:q<(p.P.getD k []).length:=by rw [ay.out k hk];exact hq
        rw [h5,List.take_succ_eq_append_getElem h7,hv,zD (l:=p.P.getD k []),zF h7]
        rfl
       have ap:∀ wz,Chg [] wr wz->b6n w2 [] n gC (wz.setCell ⟨g5,q,none⟩ (.int .i64 v)) (p.P.take k++[a1a ((p.P.getD k []).take (q+1)) i]) (xs++[Value.slice (some ⟨g5,0,none⟩) i i]) (gs++[g5])/\(∃ x,wz.cell? ⟨g5,q,none⟩=some (.int .i64 x))/\wz.frozen? ⟨g5,q,none⟩=false:=fun wz hz=>by
        have h1:=HK.out.turn hz
        obtain ⟨h2,h3⟩:=ad.out wz _ h1
        have h4:=h1.fill (by rw [a4.out];exact bi.out) (by rw [a4.out];exact a9.out) h3 (j:=q) (by rw [a4g (by omega)];exact hq) v
        rw [e6] at h4
        obtain ⟨_,_,_,_,h8,h9⟩:=h3.open_
        refine ⟨h4,?_,h9 q⟩
        have aA:q<(a1a ((p.P.getD k []).take q) i).length:=by rw [a4g (by omega)];exact hq
        refine ⟨(a1a ((p.P.getD k []).take q) i)[q],?_⟩
        rw [h8 q (by rw [zE];exact aA),zW,zF aA]
        rfl
       have aG:=hid ap
       clear a2 ak ap e6 hv aL af
       go_wp2_with fail
       refine a0c 14 (by kernel_rfl) (by kernel_rfl) ?_
       simp only [List.take_succ_cons,List.take_zero,List.drop_succ_cons,List.drop_zero]
       repeat (go_big_quiet_step (fail))
       refine wpQuiet_nil ?_
       intro _ bj
       obtain ⟨nq,rfl⟩:=bj
       obtain ⟨aS,⟨x6,bH⟩,bG⟩:=aG.out _ ((zR [] wr).drewN nq)
       have bb:=hid aS
       clear aS cx bv cv b0 b1 b2 y5
       go_wp2_with fail
       go_roundg j2
       case measure=>omega
       case rel=>exact ⟨q+1,by go_num,by omega,bb⟩
  ·have hi:i<N:=by omega
   have t6:decide ((i:Int)<(N:Int))=true:=zB (by omega)
   obtain ⟨x,a,o,bs,rfl,af⟩:=a1.out i hi
   obtain ⟨cx,-⟩:=af w2 (aj.out.tq am.out)
   have t7:decide ((x:Int)<0)=false:=zA (by omega)
   have t8:decide ((m:Int)<=(x:Int))=false:=zA (by omega)
   have t9:decide (m<=x)=false:=zA (by omega)
   clear af
   go_wp2_with fail
   go_roundg j
   case measure=>omega
   case rel=>exact ⟨i+1,by go_num,by omega,rfl⟩
theorem e2s {way:Option Nat} (hway:b1b way) {w:World} {b:Nat} {F ds:List Nat} {pos:Nat} (hr:a1r w b F ds pos) {p:a2a} (hq:p.Ok) (hc:(a2y p).length<=256) (hmay:b5l way p=true)
  (hp:Pts w) (h0F:0∉F) (ha:a0y ds pos (a2q p.P.length p.d (a2y p)++a1y way (a3q p) p.W p.H (a7i (a2y p).length))) :
  Calls Tryz.prog 70 #[.pointer (some ⟨b,0,none⟩),.int .i64 p.W,.int .i64 p.H,.int .i64 p.d,.int .i64 p.P.length] w (a9h w b F ds (pos+(a2q p.P.length p.d (a2y p)).length+(a1y way (a3q p) p.W p.H (a7i (a2y p).length)).length) p):=by
 unfold a9h
 have bc:=hr.lt b hr.mem
 have a4:b≠0:=fun e=>h0F (by rw [<-e];exact hr.mem)
 have aG:=c2b hq hc
 have am:=fun w1 (h:a1r w1 b F ds pos)=>e4m aG h ha.left
 obtain ⟨P1,a5⟩:=zX (pos+(a2q p.P.length p.d (a2y p)).length)
 have ax:=ha.right
 rw [<-a5] at ax am ⊢
 have aj:=fun w'=>d7c (a2y p).length w' aG.c0 hc
 have ae:=fun w' (h:a1r w' b F ds P1) (hp':Pts w')=>c0y hway h (a9r p) (d0q hc) hq.w0 hq.w1 hq.h0 hq.h1 (b0o hc).1 (b0o hc).2.1 hp' h0F hmay ax
 obtain ⟨P2,aS⟩:=zX (P1+(a1y way (a3q p) p.W p.H (a7i (a2y p).length)).length)
 rw [<-aS] at ae ⊢
 have ad:=fun w' gL xs gs (ho:b3f w' p.P.length p.d (a2y p) gL (a2y p).length xs gs) A cap (hl:a0d vi w' A (a3q p))=>e9g hq (a2y p).length ho.at_ (A:=A) cap hl
 have be:=a9r p
 unfold b6p d1i at am
 unfold a6l at ae
 unfold a2x d1i at ad
 have aY:a6y p=fun gP o' cap' => .agg #[.int .i64 p.W,.int .i64 p.H,.int .i64 p.d,.slice (some ⟨gP,o',none⟩) p.P.length cap']:=rfl
 rw [aY] at ad ⊢
 obtain ⟨n,hn⟩:=zX (p.P.length)
 obtain ⟨m,hm⟩:=zX ((a2y p).length)
 obtain ⟨N,hN⟩:=zX ((a3q p).length)
 have bq:n<=4:=by rw [hn];exact hq.n1
 have bs:m<=256:=by rw [hm];exact hc
 rw [<-hm] at am aj ae ad
 rw [<-hN] at ae ad
 rw [<-hn] at am ad ⊢
 obtain ⟨PB,aR⟩:=zX (a7i m)
 rw [<-aR] at aj ae
 have t1:((p.d:Int) != (p.d:Int))=false:=by simp
 have t2:((n:Int) != (n:Int))=false:=by simp
 obtain ⟨w1,av⟩:=zX (w.alloc (.cells #[.int .i64 0,.int .i64 0,.int .i64 0,.slice none 0 0] 27))
 obtain ⟨R,hR⟩:=zX (w.heap.size)
 have aF:Box w1 R (.int .i64 0) (.int .i64 0) (.int .i64 0) (.slice none 0 0):=⟨by rw [av,hR];exact Blk.new w _ _⟩
 have aJ:Chg [] w w1:=by rw [av];exact (zR [] w).alloc _
 have ak:Hid (w.heap.size<=R/\R<w1.heap.size/\b<R):=hid ⟨by omega,aF.blk.lt,by omega⟩
 have bf:=hid am
 have bo:=hid aj
 have bm:=hid ae
 have bn:=hid ad
 have a9:=hid av
 have a6:=hid hR
 have bp:=hid aF
 have aq:=hid aJ
 have aO:=hid hr
 have HP:=hid hp
 have bk:=hid a4
 clear bc a4 aG am a5 ax aj ae aS ad be aY hn hm hN aR av hR aF aJ hr hp ha hmay hc hway hq h0F
 go_enter Tryz.func70,Tryz.ntmps70
 go_wp2_with fail
 rw [<-a9.out,<-a6.out]
 refine (bf.out w1 (aO.out.chg aq.out (by simp))).mono ?_
 rintro e w2 ⟨gL,xs,gs,rfl,aa,aZ,au,ab⟩
 obtain ⟨wA,ao⟩:=zX (w2.alloc (.cells #[.int .i64 p.d,.int .i64 n,.slice (some ⟨gL,0,none⟩) m m] 45))
 obtain ⟨X,hX⟩:=zX (w2.heap.size)
 have al:Chg [] w2 wA:=by rw [ao];exact (zR [] w2).alloc _
 have aE:c4m wA X (.int .i64 p.d) (.int .i64 n) (.slice (some ⟨gL,0,none⟩) m m):=⟨by rw [ao,hX];exact Blk.new w2 _ _⟩
 have aj:=fun w'=>bo.out w'
 have aW:=aZ.chg al (by simp)
 have aP:X∉[b]:=by have:=au.size;have:=ak.out;simp;omega
 have bh:Hid (Chg [b] w1 wA):=hid (au.tq (al.mono (by simp)))
 have bb:Hid (∀ x∈gL::gs,w1.heap.size<=x):=hid ab
 have aC:Hid (∀ wz,Chg [b] wA wz->b3f wz n p.d (a2y p) gL m xs gs):=hid (fun wz hz=>by
  have aV:∀ x∈gL::gs,x∉[b]:=fun x hx hm=>by have:=ab x hx;have:=ak.out;simp at hm;omega
  exact ⟨aa.ok,(aa.row.chg al (by simp)).chg hz (aV gL (by simp)),(aa.pl.same al).chg hz (fun x hx=>aV x (by simp [hx]))⟩)
 have ae:=bm.out wA aW (((HP.out.same aq.out).chg au (by simpa using fun e=>bk.out e.symm)).same al)
 have aI:=hid ae
 obtain ⟨a0,a1,a2⟩:=aE.cells
 have a8:=hid aE
 have bj:=hid aP
 have bd:=hid ao
 have bl:=hid hX
 rw [ao,hX] at a0 a1 a2
 clear aa aZ au ab ao hX al aE aW aP ae
 go_wp2_with (go_at_call 24;refine (aj _).mono ?_;rintro e w' ⟨rfl,rfl⟩)
 rw [<-bd.out,<-bl.out]
 refine aI.out.mono ?_
 rintro e w3 ⟨g3,rfl,ag,aT,ar,ba⟩
 clear aj a0 a1 a2 t1 t2
 obtain ⟨a0,a1,a2⟩:=(a8.out.chg ar bj.out).cells
 have aL:a0d vi w3 (some ⟨g3,0,none⟩) (a3q p):=ag.toOwn.cells
 have ad:=bn.out w3 gL xs gs (aC.out w3 ar) (some ⟨g3,0,none⟩) N aL
 have aH:=hid ad
 have aA:=hid (bh.out.trans ar (fun x hx => .inl hx))
 have bg:=hid aT
 clear ag aT ar ba aL ad
 go_wp2_with fail
 refine aH.out.mono ?_
 rintro e w5 ⟨gQ,af,ys,hs,rfl,ah,aB,ai⟩
 clear a0 a1 a2
 obtain ⟨wX,an⟩:=zX (w5.alloc (.cells #[.int .i64 p.W,.int .i64 p.H,.int .i64 p.d,.slice (some ⟨gQ,0,none⟩) n af] 27))
 obtain ⟨Z,hZ⟩:=zX (w5.heap.size)
 have ap:Chg [] w5 wX:=by rw [an];exact (zR [] w5).alloc _
 have aw:Box wX Z (.int .i64 p.W) (.int .i64 p.H) (.int .i64 p.d) (.slice (some ⟨gQ,0,none⟩) n af):=⟨by rw [an,hZ];exact Blk.new w5 _ _⟩
 have ac:Box wX R (.int .i64 0) (.int .i64 0) (.int .i64 0) (.slice none 0 0):=((bp.out.chg aA.out (by have:=ak.out;simp;omega)).same aB).same ap
 obtain ⟨a0,a1,a2,a3⟩:=aw.cells
 have br:=hid aw
 have a7:=hid ac
 have aQ:=hid an
 have aM:=hid hZ
 have aD:=hid (ah.same ap)
 have aX:=hid (aB.tq ap)
 have aN:Hid (∀ x∈gQ::hs,w1.heap.size<=x):=hid (fun x hx=>Nat.le_trans aA.out.size (ai x hx))
 rw [an,hZ] at a0 a1 a2 a3
 clear an hZ ap aw ac ah aB ai
 go_wp2_with fail
 rw [<-aQ.out,<-aM.out]
 rw [<-aQ.out,<-aM.out] at a0 a1 a2 a3
 have aU:=e5f b
 refine a0c 4 (by kernel_rfl) (by kernel_rfl) ?_
 simp only [List.take_succ_cons,List.take_zero,List.drop_succ_cons,List.drop_zero]
 repeat (go_big_quiet_step ((go_at_call 100;exact Calls.quiet_of_same ((aU _).mono (fun _ _ h=>⟨h.1,h.2.symm⟩)))))
 refine wpQuiet_nil ?_
 intro _ bi
 obtain ⟨nq,rfl⟩:=bi
 have ac:=a7.out.same ((zR [] wX).drewN nq)
 obtain ⟨z0,z1,z2,z3⟩:=ac.cells
 have f0:=ac.blk.frozen 0
 have f1:=ac.blk.frozen 1
 have f2:=ac.blk.frozen 2
 have f3:=ac.blk.frozen 3
 have az:=hid ac
 clear ac aU a0 a1 a2 a3
 go_wp2_with fail
 refine b1x az.out ?_
 intro V hV hY
 obtain ⟨x0,x1,x2,x3⟩:=hV.cells
 refine bodyPost_ret (v:=.tuple #[.agg #[.int .i64 p.W,.int .i64 p.H,.int .i64 p.d,.slice (some ⟨gQ,0,none⟩) n af],.int .i64 0]) (by simp [results,Tryz.results70,go_sem,x0,x1,x2,x3]) rfl ?_
 have ay:Chg [R] wX V:=((zR [R] wX).drewN nq).tq hY
 have aK:∀ x∈gQ::hs,x≠R:=fun x hx e=>by have:=aN.out x hx;have:=ak.out;omega
 refine ⟨gQ,af,ys,hs,rfl,aD.out.chg ay (by simpa using aK gQ (by simp)) (fun x hx=>by simpa using aK x (by simp [hx])),?_,?_,fun x hx=>by have:=aN.out x hx;have:=aq.out.size;omega⟩
 ·refine ((bg.out.chg aX.out (by simp))).chg ay (fun x hx hm => ?_)
  simp at hm
  subst hm
  have:=aO.out.lt _ hx
  have:=ak.out
  omega
 ·refine (((aq.out.mono (F':=[b]) (by simp)).tq aA.out).tq (aX.out.mono (by simp))).trans ay (fun x hx => .inr ?_)
  simp at hx
  have:=ak.out
  omega
end Go.Proofs.YtepjepkgcdfboaaGreatDoor
