/- package palette by its contracts: Put. -/
import Derived.Test.YtepjepkgcdfboaaGreatDoorMg44
import Derived.Test.YtepjepkgcdfboaaGreatDoorMg46
import Derived.Test.YtepjepkgcdfboaaGreatDoorMg48
set_option linter.unusedVariables false
set_option linter.unusedSimpArgs false
set_option maxHeartbeats 4000000
set_option maxRecDepth 100000
namespace Go.Proofs.YtepjepkgcdfboaaGreatDoor
open Go.RowKit
open Go.RowKit Go.Maps
theorem b2q {c:List Int} {d i:Nat} (hi:i<c.length):a1v (c.take (i+1)) d=a1v (c.take i) d++a0b (c.getD i 0).toNat d:=by
 have e:c.getD i 0=c[i]:=by rw [zD,zF hi];rfl
 rw [List.take_succ_eq_append_getElem hi,e]
 unfold a1v
 rw [List.flatMap_append]
 simp
def b2o (w:World) (b:Nat) (F bs ts:List Nat) (e:Ending) (w':World):Prop:=e=.returned (.int .i64 0)/\∃ F',a2n w' b F' (bs++ts)/\a0u F F' w w'
theorem e4n {w:World} {n d:Nat} {C:List (List Int)} {g o:Nat} {B:Nat->Option Addr} {c:Nat->Nat} {G:List Nat} (cap:Nat) (h:b1a w n d C g o B c G) (b:Nat) (F bs:List Nat) (hw:a2n w b F bs) (hG:∀ x∈G,x∉F) (hbs:bs.length<17179869184) :
  Calls Tryz.prog 23 #[.pointer (some ⟨b,0,none⟩),d1i n d C.length g o cap] w (b2o w b F bs (a2q n d C)):=by
 have aa:=h.ok
 have ai:∀ w',Chg [] w w'->_:=fun w' (hc':Chg [] w w')=>c7q cap (h.same hc')
 have bp:=aa.n0
 have bf:=aa.n1
 have bk:=aa.d0
 have aw:=aa.d1
 have ae:=fun k (hk:k<=C.length)=>b3v (d:=d) aa.len k hk
 have ad:∀ k i,k<C.length->i<n->∃ v:Nat,(C.getD k []).getD i 0=(v:Int)/\v<2^d:=fun k i hk hi=>by
  obtain ⟨s0,s1⟩:=b0l (aa.smp _ (a0n hk)) i
  refine ⟨((C.getD k []).getD i 0).toNat,(Int.toNat_of_nonneg s0).symm,?_⟩
  have e2:((2^d:Nat):Int)=(2:Int)^d:=by simp
  omega
 have aA:∀ k,k<C.length->∃ b q,∀ wz,Chg F w wz->wz.cell? ⟨g,o+k,none⟩=some (.slice (some ⟨b,q,none⟩) n (c k))/\∀ i,i<n->wz.cell? ⟨b,q+i,none⟩=some (.int .i64 ((C.getD k []).getD i 0)):=fun k hk=>by
  obtain ⟨b',q,e,hb,ax⟩:=h.at_ hk
  refine ⟨b',q,fun wz hz => ?_⟩
  have aN:=(h.chg hz hG).cell k hk
  rw [e] at aN
  exact ⟨aN,fun i hi=>(World.cell?_of_block (w:=w) (hz.block b' (h.lt b' hb) (hG b' hb))).trans (ax i hi)⟩
 have af:∀ k,k<C.length->(C.getD k []).length=n:=fun k hk=>h.len hk
 obtain ⟨m,hm⟩:=zX (C.length)
 have br:1<=m:=by rw [hm];exact aa.c0
 have bm:m<=256:=by rw [hm];exact aa.c1
 have ac:a2q n d C=a0b (d-1) 4++(a0b (n-1) 2++(a0b (m-1) 8++a3o d C m)):=by rw [hm];rfl
 unfold b2o d1i at *
 rw [ac]
 rw [<-hm] at ai ae ad aA af ⊢
 obtain ⟨D1,aW⟩:∃ D1,d=D1+1:=⟨d-1,by omega⟩
 obtain ⟨N1,aT⟩:∃ N1,n=N1+1:=⟨n-1,by omega⟩
 obtain ⟨M1,aS⟩:∃ M1,m=M1+1:=⟨m-1,by omega⟩
 have e1:(d:Int)-1=(D1:Int):=by omega
 have e2:(n:Int)-1=(N1:Int):=by omega
 have e3:(m:Int)-1=(M1:Int):=by omega
 have u1:IntKind.u64.wrap (D1:Int)=(D1:Int):=IntWalk.u64_in _ (by omega)
 have u2:IntKind.u64.wrap (N1:Int)=(N1:Int):=IntWalk.u64_in _ (by omega)
 have u3:IntKind.u64.wrap (M1:Int)=(M1:Int):=IntWalk.u64_in _ (by omega)
 rw [show d-1=D1 by omega,show n-1=N1 by omega,show m-1=M1 by omega]
 obtain ⟨w1,ao⟩:=zX (w.alloc (.cells #[.int .i64 d,.int .i64 n,.slice (some ⟨g,o,none⟩) m cap] 45))
 obtain ⟨X,hX⟩:=zX (w.heap.size)
 have av:c4m w1 X (.int .i64 d) (.int .i64 n) (.slice (some ⟨g,o,none⟩) m cap):=⟨by rw [ao,hX];exact Blk.new w _ _⟩
 have a5:Chg [] w w1:=by rw [ao];exact (zR [] w).alloc _
 have aZ:X∉F:=fun hm'=>by have:=hw.lt X hm';omega
 have bi:=hid ao
 have HX:=hid hX
 have al:=hid av
 have aC:=hid a5
 have aH:=hid ai
 have az:=hid ae
 have aB:=hid ad
 have a9:=hid aA
 have aD:=hid af
 have HW:=hid hw
 have an:=hid aZ
 have bj:D1<16:=by omega
 have bn:N1<4:=by omega
 have aK:M1<256:=by omega
 have bv:=hid aW
 have bu:=hid aT
 have bl:=hid aS
 have ba:=hid hm
 obtain ⟨a0,a1,a2⟩:=av.cells
 clear ao hX av a5 ai ae ad aA af hw aZ aa h hG ac hm aW aT aS
 go_enter Tryz.func23,Tryz.ntmps23
 go_wp2_with fail
 rw [<-bi.out,<-HX.out]
 refine (aH.out w1 aC.out).mono ?_
 rintro e w2 ⟨rfl,ak⟩
 obtain ⟨a0,a1,a2⟩:=(al.out.same ak).cells
 have a3:=a0t w2 b F bs D1 4 ((HW.out.same aC.out).same ak) (by decide) (by omega) (by omega)
 have ap:=hid (aC.out.tq ak)
 have ab:=hid ak
 clear ak
 go_wp2_with fail
 refine a3.mono ?_
 rintro e w3 ⟨rfl,F3,aV,aG⟩
 have aU:=a0t w3 b F3 _ N1 2 aV (by decide) (by omega) (by rw [zC,a0a];omega)
 obtain ⟨a0,a1,a2⟩:=((al.out.same ab.out).chg aG.chg an.out).cells
 clear a3
 go_wp2_with fail
 refine aU.mono ?_
 rintro e w4 ⟨rfl,F4,aJ,a6⟩
 have aL:=a0t w4 b F4 _ M1 8 aJ (by decide) (by omega) (by rw [zC,zC,a0a,a0a];omega)
 have aj:=aG.trans a6
 obtain ⟨a0,a1,a2⟩:=((al.out.same ab.out).chg aj.chg an.out).cells
 clear aU
 go_wp2_with fail
 refine aL.mono ?_
 rintro e w5 ⟨rfl,F5,aP,aX⟩
 have ah:=aj.trans aX
 obtain ⟨a0,a1,a2⟩:=((al.out.same ab.out).chg ah.chg an.out).cells
 have bd:Hid (a2n w5 b F5 (bs++(a0b D1 4++(a0b N1 2++(a0b M1 8++a3o d C 0))))):=hid (by
  have e0:a3o d C 0=[]:=rfl
  rw [e0]
  simpa only [zH,List.append_nil] using aP)
 have bb:=hid ah
 clear aL aV aJ aP aG a6 aX aj ah
 go_wp2_with fail
 go_loopg [6,8,34,38,39,40] m (fun j v6 v8 v34 v38 v39 v40 wr=>∃ (k:Nat) (Fk:List Nat),v34=.int .i64 k/\k+j=m/\Hid (a2n wr b Fk (bs++(a0b D1 4++(a0b N1 2++(a0b M1 8++a3o d C k)))))/\Hid (a0u F Fk w2 wr))
 case atStart=>exact ⟨0,F5,rfl,by omega,bd,bb⟩
 case round =>
  obtain ⟨k,Fk,rfl,bq,aI,aq⟩:=hrel
  rcases gk with _ | j
  ·obtain rfl:k=m:=by omega
   have t1:decide ((k:Int)<(k:Int))=false:=by simp
   go_wp2_with fail
   go_ret
   exact ⟨rfl,Fk,aI.out,a0u.pre ap.out aq.out⟩
  ·have hk:k<m:=by omega
   have t1:decide ((k:Int)<(m:Int))=true:=zB (by omega)
   obtain ⟨b',q,ay⟩:=a9.out k hk
   have f1:=(ay wr ((ap.out.mono (by simp)).trans aq.out.chg (fun x hx => .inl hx))).1
   have be:=hid ay
   clear ay
   obtain ⟨wo,bh⟩:=zX (wr)
   subst bh
   obtain ⟨cc,au⟩:=zX (C.getD k [])
   have ae:=aD.out k hk
   rw [<-au] at ae
   have aQ:=hid au
   have aF:=hid ae
   clear au ae
   go_wp2_with fail
   go_loopg [8,40] n (fun j2 v8 v40 wr=>∃ (i:Nat) (Fi:List Nat),v40=.int .i64 i/\i+j2=n/\Hid (a2n wr b Fi (bs++(a0b D1 4++(a0b N1 2++(a0b M1 8++(a3o d C k++a1v (cc.take i) d))))))/\Hid (a0u F Fi w2 wr))
   case atStart=>exact ⟨0,Fk,rfl,by omega,hid (by simpa [a1v] using aI.out),aq⟩
   case round =>
    obtain ⟨i,Fi,rfl,bo,aO,am⟩:=hrel
    rcases gk with _ | j2
    ·obtain rfl:i=n:=by omega
     have t2:decide ((i:Int)<(i:Int))=false:=by simp
     go_wp2_with fail
     go_roundg j
     case measure=>omega
     case rel =>
      refine ⟨k+1,Fi,by go_num,by omega,hid ?_,am⟩
      rw [a6n (by rw [<-ba.out];exact hk),<-aQ.out]
      have:=aO.out
      rw [zT (by rw [aF.out];exact zQ _)] at this
      exact this
    ·have hi:i<n:=by omega
     have t2:decide ((i:Int)<(n:Int))=true:=zB (by omega)
     have aM:Chg F w wr:=(ap.out.mono (by simp)).trans am.out.chg (fun x hx => .inl hx)
     have f2:=(be.out wr aM).2 i hi
     obtain ⟨v,hv,ar⟩:=aB.out k i hk hi
     rw [hv] at f2
     have aR:v<65536:=Nat.lt_of_lt_of_le ar (by have:=Nat.pow_le_pow_right (n:=2) (by decide) aw;exact this)
     have u4:IntKind.u64.wrap (v:Int)=(v:Int):=IntWalk.u64_in _ (by omega)
     obtain ⟨a0,a1,a2⟩:=((al.out.same ab.out).chg am.out.chg an.out).cells
     have a8:=az.out k (by omega)
     have ag:=a0t wr b Fi _ v d aO.out (by omega) ar (by
      simp only [zC,a0a,b4t,a8]
      have h1:d*n<=16*4:=zL aw bf
      have h2:d*n*k<=16*4*256:=zL h1 (by omega)
      have h3:d*(cc.take i).length<=16*4:=zL aw (by rw [zI];have:=aF.out;omega)
      omega)
     have a7:bs++(a0b D1 4++(a0b N1 2++(a0b M1 8++(a3o d C k++a1v (cc.take i) d))))++a0b v d=bs++(a0b D1 4++(a0b N1 2++(a0b M1 8++(a3o d C k++a1v (cc.take (i+1)) d)))):=by
      rw [b2q (by rw [aF.out];exact hi),aQ.out,hv]
      simp only [zH,Int.toNat_natCast]
     rw [a7] at ag
     have aE:=hid ag
     clear ag a7 hv a8 aM ar
     go_wp2_with fail
     refine aE.out.mono ?_
     rintro e w7 ⟨rfl,F7,aY,a4⟩
     have bc:=hid aY
     have bg:=hid (am.out.trans a4)
     clear aY a4
     go_wp2_with fail
     go_roundg j2
     case measure=>omega
     case rel=>exact ⟨i+1,F7,by go_num,by omega,bc,bg⟩
def c6b (way:Option Nat) (colours:Nat) (w:World) (b:Nat) (F bs:List Nat) (p:a2a) (e:Ending) (w':World):Prop :=
 if (a2y p).length<=colours then
  (if b5l way p=true then e=.returned (.int .i64 0)/\∃ F',a2n w' b F' (bs++(a0b 1 1++(a2q p.P.length p.d (a2y p)++a1y way (a3q p) p.W p.H (a7i (a2y p).length))))/\a0u F F' w w'
   else e=.returned (.int .i64 6)/\∃ F',a0u F F' w w')
 else e=.returned (.int .i64 7)/\∃ F',a0u F F' w w'
theorem e4z {way:Option Nat} (hway:b1b way) {colours:Nat} {w:World} {p:a2a} {g o:Nat} {B:Nat->Option Addr} {c:Nat->Nat} {G:List Nat} (cap:Nat) (h:a4l w p g o B c G) (c0:1<=colours) (c1:colours<=256)
  (b:Nat) (F bs:List Nat) (hw:a2n w b F bs) (hG:∀ x∈G,x∉F) (hp:Pts w) (h0F:0∉F) (hbs:bs.length<1000000) :
  Calls Tryz.prog 49 #[.pointer (some ⟨b,0,none⟩),a6y p g o cap,.int .i64 colours,.int .i64 (c5y way)] w (c6b way colours w b F bs p):=by
 have al:=h.ok
 have aM:∀ w',Chg [] w w'->_:=fun w' (hc':Chg [] w w')=>f4c cap (h.same hc') colours c0 c1
 have ap:∀ w' (gL:Nat) (aa:Nat) xs gs,Chg [] w w'->b3f w' p.P.length p.d (a2y p) gL aa xs gs->_:=fun w' gL aa xs gs (hc':Chg [] w w') ab=>e4r cap (h.same hc') aa ab.at_
 unfold e1c at aM
 obtain ⟨n,hn⟩:=zX (p.P.length)
 obtain ⟨m,hm⟩:=zX ((a2y p).length)
 obtain ⟨N,hN⟩:=zX (p.W*p.H)
 have bL:N<=4096:=by rw [hN];exact al.area
 have ao:=c2b al
 have am:=fun (h9:(a2y p).length<=256)=>b8e (c2b al h9)
 have au:=fun (h9:(a2y p).length<=256)=>d0q (p:=p) h9
 have bD:1<=m:=by
  rw [hm]
  have:ptC p 0∈a2y p:=(a7h p _).2 ⟨0,al.pos,rfl⟩
  exact List.length_pos_of_mem this
 have aB:=a9r p
 unfold d1i a6y at *
 rw [<-hm] at aM ap am au
 rw [<-hN] at ap aB
 rw [<-hn] at aM ap am ⊢
 obtain ⟨w1,aR⟩:=zX (w.alloc (.cells #[.int .i64 p.W,.int .i64 p.H,.int .i64 p.d,.slice (some ⟨g,o,none⟩) n cap] 27))
 obtain ⟨X,hX⟩:=zX (w.heap.size)
 have aS:Box w1 X (.int .i64 p.W) (.int .i64 p.H) (.int .i64 p.d) (.slice (some ⟨g,o,none⟩) n cap):=⟨by rw [aR,hX];exact Blk.new w _ _⟩
 have bo:Chg [] w w1:=by rw [aR];exact (zR [] w).alloc _
 have bm:X∉F:=fun hm'=>by have:=hw.lt X hm';omega
 obtain ⟨wi,aX⟩:=zX (c5y way)
 have aK:∀ (wz:World) (A:Option Addr) (ak:Nat) (F' ai:List Nat),m<=256->a0d vi wz A (a3q p)->N<=ak->a2n wz b F' ai->Apt A (a3q p) F'->Pts wz->0∉F'->ai.length<17179869184->Calls Tryz.prog 89 #[.pointer (some ⟨b,0,none⟩),.slice A N ak,.int .i64 p.W,.int .i64 p.H,.int .i64 (a7i m),.int .i64 wi] wz (a7s way wz b F' ai (a3q p) p.W p.H (a7i m)):=by
  intro wz A ak F' ai ba e3 e4 e5 e6 e7 e8 e9
  have:=c2k hway ak (W:=p.W) (H:=p.H) (by rw [aB,hN]) (au ba) e3 (by rw [aB];exact e4) al.w0 al.w1 al.h0 al.h1 (b0o ba).1 (b0o ba).2.1 b F' ai e5 e6 e7 e8 e9
  rw [aB,<-aX] at this
  exact this
 have ah:Hid (∀ e w',(if m<=colours then (if a6c way (a3q p) p.W p.H (a7i m)=true then e=.returned (.int .i64 0)/\∃ F',a2n w' b F' (bs++(a0b 1 1++(a2q n p.d (a2y p)++a1y way (a3q p) p.W p.H (a7i m))))/\a0u F F' w w'
   else e=.returned (.int .i64 6)/\∃ F',a0u F F' w w') else e=.returned (.int .i64 7)/\∃ F',a0u F F' w w')->c6b way colours w b F bs p e w'):=hid (fun e w' h=>by unfold c6b b5l;rw [<-hm,<-hn];exact h)
 rw [<-aX]
 have bJ:=hid aR
 have HX:=hid hX
 have br:=hid aS
 have aq:=hid bo
 have bG:=hid aM
 have bw:=hid ap
 have bF:=hid aK
 have HW:=hid hw
 have HP:=hid hp
 have bq:=hid h0F
 have bC:=hid bm
 have aT:=hid am
 have bN:=hid aB
 have bf:=hid hw.lt
 have bO:=hid hG
 have bM:=hid h.lt
 have az:∀ (wz:World) (gL aa:Nat) (xs:List Value) (gs F' ai:List Nat),b3f wz n p.d (a2y p) gL aa xs gs->a2n wz b F' ai->(∀ x∈gL::gs,x∉F')->ai.length<17179869184->Calls Tryz.prog 23 #[.pointer (some ⟨b,0,none⟩),.agg #[.int .i64 p.d,.int .i64 n,.slice (some ⟨gL,0,none⟩) m aa]] wz (b2o wz b F' ai (a2q n p.d (a2y p))):=by
  intro wz gL aa xs gs F' ai e1 e2 e3 e4
  have:=e4n aa e1.at_ b F' ai e2 e3 e4
  unfold d1i at this
  rw [<-hm] at this
  exact this
 have bK:=hid az
 obtain ⟨a0,a1,a2,a3⟩:=aS.cells
 clear aR hX aS bo aM ap aK hw hp h0F bm am aB az al h au ao hn hm hN aX hG hway
 go_enter Tryz.func49,Tryz.ntmps49
 go_wp2_with fail
 rw [<-bJ.out,<-HX.out]
 refine (bG.out w1 aq.out).mono ?_
 rintro e w2 ⟨aG,aJ⟩
 rcases aJ with ⟨bi,gL,aa,xs,gs,rfl,ab,aC⟩ | ⟨bg,rfl⟩
 ·obtain ⟨w3,aA⟩:=zX (w2.alloc (.cells #[.int .i64 p.d,.int .i64 n,.slice (some ⟨gL,0,none⟩) m aa] 45))
  obtain ⟨X9,aN⟩:=zX (w2.heap.size)
  have av:Chg [] w2 w3:=by rw [aA];exact (zR [] w2).alloc _
  have aQ:c4m w3 X9 (.int .i64 p.d) (.int .i64 n) (.slice (some ⟨gL,0,none⟩) m aa):=⟨by rw [aA,aN];exact Blk.new w2 _ _⟩
  have an:Chg [] w1 w3:=aG.tq av
  obtain ⟨a0,a1,a2,a3⟩:=(br.out.same an).cells
  obtain ⟨k0,k1,k2⟩:=aQ.cells
  have ap:=bw.out w3 gL aa xs gs (aq.out.tq an) (by
   have:=aq.out
   exact ⟨ab.ok,ab.row.chg av (by simp),ab.pl.same av⟩)
  have bb:=hid (show b3f w3 n p.d (a2y p) gL aa xs gs from ⟨ab.ok,ab.row.chg av (by simp),ab.pl.same av⟩)
  have bj:=hid bi
  have af:m<=256:=by omega
  have aj:Hid (∀ x∈gL::gs,w.heap.size<=x/\x<w3.heap.size):=hid (fun x hx=>⟨by have:=aC x hx;have:=aq.out.size;omega,by
   have:=av.size
   rcases zJ.1 hx with rfl | h1
   ·have:=ab.row.lt;omega
   ·have:=ab.pl.lt x h1;omega⟩)
  have be:=hid aQ
  have aV:=hid an
  have aH:Hid (w.heap.size<=X9/\X9<w3.heap.size):=hid ⟨by rw [aN];have:=aG.size;have:=aq.out.size;omega,aQ.blk.lt⟩
  have bA:=hid aA
  have bI:=hid aN
  have a5:=hid ap
  rw [aA,aN] at k0 k1 k2
  rw [aA] at a0 a1 a2 a3
  clear aG ab aC aA aN av aQ an ap bi
  go_wp2_with fail
  rw [<-bA.out,<-bI.out]
  refine a5.out.mono ?_
  rintro e w4 ⟨g9,rfl,aw,a8,bv⟩
  have a7:Chg [] w w4:=(aq.out.tq aV.out).tq a8
  have aO:=HW.out.same a7
  have bn:=a0t w4 b F bs 1 1 aO (by decide) (by decide) (by omega)
  have aW:=hid a7
  have ag:=hid a8
  have a9:=hid aw
  have a4:Hid (w.heap.size<=g9/\g9<w4.heap.size):=hid ⟨by have:=(aq.out.tq aV.out).size;omega,aw.lt⟩
  clear aw a8 bv a7 aO a0 a1 a2 a3 k0 k1 k2
  go_wp2_with fail
  refine bn.mono ?_
  rintro e w5 ⟨rfl,F5,bh,aI⟩
  have ar:∀ Fk wr,a0u F Fk w4 wr->∀ x,w.heap.size<=x->x<w4.heap.size->x∉Fk:=fun Fk wr hg x h1 h2 hm=>by
   rcases hg.new x hm with h3 | h3
   ·have:=bf.out x h3;omega
   ·omega
  have aL:∀ x,w.heap.size<=x->x∉F:=fun x h1 hm=>by have:=bf.out x hm;omega
  have aZ:=hid ar
  have aE:=hid aL
  have az:=bK.out w5 gL aa xs gs F5 _ (by
    have h0:=bb.out
    have hc:=(Chg.mono (F':=F) ag.out (by simp)).trans aI.chg (fun x hx => .inl hx)
    exact ⟨h0.ok,h0.row.chg hc (aL _ (aj.out gL (by simp)).1),h0.pl.chg hc (fun x hx=>aL x (aj.out x (by simp [hx])).1)⟩) bh
   (fun x hx=>ar F5 w5 aI x (aj.out x hx).1 (by have:=(aj.out x hx).2;have:=ag.out.size;omega)) (by rw [zC,a0a];omega)
  unfold b2o at az
  obtain ⟨k0,k1,k2⟩:=((be.out.same ag.out).chg aI.chg (aL X9 aH.out.1)).cells
  have bu:=hid aI
  clear bn bh aI ar aL
  go_wp2_with fail
  refine az.mono ?_
  rintro e w6 ⟨rfl,F6,bd,bl⟩
  have ac:=bu.out.trans bl
  have bc:a0d vi w6 (some ⟨g9,0,none⟩) (a3q p):=by
   have h0:=a9.out.chg ac.chg (by simpa using aE.out g9 a4.out.1)
   exact h0.toOwn.cells
  have aD:Apt (some (⟨g9,0,none⟩:Addr)) (a3q p) F6:=fun _ ad e hm=>by injection e with e;subst e;exact aZ.out F6 w6 ac g9 a4.out.1 a4.out.2 hm
  have aF:=(HP.out.same aW.out).chg ac.chg bq.out
  have bp:0∉F6:=ac.out (by have:=HP.out.lt;have:=aW.out.size;omega) bq.out
  have bz:=aT.out af
  have aK:=fun nq=>bF.out (w6.drewN nq) (some ⟨g9,0,none⟩) N F6 _ af (bc.drewN nq) (zQ _) (bd.same ((zR [] w6).drewN nq)) aD (aF.same ((zR [] w6).drewN nq)) bp (by
   simp only [zC,a0a]
   omega)
  obtain ⟨k0,k1,k2⟩:=((be.out.same ag.out).chg ac.chg (aE.out X9 aH.out.1)).cells
  obtain ⟨a0,a1,a2,a3⟩:=(((br.out.same aV.out).same ag.out).chg ac.chg bC.out).cells
  have aU:=hid aK
  have aY:=hid ac
  have bE:=fun w=>d7c m w bD af
  clear az bd bl ac bc aD aF bp bz aK
  go_wp2_with fail
  refine a0c 11 (by kernel_rfl) (by kernel_rfl) ?_
  simp only [List.take_succ_cons,List.take_zero,List.drop_succ_cons,List.drop_zero]
  repeat (go_big_quiet_step ((go_at_call 24;exact Calls.quiet_of_same ((bE _).mono (fun _ _ h=>⟨h.1,h.2.symm⟩)))))
  refine wpQuiet_nil ?_
  intro _ bx
  obtain ⟨nq,rfl⟩:=bx
  go_wp2_with fail
  refine (aU.out nq).mono ?_
  rintro e w7 ae
  unfold a7s at ae
  have aP:=fun F7 (ay:a0u F6 F7 (w6.drewN nq) w7)=>a0u.pre aW.out (aY.out.trans (a0u.pre ((zR [] w6).drewN nq) ay))
  cases ao:a6c way (a3q p) p.W p.H (a7i m) with
  | true =>
   rw [if_pos ao] at ae
   obtain ⟨rfl,F7,bk,ay⟩:=ae
   have a6:=hid (aP F7 ay)
   have bB:=hid bk
   have ax:=hid ao
   clear ay bk aP ao
   go_wp2_with fail
   go_ret
   refine ah.out _ _ ?_
   rw [if_pos bj.out,if_pos ax.out]
   exact ⟨rfl,F7,by simpa only [zH] using bB.out,a6.out⟩
  | false =>
   rw [if_neg (by rw [ao];simp)] at ae
   obtain ⟨rfl,F7,ay⟩:=ae
   have a6:=hid (aP F7 ay)
   have ax:=hid ao
   clear ay aP ao
   go_wp2_with fail
   go_ret
   refine ah.out _ _ ?_
   rw [if_pos bj.out,if_neg (by rw [ax.out];simp)]
   exact ⟨rfl,F7,a6.out⟩
 ·have bH:=hid bg
  have HE:=hid (aq.out.tq aG)
  clear bg aG
  unfold f4u
  go_wp2_with fail
  go_ret
  refine ah.out _ _ ?_
  rw [if_neg (by have:=bH.out;omega)]
  exact ⟨rfl,F,a0u.pre (HE.out.tq ((zR [] _).alloc _)) (a0u.refl _ _)⟩
inductive f3k where
 | ok (bs:List Nat)
 | bad (k:Int)
def c7b (kind:Option Nat) (p:a2a):Bool:=match kind with
 | none=>true
 | some k=>b9k p.P.length k
def stR (way kind:Option Nat) (colours:Nat) (p:a2a):f3k :=
 if colours=0 then (if c7b kind p=true then (if b1t way (b4d kind p) p=true then .ok (a4h way (b4d kind p) p) else .bad 6) else .bad 1)
 else if (a2y p).length<=colours then (if b5l way p=true then .ok (a2t way p) else .bad 6) else .bad 7
def b1d (w:World) (r:f3k) (e:Ending) (w':World):Prop:=match r with
 | .ok bs=>∃ v G,e=.returned (.tuple #[v,.int .i64 0])/\Own w' 5 v G ((a1e bs).map b8)/\Chg [] w w'/\(∀ x∈G,w.heap.size<=x)/\(∀ b∈bs,b<2)
 | .bad k=>e=.returned (.tuple #[.slice none 0 0,.int .i64 k])/\Chg [] w w'
theorem d7p {way : Option Nat} (hway : b1b way) {kind : Option Nat} (hkind : b1b kind) (hk4 : ∀ k, kind = some k -> k <= 4) {colours : Nat} (c1 : colours <= 256) {w : World} {p : a2a} {g o : Nat} {B : Nat -> Option Addr} {c : Nat -> Nat} {G : List Nat} (cap : Nat) (h : a4l w p g o B c G) (hp : Pts w) :
    Calls Tryz.prog 17 #[a6y p g o cap,.int .i64 (c5y kind),.int .i64 colours,.int .i64 (c5y way)] w (b1d w (stR way kind colours p)):=by
  have aj:=h.ok
  have bG:∀ w',Chg [] w w'->_:=fun w' (hc':Chg [] w w')=>c1d cap (h.same hc')
  have bK:=fun k (k4:k<=4) w'=>c0z p.P.length k w' aj.n0 aj.n1 k4
  have aA:∀ w' b F bs,Chg [] w w'->1<=colours->a2n w' b F bs->(∀ x∈F,w.heap.size<=x)->bs.length<1000000->_:=fun w' b F bs (hc':Chg [] w w') c0 hw (hF:∀ x∈F,w.heap.size<=x) hb=>e4z hway cap (h.same hc') c0 c1 b F bs hw (fun x hx hm=>by have:=h.lt x hx;have:=hF x hm;omega) (hp.same hc') (fun hm=>by have:=hF 0 hm;have:=hp.lt;omega) hb
  have aD:∀ w' b F bs,Chg [] w w'->d5c kind p->a2n w' b F bs->(∀ x∈F,w.heap.size<=x)->bs.length<1000000->_:=fun w' b F bs (hc':Chg [] w w') hk hw (hF:∀ x∈F,w.heap.size<=x) hb=>d4j hway cap (h.same hc') hk b F bs hw (fun x hx hm=>by have:=h.lt x hx;have:=hF x hm;omega) (hp.same hc') (fun hm=>by have:=hF 0 hm;have:=hp.lt;omega) hb
  have bR:=fun (hm:b1t way (b4d kind p) p=true)=>b4a hway aj hm
  have bV:=fun h9 (hm:b5l way p=true)=>b4b hway aj h9 hm
  obtain ⟨HL,ak⟩:=zX (b3z p.W p.H p.d p.P.length)
  have aE:HL.length=18:=by rw [ak];exact a9q _ _ _ _
  have aR:a4h way (b4d kind p) p=HL++(a0b 0 1++(a0b (b4d kind p) 3++a1d way (a3p (b4d kind p) p) p.P.length)):=by rw [ak];rfl
  have aJ:a2t way p=HL++(a0b 1 1++(a2q p.P.length p.d (a2y p)++a1y way (a3q p) p.W p.H (a7i (a2y p).length))):=by rw [ak];rfl
  have bZ:c7b kind p=true->d5c kind p:=fun hb k hk=>⟨hk4 k hk,by subst hk;exact hb⟩
  have cc:∀ k,kind=some k->c7b kind p=b9k p.P.length k:=fun k hk=>by subst hk;rfl
  have bc:kind=none->c7b kind p=true:=fun hk=>by subst hk;rfl
  have a5:∀ e w' r,stR way kind colours p=r->b1d w r e w'->b1d w (stR way kind colours p) e w':=fun e w' r h1 h2=>by rw [h1];exact h2
  have b2 : -1<=c5y way/\c5y way<=7:=by
    cases way with
    | none=>exact ⟨by decide,by decide⟩
    | some k=>have := hway k rfl;show -1<=(k:Int)/\(k:Int)<=7;omega
  have ar:(kind=none/\c5y kind=-1)\/∃ k,kind=some k/\k<=4/\c5y kind=(k:Int):=by
    cases kind with
    | none=>exact .inl ⟨rfl,rfl⟩
    | some k=>exact .inr ⟨k,rfl,hk4 k rfl,rfl⟩
  have bQ : -1<=c5y kind/\c5y kind<=4:=by
    rcases ar with ⟨_,e⟩ | ⟨k,_,h1,e⟩<;>rw [e]<;>omega
  unfold b4s c6b at *
  unfold a6y at *
  obtain ⟨n,hn⟩:=zX (p.P.length)
  have c6:1<=n:=by rw [hn];exact aj.n0
  have c7:n<=4:=by rw [hn];exact aj.n1
  rw [<-hn] at bG bK aA aD ak aR aJ ⊢
  have cr:=aj.w0
  have cz:=aj.w1
  have cN:=aj.h0
  have cM:=aj.h1
  have cm:=aj.d0
  have cu:=aj.d1
  obtain ⟨wi,bb⟩:=zX (c5y way)
  obtain ⟨ki,be⟩:=zX (c5y kind)
  obtain ⟨ci,aO⟩:=zX ((colours:Int))
  rw [<-bb] at b2 aA aD ⊢
  rw [<-be] at ar bQ aD ⊢
  rw [<-aO] at aA ⊢
  obtain ⟨W1,cy⟩:∃ W1,p.W=W1+1:=⟨p.W-1,by omega⟩
  obtain ⟨H1,ct⟩:∃ H1,p.H=H1+1:=⟨p.H-1,by omega⟩
  obtain ⟨D1,cG⟩:∃ D1,p.d=D1+1:=⟨p.d-1,by omega⟩
  obtain ⟨N1,cD⟩:∃ N1,n=N1+1:=⟨n-1,by omega⟩
  have e1:(p.W:Int)-1=(W1:Int):=by omega
  have e2:(p.H:Int)-1=(H1:Int):=by omega
  have e3:(p.d:Int)-1=(D1:Int):=by omega
  have e4:(n:Int)-1=(N1:Int):=by omega
  have u1:IntKind.u64.wrap (W1:Int)=(W1:Int):=IntWalk.u64_in _ (by omega)
  have u2:IntKind.u64.wrap (H1:Int)=(H1:Int):=IntWalk.u64_in _ (by omega)
  have u3:IntKind.u64.wrap (D1:Int)=(D1:Int):=IntWalk.u64_in _ (by omega)
  have u4:IntKind.u64.wrap (N1:Int)=(N1:Int):=IntWalk.u64_in _ (by omega)
  have aH:HL=a0b W1 6++(a0b H1 6++(a0b D1 4++a0b N1 2)):=by
    rw [ak,b3z,show p.W-1=W1 by omega,show p.H-1=H1 by omega,show p.d-1=D1 by omega,show n-1=N1 by omega]
  have t1:decide (ki < -1)=false:=zA (by omega)
  have t2:decide (4<ki)=false:=zA (by omega)
  have t3:decide (ci<0)=false:=zA (by omega)
  have t4:decide (256<ci)=false:=zA (by omega)
  have t5:decide (wi < -1)=false:=zA (by omega)
  have t6:decide (7<wi)=false:=zA (by omega)
  have cP:W1<64:=by omega
  have cR:H1<64:=by omega
  have cU:D1<16:=by omega
  have da:N1<4:=by omega
  obtain ⟨w1,bo⟩:=zX (w.alloc (.cells #[.int .i64 p.W,.int .i64 p.H,.int .i64 p.d,.slice (some ⟨g,o,none⟩) n cap] 27))
  obtain ⟨X,hX⟩:=zX (w.heap.size)
  have bl:Box w1 X (.int .i64 p.W) (.int .i64 p.H) (.int .i64 p.d) (.slice (some ⟨g,o,none⟩) n cap):=⟨by rw [bo,hX];exact Blk.new w _ _⟩
  have ce:Chg [] w w1:=by rw [bo];exact (zR [] w).alloc _
  have bq:=hid bo
  have HX:=hid hX
  have bx:Hid (X<w1.heap.size):=hid bl.blk.lt
  have aT:=hid bl
  have am:=hid ce
  have bk:=hid bG
  have cl:=hid bK
  have cq:=hid aA
  have cK:=hid aD
  have cB:=hid bR
  have cA:=hid bV
  have b7:=hid aE
  have bJ:=hid aR
  have bP:=hid aJ
  have cv:=hid bZ
  have b5:=hid cc
  have cI:=hid bc
  have aq:=hid a5
  have cZ:=hid bQ
  have aI:=hid aO
  have bO:=hid aH
  have bX:=hid hn
  have a9:=hid c1
  obtain ⟨a0,a1,a2,a3⟩:=bl.cells
  clear bo hX bl ce bG bK aA aD bR bV aE aR aJ bZ cc bc a5 bQ aO aH ak h aj hkind hk4 hway b2 hn bb be cy ct cG cD cr cz cN cM cm cu hp c1
  have a7:(ci=0/\kind=none/\ki=-1)\/(ci=0/\∃ k,kind=some k/\k<=4/\ki=(k:Int))\/1<=colours:=by
    have:=aI.out
    rcases Nat.eq_zero_or_pos colours with h0 | h0
    · rcases ar with ⟨e,e'⟩ | ⟨k,e,e',co⟩
      · exact .inl ⟨by omega,e,e'⟩
      · exact .inr (.inl ⟨by omega,k,e,e',co⟩)
    · exact .inr (.inr h0)
  clear ar
  rcases a7 with ⟨rfl,bc,rfl⟩ | ⟨rfl,k,cb,hk4,rfl⟩ | b0
  rotate_left
  have bm:∀ v,b9k n k=v->_:=fun v hv w'=>by have:=cl.out k hk4 w';rw [hv] at this;exact this
  have cf:=hid cb
  clear cb
  have t7:decide ((0:Int)<=(k:Int))=true:=zB (by omega)
  cases hmv:b9k n k
  · have aY:=bm _ hmv
    have bE:=hid hmv
    clear bm hmv
    go_enter Tryz.func17,Tryz.ntmps17
    go_wp2_with fail
    rw [<-bq.out,<-HX.out]
    refine (bk.out w1 am.out).mono ?_
    rintro e w2 ⟨rfl,af⟩
    obtain ⟨a0,a1,a2,a3⟩:=(aT.out.same af).cells
    have ab:=hid af
    clear af
    go_wp2_with fail
    refine (aY _).mono ?_
    rintro e w3 ⟨rfl,rfl⟩
    clear aY
    go_wp2_with fail
    refine bodyPost_ret (v:=.tuple #[.slice none 0 0,.int .i64 1]) (by simp [results,Tryz.results17,go_sem]) rfl ?_
    refine aq.out _ _ (.bad 1) ?_ ⟨rfl,am.out.tq ab.out⟩
    unfold stR
    rw [if_pos (by have:=aI.out;omega),if_neg (by rw [b5.out k cf.out,<-bX.out,bE.out];simp)]
  have aY:=bm _ hmv
  have bE:=hid hmv
  clear bm hmv
  go_enter Tryz.func17,Tryz.ntmps17
  go_wp2_with fail
  rw [<-bq.out,<-HX.out]
  refine (bk.out w1 am.out).mono ?_
  rintro e w2 ⟨rfl,af⟩
  obtain ⟨a0,a1,a2,a3⟩:=(aT.out.same af).cells
  have ab:=hid af
  clear af
  go_wp2_with fail
  refine (aY _).mono ?_
  rintro e w3 ⟨rfl,rfl⟩
  clear aY
  have ax:Hid (c7b kind p=true):=hid (by rw [b5.out k cf.out,<-bX.out];exact bE.out)
  have aW:Hid (colours=0):=hid (by have:=aI.out;omega)
  clear a0 a1 a2 a3
  obtain ⟨w4,ac⟩:=zX (w2.alloc (.cells #[.slice none 0 0,.int .i64 0] 89))
  obtain ⟨b,hb⟩:=zX (w2.heap.size)
  have aG:a2n w4 b [b] []:=by rw [ac,hb];exact a2n.new w2
  have ao:Chg [] w2 w4:=by rw [ac];exact (zR [] w2).alloc _
  have aF:X∉[b]:=by
    simp only [zU]
    have:=bx.out
    have:=ab.out.size
    omega
  have HB:Hid (w.heap.size<=b):=hid (by rw [hb];exact (am.out.tq ab.out).size)
  have az:Hid (Chg [] w w4):=hid ((am.out.tq ab.out).tq ao)
  have av:Hid (∀ Fz wz,a0u [b] Fz w4 wz->Box wz X (.int .i64 p.W) (.int .i64 p.H) (.int .i64 p.d) (.slice (some ⟨g,o,none⟩) n cap)):=hid (fun Fz wz hz=>((aT.out.same ab.out).same ao).chg hz.chg aF)
  have ay:Hid (∀ Fz wz,a0u [b] Fz w4 wz->Chg [] w wz):=hid (fun Fz wz hz=>az.out.trans hz.chg (fun x hx => .inr (by simp at hx;have:=HB.out;omega)))
  have aZ:Hid (∀ Fz wz,a0u [b] Fz w4 wz->∀ x∈Fz,w.heap.size<=x):=hid (fun Fz wz hz x hx=>by
    rcases hz.new x hx with h | h
    · simp at h;have:=HB.out;omega
    · have:=az.out.size;omega)
  obtain ⟨a0,a1,a2,a3⟩:=(av.out [b] w4 (a0u.refl _ _)).cells
  have bp:=a0t w4 b [b] [] W1 6 aG (by decide) (by omega) (by simp)
  have bh:=hid ac
  have al:=hid hb
  rw [ac] at a0 a1 a2 a3
  clear ac hb aG ao aF
  go_wp2_with fail
  rw [<-bh.out,<-al.out]
  rotate_left
  have cW:(ci==0)=false:=by have:=aI.out;simp;omega
  have cT:¬ ci=0:=by have:=aI.out;omega
  have c8:decide (0<ci)=true:=zB (by have:=aI.out;omega)
  have aW:=hid b0
  clear b0
  go_enter Tryz.func17,Tryz.ntmps17
  go_wp2_with fail
  rw [<-bq.out,<-HX.out]
  refine (bk.out w1 am.out).mono ?_
  rintro e w2 ⟨rfl,af⟩
  obtain ⟨a0,a1,a2,a3⟩:=(aT.out.same af).cells
  have ab:=hid af
  clear af
  clear a0 a1 a2 a3
  obtain ⟨w4,ac⟩:=zX (w2.alloc (.cells #[.slice none 0 0,.int .i64 0] 89))
  obtain ⟨b,hb⟩:=zX (w2.heap.size)
  have aG:a2n w4 b [b] []:=by rw [ac,hb];exact a2n.new w2
  have ao:Chg [] w2 w4:=by rw [ac];exact (zR [] w2).alloc _
  have aF:X∉[b]:=by
    simp only [zU]
    have:=bx.out
    have:=ab.out.size
    omega
  have HB:Hid (w.heap.size<=b):=hid (by rw [hb];exact (am.out.tq ab.out).size)
  have az:Hid (Chg [] w w4):=hid ((am.out.tq ab.out).tq ao)
  have av:Hid (∀ Fz wz,a0u [b] Fz w4 wz->Box wz X (.int .i64 p.W) (.int .i64 p.H) (.int .i64 p.d) (.slice (some ⟨g,o,none⟩) n cap)):=hid (fun Fz wz hz=>((aT.out.same ab.out).same ao).chg hz.chg aF)
  have ay:Hid (∀ Fz wz,a0u [b] Fz w4 wz->Chg [] w wz):=hid (fun Fz wz hz=>az.out.trans hz.chg (fun x hx => .inr (by simp at hx;have:=HB.out;omega)))
  have aZ:Hid (∀ Fz wz,a0u [b] Fz w4 wz->∀ x∈Fz,w.heap.size<=x):=hid (fun Fz wz hz x hx=>by
    rcases hz.new x hx with h | h
    · simp at h;have:=HB.out;omega
    · have:=az.out.size;omega)
  obtain ⟨a0,a1,a2,a3⟩:=(av.out [b] w4 (a0u.refl _ _)).cells
  have bp:=a0t w4 b [b] [] W1 6 aG (by decide) (by omega) (by simp)
  have bh:=hid ac
  have al:=hid hb
  rw [ac] at a0 a1 a2 a3
  clear ac hb aG ao aF
  go_wp2_with fail
  rw [<-bh.out,<-al.out]
  rotate_left
  have ax:Hid (c7b kind p=true):=hid (cI.out bc)
  have aW:Hid (colours=0):=hid (by have:=aI.out;omega)
  clear bc
  go_enter Tryz.func17,Tryz.ntmps17
  go_wp2_with fail
  rw [<-bq.out,<-HX.out]
  refine (bk.out w1 am.out).mono ?_
  rintro e w2 ⟨rfl,af⟩
  obtain ⟨a0,a1,a2,a3⟩:=(aT.out.same af).cells
  have ab:=hid af
  clear af
  clear a0 a1 a2 a3
  obtain ⟨w4,ac⟩:=zX (w2.alloc (.cells #[.slice none 0 0,.int .i64 0] 89))
  obtain ⟨b,hb⟩:=zX (w2.heap.size)
  have aG:a2n w4 b [b] []:=by rw [ac,hb];exact a2n.new w2
  have ao:Chg [] w2 w4:=by rw [ac];exact (zR [] w2).alloc _
  have aF:X∉[b]:=by
    simp only [zU]
    have:=bx.out
    have:=ab.out.size
    omega
  have HB:Hid (w.heap.size<=b):=hid (by rw [hb];exact (am.out.tq ab.out).size)
  have az:Hid (Chg [] w w4):=hid ((am.out.tq ab.out).tq ao)
  have av:Hid (∀ Fz wz,a0u [b] Fz w4 wz->Box wz X (.int .i64 p.W) (.int .i64 p.H) (.int .i64 p.d) (.slice (some ⟨g,o,none⟩) n cap)):=hid (fun Fz wz hz=>((aT.out.same ab.out).same ao).chg hz.chg aF)
  have ay:Hid (∀ Fz wz,a0u [b] Fz w4 wz->Chg [] w wz):=hid (fun Fz wz hz=>az.out.trans hz.chg (fun x hx => .inr (by simp at hx;have:=HB.out;omega)))
  have aZ:Hid (∀ Fz wz,a0u [b] Fz w4 wz->∀ x∈Fz,w.heap.size<=x):=hid (fun Fz wz hz x hx=>by
    rcases hz.new x hx with h | h
    · simp at h;have:=HB.out;omega
    · have:=az.out.size;omega)
  obtain ⟨a0,a1,a2,a3⟩:=(av.out [b] w4 (a0u.refl _ _)).cells
  have bp:=a0t w4 b [b] [] W1 6 aG (by decide) (by omega) (by simp)
  have bh:=hid ac
  have al:=hid hb
  rw [ac] at a0 a1 a2 a3
  clear ac hb aG ao aF
  go_wp2_with fail
  rw [<-bh.out,<-al.out]
  all_goals
    refine bp.mono ?_
    rintro e w5 ⟨rfl,F5,b1,bF⟩
    obtain ⟨a0,a1,a2,a3⟩:=(av.out F5 w5 bF).cells
    have b6:=a0t w5 b F5 _ H1 6 b1 (by decide) (by omega) (by simp [a0a])
    clear bp
    go_wp2_with fail
    refine b6.mono ?_
    rintro e w6 ⟨rfl,F6,bS,ca⟩
    have aM:=bF.trans ca
    obtain ⟨a0,a1,a2,a3⟩:=(av.out F6 w6 aM).cells
    have bW:=a0t w6 b F6 _ D1 4 bS (by decide) (by omega) (by simp [a0a])
    clear b6
    go_wp2_with fail
    refine bW.mono ?_
    rintro e w7 ⟨rfl,F7,b9,cd⟩
    have aV:=aM.trans cd
    obtain ⟨a0,a1,a2,a3⟩:=(av.out F7 w7 aV).cells
    have cg:=a0t w7 b F7 _ N1 2 b9 (by decide) (by omega) (by simp [a0a])
    clear bW
    go_wp2_with fail
    refine cg.mono ?_
    rintro e w8 ⟨rfl,F8,b3,b4⟩
    have aK:=aV.trans b4
    have bg:a2n w8 b F8 HL:=by
      rw [bO.out]
      simpa only [zH,List.nil_append] using b3
    have bH:=hid bg
    have aw:=hid aK
    obtain ⟨a0,a1,a2,a3⟩:=(av.out F8 w8 aK).cells
    clear cg b1 bF bS ca aM b9 cd aV b3 b4 aK bg
  iterate 2
    (have aD:=cK.out w8 b F8 HL (ay.out _ _ aw.out) (cv.out ax.out) bH.out (aZ.out _ _ aw.out) (by rw [b7.out];decide)
     go_wp2_with fail
     refine aD.mono ?_
     rintro e w9 aa
     clear a0 a1 a2 a3 aD
     cases hm:b1t way (b4d kind p) p
     · rw [if_neg (by rw [hm];simp)] at aa
       obtain ⟨rfl,F9,ah⟩:=aa
       have aC:=hid (aw.out.trans ah)
       have HM:=hid hm
       clear ah hm
       go_wp2_with fail
       refine bodyPost_ret (v:=.tuple #[.slice none 0 0,.int .i64 6]) (by simp [results,Tryz.results17,go_sem]) rfl ?_
       refine aq.out _ _ (.bad 6) ?_ ⟨rfl,ay.out _ _ aC.out⟩
       unfold stR
       rw [if_pos aW.out,if_pos ax.out,if_neg (by rw [HM.out];simp)]
     rw [if_pos hm] at aa
     obtain ⟨rfl,F9,aP,ah⟩:=aa
     have aC:=hid (aw.out.trans ah)
     obtain ⟨T,hT⟩:=zX (a4h way (b4d kind p) p)
     have ag:=cB.out hm
     rw [<-hT] at ag
     rw [<-bJ.out,<-hT] at aP
     have bz:=hid aP
     have au:Hid (19<=T.length/\T.length<=4096000000):=hid ⟨by omega,ag.2⟩
     have a4:Hid (stR way kind colours p=.ok T):=hid (by
       unfold stR
       rw [if_pos aW.out,if_pos ax.out,if_pos hm,hT])
     clear ag hT aP ah hm
     rotate_left)
  have aA:=cq.out w8 b F8 HL (ay.out _ _ aw.out) aW.out bH.out (aZ.out _ _ aw.out) (by rw [b7.out];decide)
  go_wp2_with fail
  refine aA.mono ?_
  rintro e w9 aa
  clear a0 a1 a2 a3 aA
  have aX:¬ colours=0:=by have:=aW.out;omega
  rcases zZ colours (a2y p).length with aB | aB
  · rw [if_neg (by omega)] at aa
    obtain ⟨rfl,F9,ah⟩:=aa
    have aC:=hid (aw.out.trans ah)
    have HM:=hid aB
    have br:=hid aX
    clear ah aB aX
    go_wp2_with fail
    refine bodyPost_ret (v:=.tuple #[.slice none 0 0,.int .i64 7]) (by simp [results,Tryz.results17,go_sem]) rfl ?_
    refine aq.out _ _ (.bad 7) ?_ ⟨rfl,ay.out _ _ aC.out⟩
    unfold stR
    rw [if_neg br.out,if_neg (by have:=HM.out;omega)]
  rw [if_pos aB] at aa
  cases hm:b5l way p
  · rw [if_neg (by rw [hm];simp)] at aa
    obtain ⟨rfl,F9,ah⟩:=aa
    have aC:=hid (aw.out.trans ah)
    have HM:=hid hm
    have cE:=hid aB
    have br:=hid aX
    clear ah hm aB aX
    go_wp2_with fail
    refine bodyPost_ret (v:=.tuple #[.slice none 0 0,.int .i64 6]) (by simp [results,Tryz.results17,go_sem]) rfl ?_
    refine aq.out _ _ (.bad 6) ?_ ⟨rfl,ay.out _ _ aC.out⟩
    unfold stR
    rw [if_neg br.out,if_pos cE.out,if_neg (by rw [HM.out];simp)]
  rw [if_pos hm] at aa
  obtain ⟨rfl,F9,aP,ah⟩:=aa
  have aC:=hid (aw.out.trans ah)
  obtain ⟨T,hT⟩:=zX (a2t way p)
  have ag:=cA.out (by have:=a9.out;omega) hm
  rw [<-hT] at ag
  rw [<-bP.out,<-hT] at aP
  have bz:=hid aP
  have au:Hid (19<=T.length/\T.length<=4096000000):=hid ag
  have a4:Hid (stR way kind colours p=.ok T):=hid (by
    unfold stR
    rw [if_neg aX,if_pos aB,if_pos hm,hT])
  clear ag hT aP ah hm aB aX
  all_goals
    have cj:=e6g w9 b F9 T bz.out (by have:=au.out;omega)
    have bC:=hid bz.out.bit
    clear bH
    go_wp2_with fail
    refine cj.mono ?_
    rintro e cC ⟨rfl,cp,aS,a6⟩
    have ap:=aC.out.trans a6
    have bN:=c3c cC b cp (d7a T) aS (by rw [b9m];have:=au.out;omega)
    have bf:=aS.bit
    obtain ⟨ae,ad⟩:=zX (a1n (d7a T))
    have bI:ae.length<=1000000000:=by rw [ad,a4p,b9m];have:=au.out;omega
    have aL:∀ d∈ae,d<256:=by rw [ad];exact b2z bf
    have ch:Hid (a1e T=ae++d8f (c3g ae)):=hid (by rw [ad];rfl)
    rw [<-ad] at bN
    have a8:=hid (ay.out _ _ ap)
    have cx:=hid (aZ.out _ _ ap)
    clear cj aS a6 ap bf ad
    go_wp2_with fail
    refine bN.mono ?_
    rintro e cs ⟨cO,bT,rfl,ai,bj,bi⟩
    obtain ⟨cw,cF,rfl,cn,cL,ba⟩:=ai.oq
    have bn:=b2g cs cw cF ae ba aL (by omega)
    have bD:=c6p aL
    have bB:=fun w'=>f1f (c3g ae) bD w'
    obtain ⟨S,hS⟩:=zX (c3g ae)
    rw [<-hS] at bn bB bD ch
    obtain ⟨nb,bu⟩:=zX (ae.length)
    rw [<-bu] at bn ai bI ⊢
    have c9:IntKind.u64.wrap (S:Int)=(S:Int):=IntWalk.u64_in _ (by omega)
    have ck:=hid bu
    have bY:=hid bI
    have bw:=hid ai
    have aQ:=hid (fun x hx=>Nat.le_trans a8.out.size (bi x hx):∀ x∈bT,w.heap.size<=x)
    have bL:=hid (a8.out.tq bj)
    clear bN ai bj bi cn cL ba aL bD hS bu bI
    go_wp2_with fail
    refine bn.mono ?_
    rintro e cS ⟨rfl,rfl⟩
    clear bn
    go_wp2_with fail
    refine (bB _).mono ?_
    rintro e db ⟨cQ,cX,rfl,an,aN,bM⟩
    have aU:=bw.out.same aN
    have bA:=hid an
    have bd:=hid (bL.out.tq aN)
    have cY:Hid (∀ x∈bT,w.heap.size<=x):=aQ
    have bv:(d8f S).length=4:=rfl
    clear an aN bM bB
    go_wp2_with (at_builtin;refine a1m rfl rfl b2h rfl rfl aU ((d8f S).map b8) 4 rfl ?c1 ?c2 ?c3 ?c4 ?c5 ?_)
    case c1=>rfl
    case c2=>exact Row.cellsB bA.out
    case c3=>exact c4s _
    case c4=>rw [zE,zE,bv];have := bY.out;have := ck.out;omega
    case c5=>rw [zE,zE,bv];have := bY.out;have := ck.out;omega
    intro v8 cH cV cJ bU
    clear bv
    go_wp2
    refine bodyPost_ret (v:=.tuple #[v8,.int .i64 0]) (by simp [results,Tryz.results17,go_sem]) rfl ?_
    refine aq.out _ _ (.ok T) a4.out ⟨v8,cH,rfl,by rw [ch.out,zM];exact cJ,?_,fun x hx => ?_,bC.out⟩
    · exact bd.out.trans bU.chg (fun x hx => .inr (aQ.out x hx))
    · rcases bU.new x hx with h | h
      · exact aQ.out x h
      · have:=bd.out.size;omega
theorem d6h {p:a2a} (h:p.Ok) (hc:(a2y p).length<=256):19<=(a2t none p).length/\(a2t none p).length<=4096000000:=b4b (way:=none) (fun _ e=>by cases e) h hc (a5s _ _ _ _ _)
def pS:a2a:=⟨1,1,8,[[200]]⟩
theorem f4a:pS.Ok where
 w0:=by decide
 w1:=by decide
 h0:=by decide
 h1:=by decide
 d0:=by decide
 d1:=by decide
 n0:=by decide
 n1:=by decide
 len:=fun x hx=>by simp [pS] at hx;subst hx;rfl
 smp:=fun x hx=>by simp [pS] at hx;subst hx;exact fun v hv=>by simp at hv;subst hv;decide
theorem f0w:b1t (some 1) 0 pS=true:=by kernel_rfl
theorem e4k:b0b (a4h (some 1) 0 pS)=[0,7,0,228,0]:=by kernel_rfl
def tS:List Nat:=a4h (some 1) 0 pS
theorem f5b:stR (some 1) (some 0) 0 pS=.ok tS:=by
 have h1:c7b (some 0) pS=true:=by kernel_rfl
 have h2:b1t (some 1) (b4d (some 0) pS) pS=true:=f0w
 unfold stR
 rw [if_pos rfl,if_pos h1,if_pos h2]
 rfl
theorem f4x:stR none (some 1) 0 pS=.bad 1:=by
 have h1:c7b (some 1) pS=false:=by kernel_rfl
 unfold stR
 rw [if_pos rfl,if_neg (by rw [h1];simp)]
theorem f1r {w:World} {s t:Nat} (h1:Blk w s 3 #[.int .i64 200]) (h2:Blk w t 22 #[.slice (some ⟨s,0,none⟩) 1 1]) :
  a4l w pS t 0 (fun _=>some ⟨s,0,none⟩) (fun _=>1) [s,t] where
 ok:=f4a
 gG:=by simp
 lt:=fun x hx=>by simp at hx;rcases hx with rfl | rfl;exact h1.lt;exact h2.lt
 cell:=fun i hi=>by
  simp [pS] at hi
  subst hi
  exact h2.cell 0
 cells:=fun i hi=>by
  simp [pS] at hi
  subst hi
  refine ⟨fun _=>⟨s,0,rfl,h1.lt,fun k a hk => ?_⟩⟩
  rw [Nat.zero_add,h1.cell k]
  simp [pS] at hk
  match k,hk with
  | 0,hk=>simp at hk;subst hk;rfl
 blk:=fun i hi ad e=>by injection e with e;subst e;simp
 cap:=fun i hi=>by simp [pS]
theorem c3k (ds es:List Nat):a5m (ds++es)=a5m ds++(List.range (8*es.length)).map fun i=>a8h (ds++es) (8*ds.length+i):=by
 unfold a5m
 rw [zC,Nat.mul_add,List.range_add,zM,List.map_map]
 congr 1
 apply List.map_congr_left
 intro i hi
 have h:=List.mem_range.1 hi
 unfold a8h
 rw [zD,zD,List.getElem?_append_left (by omega)]
theorem a0y.more {ds bs:List Nat} (es:List Nat) (h:a0y ds 0 bs):a0y (ds++es) 0 bs:=by
 obtain ⟨r,hr⟩:=h
 rw [List.drop_zero] at hr
 exact ⟨r++(List.range (8*es.length)).map fun i=>a8h (ds++es) (8*ds.length+i),by rw [List.drop_zero,c3k,hr,zH]⟩
theorem e9x {w:World} {A:Option Addr} {cap:Nat} {ds:List Nat} (hc:a0d b8 w A ds) (hd:∀ d∈ds,d<256) (h3:3<=ds.length) (hl:ds.length<=1000000004) (hcap:ds.length<=cap) (hcm:cap<=9223372036854775807)
  {W H d n:Nat} (w0:1<=W) (w1:W<=64) (h0:1<=H) (h1:H<=64) (d0:1<=d) (d1:d<=16) (n0:1<=n) (n1:n<=4) (ha:a0y ds 0 (b3z W H d n)) :
  Calls Tryz.prog 61 #[.slice A ds.length cap] w fun e w'=>e=.returned (.tuple #[.int .i64 W,.int .i64 H,.int .i64 d,.int .i64 n,.int .i64 0])/\Chg [] w w':=by
 have ab:=e5h w A cap ds hc hd (by omega) hcap hcm
 have aa:=fun w' b F (h:a1r w' b F ds 0)=>d6c h w0 w1 h0 h1 d0 d1 n0 n1 ha
 obtain ⟨N,hN⟩:=zX (ds.length)
 rw [<-hN] at ab h3 hl ⊢
 have t1:decide ((N:Int)*8<18)=false:=zA (by omega)
 have ae:=hid aa
 have af:=hid ab
 clear ab aa hN ha hd hc
 go_enter Tryz.func61,Tryz.ntmps61
 go_wp2_with fail
 refine af.out.mono ?_
 rintro e w2 ⟨b,F,rfl,ac,ad,hF⟩
 have aa:=ae.out w2 b F ac
 have ai:=ac.mem
 go_wp2_with fail
 refine aa.mono ?_
 rintro e w3 ⟨rfl,ag,ah⟩
 go_wp2_with fail
 refine bodyPost_ret (v:=.tuple #[.int .i64 W,.int .i64 H,.int .i64 d,.int .i64 n,.int .i64 0]) (by simp [results,Tryz.results61,go_sem]) rfl ?_
 exact ⟨rfl,ad.trans ah (fun x hx => .inr (by simp at hx;subst hx;exact hF _ ai))⟩
def e6p (a c:Nat):Value:=.agg #[.int .i64 1,.int .i64 1,.int .i64 8,.slice (some ⟨a,0,none⟩) 1 c]
theorem c1m (a c:Nat):a6y pS a 0 c=e6p a c:=by simp [a6y,pS,e6p]
section
variable {w:World} {a:Nat} {B:Nat->Option Addr} {c:Nat->Nat} {G:List Nat}
theorem f4y (hA:a4l w pS a 0 B c G) (hp:Pts w):Calls Tryz.prog 17 #[e6p a 1,.int .i64 0,.int .i64 0,.int .i64 1] w (b1d w (.ok tS)):=by
 have h:=d7p (way:=some 1) (fun k e=>by injection e with e;omega) (kind:=some 0) (fun k e=>by injection e with e;omega) (fun k e=>by injection e with e;omega) (colours:=0) (by decide) 1 hA hp
 rw [c1m,f5b] at h
 exact h
theorem f4f (hA:a4l w pS a 0 B c G) (hp:Pts w):Calls Tryz.prog 17 #[e6p a 1,.int .i64 1,.int .i64 0,.int .i64 (-1)] w (b1d w (.bad 1)):=by
 have h:=d7p (way:=none) (fun k e=>by cases e) (kind:=some 1) (fun k e=>by injection e with e;omega) (fun k e=>by injection e with e;omega) (colours:=0) (by decide) 1 hA hp
 rw [c1m,f4x] at h
 exact h
theorem b8p:(a1e tS).length=9:=by rw [b4k,show b0b tS=[0,7,0,228,0] from e4k];rfl
theorem f4g (hbit:∀ b∈tS,b<2) (hp:Pts w) {A:Option Addr} {cap:Nat} (hc:a0d b8 w A (a1e tS)) (hcap:9<=cap) (hcm:cap<=9223372036854775807) :
  Calls Tryz.prog 25 #[.slice A 9 cap] w fun e w'=>∃ gP capP xs gs,e=.returned (.tuple #[e6p gP capP,.int .i64 0])/\a1x w' pS gP capP xs gs/\Chg [] w w':=by
 have h:=c2q (way:=some 1) (fun k e=>by injection e with e;omega) (k:=0) f4a (by decide) (by kernel_rfl) f0w hbit hp (A:=A) (cap:=cap) hc (by rw [show (a1e (a4h (some 1) 0 pS)).length=9 from b8p];exact hcap) hcm
 rw [show (a1e (a4h (some 1) 0 pS)).length=9 from b8p] at h
 refine Calls.mono h ?_
 rintro e w' ⟨gP,capP,xs,gs,rfl,ho,ch,_⟩
 exact ⟨gP,capP,xs,gs,by rw [c1m],ho,ch⟩
theorem f2p (hbit:∀ b∈tS,b<2) {A:Option Addr} {cap:Nat} (hc:a0d b8 w A (a1e tS)) (hcap:9<=cap) (hcm:cap<=9223372036854775807) :
  Calls Tryz.prog 61 #[.slice A 9 cap] w fun e w'=>e=.returned (.tuple #[.int .i64 1,.int .i64 1,.int .i64 8,.int .i64 1,.int .i64 0])/\Chg [] w w':=by
 have hd:∀ d∈a1e tS,d<256:=fun d hd=>by
  unfold a1e at hd
  rcases zP.1 hd with h1 | h1
  ·exact b2z (b5o hbit) d h1
  ·exact d2u _ d h1
 have ha:a0y (a1e tS) 0 (b3z 1 1 8 1):=by
  have h1:=c4u hbit
  have e:tS=b3z 1 1 8 1++(a0b 0 1++(a0b 0 3++a1d (some 1) (a3p 0 pS) 1)):=rfl
  have h2:a0y (b0b tS) 0 (b3z 1 1 8 1):=by
   rw [e] at h1 ⊢
   exact h1.left
  exact h2.more _
 have h:=e9x hc hd (by rw [b8p];decide) (by rw [b8p];decide) (by rw [b8p];exact hcap) hcm (by decide) (by decide) (by decide) (by decide) (by decide) (by decide) (by decide) (by decide) ha
 rw [b8p] at h
 exact h
theorem f2q {g' capP:Nat} {xs:List Value} {gs:List Nat} (hA:a4l w pS a 0 B c G) (ho:a1x w pS g' capP xs gs):Calls Tryz.prog 26 #[e6p a 1,e6p g' capP] w fun e w'=>e=.returned (.bool true)/\Chg [] w w':=by
 have h:=e0c 1 hA capP ho.at_ rfl rfl rfl rfl
 rw [c1m,c1m] at h
 exact h
end
theorem e5q (w:World) (hp:Pts w):Calls Tryz.prog 21 #[] w fun e w'=>e=.returned (.bool true)/\Chg [] w w':=by
 obtain ⟨u1,am⟩:=zX (w.alloc (.cells #[.int .i64 200] 3))
 obtain ⟨u2,aj⟩:=zX (u1.alloc (.cells #[.slice (some ⟨w.heap.size,0,none⟩) 1 1] 22))
 obtain ⟨u3,aw⟩:=zX (u2.alloc (.cells #[.int .i64 1,.int .i64 1,.int .i64 8,.slice (some ⟨w.heap.size+1,0,none⟩) 1 1] 27))
 have z1:u1.heap.size=w.heap.size+1:=by rw [am,a3f]
 have z2:u2.heap.size=w.heap.size+1+1:=by rw [aj,a3f,z1]
 have c1:Chg [] w u1:=by rw [am];exact (zR [] w).alloc _
 have c2:Chg [] u1 u2:=by rw [aj];exact (zR [] u1).alloc _
 have c3:Chg [] u2 u3:=by rw [aw];exact (zR [] u2).alloc _
 have b1:Blk u3 (w.heap.size) 3 #[.int .i64 200]:=(((show Blk u1 (w.heap.size) 3 #[.int .i64 200] from by rw [am];exact Blk.new _ _ _).chg c2 (by simp)).chg c3 (by simp))
 have b2:Blk u3 (w.heap.size+1) 22 #[.slice (some ⟨w.heap.size,0,none⟩) 1 1]:=((show Blk u2 (w.heap.size+1) 22 #[.slice (some ⟨w.heap.size,0,none⟩) 1 1] from by rw [aj,<-z1];exact Blk.new _ _ _).chg c3 (by simp))
 have b3:Box u3 (w.heap.size+1+1) (.int .i64 1) (.int .i64 1) (.int .i64 8) (.slice (some ⟨w.heap.size+1,0,none⟩) 1 1):=⟨by rw [aw,<-z2];exact Blk.new _ _ _⟩
 have hC:Chg [] w u3:=(c1.tq c2).tq c3
 have hA:a4l u3 pS (w.heap.size+1) 0 (fun _=>some ⟨w.heap.size,0,none⟩) (fun _=>1) [w.heap.size,w.heap.size+1]:=f1r b1 b2
 have aA:=fun wz (hz:Chg [] u3 wz)=>f4y (hA.same hz) ((hp.same hC).same hz)
 have ae:=fun wz (hz:Chg [] u3 wz)=>f4f (hA.same hz) ((hp.same hC).same hz)
 have af:=fun wz (hz:Chg [] u3 wz) gP ab xs gs (ho:a1x wz pS gP ab xs gs)=>f2q (hA.same hz) ho
 unfold b1d e6p at aA ae
 unfold e6p at af
 have aM:Hid (u3=(((w.alloc (.cells #[.int .i64 200] 3)).alloc (.cells #[.slice (some ⟨w.heap.size,0,none⟩) 1 1] 22)).alloc (.cells #[.int .i64 1,.int .i64 1,.int .i64 8,.slice (some ⟨w.heap.size+1,0,none⟩) 1 1] 27))):=hid (by rw [aw,aj,am])
 have HC:=hid hC
 have az:=hid b3
 have aS:=hid aA
 have ay:=hid ae
 have aO:=hid af
 have HP:=hid (hp.same hC)
 clear am aj aw z1 z2 c1 c2 c3 b1 b2 b3 hC hA aA ae af hp
 go_enter Tryz.func21,Tryz.ntmps21
 go_wp2_with fail
 rw [<-aM.out]
 refine (aS.out u3 (zR _ _)).mono ?_
 rintro e w4 ⟨v4,G4,rfl,ak,ar,aT,ad⟩
 obtain ⟨g4,c4,rfl,ao,-⟩:=e4j (N:=9) ak (by rw [zE];exact b8p) (by decide)
 obtain ⟨cc,aH,au,aL,ap⟩:=ao.cells_b8
 have aD:c4=cc:=by injection aH
 clear aH
 subst aD
 rw [b8p] at au
 have ag:=hid (f4g ad (HP.out.same ar) ap au aL)
 have al:=hid (fun wz (hz:Chg [] w4 wz)=>f2p ad (ap.same hz) au aL)
 unfold e6p at ag
 have ai:=hid ar
 have aB:=hid ap
 obtain ⟨a0,a1,a2,a3⟩:=(az.out.same ar).cells
 clear ak ar aT ad ao ap
 go_wp2_with fail
 refine ag.out.mono ?_
 rintro e w5 ⟨gP,ab,xs,gs,rfl,aE,aK⟩
 obtain ⟨w6,av⟩:=zX (w5.alloc (.cells #[.int .i64 1,.int .i64 1,.int .i64 8,.slice (some ⟨gP,0,none⟩) 1 ab] 27))
 obtain ⟨X,hX⟩:=zX (w5.heap.size)
 have ax:Chg [] w5 w6:=by rw [av];exact (zR [] w5).alloc _
 have aG:Box w6 X (.int .i64 1) (.int .i64 1) (.int .i64 8) (.slice (some ⟨gP,0,none⟩) 1 ab):=⟨by rw [av,hX];exact Blk.new w5 _ _⟩
 have aP:=hid (aE.same ax)
 have an:=hid (aK.tq ax)
 have aU:=hid aG
 have aR:=hid av
 have HX:=hid hX
 clear aE aK ax aG av hX a0 a1 a2 a3
 go_wp2_with fail
 rw [<-aR.out,<-HX.out]
 refine (al.out w6 an.out).mono ?_
 rintro e w7 ⟨rfl,aC⟩
 have ac:=hid (an.out.tq aC)
 have aI:=hid aC
 obtain ⟨a0,a1,a2,a3⟩:=((az.out.same ai.out).same ac.out).cells
 clear aC
 go_wp2_with fail
 refine (ay.out w7 (ai.out.tq ac.out)).mono ?_
 rintro e w8 ⟨rfl,aq⟩
 have ah:=ac.out.tq aq
 obtain ⟨a0,a1,a2,a3⟩:=((az.out.same ai.out).same ah).cells
 obtain ⟨x0,x1,x2,x3⟩:=((aU.out.same aI.out).same aq).cells
 have af:=aO.out w8 (ai.out.tq ah) gP ab xs gs ((aP.out.same aI.out).same aq)
 have aX:=fun w'=>c8l (P:=Tryz.prog) Tryz.underlying39 (some ⟨g4,0,none⟩) 9 c4 5 (by decide) au w' (c2r w')
 have aV:(Go.convert 39 9 (.slice (some ⟨g4,0,none⟩) 5 c4)).run Tryz.prog w8=.ok (.string ⟨#[0,7,0,228,0]⟩) w8:=by
  have aF:=aB.out.same ah
  have e9:a1e tS=[0,7,0,228,0]++d8f (c3g [0,7,0,228,0]):=by
   unfold a1e
   rw [show b0b tS=[0,7,0,228,0] from e4k]
  rw [e9] at aF
  obtain ⟨g,o,eg,aW,aa⟩:=aF.ex (by simp)
  injection eg with eg
  injection eg with eg eo
  subst eg
  subst eo
  exact run_convert_bytes_arg w8 39 5 Tryz.underlying39 Tryz.underlying5 _ _ 5 c4 [0,7,0,228,0] rfl (fun i hi=>by
   match i,hi with
   | 0,_=>exact aa 0 0 rfl
   | 1,_=>exact aa 1 7 rfl
   | 2,_=>exact aa 2 0 rfl
   | 3,_=>exact aa 3 228 rfl
   | 4,_=>exact aa 4 0 rfl) 9 Tryz.underlying9
 have aN:=hid (ai.out.tq ah)
 clear aq ah
 go_wp2_with fail
 refine af.mono ?_
 rintro e w9 ⟨rfl,aJ⟩
 have aQ:=hid aJ
 clear af aJ
 go_wp2_with fail
 go_ret
 exact ⟨rfl,HC.out.tq (aN.out.tq aQ.out)⟩
end Go.Proofs.YtepjepkgcdfboaaGreatDoor
