/- package palette by its contracts: Put. -/
import Derived.Test.YtepjepkgcdfboaaGreatDoorMg44
import Derived.Test.YtepjepkgcdfboaaGreatDoorMg46
import Derived.Test.YtepjepkgcdfboaaGreatDoorMg48
set_option linter.unusedVariables false
set_option linter.unusedSimpArgs false
set_option maxHeartbeats 4000000
set_option maxRecDepth 100000
namespace Go.Proofs.YtepjepkgcdfboaaGreatDoor
open Go.RowKit
open Go.RowKit Go.Maps
theorem b2q {c:List Int} {d i:Nat} (hi:i<c.length):a1v (c.take (i+1)) d=a1v (c.take i) d++a0b (c.getD i 0).toNat d:=by
 have e:c.getD i 0=c[i]:=by rw [zD,zF hi];rfl
 rw [List.take_succ_eq_append_getElem hi,e]
 unfold a1v
 rw [List.flatMap_append]
 simp
def b2o (w:World) (b:Nat) (F bs ts:List Nat) (e:Ending) (w':World):Prop:=e=.returned (.int .i64 0)/\∃ F',a2n w' b F' (bs++ts)/\a0u F F' w w'
theorem e4n {w:World} {n d:Nat} {C:List (List Int)} {g o:Nat} {B:Nat->Option Addr} {c:Nat->Nat} {G:List Nat} (cap:Nat) (h:b1a w n d C g o B c G) (b:Nat) (F bs:List Nat) (hw:a2n w b F bs) (hG:∀ x∈G,x∉F) (hbs:bs.length<17179869184) :
  Calls Tryz.prog 23 #[.pointer (some ⟨b,0,none⟩),d1i n d C.length g o cap] w (b2o w b F bs (a2q n d C)):=by
 have ab:=h.ok
 have ag:∀ w',Chg [] w w'->_:=fun w' (hc':Chg [] w w')=>c7q cap (h.same hc')
 have bu:=ab.n0
 have bc:=ab.n1
 have bn:=ab.d0
 have aB:=ab.d1
 have ah:=fun k (hk:k<=C.length)=>b3v (d:=d) ab.len k hk
 have af:∀ k i,k<C.length->i<n->∃ v:Nat,(C.getD k []).getD i 0=(v:Int)/\v<2^d:=fun k i hk hi=>by
  obtain ⟨s0,s1⟩:=b0l (ab.smp _ (a0n hk)) i
  refine ⟨((C.getD k []).getD i 0).toNat,(Int.toNat_of_nonneg s0).symm,?_⟩
  have e2:((2^d:Nat):Int)=(2:Int)^d:=by simp
  omega
 have aG:∀ k,k<C.length->∃ b q,∀ wz,Chg F w wz->wz.cell? ⟨g,o+k,none⟩=some (.slice (some ⟨b,q,none⟩) n (c k))/\∀ i,i<n->wz.cell? ⟨b,q+i,none⟩=some (.int .i64 ((C.getD k []).getD i 0)):=fun k hk=>by
  obtain ⟨b',q,e,hb,aq⟩:=h.at_ hk
  refine ⟨b',q,fun wz hz => ?_⟩
  have aK:=(h.chg hz hG).cell k hk
  rw [e] at aK
  exact ⟨aK,fun i hi=>(World.cell?_of_block (w:=w) (hz.block b' (h.lt b' hb) (hG b' hb))).trans (aq i hi)⟩
 have aj:∀ k,k<C.length->(C.getD k []).length=n:=fun k hk=>h.len hk
 obtain ⟨m,hm⟩:=zX (C.length)
 have br:1<=m:=by rw [hm];exact ab.c0
 have bp:m<=256:=by rw [hm];exact ab.c1
 have ac:a2q n d C=a0b (d-1) 4++(a0b (n-1) 2++(a0b (m-1) 8++a3o d C m)):=by rw [hm];rfl
 unfold b2o d1i at *
 rw [ac]
 rw [<-hm] at ag ah af aG aj ⊢
 obtain ⟨D1,aJ⟩:∃ D1,d=D1+1:=⟨d-1,by omega⟩
 obtain ⟨N1,aO⟩:∃ N1,n=N1+1:=⟨n-1,by omega⟩
 obtain ⟨M1,aM⟩:∃ M1,m=M1+1:=⟨m-1,by omega⟩
 have e1:(d:Int)-1=(D1:Int):=by omega
 have e2:(n:Int)-1=(N1:Int):=by omega
 have e3:(m:Int)-1=(M1:Int):=by omega
 have u1:IntKind.u64.wrap (D1:Int)=(D1:Int):=IntWalk.u64_in _ (by omega)
 have u2:IntKind.u64.wrap (N1:Int)=(N1:Int):=IntWalk.u64_in _ (by omega)
 have u3:IntKind.u64.wrap (M1:Int)=(M1:Int):=IntWalk.u64_in _ (by omega)
 rw [show d-1=D1 by omega,show n-1=N1 by omega,show m-1=M1 by omega]
 obtain ⟨w1,am⟩:=zX (w.alloc (.cells #[.int .i64 d,.int .i64 n,.slice (some ⟨g,o,none⟩) m cap] 45))
 obtain ⟨X,hX⟩:=zX (w.heap.size)
 have ar:c4m w1 X (.int .i64 d) (.int .i64 n) (.slice (some ⟨g,o,none⟩) m cap):=⟨by rw [am,hX];exact Blk.new w _ _⟩
 have aT:Chg [] w w1:=by rw [am];exact (zR [] w).alloc _
 have aQ:X∉F:=fun hm'=>by have:=hw.lt X hm';omega
 have bg:=hid am
 have HX:=hid hX
 have al:=hid ar
 have az:=hid aT
 have aw:=hid ag
 have ap:=hid ah
 have ay:=hid af
 have bh:=hid aG
 have aE:=hid aj
 have HW:=hid hw
 have ao:=hid aQ
 have bf:D1<16:=by omega
 have bo:N1<4:=by omega
 have a6:M1<256:=by omega
 have bq:=hid aJ
 have bk:=hid aO
 have bm:=hid aM
 have bi:=hid hm
 obtain ⟨a0,a1,a2⟩:=ar.cells
 clear am hX ar aT ag ah af aG aj hw aQ ab h hG ac hm aJ aO aM
 go_enter Tryz.func23,Tryz.ntmps23
 go_wp2_with fail
 rw [<-bg.out,<-HX.out]
 refine (aw.out w1 az.out).mono ?_
 rintro e w2 ⟨rfl,ak⟩
 obtain ⟨a0,a1,a2⟩:=(al.out.same ak).cells
 have aN:=a0t w2 b F bs D1 4 ((HW.out.same az.out).same ak) (by decide) (by omega) (by omega)
 have aC:=hid (az.out.tq ak)
 have aa:=hid ak
 clear ak
 go_wp2_with fail
 refine aN.mono ?_
 rintro e w3 ⟨rfl,F3,aY,aF⟩
 have a8:=a0t w3 b F3 _ N1 2 aY (by decide) (by omega) (by rw [zC,a0a];omega)
 obtain ⟨a0,a1,a2⟩:=((al.out.same aa.out).chg aF.chg ao.out).cells
 clear aN
 go_wp2_with fail
 refine a8.mono ?_
 rintro e w4 ⟨rfl,F4,aR,aS⟩
 have aX:=a0t w4 b F4 _ M1 8 aR (by decide) (by omega) (by rw [zC,zC,a0a,a0a];omega)
 have ai:=aF.trans aS
 obtain ⟨a0,a1,a2⟩:=((al.out.same aa.out).chg ai.chg ao.out).cells
 clear a8
 go_wp2_with fail
 refine aX.mono ?_
 rintro e w5 ⟨rfl,F5,aZ,aP⟩
 have ad:=ai.trans aP
 obtain ⟨a0,a1,a2⟩:=((al.out.same aa.out).chg ad.chg ao.out).cells
 have bj:Hid (a2n w5 b F5 (bs++(a0b D1 4++(a0b N1 2++(a0b M1 8++a3o d C 0))))):=hid (by
  have e0:a3o d C 0=[]:=rfl
  rw [e0]
  simpa only [zH,List.append_nil] using aZ)
 have be:=hid ad
 clear aX aY aR aZ aF aS aP ai ad
 go_wp2_with fail
 go_loopg [6,8,34,38,39,40] m (fun j v6 v8 v34 v38 v39 v40 wr=>∃ (k:Nat) (Fk:List Nat),v34=.int .i64 k/\k+j=m/\Hid (a2n wr b Fk (bs++(a0b D1 4++(a0b N1 2++(a0b M1 8++a3o d C k)))))/\Hid (a0u F Fk w2 wr))
 case atStart=>exact ⟨0,F5,rfl,by omega,bj,be⟩
 case round =>
  obtain ⟨k,Fk,rfl,bv,aU,aH⟩:=hrel
  rcases gk with _ | j
  ·obtain rfl:k=m:=by omega
   have t1:decide ((k:Int)<(k:Int))=false:=by simp
   go_wp2_with fail
   go_ret
   exact ⟨rfl,Fk,aU.out,a0u.pre aC.out aH.out⟩
  ·have hk:k<m:=by omega
   have t1:decide ((k:Int)<(m:Int))=true:=zB (by omega)
   obtain ⟨b',q,av⟩:=bh.out k hk
   have f1:=(av wr ((aC.out.mono (by simp)).trans aH.out.chg (fun x hx => .inl hx))).1
   have a9:=hid av
   clear av
   obtain ⟨wo,bd⟩:=zX (wr)
   subst bd
   obtain ⟨cc,aD⟩:=zX (C.getD k [])
   have ah:=aE.out k hk
   rw [<-aD] at ah
   have aW:=hid aD
   have au:=hid ah
   clear aD ah
   go_wp2_with fail
   go_loopg [8,40] n (fun j2 v8 v40 wr=>∃ (i:Nat) (Fi:List Nat),v40=.int .i64 i/\i+j2=n/\Hid (a2n wr b Fi (bs++(a0b D1 4++(a0b N1 2++(a0b M1 8++(a3o d C k++a1v (cc.take i) d))))))/\Hid (a0u F Fi w2 wr))
   case atStart=>exact ⟨0,Fk,rfl,by omega,hid (by simpa [a1v] using aU.out),aH⟩
   case round =>
    obtain ⟨i,Fi,rfl,bl,aV,an⟩:=hrel
    rcases gk with _ | j2
    ·obtain rfl:i=n:=by omega
     have t2:decide ((i:Int)<(i:Int))=false:=by simp
     go_wp2_with fail
     go_roundg j
     case measure=>omega
     case rel =>
      refine ⟨k+1,Fi,by go_num,by omega,hid ?_,an⟩
      rw [a6n (by rw [<-bi.out];exact hk),<-aW.out]
      have:=aV.out
      rw [zT (by rw [au.out];exact zQ _)] at this
      exact this
    ·have hi:i<n:=by omega
     have t2:decide ((i:Int)<(n:Int))=true:=zB (by omega)
     have a4:Chg F w wr:=(aC.out.mono (by simp)).trans an.out.chg (fun x hx => .inl hx)
     have f2:=(a9.out wr a4).2 i hi
     obtain ⟨v,hv,ax⟩:=ay.out k i hk hi
     rw [hv] at f2
     have aI:v<65536:=Nat.lt_of_lt_of_le ax (by have:=Nat.pow_le_pow_right (n:=2) (by decide) aB;exact this)
     have u4:IntKind.u64.wrap (v:Int)=(v:Int):=IntWalk.u64_in _ (by omega)
     obtain ⟨a0,a1,a2⟩:=((al.out.same aa.out).chg an.out.chg ao.out).cells
     have a5:=ap.out k (by omega)
     have ae:=a0t wr b Fi _ v d aV.out (by omega) ax (by
      simp only [zC,a0a,b4t,a5]
      have h1:d*n<=16*4:=zL aB bc
      have h2:d*n*k<=16*4*256:=zL h1 (by omega)
      have h3:d*(cc.take i).length<=16*4:=zL aB (by rw [zI];have:=au.out;omega)
      omega)
     have a7:bs++(a0b D1 4++(a0b N1 2++(a0b M1 8++(a3o d C k++a1v (cc.take i) d))))++a0b v d=bs++(a0b D1 4++(a0b N1 2++(a0b M1 8++(a3o d C k++a1v (cc.take (i+1)) d)))):=by
      rw [b2q (by rw [au.out];exact hi),aW.out,hv]
      simp only [zH,Int.toNat_natCast]
     rw [a7] at ae
     have aA:=hid ae
     clear ae a7 hv a5 a4 ax
     go_wp2_with fail
     refine aA.out.mono ?_
     rintro e w7 ⟨rfl,F7,a3,aL⟩
     have bb:=hid a3
     have ba:=hid (an.out.trans aL)
     clear a3 aL
     go_wp2_with fail
     go_roundg j2
     case measure=>omega
     case rel=>exact ⟨i+1,F7,by go_num,by omega,bb,ba⟩
def c6b (way:Option Nat) (colours:Nat) (w:World) (b:Nat) (F bs:List Nat) (p:a2a) (e:Ending) (w':World):Prop :=
 if (a2y p).length<=colours then
  (if b5l way p=true then e=.returned (.int .i64 0)/\∃ F',a2n w' b F' (bs++(a0b 1 1++(a2q p.P.length p.d (a2y p)++a1y way (a3q p) p.W p.H (a7i (a2y p).length))))/\a0u F F' w w'
   else e=.returned (.int .i64 6)/\∃ F',a0u F F' w w')
 else e=.returned (.int .i64 7)/\∃ F',a0u F F' w w'
theorem e4z {way:Option Nat} (hway:b1b way) {colours:Nat} {w:World} {p:a2a} {g o:Nat} {B:Nat->Option Addr} {c:Nat->Nat} {G:List Nat} (cap:Nat) (h:a4l w p g o B c G) (c0:1<=colours) (c1:colours<=256)
  (b:Nat) (F bs:List Nat) (hw:a2n w b F bs) (hG:∀ x∈G,x∉F) (hp:Pts w) (h0F:0∉F) (hbs:bs.length<1000000) :
  Calls Tryz.prog 49 #[.pointer (some ⟨b,0,none⟩),a6y p g o cap,.int .i64 colours,.int .i64 (c5y way)] w (c6b way colours w b F bs p):=by
 have am:=h.ok
 have aD:∀ w',Chg [] w w'->_:=fun w' (hc':Chg [] w w')=>f4c cap (h.same hc') colours c0 c1
 have aq:∀ w' (gL:Nat) (aa:Nat) xs gs,Chg [] w w'->b3f w' p.P.length p.d (a2y p) gL aa xs gs->_:=fun w' gL aa xs gs (hc':Chg [] w w') ab=>e4r cap (h.same hc') aa ab.at_
 unfold e1c at aD
 obtain ⟨n,hn⟩:=zX (p.P.length)
 obtain ⟨m,hm⟩:=zX ((a2y p).length)
 obtain ⟨N,hN⟩:=zX (p.W*p.H)
 have bM:N<=4096:=by rw [hN];exact am.area
 have ao:=c2b am
 have ak:=fun (h9:(a2y p).length<=256)=>b8e (c2b am h9)
 have ay:=fun (h9:(a2y p).length<=256)=>d0q (p:=p) h9
 have bG:1<=m:=by
  rw [hm]
  have:ptC p 0∈a2y p:=(a7h p _).2 ⟨0,am.pos,rfl⟩
  exact List.length_pos_of_mem this
 have az:=a9r p
 unfold d1i a6y at *
 rw [<-hm] at aD aq ak ay
 rw [<-hN] at aq az
 rw [<-hn] at aD aq ak ⊢
 obtain ⟨w1,aQ⟩:=zX (w.alloc (.cells #[.int .i64 p.W,.int .i64 p.H,.int .i64 p.d,.slice (some ⟨g,o,none⟩) n cap] 27))
 obtain ⟨X,hX⟩:=zX (w.heap.size)
 have aX:Box w1 X (.int .i64 p.W) (.int .i64 p.H) (.int .i64 p.d) (.slice (some ⟨g,o,none⟩) n cap):=⟨by rw [aQ,hX];exact Blk.new w _ _⟩
 have bk:Chg [] w w1:=by rw [aQ];exact (zR [] w).alloc _
 have bh:X∉F:=fun hm'=>by have:=hw.lt X hm';omega
 obtain ⟨wi,aU⟩:=zX (c5y way)
 have aC:∀ (wz:World) (A:Option Addr) (an:Nat) (F' ag:List Nat),m<=256->a0d vi wz A (a3q p)->N<=an->a2n wz b F' ag->Apt A (a3q p) F'->Pts wz->0∉F'->ag.length<17179869184->Calls Tryz.prog 89 #[.pointer (some ⟨b,0,none⟩),.slice A N an,.int .i64 p.W,.int .i64 p.H,.int .i64 (a7i m),.int .i64 wi] wz (a7s way wz b F' ag (a3q p) p.W p.H (a7i m)):=by
  intro wz A an F' ag bb e3 e4 e5 e6 e7 e8 e9
  have:=c2k hway an (W:=p.W) (H:=p.H) (by rw [az,hN]) (ay bb) e3 (by rw [az];exact e4) am.w0 am.w1 am.h0 am.h1 (b0o bb).1 (b0o bb).2.1 b F' ag e5 e6 e7 e8 e9
  rw [az,<-aU] at this
  exact this
 have ah:Hid (∀ e w',(if m<=colours then (if a6c way (a3q p) p.W p.H (a7i m)=true then e=.returned (.int .i64 0)/\∃ F',a2n w' b F' (bs++(a0b 1 1++(a2q n p.d (a2y p)++a1y way (a3q p) p.W p.H (a7i m))))/\a0u F F' w w'
   else e=.returned (.int .i64 6)/\∃ F',a0u F F' w w') else e=.returned (.int .i64 7)/\∃ F',a0u F F' w w')->c6b way colours w b F bs p e w'):=hid (fun e w' h=>by unfold c6b b5l;rw [<-hm,<-hn];exact h)
 rw [<-aU]
 have bE:=hid aQ
 have HX:=hid hX
 have bf:=hid aX
 have ap:=hid bk
 have bv:=hid aD
 have bH:=hid aq
 have bz:=hid aC
 have HW:=hid hw
 have HP:=hid hp
 have bm:=hid h0F
 have bF:=hid bh
 have aZ:=hid ak
 have bN:=hid az
 have bi:=hid hw.lt
 have bL:=hid hG
 have bO:=hid h.lt
 have aB:∀ (wz:World) (gL aa:Nat) (xs:List Value) (gs F' ag:List Nat),b3f wz n p.d (a2y p) gL aa xs gs->a2n wz b F' ag->(∀ x∈gL::gs,x∉F')->ag.length<17179869184->Calls Tryz.prog 23 #[.pointer (some ⟨b,0,none⟩),.agg #[.int .i64 p.d,.int .i64 n,.slice (some ⟨gL,0,none⟩) m aa]] wz (b2o wz b F' ag (a2q n p.d (a2y p))):=by
  intro wz gL aa xs gs F' ag e1 e2 e3 e4
  have:=e4n aa e1.at_ b F' ag e2 e3 e4
  unfold d1i at this
  rw [<-hm] at this
  exact this
 have bB:=hid aB
 obtain ⟨a0,a1,a2,a3⟩:=aX.cells
 clear aQ hX aX bk aD aq aC hw hp h0F bh ak az aB am h ay ao hn hm hN aU hG hway
 go_enter Tryz.func49,Tryz.ntmps49
 go_wp2_with fail
 rw [<-bE.out,<-HX.out]
 refine (bv.out w1 ap.out).mono ?_
 rintro e w2 ⟨aO,aG⟩
 rcases aG with ⟨bg,gL,aa,xs,gs,rfl,ab,aK⟩ | ⟨bq,rfl⟩
 ·obtain ⟨w3,aA⟩:=zX (w2.alloc (.cells #[.int .i64 p.d,.int .i64 n,.slice (some ⟨gL,0,none⟩) m aa] 45))
  obtain ⟨X9,aN⟩:=zX (w2.heap.size)
  have aw:Chg [] w2 w3:=by rw [aA];exact (zR [] w2).alloc _
  have aR:c4m w3 X9 (.int .i64 p.d) (.int .i64 n) (.slice (some ⟨gL,0,none⟩) m aa):=⟨by rw [aA,aN];exact Blk.new w2 _ _⟩
  have al:Chg [] w1 w3:=aO.tq aw
  obtain ⟨a0,a1,a2,a3⟩:=(bf.out.same al).cells
  obtain ⟨k0,k1,k2⟩:=aR.cells
  have aq:=bH.out w3 gL aa xs gs (ap.out.tq al) (by
   have:=ap.out
   exact ⟨ab.ok,ab.row.chg aw (by simp),ab.pl.same aw⟩)
  have aT:=hid (show b3f w3 n p.d (a2y p) gL aa xs gs from ⟨ab.ok,ab.row.chg aw (by simp),ab.pl.same aw⟩)
  have br:=hid bg
  have af:m<=256:=by omega
  have aj:Hid (∀ x∈gL::gs,w.heap.size<=x/\x<w3.heap.size):=hid (fun x hx=>⟨by have:=aK x hx;have:=ap.out.size;omega,by
   have:=aw.size
   rcases zJ.1 hx with rfl | h1
   ·have:=ab.row.lt;omega
   ·have:=ab.pl.lt x h1;omega⟩)
  have bc:=hid aR
  have a4:=hid al
  have aE:Hid (w.heap.size<=X9/\X9<w3.heap.size):=hid ⟨by rw [aN];have:=aO.size;have:=ap.out.size;omega,aR.blk.lt⟩
  have bw:=hid aA
  have bJ:=hid aN
  have a6:=hid aq
  rw [aA,aN] at k0 k1 k2
  rw [aA] at a0 a1 a2 a3
  clear aO ab aK aA aN aw aR al aq bg
  go_wp2_with fail
  rw [<-bw.out,<-bJ.out]
  refine a6.out.mono ?_
  rintro e w4 ⟨g9,rfl,ar,a8,bu⟩
  have ba:Chg [] w w4:=(ap.out.tq a4.out).tq a8
  have aI:=HW.out.same ba
  have be:=a0t w4 b F bs 1 1 aI (by decide) (by decide) (by omega)
  have aS:=hid ba
  have ai:=hid a8
  have aW:=hid ar
  have aV:Hid (w.heap.size<=g9/\g9<w4.heap.size):=hid ⟨by have:=(ap.out.tq a4.out).size;omega,ar.lt⟩
  clear ar a8 bu ba aI a0 a1 a2 a3 k0 k1 k2
  go_wp2_with fail
  refine be.mono ?_
  rintro e w5 ⟨rfl,F5,bn,aJ⟩
  have au:∀ Fk wr,a0u F Fk w4 wr->∀ x,w.heap.size<=x->x<w4.heap.size->x∉Fk:=fun Fk wr hg x h1 h2 hm=>by
   rcases hg.new x hm with h3 | h3
   ·have:=bi.out x h3;omega
   ·omega
  have aM:∀ x,w.heap.size<=x->x∉F:=fun x h1 hm=>by have:=bi.out x hm;omega
  have a9:=hid au
  have aH:=hid aM
  have aB:=bB.out w5 gL aa xs gs F5 _ (by
    have h0:=aT.out
    have hc:=(Chg.mono (F':=F) ai.out (by simp)).trans aJ.chg (fun x hx => .inl hx)
    exact ⟨h0.ok,h0.row.chg hc (aM _ (aj.out gL (by simp)).1),h0.pl.chg hc (fun x hx=>aM x (aj.out x (by simp [hx])).1)⟩) bn
   (fun x hx=>au F5 w5 aJ x (aj.out x hx).1 (by have:=(aj.out x hx).2;have:=ai.out.size;omega)) (by rw [zC,a0a];omega)
  unfold b2o at aB
  obtain ⟨k0,k1,k2⟩:=((bc.out.same ai.out).chg aJ.chg (aM X9 aE.out.1)).cells
  have bD:=hid aJ
  clear be bn aJ au aM
  go_wp2_with fail
  refine aB.mono ?_
  rintro e w6 ⟨rfl,F6,bd,bp⟩
  have ae:=bD.out.trans bp
  have bl:a0d vi w6 (some ⟨g9,0,none⟩) (a3q p):=by
   have h0:=aW.out.chg ae.chg (by simpa using aH.out g9 aV.out.1)
   exact h0.toOwn.cells
  have aL:Apt (some (⟨g9,0,none⟩:Addr)) (a3q p) F6:=fun _ ad e hm=>by injection e with e;subst e;exact a9.out F6 w6 ae g9 aV.out.1 aV.out.2 hm
  have aF:=(HP.out.same aS.out).chg ae.chg bm.out
  have bj:0∉F6:=ae.out (by have:=HP.out.lt;have:=aS.out.size;omega) bm.out
  have bI:=aZ.out af
  have aC:=fun nq=>bz.out (w6.drewN nq) (some ⟨g9,0,none⟩) N F6 _ af (bl.drewN nq) (zQ _) (bd.same ((zR [] w6).drewN nq)) aL (aF.same ((zR [] w6).drewN nq)) bj (by
   simp only [zC,a0a]
   omega)
  obtain ⟨k0,k1,k2⟩:=((bc.out.same ai.out).chg ae.chg (aH.out X9 aE.out.1)).cells
  obtain ⟨a0,a1,a2,a3⟩:=(((bf.out.same a4.out).same ai.out).chg ae.chg bF.out).cells
  have aY:=hid aC
  have a5:=hid ae
  have bC:=fun w=>d7c m w bG af
  clear aB bd bp ae bl aL aF bj bI aC
  go_wp2_with fail
  refine a0c 11 (by kernel_rfl) (by kernel_rfl) ?_
  simp only [List.take_succ_cons,List.take_zero,List.drop_succ_cons,List.drop_zero]
  repeat (go_big_quiet_step ((go_at_call 24;exact Calls.quiet_of_same ((bC _).mono (fun _ _ h=>⟨h.1,h.2.symm⟩)))))
  refine wpQuiet_nil ?_
  intro _ bA
  obtain ⟨nq,rfl⟩:=bA
  go_wp2_with fail
  refine (aY.out nq).mono ?_
  rintro e w7 ac
  unfold a7s at ac
  have aP:=fun F7 (av:a0u F6 F7 (w6.drewN nq) w7)=>a0u.pre aS.out (a5.out.trans (a0u.pre ((zR [] w6).drewN nq) av))
  cases ao:a6c way (a3q p) p.W p.H (a7i m) with
  | true =>
   rw [if_pos ao] at ac
   obtain ⟨rfl,F7,bo,av⟩:=ac
   have a7:=hid (aP F7 av)
   have bx:=hid bo
   have ax:=hid ao
   clear av bo aP ao
   go_wp2_with fail
   go_ret
   refine ah.out _ _ ?_
   rw [if_pos br.out,if_pos ax.out]
   exact ⟨rfl,F7,by simpa only [zH] using bx.out,a7.out⟩
  | false =>
   rw [if_neg (by rw [ao];simp)] at ac
   obtain ⟨rfl,F7,av⟩:=ac
   have a7:=hid (aP F7 av)
   have ax:=hid ao
   clear av aP ao
   go_wp2_with fail
   go_ret
   refine ah.out _ _ ?_
   rw [if_pos br.out,if_neg (by rw [ax.out];simp)]
   exact ⟨rfl,F7,a7.out⟩
 ·have bK:=hid bq
  have HE:=hid (ap.out.tq aO)
  clear bq aO
  unfold f4u
  go_wp2_with fail
  go_ret
  refine ah.out _ _ ?_
  rw [if_neg (by have:=bK.out;omega)]
  exact ⟨rfl,F,a0u.pre (HE.out.tq ((zR [] _).alloc _)) (a0u.refl _ _)⟩
inductive f3k where
 | ok (bs:List Nat)
 | bad (k:Int)
def c7b (kind:Option Nat) (p:a2a):Bool:=match kind with
 | none=>true
 | some k=>b9k p.P.length k
def stR (way kind:Option Nat) (colours:Nat) (p:a2a):f3k :=
 if colours=0 then (if c7b kind p=true then (if b1t way (b4d kind p) p=true then .ok (a4h way (b4d kind p) p) else .bad 6) else .bad 1)
 else if (a2y p).length<=colours then (if b5l way p=true then .ok (a2t way p) else .bad 6) else .bad 7
def b1d (w:World) (r:f3k) (e:Ending) (w':World):Prop:=match r with
 | .ok bs=>∃ v G,e=.returned (.tuple #[v,.int .i64 0])/\Own w' 5 v G ((a1e bs).map b8)/\Chg [] w w'/\(∀ x∈G,w.heap.size<=x)/\(∀ b∈bs,b<2)
 | .bad k=>e=.returned (.tuple #[.slice none 0 0,.int .i64 k])/\Chg [] w w'
theorem d7p {way : Option Nat} (hway : b1b way) {kind : Option Nat} (hkind : b1b kind) (hk4 : ∀ k, kind = some k -> k <= 4) {colours : Nat} (c1 : colours <= 256) {w : World} {p : a2a} {g o : Nat} {B : Nat -> Option Addr} {c : Nat -> Nat} {G : List Nat} (cap : Nat) (h : a4l w p g o B c G) (hp : Pts w) :
    Calls Tryz.prog 17 #[a6y p g o cap,.int .i64 (c5y kind),.int .i64 colours,.int .i64 (c5y way)] w (b1d w (stR way kind colours p)):=by
  have aj:=h.ok
  have bP:∀ w',Chg [] w w'->_:=fun w' (hc':Chg [] w w')=>c1d cap (h.same hc')
  have bC:=fun k (k4:k<=4) w'=>c0z p.P.length k w' aj.n0 aj.n1 k4
  have aE:∀ w' b F bs,Chg [] w w'->1<=colours->a2n w' b F bs->(∀ x∈F,w.heap.size<=x)->bs.length<1000000->_:=fun w' b F bs (hc':Chg [] w w') c0 hw (hF:∀ x∈F,w.heap.size<=x) hb=>e4z hway cap (h.same hc') c0 c1 b F bs hw (fun x hx hm=>by have:=h.lt x hx;have:=hF x hm;omega) (hp.same hc') (fun hm=>by have:=hF 0 hm;have:=hp.lt;omega) hb
  have aD:∀ w' b F bs,Chg [] w w'->d5c kind p->a2n w' b F bs->(∀ x∈F,w.heap.size<=x)->bs.length<1000000->_:=fun w' b F bs (hc':Chg [] w w') hk hw (hF:∀ x∈F,w.heap.size<=x) hb=>d4j hway cap (h.same hc') hk b F bs hw (fun x hx hm=>by have:=h.lt x hx;have:=hF x hm;omega) (hp.same hc') (fun hm=>by have:=hF 0 hm;have:=hp.lt;omega) hb
  have bU:=fun (hm:b1t way (b4d kind p) p=true)=>b4a hway aj hm
  have b1:=fun h9 (hm:b5l way p=true)=>b4b hway aj h9 hm
  obtain ⟨HL,ak⟩:=zX (b3z p.W p.H p.d p.P.length)
  have aH:HL.length=18:=by rw [ak];exact a9q _ _ _ _
  have aT:a4h way (b4d kind p) p=HL++(a0b 0 1++(a0b (b4d kind p) 3++a1d way (a3p (b4d kind p) p) p.P.length)):=by rw [ak];rfl
  have aR:a2t way p=HL++(a0b 1 1++(a2q p.P.length p.d (a2y p)++a1y way (a3q p) p.W p.H (a7i (a2y p).length))):=by rw [ak];rfl
  have bZ:c7b kind p=true->d5c kind p:=fun hb k hk=>⟨hk4 k hk,by subst hk;exact hb⟩
  have ch:∀ k,kind=some k->c7b kind p=b9k p.P.length k:=fun k hk=>by subst hk;rfl
  have ba:kind=none->c7b kind p=true:=fun hk=>by subst hk;rfl
  have be:∀ e w' r,stR way kind colours p=r->b1d w r e w'->b1d w (stR way kind colours p) e w':=fun e w' r h1 h2=>by rw [h1];exact h2
  have bR : -1<=c5y way/\c5y way<=7:=by
    cases way with
    | none=>exact ⟨by decide,by decide⟩
    | some k=>have := hway k rfl;show -1<=(k:Int)/\(k:Int)<=7;omega
  have ax:(kind=none/\c5y kind=-1)\/∃ k,kind=some k/\k<=4/\c5y kind=(k:Int):=by
    cases kind with
    | none=>exact .inl ⟨rfl,rfl⟩
    | some k=>exact .inr ⟨k,rfl,hk4 k rfl,rfl⟩
  have bJ : -1<=c5y kind/\c5y kind<=4:=by
    rcases ax with ⟨_,e⟩ | ⟨k,_,h1,e⟩<;>rw [e]<;>omega
  unfold b4s c6b at *
  unfold a6y at *
  obtain ⟨n,hn⟩:=zX (p.P.length)
  have c9:1<=n:=by rw [hn];exact aj.n0
  have cX:n<=4:=by rw [hn];exact aj.n1
  rw [<-hn] at bP bC aE aD ak aT aR ⊢
  have cN:=aj.w0
  have cM:=aj.w1
  have cD:=aj.h0
  have cy:=aj.h1
  have cp:=aj.d0
  have cG:=aj.d1
  obtain ⟨wi,a5⟩:=zX (c5y way)
  obtain ⟨ki,bh⟩:=zX (c5y kind)
  obtain ⟨ci,aJ⟩:=zX ((colours:Int))
  rw [<-a5] at bR aE aD ⊢
  rw [<-bh] at ax bJ aD ⊢
  rw [<-aJ] at aE ⊢
  obtain ⟨W1,cC⟩:∃ W1,p.W=W1+1:=⟨p.W-1,by omega⟩
  obtain ⟨H1,cn⟩:∃ H1,p.H=H1+1:=⟨p.H-1,by omega⟩
  obtain ⟨D1,cm⟩:∃ D1,p.d=D1+1:=⟨p.d-1,by omega⟩
  obtain ⟨N1,cq⟩:∃ N1,n=N1+1:=⟨n-1,by omega⟩
  have e1:(p.W:Int)-1=(W1:Int):=by omega
  have e2:(p.H:Int)-1=(H1:Int):=by omega
  have e3:(p.d:Int)-1=(D1:Int):=by omega
  have e4:(n:Int)-1=(N1:Int):=by omega
  have u1:IntKind.u64.wrap (W1:Int)=(W1:Int):=IntWalk.u64_in _ (by omega)
  have u2:IntKind.u64.wrap (H1:Int)=(H1:Int):=IntWalk.u64_in _ (by omega)
  have u3:IntKind.u64.wrap (D1:Int)=(D1:Int):=IntWalk.u64_in _ (by omega)
  have u4:IntKind.u64.wrap (N1:Int)=(N1:Int):=IntWalk.u64_in _ (by omega)
  have aA:HL=a0b W1 6++(a0b H1 6++(a0b D1 4++a0b N1 2)):=by
    rw [ak,b3z,show p.W-1=W1 by omega,show p.H-1=H1 by omega,show p.d-1=D1 by omega,show n-1=N1 by omega]
  have t1:decide (ki < -1)=false:=zA (by omega)
  have t2:decide (4<ki)=false:=zA (by omega)
  have t3:decide (ci<0)=false:=zA (by omega)
  have t4:decide (256<ci)=false:=zA (by omega)
  have t5:decide (wi < -1)=false:=zA (by omega)
  have t6:decide (7<wi)=false:=zA (by omega)
  have da:W1<64:=by omega
  have cS:H1<64:=by omega
  have cT:D1<16:=by omega
  have cR:N1<4:=by omega
  obtain ⟨w1,bl⟩:=zX (w.alloc (.cells #[.int .i64 p.W,.int .i64 p.H,.int .i64 p.d,.slice (some ⟨g,o,none⟩) n cap] 27))
  obtain ⟨X,hX⟩:=zX (w.heap.size)
  have bk:Box w1 X (.int .i64 p.W) (.int .i64 p.H) (.int .i64 p.d) (.slice (some ⟨g,o,none⟩) n cap):=⟨by rw [bl,hX];exact Blk.new w _ _⟩
  have b3:Chg [] w w1:=by rw [bl];exact (zR [] w).alloc _
  have bp:=hid bl
  have HX:=hid hX
  have bv:Hid (X<w1.heap.size):=hid bk.blk.lt
  have aV:=hid bk
  have ao:=hid b3
  have bn:=hid bP
  have cI:=hid bC
  have cF:=hid aE
  have cJ:=hid aD
  have cr:=hid bU
  have cA:=hid b1
  have b4:=hid aH
  have bF:=hid aT
  have bQ:=hid aR
  have cL:=hid bZ
  have bX:=hid ch
  have cu:=hid ba
  have an:=hid be
  have db:=hid bJ
  have aI:=hid aJ
  have bx:=hid aA
  have bT:=hid hn
  have a6:=hid c1
  obtain ⟨a0,a1,a2,a3⟩:=bk.cells
  clear bl hX bk b3 bP bC aE aD bU b1 aH aT aR bZ ch ba be bJ aJ aA ak h aj hkind hk4 hway bR hn a5 bh cC cn cm cq cN cM cD cy cp cG hp c1
  have aZ:(ci=0/\kind=none/\ki=-1)\/(ci=0/\∃ k,kind=some k/\k<=4/\ki=(k:Int))\/1<=colours:=by
    have:=aI.out
    rcases Nat.eq_zero_or_pos colours with h0 | h0
    · rcases ax with ⟨e,e'⟩ | ⟨k,e,e',cs⟩
      · exact .inl ⟨by omega,e,e'⟩
      · exact .inr (.inl ⟨by omega,k,e,e',cs⟩)
    · exact .inr (.inr h0)
  clear ax
  rcases aZ with ⟨rfl,ba,rfl⟩ | ⟨rfl,k,cb,hk4,rfl⟩ | cg
  rotate_left
  have bq:∀ v,b9k n k=v->_:=fun v hv w'=>by have:=cI.out k hk4 w';rw [hv] at this;exact this
  have bY:=hid cb
  clear cb
  have t7:decide ((0:Int)<=(k:Int))=true:=zB (by omega)
  cases hmv:b9k n k
  · have a9:=bq _ hmv
    have bE:=hid hmv
    clear bq hmv
    go_enter Tryz.func17,Tryz.ntmps17
    go_wp2_with fail
    rw [<-bp.out,<-HX.out]
    refine (bn.out w1 ao.out).mono ?_
    rintro e w2 ⟨rfl,af⟩
    obtain ⟨a0,a1,a2,a3⟩:=(aV.out.same af).cells
    have ab:=hid af
    clear af
    go_wp2_with fail
    refine (a9 _).mono ?_
    rintro e w3 ⟨rfl,rfl⟩
    clear a9
    go_wp2_with fail
    refine bodyPost_ret (v:=.tuple #[.slice none 0 0,.int .i64 1]) (by simp [results,Tryz.results17,go_sem]) rfl ?_
    refine an.out _ _ (.bad 1) ?_ ⟨rfl,ao.out.tq ab.out⟩
    unfold stR
    rw [if_pos (by have:=aI.out;omega),if_neg (by rw [bX.out k bY.out,<-bT.out,bE.out];simp)]
  have a9:=bq _ hmv
  have bE:=hid hmv
  clear bq hmv
  go_enter Tryz.func17,Tryz.ntmps17
  go_wp2_with fail
  rw [<-bp.out,<-HX.out]
  refine (bn.out w1 ao.out).mono ?_
  rintro e w2 ⟨rfl,af⟩
  obtain ⟨a0,a1,a2,a3⟩:=(aV.out.same af).cells
  have ab:=hid af
  clear af
  go_wp2_with fail
  refine (a9 _).mono ?_
  rintro e w3 ⟨rfl,rfl⟩
  clear a9
  have av:Hid (c7b kind p=true):=hid (by rw [bX.out k bY.out,<-bT.out];exact bE.out)
  have aX:Hid (colours=0):=hid (by have:=aI.out;omega)
  clear a0 a1 a2 a3
  obtain ⟨w4,ac⟩:=zX (w2.alloc (.cells #[.slice none 0 0,.int .i64 0] 89))
  obtain ⟨b,hb⟩:=zX (w2.heap.size)
  have aC:a2n w4 b [b] []:=by rw [ac,hb];exact a2n.new w2
  have ap:Chg [] w2 w4:=by rw [ac];exact (zR [] w2).alloc _
  have az:X∉[b]:=by
    simp only [zU]
    have:=bv.out
    have:=ab.out.size
    omega
  have HB:Hid (w.heap.size<=b):=hid (by rw [hb];exact (ao.out.tq ab.out).size)
  have ay:Hid (Chg [] w w4):=hid ((ao.out.tq ab.out).tq ap)
  have au:Hid (∀ Fz wz,a0u [b] Fz w4 wz->Box wz X (.int .i64 p.W) (.int .i64 p.H) (.int .i64 p.d) (.slice (some ⟨g,o,none⟩) n cap)):=hid (fun Fz wz hz=>((aV.out.same ab.out).same ap).chg hz.chg az)
  have aG:Hid (∀ Fz wz,a0u [b] Fz w4 wz->Chg [] w wz):=hid (fun Fz wz hz=>ay.out.trans hz.chg (fun x hx => .inr (by simp at hx;have:=HB.out;omega)))
  have bi:Hid (∀ Fz wz,a0u [b] Fz w4 wz->∀ x∈Fz,w.heap.size<=x):=hid (fun Fz wz hz x hx=>by
    rcases hz.new x hx with h | h
    · simp at h;have:=HB.out;omega
    · have:=ay.out.size;omega)
  obtain ⟨a0,a1,a2,a3⟩:=(au.out [b] w4 (a0u.refl _ _)).cells
  have bm:=a0t w4 b [b] [] W1 6 aC (by decide) (by omega) (by simp)
  have bc:=hid ac
  have al:=hid hb
  rw [ac] at a0 a1 a2 a3
  clear ac hb aC ap az
  go_wp2_with fail
  rw [<-bc.out,<-al.out]
  rotate_left
  have cW:(ci==0)=false:=by have:=aI.out;simp;omega
  have cZ:¬ ci=0:=by have:=aI.out;omega
  have c6:decide (0<ci)=true:=zB (by have:=aI.out;omega)
  have aX:=hid cg
  clear cg
  go_enter Tryz.func17,Tryz.ntmps17
  go_wp2_with fail
  rw [<-bp.out,<-HX.out]
  refine (bn.out w1 ao.out).mono ?_
  rintro e w2 ⟨rfl,af⟩
  obtain ⟨a0,a1,a2,a3⟩:=(aV.out.same af).cells
  have ab:=hid af
  clear af
  clear a0 a1 a2 a3
  obtain ⟨w4,ac⟩:=zX (w2.alloc (.cells #[.slice none 0 0,.int .i64 0] 89))
  obtain ⟨b,hb⟩:=zX (w2.heap.size)
  have aC:a2n w4 b [b] []:=by rw [ac,hb];exact a2n.new w2
  have ap:Chg [] w2 w4:=by rw [ac];exact (zR [] w2).alloc _
  have az:X∉[b]:=by
    simp only [zU]
    have:=bv.out
    have:=ab.out.size
    omega
  have HB:Hid (w.heap.size<=b):=hid (by rw [hb];exact (ao.out.tq ab.out).size)
  have ay:Hid (Chg [] w w4):=hid ((ao.out.tq ab.out).tq ap)
  have au:Hid (∀ Fz wz,a0u [b] Fz w4 wz->Box wz X (.int .i64 p.W) (.int .i64 p.H) (.int .i64 p.d) (.slice (some ⟨g,o,none⟩) n cap)):=hid (fun Fz wz hz=>((aV.out.same ab.out).same ap).chg hz.chg az)
  have aG:Hid (∀ Fz wz,a0u [b] Fz w4 wz->Chg [] w wz):=hid (fun Fz wz hz=>ay.out.trans hz.chg (fun x hx => .inr (by simp at hx;have:=HB.out;omega)))
  have bi:Hid (∀ Fz wz,a0u [b] Fz w4 wz->∀ x∈Fz,w.heap.size<=x):=hid (fun Fz wz hz x hx=>by
    rcases hz.new x hx with h | h
    · simp at h;have:=HB.out;omega
    · have:=ay.out.size;omega)
  obtain ⟨a0,a1,a2,a3⟩:=(au.out [b] w4 (a0u.refl _ _)).cells
  have bm:=a0t w4 b [b] [] W1 6 aC (by decide) (by omega) (by simp)
  have bc:=hid ac
  have al:=hid hb
  rw [ac] at a0 a1 a2 a3
  clear ac hb aC ap az
  go_wp2_with fail
  rw [<-bc.out,<-al.out]
  rotate_left
  have av:Hid (c7b kind p=true):=hid (cu.out ba)
  have aX:Hid (colours=0):=hid (by have:=aI.out;omega)
  clear ba
  go_enter Tryz.func17,Tryz.ntmps17
  go_wp2_with fail
  rw [<-bp.out,<-HX.out]
  refine (bn.out w1 ao.out).mono ?_
  rintro e w2 ⟨rfl,af⟩
  obtain ⟨a0,a1,a2,a3⟩:=(aV.out.same af).cells
  have ab:=hid af
  clear af
  clear a0 a1 a2 a3
  obtain ⟨w4,ac⟩:=zX (w2.alloc (.cells #[.slice none 0 0,.int .i64 0] 89))
  obtain ⟨b,hb⟩:=zX (w2.heap.size)
  have aC:a2n w4 b [b] []:=by rw [ac,hb];exact a2n.new w2
  have ap:Chg [] w2 w4:=by rw [ac];exact (zR [] w2).alloc _
  have az:X∉[b]:=by
    simp only [zU]
    have:=bv.out
    have:=ab.out.size
    omega
  have HB:Hid (w.heap.size<=b):=hid (by rw [hb];exact (ao.out.tq ab.out).size)
  have ay:Hid (Chg [] w w4):=hid ((ao.out.tq ab.out).tq ap)
  have au:Hid (∀ Fz wz,a0u [b] Fz w4 wz->Box wz X (.int .i64 p.W) (.int .i64 p.H) (.int .i64 p.d) (.slice (some ⟨g,o,none⟩) n cap)):=hid (fun Fz wz hz=>((aV.out.same ab.out).same ap).chg hz.chg az)
  have aG:Hid (∀ Fz wz,a0u [b] Fz w4 wz->Chg [] w wz):=hid (fun Fz wz hz=>ay.out.trans hz.chg (fun x hx => .inr (by simp at hx;have:=HB.out;omega)))
  have bi:Hid (∀ Fz wz,a0u [b] Fz w4 wz->∀ x∈Fz,w.heap.size<=x):=hid (fun Fz wz hz x hx=>by
    rcases hz.new x hx with h | h
    · simp at h;have:=HB.out;omega
    · have:=ay.out.size;omega)
  obtain ⟨a0,a1,a2,a3⟩:=(au.out [b] w4 (a0u.refl _ _)).cells
  have bm:=a0t w4 b [b] [] W1 6 aC (by decide) (by omega) (by simp)
  have bc:=hid ac
  have al:=hid hb
  rw [ac] at a0 a1 a2 a3
  clear ac hb aC ap az
  go_wp2_with fail
  rw [<-bc.out,<-al.out]
  all_goals
    refine bm.mono ?_
    rintro e w5 ⟨rfl,F5,cc,bD⟩
    obtain ⟨a0,a1,a2,a3⟩:=(au.out F5 w5 bD).cells
    have ck:=a0t w5 b F5 _ H1 6 cc (by decide) (by omega) (by simp [a0a])
    clear bm
    go_wp2_with fail
    refine ck.mono ?_
    rintro e w6 ⟨rfl,F6,bV,cf⟩
    have aU:=bD.trans cf
    obtain ⟨a0,a1,a2,a3⟩:=(au.out F6 w6 aU).cells
    have b9:=a0t w6 b F6 _ D1 4 bV (by decide) (by omega) (by simp [a0a])
    clear ck
    go_wp2_with fail
    refine b9.mono ?_
    rintro e w7 ⟨rfl,F7,ce,bS⟩
    have aL:=aU.trans bS
    obtain ⟨a0,a1,a2,a3⟩:=(au.out F7 w7 aL).cells
    have b5:=a0t w7 b F7 _ N1 2 ce (by decide) (by omega) (by simp [a0a])
    clear b9
    go_wp2_with fail
    refine b5.mono ?_
    rintro e w8 ⟨rfl,F8,cj,b7⟩
    have aM:=aL.trans b7
    have a8:a2n w8 b F8 HL:=by
      rw [bx.out]
      simpa only [zH,List.nil_append] using cj
    have bG:=hid a8
    have ar:=hid aM
    obtain ⟨a0,a1,a2,a3⟩:=(au.out F8 w8 aM).cells
    clear b5 cc bD bV cf aU ce bS aL cj b7 aM a8
  iterate 2
    (have aD:=cJ.out w8 b F8 HL (aG.out _ _ ar.out) (cL.out av.out) bG.out (bi.out _ _ ar.out) (by rw [b4.out];decide)
     go_wp2_with fail
     refine aD.mono ?_
     rintro e w9 aa
     clear a0 a1 a2 a3 aD
     cases hm:b1t way (b4d kind p) p
     · rw [if_neg (by rw [hm];simp)] at aa
       obtain ⟨rfl,F9,ah⟩:=aa
       have aB:=hid (ar.out.trans ah)
       have HM:=hid hm
       clear ah hm
       go_wp2_with fail
       refine bodyPost_ret (v:=.tuple #[.slice none 0 0,.int .i64 6]) (by simp [results,Tryz.results17,go_sem]) rfl ?_
       refine an.out _ _ (.bad 6) ?_ ⟨rfl,aG.out _ _ aB.out⟩
       unfold stR
       rw [if_pos aX.out,if_pos av.out,if_neg (by rw [HM.out];simp)]
     rw [if_pos hm] at aa
     obtain ⟨rfl,F9,aS,ah⟩:=aa
     have aB:=hid (ar.out.trans ah)
     obtain ⟨T,hT⟩:=zX (a4h way (b4d kind p) p)
     have ag:=cr.out hm
     rw [<-hT] at ag
     rw [<-bF.out,<-hT] at aS
     have bN:=hid aS
     have aw:Hid (19<=T.length/\T.length<=4096000000):=hid ⟨by omega,ag.2⟩
     have a4:Hid (stR way kind colours p=.ok T):=hid (by
       unfold stR
       rw [if_pos aX.out,if_pos av.out,if_pos hm,hT])
     clear ag hT aS ah hm
     rotate_left)
  have aE:=cF.out w8 b F8 HL (aG.out _ _ ar.out) aX.out bG.out (bi.out _ _ ar.out) (by rw [b4.out];decide)
  go_wp2_with fail
  refine aE.mono ?_
  rintro e w9 aa
  clear a0 a1 a2 a3 aE
  have aW:¬ colours=0:=by have:=aX.out;omega
  rcases zZ colours (a2y p).length with aF | aF
  · rw [if_neg (by omega)] at aa
    obtain ⟨rfl,F9,ah⟩:=aa
    have aB:=hid (ar.out.trans ah)
    have HM:=hid aF
    have bH:=hid aW
    clear ah aF aW
    go_wp2_with fail
    refine bodyPost_ret (v:=.tuple #[.slice none 0 0,.int .i64 7]) (by simp [results,Tryz.results17,go_sem]) rfl ?_
    refine an.out _ _ (.bad 7) ?_ ⟨rfl,aG.out _ _ aB.out⟩
    unfold stR
    rw [if_neg bH.out,if_neg (by have:=HM.out;omega)]
  rw [if_pos aF] at aa
  cases hm:b5l way p
  · rw [if_neg (by rw [hm];simp)] at aa
    obtain ⟨rfl,F9,ah⟩:=aa
    have aB:=hid (ar.out.trans ah)
    have HM:=hid hm
    have cK:=hid aF
    have bH:=hid aW
    clear ah hm aF aW
    go_wp2_with fail
    refine bodyPost_ret (v:=.tuple #[.slice none 0 0,.int .i64 6]) (by simp [results,Tryz.results17,go_sem]) rfl ?_
    refine an.out _ _ (.bad 6) ?_ ⟨rfl,aG.out _ _ aB.out⟩
    unfold stR
    rw [if_neg bH.out,if_pos cK.out,if_neg (by rw [HM.out];simp)]
  rw [if_pos hm] at aa
  obtain ⟨rfl,F9,aS,ah⟩:=aa
  have aB:=hid (ar.out.trans ah)
  obtain ⟨T,hT⟩:=zX (a2t way p)
  have ag:=cA.out (by have:=a6.out;omega) hm
  rw [<-hT] at ag
  rw [<-bQ.out,<-hT] at aS
  have bN:=hid aS
  have aw:Hid (19<=T.length/\T.length<=4096000000):=hid ag
  have a4:Hid (stR way kind colours p=.ok T):=hid (by
    unfold stR
    rw [if_neg aW,if_pos aF,if_pos hm,hT])
  clear ag hT aS ah hm aF aW
  all_goals
    have b6:=e6g w9 b F9 T bN.out (by have:=aw.out;omega)
    have bI:=hid bN.out.bit
    clear bG
    go_wp2_with fail
    refine b6.mono ?_
    rintro e co ⟨rfl,cH,aO,bf⟩
    have aq:=aB.out.trans bf
    have bw:=c3c co b cH (d7a T) aO (by rw [b9m];have:=aw.out;omega)
    have bg:=aO.bit
    obtain ⟨ae,ad⟩:=zX (a1n (d7a T))
    have bL:ae.length<=1000000000:=by rw [ad,a4p,b9m];have:=aw.out;omega
    have aN:∀ d∈ae,d<256:=by rw [ad];exact b2z bg
    have b2:Hid (a1e T=ae++d8f (c3g ae)):=hid (by rw [ad];rfl)
    rw [<-ad] at bw
    have bd:=hid (aG.out _ _ aq)
    have cx:=hid (bi.out _ _ aq)
    clear b6 aO bf aq bg ad
    go_wp2_with fail
    refine bw.mono ?_
    rintro e cE ⟨cO,ca,rfl,ai,bj,a7⟩
    obtain ⟨cl,cv,rfl,cB,cw,aY⟩:=ai.oq
    have bo:=b2g cE cl cv ae aY aN (by omega)
    have bz:=c6p aN
    have bB:=fun w'=>f1f (c3g ae) bz w'
    obtain ⟨S,hS⟩:=zX (c3g ae)
    rw [<-hS] at bo bB bz b2
    obtain ⟨nb,bu⟩:=zX (ae.length)
    rw [<-bu] at bo ai bL ⊢
    have cU:IntKind.u64.wrap (S:Int)=(S:Int):=IntWalk.u64_in _ (by omega)
    have cd:=hid bu
    have bW:=hid bL
    have bO:=hid ai
    have aQ:=hid (fun x hx=>Nat.le_trans bd.out.size (a7 x hx):∀ x∈ca,w.heap.size<=x)
    have bK:=hid (bd.out.tq bj)
    clear bw ai bj a7 cB cw aY aN bz hS bu bL
    go_wp2_with fail
    refine bo.mono ?_
    rintro e cQ ⟨rfl,rfl⟩
    clear bo
    go_wp2_with fail
    refine (bB _).mono ?_
    rintro e cY ⟨cV,cP,rfl,am,aK,bM⟩
    have aP:=bO.out.same aK
    have br:=hid am
    have bb:=hid (bK.out.tq aK)
    have c7:Hid (∀ x∈ca,w.heap.size<=x):=aQ
    have bA:(d8f S).length=4:=rfl
    clear am aK bM bB
    go_wp2_with (at_builtin;refine a1m rfl rfl b2h rfl rfl aP ((d8f S).map b8) 4 rfl ?c1 ?c2 ?c3 ?c4 ?c5 ?_)
    case c1=>rfl
    case c2=>exact Row.cellsB br.out
    case c3=>exact c4s _
    case c4=>rw [zE,zE,bA];have := bW.out;have := cd.out;omega
    case c5=>rw [zE,zE,bA];have := bW.out;have := cd.out;omega
    intro v8 ct c8 cz b0
    clear bA
    go_wp2
    refine bodyPost_ret (v:=.tuple #[v8,.int .i64 0]) (by simp [results,Tryz.results17,go_sem]) rfl ?_
    refine an.out _ _ (.ok T) a4.out ⟨v8,ct,rfl,by rw [b2.out,zM];exact cz,?_,fun x hx => ?_,bI.out⟩
    · exact bb.out.trans b0.chg (fun x hx => .inr (aQ.out x hx))
    · rcases b0.new x hx with h | h
      · exact aQ.out x h
      · have:=bb.out.size;omega
def e0x (p:a2a):List Nat:=a4h none (a7t p 4) p
def a5p (p:a2a):List Nat:=if (a2y p).length<=256/\(a1e (a2t none p)).length<(a1e (e0x p)).length then a2t none p else e0x p
theorem f2s (p:a2a):stR none none 0 p=.ok (e0x p):=by
 unfold stR e0x
 have h1:c7b none p=true:=rfl
 have h2:b1t none (b4d none p) p=true:=a9b _ _
 rw [if_pos rfl,if_pos h1,if_pos h2]
 rfl
theorem f2t (p:a2a):stR none none 256 p=if (a2y p).length<=256 then .ok (a2t none p) else .bad 7:=by
 unfold stR
 have h2:b5l none p=true:=a5s _ _ _ _ _
 rw [if_neg (by decide)]
 by_cases h:(a2y p).length<=256
 ·rw [if_pos h,if_pos h,if_pos h2]
 ·rw [if_neg h,if_neg h]
theorem d6f {p:a2a} (h:p.Ok):22<=(e0x p).length/\(e0x p).length<=4096000000:=b4a (way:=none) (fun _ e=>by cases e) h (a9b _ _)
theorem d6h {p:a2a} (h:p.Ok) (hc:(a2y p).length<=256):19<=(a2t none p).length/\(a2t none p).length<=4096000000:=b4b (way:=none) (fun _ e=>by cases e) h hc (a5s _ _ _ _ _)
theorem e0l {w:World} {p:a2a} {g o:Nat} {B:Nat->Option Addr} {c:Nat->Nat} {G:List Nat} (cap:Nat) (h:a4l w p g o B c G) (hp:Pts w) :
  Calls Tryz.prog 27 #[a6y p g o cap] w (b1d w (.ok (a5p p))):=by
 have av:=h.ok
 have hw:b1b none:=fun _ e=>by cases e
 have ab:∀ w',Chg [] w w'->_:=fun w' (hc':Chg [] w w')=>d7p (way:=none) hw (kind:=none) hw (fun _ e=>by cases e) (colours:=0) (by decide) cap (h.same hc') (hp.same hc')
 have ac:∀ w',Chg [] w w'->_:=fun w' (hc':Chg [] w w')=>d7p (way:=none) hw (kind:=none) hw (fun _ e=>by cases e) (colours:=256) (by decide) cap (h.same hc') (hp.same hc')
 rw [f2s] at ab
 rw [f2t] at ac
 have e0:c5y none=-1:=rfl
 rw [e0] at ab ac
 have aj:a5p p=if (a2y p).length<=256/\(a1e (a2t none p)).length<(a1e (e0x p)).length then a2t none p else e0x p:=rfl
 have aD:=(d6f av).2
 have au:=fun hc=>(d6h av hc).2
 have aA:=b4k (e0x p)
 have ap:=b4k (a2t none p)
 rw [b7o] at aA ap
 obtain ⟨a,ha⟩:=zX (e0x p)
 obtain ⟨d,hd⟩:=zX (a2t none p)
 obtain ⟨m,hm⟩:=zX ((a2y p).length)
 rw [<-ha] at ab aj aD aA
 rw [<-hd] at ac aj au ap
 rw [<-hm] at ac aj au
 obtain ⟨la,aq⟩:=zX ((a1e a).length)
 obtain ⟨ld,ay⟩:=zX ((a1e d).length)
 rw [<-aq,<-ay] at aj
 unfold b1d at ab
 unfold a6y at *
 obtain ⟨n,hn⟩:=zX (p.P.length)
 rw [<-hn] at ab ac ⊢
 obtain ⟨w1,an⟩:=zX (w.alloc (.cells #[.int .i64 p.W,.int .i64 p.H,.int .i64 p.d,.slice (some ⟨g,o,none⟩) n cap] 27))
 obtain ⟨X,hX⟩:=zX (w.heap.size)
 have az:Box w1 X (.int .i64 p.W) (.int .i64 p.H) (.int .i64 p.d) (.slice (some ⟨g,o,none⟩) n cap):=⟨by rw [an,hX];exact Blk.new w _ _⟩
 have aB:Chg [] w w1:=by rw [an];exact (zR [] w).alloc _
 have aI:=hid an
 have HX:=hid hX
 have aP:=hid az
 have ar:=hid aB
 have aH:=hid ab
 have aK:=hid ac
 have aw:=hid aj
 have aM:=hid aq
 have aL:=hid ay
 obtain ⟨a0,a1,a2,a3⟩:=az.cells
 clear an hX az aB ab ac aj aq ay av h hp ha hd hm hn aD au aA ap hw e0
 go_enter Tryz.func27,Tryz.ntmps27
 go_wp2_with fail
 rw [<-aI.out,<-HX.out]
 refine (aH.out w1 ar.out).mono ?_
 rintro e w2 ⟨v2,G2,rfl,ad,am,aF,af⟩
 obtain ⟨A2,c2,rfl,-,-,-⟩:=ad.oq
 rw [<-aM.out] at ad ⊢
 obtain ⟨a0,a1,a2,a3⟩:=(aP.out.same am).cells
 have aC:=hid ad
 have ao:=hid (ar.out.tq am)
 have aJ:=hid am
 have aG:Hid (∀ x∈G2,w.heap.size<=x):=hid (fun x hx=>Nat.le_trans ar.out.size (aF x hx))
 have ak:=hid af
 clear ad am aF af
 go_wp2_with fail
 refine (aK.out w2 ao.out).mono ?_
 intro e w3 aa
 by_cases hm:m<=256
 ·rw [if_pos hm] at aa
  unfold b1d at aa
  obtain ⟨v3,G3,rfl,ae,ai,aE,ag⟩:=aa
  obtain ⟨A3,c3,rfl,-,-,-⟩:=ae.oq
  rw [<-aL.out] at ae ⊢
  have aO:=hid ae
  have al:=hid (ao.out.tq ai)
  have ah:=hid ai
  have aN:Hid (∀ x∈G3,w.heap.size<=x):=hid (fun x hx=>Nat.le_trans ao.out.size (aE x hx))
  have ax:=hid ag
  have HM:=hid hm
  clear ae ai aE ag hm a0 a1 a2 a3
  by_cases hl:ld<la
  ·have t1:decide ((ld:Int)<(la:Int))=true:=zB (by omega)
   have t2:decide (ld<la)=true:=zB hl
   have HL:=hid hl
   clear hl
   go_wp2_with fail
   refine bodyPost_ret (v:=.tuple #[.slice A3 ld c3,.int .i64 0]) (by simp [results,Tryz.results27,go_sem]) rfl ?_
   rw [aw.out,if_pos ⟨HM.out,HL.out⟩]
   exact ⟨_,G3,rfl,aO.out,al.out,aN.out,ax.out⟩
  ·have t1:decide ((ld:Int)<(la:Int))=false:=zA (by omega)
   have t2:decide (ld<la)=false:=zA hl
   have HL:=hid hl
   clear hl
   go_wp2_with fail
   refine bodyPost_ret (v:=.tuple #[.slice A2 la c2,.int .i64 0]) (by simp [results,Tryz.results27,go_sem]) rfl ?_
   rw [aw.out,if_neg (fun hh=>HL.out hh.2)]
   exact ⟨_,G2,rfl,aC.out.same ah.out,al.out,aG.out,ak.out⟩
 ·rw [if_neg hm] at aa
  unfold b1d at aa
  obtain ⟨rfl,ai⟩:=aa
  have al:=hid (ao.out.tq ai)
  have ah:=hid ai
  have HM:=hid hm
  clear ai hm a0 a1 a2 a3
  go_wp2_with fail
  refine bodyPost_ret (v:=.tuple #[.slice A2 la c2,.int .i64 0]) (by simp [results,Tryz.results27,go_sem]) rfl ?_
  rw [aw.out,if_neg (fun hh=>HM.out hh.1)]
  exact ⟨_,G2,rfl,aC.out.same ah.out,al.out,aG.out,ak.out⟩
def pS:a2a:=⟨1,1,8,[[200]]⟩
theorem f4a:pS.Ok where
 w0:=by decide
 w1:=by decide
 h0:=by decide
 h1:=by decide
 d0:=by decide
 d1:=by decide
 n0:=by decide
 n1:=by decide
 len:=fun x hx=>by simp [pS] at hx;subst hx;rfl
 smp:=fun x hx=>by simp [pS] at hx;subst hx;exact fun v hv=>by simp at hv;subst hv;decide
theorem f0w:b1t (some 1) 0 pS=true:=by kernel_rfl
theorem e4k:b0b (a4h (some 1) 0 pS)=[0,7,0,228,0]:=by kernel_rfl
def tS:List Nat:=a4h (some 1) 0 pS
theorem f5b:stR (some 1) (some 0) 0 pS=.ok tS:=by
 have h1:c7b (some 0) pS=true:=by kernel_rfl
 have h2:b1t (some 1) (b4d (some 0) pS) pS=true:=f0w
 unfold stR
 rw [if_pos rfl,if_pos h1,if_pos h2]
 rfl
theorem f4x:stR none (some 1) 0 pS=.bad 1:=by
 have h1:c7b (some 1) pS=false:=by kernel_rfl
 unfold stR
 rw [if_pos rfl,if_neg (by rw [h1];simp)]
theorem f1r {w:World} {s t:Nat} (h1:Blk w s 3 #[.int .i64 200]) (h2:Blk w t 22 #[.slice (some ⟨s,0,none⟩) 1 1]) :
  a4l w pS t 0 (fun _=>some ⟨s,0,none⟩) (fun _=>1) [s,t] where
 ok:=f4a
 gG:=by simp
 lt:=fun x hx=>by simp at hx;rcases hx with rfl | rfl;exact h1.lt;exact h2.lt
 cell:=fun i hi=>by
  simp [pS] at hi
  subst hi
  exact h2.cell 0
 cells:=fun i hi=>by
  simp [pS] at hi
  subst hi
  refine ⟨fun _=>⟨s,0,rfl,h1.lt,fun k a hk => ?_⟩⟩
  rw [Nat.zero_add,h1.cell k]
  simp [pS] at hk
  match k,hk with
  | 0,hk=>simp at hk;subst hk;rfl
 blk:=fun i hi ad e=>by injection e with e;subst e;simp
 cap:=fun i hi=>by simp [pS]
theorem c3k (ds es:List Nat):a5m (ds++es)=a5m ds++(List.range (8*es.length)).map fun i=>a8h (ds++es) (8*ds.length+i):=by
 unfold a5m
 rw [zC,Nat.mul_add,List.range_add,zM,List.map_map]
 congr 1
 apply List.map_congr_left
 intro i hi
 have h:=List.mem_range.1 hi
 unfold a8h
 rw [zD,zD,List.getElem?_append_left (by omega)]
theorem a0y.more {ds bs:List Nat} (es:List Nat) (h:a0y ds 0 bs):a0y (ds++es) 0 bs:=by
 obtain ⟨r,hr⟩:=h
 rw [List.drop_zero] at hr
 exact ⟨r++(List.range (8*es.length)).map fun i=>a8h (ds++es) (8*ds.length+i),by rw [List.drop_zero,c3k,hr,zH]⟩
theorem e9x {w:World} {A:Option Addr} {cap:Nat} {ds:List Nat} (hc:a0d b8 w A ds) (hd:∀ d∈ds,d<256) (h3:3<=ds.length) (hl:ds.length<=1000000004) (hcap:ds.length<=cap) (hcm:cap<=9223372036854775807)
  {W H d n:Nat} (w0:1<=W) (w1:W<=64) (h0:1<=H) (h1:H<=64) (d0:1<=d) (d1:d<=16) (n0:1<=n) (n1:n<=4) (ha:a0y ds 0 (b3z W H d n)) :
  Calls Tryz.prog 61 #[.slice A ds.length cap] w fun e w'=>e=.returned (.tuple #[.int .i64 W,.int .i64 H,.int .i64 d,.int .i64 n,.int .i64 0])/\Chg [] w w':=by
 have ab:=e5h w A cap ds hc hd (by omega) hcap hcm
 have aa:=fun w' b F (h:a1r w' b F ds 0)=>d6c h w0 w1 h0 h1 d0 d1 n0 n1 ha
 obtain ⟨N,hN⟩:=zX (ds.length)
 rw [<-hN] at ab h3 hl ⊢
 have t1:decide ((N:Int)*8<18)=false:=zA (by omega)
 have ah:=hid aa
 have af:=hid ab
 clear ab aa hN ha hd hc
 go_enter Tryz.func61,Tryz.ntmps61
 go_wp2_with fail
 refine af.out.mono ?_
 rintro e w2 ⟨b,F,rfl,ac,ad,hF⟩
 have aa:=ah.out w2 b F ac
 have ae:=ac.mem
 go_wp2_with fail
 refine aa.mono ?_
 rintro e w3 ⟨rfl,ag,ai⟩
 go_wp2_with fail
 refine bodyPost_ret (v:=.tuple #[.int .i64 W,.int .i64 H,.int .i64 d,.int .i64 n,.int .i64 0]) (by simp [results,Tryz.results61,go_sem]) rfl ?_
 exact ⟨rfl,ad.trans ai (fun x hx => .inr (by simp at hx;subst hx;exact hF _ ae))⟩
def e6p (a c:Nat):Value:=.agg #[.int .i64 1,.int .i64 1,.int .i64 8,.slice (some ⟨a,0,none⟩) 1 c]
theorem c1m (a c:Nat):a6y pS a 0 c=e6p a c:=by simp [a6y,pS,e6p]
section
variable {w:World} {a:Nat} {B:Nat->Option Addr} {c:Nat->Nat} {G:List Nat}
theorem f4y (hA:a4l w pS a 0 B c G) (hp:Pts w):Calls Tryz.prog 17 #[e6p a 1,.int .i64 0,.int .i64 0,.int .i64 1] w (b1d w (.ok tS)):=by
 have h:=d7p (way:=some 1) (fun k e=>by injection e with e;omega) (kind:=some 0) (fun k e=>by injection e with e;omega) (fun k e=>by injection e with e;omega) (colours:=0) (by decide) 1 hA hp
 rw [c1m,f5b] at h
 exact h
theorem f4f (hA:a4l w pS a 0 B c G) (hp:Pts w):Calls Tryz.prog 17 #[e6p a 1,.int .i64 1,.int .i64 0,.int .i64 (-1)] w (b1d w (.bad 1)):=by
 have h:=d7p (way:=none) (fun k e=>by cases e) (kind:=some 1) (fun k e=>by injection e with e;omega) (fun k e=>by injection e with e;omega) (colours:=0) (by decide) 1 hA hp
 rw [c1m,f4x] at h
 exact h
theorem b8p:(a1e tS).length=9:=by rw [b4k,show b0b tS=[0,7,0,228,0] from e4k];rfl
theorem f4g (hbit:∀ b∈tS,b<2) (hp:Pts w) {A:Option Addr} {cap:Nat} (hc:a0d b8 w A (a1e tS)) (hcap:9<=cap) (hcm:cap<=9223372036854775807) :
  Calls Tryz.prog 25 #[.slice A 9 cap] w fun e w'=>∃ gP capP xs gs,e=.returned (.tuple #[e6p gP capP,.int .i64 0])/\a1x w' pS gP capP xs gs/\Chg [] w w':=by
 have h:=c2q (way:=some 1) (fun k e=>by injection e with e;omega) (k:=0) f4a (by decide) (by kernel_rfl) f0w hbit hp (A:=A) (cap:=cap) hc (by rw [show (a1e (a4h (some 1) 0 pS)).length=9 from b8p];exact hcap) hcm
 rw [show (a1e (a4h (some 1) 0 pS)).length=9 from b8p] at h
 refine Calls.mono h ?_
 rintro e w' ⟨gP,capP,xs,gs,rfl,ho,ch,_⟩
 exact ⟨gP,capP,xs,gs,by rw [c1m],ho,ch⟩
theorem f2p (hbit:∀ b∈tS,b<2) {A:Option Addr} {cap:Nat} (hc:a0d b8 w A (a1e tS)) (hcap:9<=cap) (hcm:cap<=9223372036854775807) :
  Calls Tryz.prog 61 #[.slice A 9 cap] w fun e w'=>e=.returned (.tuple #[.int .i64 1,.int .i64 1,.int .i64 8,.int .i64 1,.int .i64 0])/\Chg [] w w':=by
 have hd:∀ d∈a1e tS,d<256:=fun d hd=>by
  unfold a1e at hd
  rcases zP.1 hd with h1 | h1
  ·exact b2z (b5o hbit) d h1
  ·exact d2u _ d h1
 have ha:a0y (a1e tS) 0 (b3z 1 1 8 1):=by
  have h1:=c4u hbit
  have e:tS=b3z 1 1 8 1++(a0b 0 1++(a0b 0 3++a1d (some 1) (a3p 0 pS) 1)):=rfl
  have h2:a0y (b0b tS) 0 (b3z 1 1 8 1):=by
   rw [e] at h1 ⊢
   exact h1.left
  exact h2.more _
 have h:=e9x hc hd (by rw [b8p];decide) (by rw [b8p];decide) (by rw [b8p];exact hcap) hcm (by decide) (by decide) (by decide) (by decide) (by decide) (by decide) (by decide) (by decide) ha
 rw [b8p] at h
 exact h
theorem f2q {g' capP:Nat} {xs:List Value} {gs:List Nat} (hA:a4l w pS a 0 B c G) (ho:a1x w pS g' capP xs gs):Calls Tryz.prog 26 #[e6p a 1,e6p g' capP] w fun e w'=>e=.returned (.bool true)/\Chg [] w w':=by
 have h:=e0c 1 hA capP ho.at_ rfl rfl rfl rfl
 rw [c1m,c1m] at h
 exact h
end
theorem e5q (w:World) (hp:Pts w):Calls Tryz.prog 21 #[] w fun e w'=>e=.returned (.bool true)/\Chg [] w w':=by
 obtain ⟨u1,al⟩:=zX (w.alloc (.cells #[.int .i64 200] 3))
 obtain ⟨u2,am⟩:=zX (u1.alloc (.cells #[.slice (some ⟨w.heap.size,0,none⟩) 1 1] 22))
 obtain ⟨u3,ar⟩:=zX (u2.alloc (.cells #[.int .i64 1,.int .i64 1,.int .i64 8,.slice (some ⟨w.heap.size+1,0,none⟩) 1 1] 27))
 have z1:u1.heap.size=w.heap.size+1:=by rw [al,a3f]
 have z2:u2.heap.size=w.heap.size+1+1:=by rw [am,a3f,z1]
 have c1:Chg [] w u1:=by rw [al];exact (zR [] w).alloc _
 have c2:Chg [] u1 u2:=by rw [am];exact (zR [] u1).alloc _
 have c3:Chg [] u2 u3:=by rw [ar];exact (zR [] u2).alloc _
 have b1:Blk u3 (w.heap.size) 3 #[.int .i64 200]:=(((show Blk u1 (w.heap.size) 3 #[.int .i64 200] from by rw [al];exact Blk.new _ _ _).chg c2 (by simp)).chg c3 (by simp))
 have b2:Blk u3 (w.heap.size+1) 22 #[.slice (some ⟨w.heap.size,0,none⟩) 1 1]:=((show Blk u2 (w.heap.size+1) 22 #[.slice (some ⟨w.heap.size,0,none⟩) 1 1] from by rw [am,<-z1];exact Blk.new _ _ _).chg c3 (by simp))
 have b3:Box u3 (w.heap.size+1+1) (.int .i64 1) (.int .i64 1) (.int .i64 8) (.slice (some ⟨w.heap.size+1,0,none⟩) 1 1):=⟨by rw [ar,<-z2];exact Blk.new _ _ _⟩
 have hC:Chg [] w u3:=(c1.tq c2).tq c3
 have hA:a4l u3 pS (w.heap.size+1) 0 (fun _=>some ⟨w.heap.size,0,none⟩) (fun _=>1) [w.heap.size,w.heap.size+1]:=f1r b1 b2
 have aD:=fun wz (hz:Chg [] u3 wz)=>f4y (hA.same hz) ((hp.same hC).same hz)
 have ac:=fun wz (hz:Chg [] u3 wz)=>f4f (hA.same hz) ((hp.same hC).same hz)
 have af:=fun wz (hz:Chg [] u3 wz) gP ab xs gs (ho:a1x wz pS gP ab xs gs)=>f2q (hA.same hz) ho
 unfold b1d e6p at aD ac
 unfold e6p at af
 have aO:Hid (u3=(((w.alloc (.cells #[.int .i64 200] 3)).alloc (.cells #[.slice (some ⟨w.heap.size,0,none⟩) 1 1] 22)).alloc (.cells #[.int .i64 1,.int .i64 1,.int .i64 8,.slice (some ⟨w.heap.size+1,0,none⟩) 1 1] 27))):=hid (by rw [ar,am,al])
 have HC:=hid hC
 have aC:=hid b3
 have aN:=hid aD
 have ax:=hid ac
 have aS:=hid af
 have HP:=hid (hp.same hC)
 clear al am ar z1 z2 c1 c2 c3 b1 b2 b3 hC hA aD ac af hp
 go_enter Tryz.func21,Tryz.ntmps21
 go_wp2_with fail
 rw [<-aO.out]
 refine (aN.out u3 (zR _ _)).mono ?_
 rintro e w4 ⟨v4,G4,rfl,ag,au,aP,ae⟩
 obtain ⟨g4,c4,rfl,aj,-⟩:=e4j (N:=9) ag (by rw [zE];exact b8p) (by decide)
 obtain ⟨cc,aG,aq,aL,av⟩:=aj.cells_b8
 have aA:c4=cc:=by injection aG
 clear aG
 subst aA
 rw [b8p] at aq
 have ah:=hid (f4g ae (HP.out.same au) av aq aL)
 have an:=hid (fun wz (hz:Chg [] w4 wz)=>f2p ae (av.same hz) aq aL)
 unfold e6p at ah
 have ai:=hid au
 have aB:=hid av
 obtain ⟨a0,a1,a2,a3⟩:=(aC.out.same au).cells
 clear ag au aP ae aj av
 go_wp2_with fail
 refine ah.out.mono ?_
 rintro e w5 ⟨gP,ab,xs,gs,rfl,aE,aI⟩
 obtain ⟨w6,ap⟩:=zX (w5.alloc (.cells #[.int .i64 1,.int .i64 1,.int .i64 8,.slice (some ⟨gP,0,none⟩) 1 ab] 27))
 obtain ⟨X,hX⟩:=zX (w5.heap.size)
 have ay:Chg [] w5 w6:=by rw [ap];exact (zR [] w5).alloc _
 have aF:Box w6 X (.int .i64 1) (.int .i64 1) (.int .i64 8) (.slice (some ⟨gP,0,none⟩) 1 ab):=⟨by rw [ap,hX];exact Blk.new w5 _ _⟩
 have aR:=hid (aE.same ay)
 have ak:=hid (aI.tq ay)
 have aU:=hid aF
 have aQ:=hid ap
 have HX:=hid hX
 clear aE aI ay aF ap hX a0 a1 a2 a3
 go_wp2_with fail
 rw [<-aQ.out,<-HX.out]
 refine (an.out w6 ak.out).mono ?_
 rintro e w7 ⟨rfl,az⟩
 have ad:=hid (ak.out.tq az)
 have aJ:=hid az
 obtain ⟨a0,a1,a2,a3⟩:=((aC.out.same ai.out).same ad.out).cells
 clear az
 go_wp2_with fail
 refine (ax.out w7 (ai.out.tq ad.out)).mono ?_
 rintro e w8 ⟨rfl,aw⟩
 have ao:=ad.out.tq aw
 obtain ⟨a0,a1,a2,a3⟩:=((aC.out.same ai.out).same ao).cells
 obtain ⟨x0,x1,x2,x3⟩:=((aU.out.same aJ.out).same aw).cells
 have af:=aS.out w8 (ai.out.tq ao) gP ab xs gs ((aR.out.same aJ.out).same aw)
 have aV:=fun w'=>c8l (P:=Tryz.prog) Tryz.underlying39 (some ⟨g4,0,none⟩) 9 c4 5 (by decide) aq w' (c2r w')
 have aX:(Go.convert 39 9 (.slice (some ⟨g4,0,none⟩) 5 c4)).run Tryz.prog w8=.ok (.string ⟨#[0,7,0,228,0]⟩) w8:=by
  have aK:=aB.out.same ao
  have e9:a1e tS=[0,7,0,228,0]++d8f (c3g [0,7,0,228,0]):=by
   unfold a1e
   rw [show b0b tS=[0,7,0,228,0] from e4k]
  rw [e9] at aK
  obtain ⟨g,o,eg,aW,aa⟩:=aK.ex (by simp)
  injection eg with eg
  injection eg with eg eo
  subst eg
  subst eo
  exact run_convert_bytes_arg w8 39 5 Tryz.underlying39 Tryz.underlying5 _ _ 5 c4 [0,7,0,228,0] rfl (fun i hi=>by
   match i,hi with
   | 0,_=>exact aa 0 0 rfl
   | 1,_=>exact aa 1 7 rfl
   | 2,_=>exact aa 2 0 rfl
   | 3,_=>exact aa 3 228 rfl
   | 4,_=>exact aa 4 0 rfl) 9 Tryz.underlying9
 have aT:=hid (ai.out.tq ao)
 clear aw ao
 go_wp2_with fail
 refine af.mono ?_
 rintro e w9 ⟨rfl,aH⟩
 have aM:=hid aH
 clear af aH
 go_wp2_with fail
 go_ret
 exact ⟨rfl,HC.out.tq (aT.out.tq aM.out)⟩
end Go.Proofs.YtepjepkgcdfboaaGreatDoor
