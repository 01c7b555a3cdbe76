/- package palette by its contracts: Put. -/
import Derived.Test.YtepjepkgcdfboaaGreatDoorMg44
import Derived.Test.YtepjepkgcdfboaaGreatDoorMg46
import Derived.Test.YtepjepkgcdfboaaGreatDoorMg48
import Derived.Test.YtepjepkgcdfboaaGreatDoorMg49
set_option linter.unusedVariables false
set_option linter.unusedSimpArgs false
set_option maxHeartbeats 4000000
set_option maxRecDepth 100000
namespace Go.Proofs.YtepjepkgcdfboaaGreatDoor
open Go.RowKit
open Go.RowKit Go.Maps
theorem allOf_take {c:List Int} {d i:Nat} (hi:i<c.length):allOf (c.take (i+1)) d=allOf (c.take i) d++bitsOf (c.getD i 0).toNat d:=by
 have e:c.getD i 0=c[i]:=by rw [zD,zF hi];rfl
 rw [List.take_succ_eq_append_getElem hi,e]
 unfold allOf
 rw [List.flatMap_append]
 simp
def PalPutPost (w:World) (b:Nat) (F bs ts:List Nat) (e:Ending) (w':World):Prop:=e=.returned (.int .i64 0)/\∃ F',IsWr w' b F' (bs++ts)/\Grow F F' w w'
theorem palPut_ok {w:World} {n d:Nat} {C:List (List Int)} {g o:Nat} {B:Nat->Option Addr} {c:Nat->Nat} {G:List Nat} (cap:Nat) (h:PalAt w n d C g o B c G) (b:Nat) (F bs:List Nat) (hw:IsWr w b F bs) (hG:∀ x∈G,x∉F) (hbs:bs.length<17179869184) :
  Calls Tryz.prog 23 #[.pointer (some ⟨b,0,none⟩),palV n d C.length g o cap] w (PalPutPost w b F bs (palBitsL n d C)):=by
 have ab:=h.ok
 have ah:∀ w',Chg [] w w'->_:=fun w' (hc':Chg [] w w')=>pmay_ok cap (h.same hc')
 have bl:=ab.n0
 have bc:=ab.n1
 have bk:=ab.d0
 have aC:=ab.d1
 have af:=fun k (hk:k<=C.length)=>colBits_len (d:=d) ab.len k hk
 have aj:∀ k i,k<C.length->i<n->∃ v:Nat,(C.getD k []).getD i 0=(v:Int)/\v<2^d:=fun k i hk hi=>by
  obtain ⟨s0,s1⟩:=getD_smp (ab.smp _ (getD_mem_or hk)) i
  refine ⟨((C.getD k []).getD i 0).toNat,(Int.toNat_of_nonneg s0).symm,?_⟩
  have e2:((2^d:Nat):Int)=(2:Int)^d:=by simp
  omega
 have ar:∀ k,k<C.length->∃ b q,∀ wz,Chg F w wz->wz.cell? ⟨g,o+k,none⟩=some (.slice (some ⟨b,q,none⟩) n (c k))/\∀ i,i<n->wz.cell? ⟨b,q+i,none⟩=some (.int .i64 ((C.getD k []).getD i 0)):=fun k hk=>by
  obtain ⟨b',q,e,hb,aw⟩:=h.at_ hk
  refine ⟨b',q,fun wz hz => ?_⟩
  have aU:=(h.chg hz hG).cell k hk
  rw [e] at aU
  exact ⟨aU,fun i hi=>(World.cell?_of_block (w:=w) (hz.block b' (h.lt b' hb) (hG b' hb))).trans (aw i hi)⟩
 have ai:∀ k,k<C.length->(C.getD k []).length=n:=fun k hk=>h.len hk
 obtain ⟨m,hm⟩:=zX (C.length)
 have bm:1<=m:=by rw [hm];exact ab.c0
 have bn:m<=256:=by rw [hm];exact ab.c1
 have ac:palBitsL n d C=bitsOf (d-1) 4++(bitsOf (n-1) 2++(bitsOf (m-1) 8++colBits d C m)):=by rw [hm];rfl
 unfold PalPutPost palV at *
 rw [ac]
 rw [<-hm] at ah af aj ar ai ⊢
 obtain ⟨D1,aZ⟩:∃ D1,d=D1+1:=⟨d-1,by omega⟩
 obtain ⟨N1,aW⟩:∃ N1,n=N1+1:=⟨n-1,by omega⟩
 obtain ⟨M1,a6⟩:∃ M1,m=M1+1:=⟨m-1,by omega⟩
 have e1:(d:Int)-1=(D1:Int):=by omega
 have e2:(n:Int)-1=(N1:Int):=by omega
 have e3:(m:Int)-1=(M1:Int):=by omega
 have u1:IntKind.u64.wrap (D1:Int)=(D1:Int):=IntWalk.u64_in _ (by omega)
 have u2:IntKind.u64.wrap (N1:Int)=(N1:Int):=IntWalk.u64_in _ (by omega)
 have u3:IntKind.u64.wrap (M1:Int)=(M1:Int):=IntWalk.u64_in _ (by omega)
 rw [show d-1=D1 by omega,show n-1=N1 by omega,show m-1=M1 by omega]
 obtain ⟨w1,am⟩:=zX (w.alloc (.cells #[.int .i64 d,.int .i64 n,.slice (some ⟨g,o,none⟩) m cap] 45))
 obtain ⟨X,hX⟩:=zX (w.heap.size)
 have ap:PBox w1 X (.int .i64 d) (.int .i64 n) (.slice (some ⟨g,o,none⟩) m cap):=⟨by rw [am,hX];exact Blk.new w _ _⟩
 have a5:Chg [] w w1:=by rw [am];exact (zR [] w).alloc _
 have aP:X∉F:=fun hm'=>by have:=hw.lt X hm';omega
 have bg:=hid am
 have HX:=hid hX
 have al:=hid ap
 have au:=hid a5
 have aE:=hid ah
 have aB:=hid af
 have aF:=hid aj
 have bh:=hid ar
 have aG:=hid ai
 have HW:=hid hw
 have ao:=hid aP
 have be:D1<16:=by omega
 have bu:N1<4:=by omega
 have a3:M1<256:=by omega
 have br:=hid aZ
 have bp:=hid aW
 have bq:=hid a6
 have a9:=hid hm
 obtain ⟨a0,a1,a2⟩:=ap.cells
 clear am hX ap a5 ah af aj ar ai hw aP ab h hG ac hm aZ aW a6
 go_enter Tryz.func23,Tryz.ntmps23
 go_wp2_with fail
 rw [<-bg.out,<-HX.out]
 refine (aE.out w1 au.out).mono ?_
 rintro e w2 ⟨rfl,ak⟩
 obtain ⟨a0,a1,a2⟩:=(al.out.same ak).cells
 have aJ:=wput_ok w2 b F bs D1 4 ((HW.out.same au.out).same ak) (by decide) (by omega) (by omega)
 have ay:=hid (au.out.trans_same ak)
 have aa:=hid ak
 clear ak
 go_wp2_with fail
 refine aJ.mono ?_
 rintro e w3 ⟨rfl,F3,a4,av⟩
 have aO:=wput_ok w3 b F3 _ N1 2 a4 (by decide) (by omega) (by rw [zC,bitsOf_len];omega)
 obtain ⟨a0,a1,a2⟩:=((al.out.same aa.out).chg av.chg ao.out).cells
 clear aJ
 go_wp2_with fail
 refine aO.mono ?_
 rintro e w4 ⟨rfl,F4,a7,aL⟩
 have aK:=wput_ok w4 b F4 _ M1 8 a7 (by decide) (by omega) (by rw [zC,zC,bitsOf_len,bitsOf_len];omega)
 have ad:=av.trans aL
 obtain ⟨a0,a1,a2⟩:=((al.out.same aa.out).chg ad.chg ao.out).cells
 clear aO
 go_wp2_with fail
 refine aK.mono ?_
 rintro e w5 ⟨rfl,F5,aV,aY⟩
 have ag:=ad.trans aY
 obtain ⟨a0,a1,a2⟩:=((al.out.same aa.out).chg ag.chg ao.out).cells
 have bd:Hid (IsWr w5 b F5 (bs++(bitsOf D1 4++(bitsOf N1 2++(bitsOf M1 8++colBits d C 0))))):=hid (by
  have e0:colBits d C 0=[]:=rfl
  rw [e0]
  simpa only [zH,List.append_nil] using aV)
 have bb:=hid ag
 clear aK a4 a7 aV av aL aY ad ag
 go_wp2_with fail
 go_loopg [6,8,34,38,39,40] m (fun j v6 v8 v34 v38 v39 v40 wr=>∃ (k:Nat) (Fk:List Nat),v34=.int .i64 k/\k+j=m/\Hid (IsWr wr b Fk (bs++(bitsOf D1 4++(bitsOf N1 2++(bitsOf M1 8++colBits d C k)))))/\Hid (Grow F Fk w2 wr))
 case atStart=>exact ⟨0,F5,rfl,by omega,bd,bb⟩
 case round =>
  obtain ⟨k,Fk,rfl,bo,aM,aD⟩:=hrel
  rcases gk with _ | j
  ·obtain rfl:k=m:=by omega
   have t1:decide ((k:Int)<(k:Int))=false:=by simp
   go_wp2_with fail
   go_ret
   exact ⟨rfl,Fk,aM.out,Grow.pre ay.out aD.out⟩
  ·have hk:k<m:=by omega
   have t1:decide ((k:Int)<(m:Int))=true:=zB (by omega)
   obtain ⟨b',q,az⟩:=bh.out k hk
   have f1:=(az wr ((ay.out.mono (by simp)).trans aD.out.chg (fun x hx => .inl hx))).1
   have bj:=hid az
   clear az
   obtain ⟨wo,bf⟩:=zX (wr)
   subst bf
   obtain ⟨cc,ax⟩:=zX (C.getD k [])
   have af:=aG.out k hk
   rw [<-ax] at af
   have a8:=hid ax
   have aH:=hid af
   clear ax af
   go_wp2_with fail
   go_loopg [8,40] n (fun j2 v8 v40 wr=>∃ (i:Nat) (Fi:List Nat),v40=.int .i64 i/\i+j2=n/\Hid (IsWr wr b Fi (bs++(bitsOf D1 4++(bitsOf N1 2++(bitsOf M1 8++(colBits d C k++allOf (cc.take i) d))))))/\Hid (Grow F Fi w2 wr))
   case atStart=>exact ⟨0,Fk,rfl,by omega,hid (by simpa [allOf] using aM.out),aD⟩
   case round =>
    obtain ⟨i,Fi,rfl,bv,aN,an⟩:=hrel
    rcases gk with _ | j2
    ·obtain rfl:i=n:=by omega
     have t2:decide ((i:Int)<(i:Int))=false:=by simp
     go_wp2_with fail
     go_roundg j
     case measure=>omega
     case rel =>
      refine ⟨k+1,Fi,by go_num,by omega,hid ?_,an⟩
      rw [colBits_succ (by rw [<-a9.out];exact hk),<-a8.out]
      have:=aN.out
      rw [zT (by rw [aH.out];exact zQ _)] at this
      exact this
    ·have hi:i<n:=by omega
     have t2:decide ((i:Int)<(n:Int))=true:=zB (by omega)
     have aR:Chg F w wr:=(ay.out.mono (by simp)).trans an.out.chg (fun x hx => .inl hx)
     have f2:=(bj.out wr aR).2 i hi
     obtain ⟨v,hv,aq⟩:=aF.out k i hk hi
     rw [hv] at f2
     have aS:v<65536:=Nat.lt_of_lt_of_le aq (by have:=Nat.pow_le_pow_right (n:=2) (by decide) aC;exact this)
     have u4:IntKind.u64.wrap (v:Int)=(v:Int):=IntWalk.u64_in _ (by omega)
     obtain ⟨a0,a1,a2⟩:=((al.out.same aa.out).chg an.out.chg ao.out).cells
     have aT:=aB.out k (by omega)
     have ae:=wput_ok wr b Fi _ v d aN.out (by omega) aq (by
      simp only [zC,bitsOf_len,allOf_len,aT]
      have h1:d*n<=16*4:=zL aC bc
      have h2:d*n*k<=16*4*256:=zL h1 (by omega)
      have h3:d*(cc.take i).length<=16*4:=zL aC (by rw [zI];have:=aH.out;omega)
      omega)
     have aX:bs++(bitsOf D1 4++(bitsOf N1 2++(bitsOf M1 8++(colBits d C k++allOf (cc.take i) d))))++bitsOf v d=bs++(bitsOf D1 4++(bitsOf N1 2++(bitsOf M1 8++(colBits d C k++allOf (cc.take (i+1)) d)))):=by
      rw [allOf_take (by rw [aH.out];exact hi),a8.out,hv]
      simp only [zH,Int.toNat_natCast]
     rw [aX] at ae
     have aA:=hid ae
     clear ae aX hv aT aR aq
     go_wp2_with fail
     refine aA.out.mono ?_
     rintro e w7 ⟨rfl,F7,aI,aQ⟩
     have bi:=hid aI
     have ba:=hid (an.out.trans aQ)
     clear aI aQ
     go_wp2_with fail
     go_roundg j2
     case measure=>omega
     case rel=>exact ⟨i+1,F7,by go_num,by omega,bi,ba⟩
def IndPost (way:Option Nat) (colours:Nat) (w:World) (b:Nat) (F bs:List Nat) (p:PicD) (e:Ending) (w':World):Prop :=
 if (palP p).length<=colours then
  (if indMay way p=true then e=.returned (.int .i64 0)/\∃ F',IsWr w' b F' (bs++(bitsOf 1 1++(palBitsL p.P.length p.d (palP p)++planeBits way (idxPl p) p.W p.H (pbits (palP p).length))))/\Grow F F' w w'
   else e=.returned (.int .i64 6)/\∃ F',Grow F F' w w')
 else e=.returned (.int .i64 7)/\∃ F',Grow F F' w w'
theorem putInd_ok {way:Option Nat} (hway:WayOk way) {colours:Nat} {w:World} {p:PicD} {g o:Nat} {B:Nat->Option Addr} {c:Nat->Nat} {G:List Nat} (cap:Nat) (h:PicAt w p g o B c G) (c0:1<=colours) (c1:colours<=256)
  (b:Nat) (F bs:List Nat) (hw:IsWr w b F bs) (hG:∀ x∈G,x∉F) (hp:Pts w) (h0F:0∉F) (hbs:bs.length<1000000) :
  Calls Tryz.prog 49 #[.pointer (some ⟨b,0,none⟩),picV p g o cap,.int .i64 colours,.int .i64 (wayI way)] w (IndPost way colours w b F bs p):=by
 have am:=h.ok
 have aF:∀ w',Chg [] w w'->_:=fun w' (hc':Chg [] w w')=>pof_ok cap (h.same hc') colours c0 c1
 have aq:∀ w' (gL:Nat) (aa:Nat) xs gs,Chg [] w w'->PalOwn w' p.P.length p.d (palP p) gL aa xs gs->_:=fun w' gL aa xs gs (hc':Chg [] w w') ab=>pindex_ok cap (h.same hc') aa ab.at_
 unfold OfPost at aF
 obtain ⟨n,hn⟩:=zX (p.P.length)
 obtain ⟨m,hm⟩:=zX ((palP p).length)
 obtain ⟨N,hN⟩:=zX (p.W*p.H)
 have bL:N<=4096:=by rw [hN];exact am.area
 have ap:=palP_ok am
 have al:=fun (h9:(palP p).length<=256)=>palBitsL_len (palP_ok am h9)
 have aw:=fun (h9:(palP p).length<=256)=>idxPl_smp (p:=p) h9
 have bv:1<=m:=by
  rw [hm]
  have:ptC p 0∈palP p:=(palP_mem p _).2 ⟨0,am.pos,rfl⟩
  exact List.length_pos_of_mem this
 have az:=idxPl_len p
 unfold palV picV at *
 rw [<-hm] at aF aq al aw
 rw [<-hN] at aq az
 rw [<-hn] at aF aq al ⊢
 obtain ⟨w1,aP⟩:=zX (w.alloc (.cells #[.int .i64 p.W,.int .i64 p.H,.int .i64 p.d,.slice (some ⟨g,o,none⟩) n cap] 27))
 obtain ⟨X,hX⟩:=zX (w.heap.size)
 have aS:Box w1 X (.int .i64 p.W) (.int .i64 p.H) (.int .i64 p.d) (.slice (some ⟨g,o,none⟩) n cap):=⟨by rw [aP,hX];exact Blk.new w _ _⟩
 have br:Chg [] w w1:=by rw [aP];exact (zR [] w).alloc _
 have bf:X∉F:=fun hm'=>by have:=hw.lt X hm';omega
 obtain ⟨wi,aU⟩:=zX (wayI way)
 have aG:∀ (wz:World) (A:Option Addr) (an:Nat) (F' ai:List Nat),m<=256->Cells vi wz A (idxPl p)->N<=an->IsWr wz b F' ai->Apt A (idxPl p) F'->Pts wz->0∉F'->ai.length<17179869184->Calls Tryz.prog 89 #[.pointer (some ⟨b,0,none⟩),.slice A N an,.int .i64 p.W,.int .i64 p.H,.int .i64 (pbits m),.int .i64 wi] wz (PlanePost way wz b F' ai (idxPl p) p.W p.H (pbits m)):=by
  intro wz A an F' ai aZ e3 e4 e5 e6 e7 e8 e9
  have:=putPlane_ok hway an (W:=p.W) (H:=p.H) (by rw [az,hN]) (aw aZ) e3 (by rw [az];exact e4) am.w0 am.w1 am.h0 am.h1 (pbits_ok aZ).1 (pbits_ok aZ).2.1 b F' ai e5 e6 e7 e8 e9
  rw [az,<-aU] at this
  exact this
 have ag:Hid (∀ e w',(if m<=colours then (if planeOk way (idxPl p) p.W p.H (pbits m)=true then e=.returned (.int .i64 0)/\∃ F',IsWr w' b F' (bs++(bitsOf 1 1++(palBitsL n p.d (palP p)++planeBits way (idxPl p) p.W p.H (pbits m))))/\Grow F F' w w'
   else e=.returned (.int .i64 6)/\∃ F',Grow F F' w w') else e=.returned (.int .i64 7)/\∃ F',Grow F F' w w')->IndPost way colours w b F bs p e w'):=hid (fun e w' h=>by unfold IndPost indMay;rw [<-hm,<-hn];exact h)
 rw [<-aU]
 have bx:=hid aP
 have HX:=hid hX
 have bq:=hid aS
 have ao:=hid br
 have bI:=hid aF
 have bD:=hid aq
 have bz:=hid aG
 have HW:=hid hw
 have HP:=hid hp
 have bg:=hid h0F
 have bA:=hid bf
 have bb:=hid al
 have bM:=hid az
 have bj:=hid hw.lt
 have bO:=hid hG
 have bN:=hid h.lt
 have aA:∀ (wz:World) (gL aa:Nat) (xs:List Value) (gs F' ai:List Nat),PalOwn wz n p.d (palP p) gL aa xs gs->IsWr wz b F' ai->(∀ x∈gL::gs,x∉F')->ai.length<17179869184->Calls Tryz.prog 23 #[.pointer (some ⟨b,0,none⟩),.agg #[.int .i64 p.d,.int .i64 n,.slice (some ⟨gL,0,none⟩) m aa]] wz (PalPutPost wz b F' ai (palBitsL n p.d (palP p))):=by
  intro wz gL aa xs gs F' ai e1 e2 e3 e4
  have:=palPut_ok aa e1.at_ b F' ai e2 e3 e4
  unfold palV at this
  rw [<-hm] at this
  exact this
 have bJ:=hid aA
 obtain ⟨a0,a1,a2,a3⟩:=aS.cells
 clear aP hX aS br aF aq aG hw hp h0F bf al az aA am h aw ap hn hm hN aU hG hway
 go_enter Tryz.func49,Tryz.ntmps49
 go_wp2_with fail
 rw [<-bx.out,<-HX.out]
 refine (bI.out w1 ao.out).mono ?_
 rintro e w2 ⟨aD,aK⟩
 rcases aK with ⟨be,gL,aa,xs,gs,rfl,ab,aN⟩ | ⟨bo,rfl⟩
 ·obtain ⟨w3,aB⟩:=zX (w2.alloc (.cells #[.int .i64 p.d,.int .i64 n,.slice (some ⟨gL,0,none⟩) m aa] 45))
  obtain ⟨X9,aE⟩:=zX (w2.heap.size)
  have ax:Chg [] w2 w3:=by rw [aB];exact (zR [] w2).alloc _
  have aR:PBox w3 X9 (.int .i64 p.d) (.int .i64 n) (.slice (some ⟨gL,0,none⟩) m aa):=⟨by rw [aB,aE];exact Blk.new w2 _ _⟩
  have ak:Chg [] w1 w3:=aD.trans_same ax
  obtain ⟨a0,a1,a2,a3⟩:=(bq.out.same ak).cells
  obtain ⟨k0,k1,k2⟩:=aR.cells
  have aq:=bD.out w3 gL aa xs gs (ao.out.trans_same ak) (by
   have:=ao.out
   exact ⟨ab.ok,ab.row.chg ax (by simp),ab.pl.same ax⟩)
  have ba:=hid (show PalOwn w3 n p.d (palP p) gL aa xs gs from ⟨ab.ok,ab.row.chg ax (by simp),ab.pl.same ax⟩)
  have bp:=hid be
  have ah:m<=256:=by omega
  have aj:Hid (∀ x∈gL::gs,w.heap.size<=x/\x<w3.heap.size):=hid (fun x hx=>⟨by have:=aN x hx;have:=ao.out.size;omega,by
   have:=ax.size
   rcases zJ.1 hx with rfl | h1
   ·have:=ab.row.lt;omega
   ·have:=ab.pl.lt x h1;omega⟩)
  have bi:=hid aR
  have a7:=hid ak
  have aO:Hid (w.heap.size<=X9/\X9<w3.heap.size):=hid ⟨by rw [aE];have:=aD.size;have:=ao.out.size;omega,aR.blk.lt⟩
  have bG:=hid aB
  have bE:=hid aE
  have a5:=hid aq
  rw [aB,aE] at k0 k1 k2
  rw [aB] at a0 a1 a2 a3
  clear aD ab aN aB aE ax aR ak aq be
  go_wp2_with fail
  rw [<-bG.out,<-bE.out]
  refine a5.out.mono ?_
  rintro e w4 ⟨g9,rfl,ay,a9,bC⟩
  have a4:Chg [] w w4:=(ao.out.trans_same a7.out).trans_same a9
  have aI:=HW.out.same a4
  have bd:=wput_ok w4 b F bs 1 1 aI (by decide) (by decide) (by omega)
  have aX:=hid a4
  have af:=hid a9
  have aY:=hid ay
  have a8:Hid (w.heap.size<=g9/\g9<w4.heap.size):=hid ⟨by have:=(ao.out.trans_same a7.out).size;omega,ay.lt⟩
  clear ay a9 bC a4 aI a0 a1 a2 a3 k0 k1 k2
  go_wp2_with fail
  refine bd.mono ?_
  rintro e w5 ⟨rfl,F5,bk,aJ⟩
  have av:∀ Fk wr,Grow F Fk w4 wr->∀ x,w.heap.size<=x->x<w4.heap.size->x∉Fk:=fun Fk wr hg x h1 h2 hm=>by
   rcases hg.new x hm with h3 | h3
   ·have:=bj.out x h3;omega
   ·omega
  have aL:∀ x,w.heap.size<=x->x∉F:=fun x h1 hm=>by have:=bj.out x hm;omega
  have aV:=hid av
  have aM:=hid aL
  have aA:=bJ.out w5 gL aa xs gs F5 _ (by
    have h0:=ba.out
    have hc:=(Chg.mono (F':=F) af.out (by simp)).trans aJ.chg (fun x hx => .inl hx)
    exact ⟨h0.ok,h0.row.chg hc (aL _ (aj.out gL (by simp)).1),h0.pl.chg hc (fun x hx=>aL x (aj.out x (by simp [hx])).1)⟩) bk
   (fun x hx=>av F5 w5 aJ x (aj.out x hx).1 (by have:=(aj.out x hx).2;have:=af.out.size;omega)) (by rw [zC,bitsOf_len];omega)
  unfold PalPutPost at aA
  obtain ⟨k0,k1,k2⟩:=((bi.out.same af.out).chg aJ.chg (aL X9 aO.out.1)).cells
  have bw:=hid aJ
  clear bd bk aJ av aL
  go_wp2_with fail
  refine aA.mono ?_
  rintro e w6 ⟨rfl,F6,bh,bm⟩
  have ac:=bw.out.trans bm
  have bl:Cells vi w6 (some ⟨g9,0,none⟩) (idxPl p):=by
   have h0:=aY.out.chg ac.chg (by simpa using aM.out g9 a8.out.1)
   exact h0.toOwn.cells
  have aH:Apt (some (⟨g9,0,none⟩:Addr)) (idxPl p) F6:=fun _ ad e hm=>by injection e with e;subst e;exact aV.out F6 w6 ac g9 a8.out.1 a8.out.2 hm
  have aC:=(HP.out.same aX.out).chg ac.chg bg.out
  have bn:0∉F6:=ac.out (by have:=HP.out.lt;have:=aX.out.size;omega) bg.out
  have bK:=bb.out ah
  have aG:=fun nq=>bz.out (w6.drewN nq) (some ⟨g9,0,none⟩) N F6 _ ah (bl.drewN nq) (zQ _) (bh.same ((zR [] w6).drewN nq)) aH (aC.same ((zR [] w6).drewN nq)) bn (by
   simp only [zC,bitsOf_len]
   omega)
  obtain ⟨k0,k1,k2⟩:=((bi.out.same af.out).chg ac.chg (aM.out X9 aO.out.1)).cells
  obtain ⟨a0,a1,a2,a3⟩:=(((bq.out.same a7.out).same af.out).chg ac.chg bA.out).cells
  have a6:=hid aG
  have aW:=hid ac
  have bH:=fun w=>pbits_fn m w bv ah
  clear aA bh bm ac bl aH aC bn bK aG
  go_wp2_with fail
  refine wp_region_quiet_tail 11 (by kernel_rfl) (by kernel_rfl) ?_
  simp only [List.take_succ_cons,List.take_zero,List.drop_succ_cons,List.drop_zero]
  repeat (go_big_quiet_step ((go_at_call 24;exact Calls.quiet_of_same ((bH _).mono (fun _ _ h=>⟨h.1,h.2.symm⟩)))))
  refine wpQuiet_nil ?_
  intro _ bu
  obtain ⟨nq,rfl⟩:=bu
  go_wp2_with fail
  refine (a6.out nq).mono ?_
  rintro e w7 ae
  unfold PlanePost at ae
  have aQ:=fun F7 (ar:Grow F6 F7 (w6.drewN nq) w7)=>Grow.pre aX.out (aW.out.trans (Grow.pre ((zR [] w6).drewN nq) ar))
  cases ap:planeOk way (idxPl p) p.W p.H (pbits m) with
  | true =>
   rw [if_pos ap] at ae
   obtain ⟨rfl,F7,bc,ar⟩:=ae
   have aT:=hid (aQ F7 ar)
   have bF:=hid bc
   have au:=hid ap
   clear ar bc aQ ap
   go_wp2_with fail
   go_ret
   refine ag.out _ _ ?_
   rw [if_pos bp.out,if_pos au.out]
   exact ⟨rfl,F7,by simpa only [zH] using bF.out,aT.out⟩
  | false =>
   rw [if_neg (by rw [ap];simp)] at ae
   obtain ⟨rfl,F7,ar⟩:=ae
   have aT:=hid (aQ F7 ar)
   have au:=hid ap
   clear ar aQ ap
   go_wp2_with fail
   go_ret
   refine ag.out _ _ ?_
   rw [if_pos bp.out,if_neg (by rw [au.out];simp)]
   exact ⟨rfl,F7,aT.out⟩
 ·have bB:=hid bo
  have HE:=hid (ao.out.trans_same aD)
  clear bo aD
  unfold zPal
  go_wp2_with fail
  go_ret
  refine ag.out _ _ ?_
  rw [if_neg (by have:=bB.out;omega)]
  exact ⟨rfl,F,Grow.pre (HE.out.trans_same ((zR [] _).alloc _)) (Grow.refl _ _)⟩
inductive StRes where
 | ok (bs:List Nat)
 | bad (k:Int)
def kindB (kind:Option Nat) (p:PicD):Bool:=match kind with
 | none=>true
 | some k=>mayH p.P.length k
def stR (way kind:Option Nat) (colours:Nat) (p:PicD):StRes :=
 if colours=0 then (if kindB kind p=true then (if hueMay way (kindH kind p) p=true then .ok (hueBits way (kindH kind p) p) else .bad 6) else .bad 1)
 else if (palP p).length<=colours then (if indMay way p=true then .ok (indBits way p) else .bad 6) else .bad 7
def StPost (w:World) (r:StRes) (e:Ending) (w':World):Prop:=match r with
 | .ok bs=>∃ v G,e=.returned (.tuple #[v,.int .i64 0])/\Own w' 5 v G ((stBytes bs).map b8)/\Chg [] w w'/\(∀ x∈G,w.heap.size<=x)/\(∀ b∈bs,b<2)
 | .bad k=>e=.returned (.tuple #[.slice none 0 0,.int .i64 k])/\Chg [] w w'
theorem sby_ok {way : Option Nat} (hway : WayOk way) {kind : Option Nat} (hkind : WayOk kind) (hk4 : ∀ k, kind = some k -> k <= 4) {colours : Nat} (c1 : colours <= 256) {w : World} {p : PicD} {g o : Nat} {B : Nat -> Option Addr} {c : Nat -> Nat} {G : List Nat} (cap : Nat) (h : PicAt w p g o B c G) (hp : Pts w) :
    Calls Tryz.prog 17 #[picV p g o cap,.int .i64 (wayI kind),.int .i64 colours,.int .i64 (wayI way)] w (StPost w (stR way kind colours p)):=by
  have ak:=h.ok
  have bu:∀ w',Chg [] w w'->_:=fun w' (hc':Chg [] w w')=>is_yes cap (h.same hc')
  have bw:=fun k (k4:k<=4) w'=>hmay_ok p.P.length k w' ak.n0 ak.n1 k4
  have ay:∀ w' b F bs,Chg [] w w'->1<=colours->IsWr w' b F bs->(∀ x∈F,w.heap.size<=x)->bs.length<1000000->_:=fun w' b F bs (hc':Chg [] w w') c0 hw (hF:∀ x∈F,w.heap.size<=x) hb=>putInd_ok hway cap (h.same hc') c0 c1 b F bs hw (fun x hx hm=>by have:=h.lt x hx;have:=hF x hm;omega) (hp.same hc') (fun hm=>by have:=hF 0 hm;have:=hp.lt;omega) hb
  have az:∀ w' b F bs,Chg [] w w'->KindOk kind p->IsWr w' b F bs->(∀ x∈F,w.heap.size<=x)->bs.length<1000000->_:=fun w' b F bs (hc':Chg [] w w') hk hw (hF:∀ x∈F,w.heap.size<=x) hb=>putTrans_ok hway cap (h.same hc') hk b F bs hw (fun x hx hm=>by have:=h.lt x hx;have:=hF x hm;omega) (hp.same hc') (fun hm=>by have:=hF 0 hm;have:=hp.lt;omega) hb
  have b3:=fun (hm:hueMay way (kindH kind p) p=true)=>hueBits_len hway ak hm
  have cd:=fun h9 (hm:indMay way p=true)=>indBits_len hway ak h9 hm
  obtain ⟨HL,aj⟩:=zX (headL p.W p.H p.d p.P.length)
  have aC:HL.length=18:=by rw [aj];exact headL_len _ _ _ _
  have aK:hueBits way (kindH kind p) p=HL++(bitsOf 0 1++(bitsOf (kindH kind p) 3++planesTo way (foreH (kindH kind p) p) p.P.length)):=by rw [aj];rfl
  have aQ:indBits way p=HL++(bitsOf 1 1++(palBitsL p.P.length p.d (palP p)++planeBits way (idxPl p) p.W p.H (pbits (palP p).length))):=by rw [aj];rfl
  have bU:kindB kind p=true->KindOk kind p:=fun hb k hk=>⟨hk4 k hk,by subst hk;exact hb⟩
  have cg:∀ k,kind=some k->kindB kind p=mayH p.P.length k:=fun k hk=>by subst hk;rfl
  have a9:kind=none->kindB kind p=true:=fun hk=>by subst hk;rfl
  have bh:∀ e w' r,stR way kind colours p=r->StPost w r e w'->StPost w (stR way kind colours p) e w':=fun e w' r h1 h2=>by rw [h1];exact h2
  have bS : -1<=wayI way/\wayI way<=7:=by
    cases way with
    | none=>exact ⟨by decide,by decide⟩
    | some k=>have := hway k rfl;show -1<=(k:Int)/\(k:Int)<=7;omega
  have ax:(kind=none/\wayI kind=-1)\/∃ k,kind=some k/\k<=4/\wayI kind=(k:Int):=by
    cases kind with
    | none=>exact .inl ⟨rfl,rfl⟩
    | some k=>exact .inr ⟨k,rfl,hk4 k rfl,rfl⟩
  have bC : -1<=wayI kind/\wayI kind<=4:=by
    rcases ax with ⟨_,e⟩ | ⟨k,_,h1,e⟩<;>rw [e]<;>omega
  unfold TransPost IndPost at *
  unfold picV at *
  obtain ⟨n,hn⟩:=zX (p.P.length)
  have cO:1<=n:=by rw [hn];exact ak.n0
  have cS:n<=4:=by rw [hn];exact ak.n1
  rw [<-hn] at bu bw ay az aj aK aQ ⊢
  have cw:=ak.w0
  have cA:=ak.w1
  have cJ:=ak.h0
  have cN:=ak.h1
  have cm:=ak.d0
  have cD:=ak.d1
  obtain ⟨wi,a7⟩:=zX (wayI way)
  obtain ⟨ki,bj⟩:=zX (wayI kind)
  obtain ⟨ci,aI⟩:=zX ((colours:Int))
  rw [<-a7] at bS ay az ⊢
  rw [<-bj] at ax bC az ⊢
  rw [<-aI] at ay ⊢
  obtain ⟨W1,cB⟩:∃ W1,p.W=W1+1:=⟨p.W-1,by omega⟩
  obtain ⟨H1,cF⟩:∃ H1,p.H=H1+1:=⟨p.H-1,by omega⟩
  obtain ⟨D1,cH⟩:∃ D1,p.d=D1+1:=⟨p.d-1,by omega⟩
  obtain ⟨N1,cE⟩:∃ N1,n=N1+1:=⟨n-1,by omega⟩
  have e1:(p.W:Int)-1=(W1:Int):=by omega
  have e2:(p.H:Int)-1=(H1:Int):=by omega
  have e3:(p.d:Int)-1=(D1:Int):=by omega
  have e4:(n:Int)-1=(N1:Int):=by omega
  have u1:IntKind.u64.wrap (W1:Int)=(W1:Int):=IntWalk.u64_in _ (by omega)
  have u2:IntKind.u64.wrap (H1:Int)=(H1:Int):=IntWalk.u64_in _ (by omega)
  have u3:IntKind.u64.wrap (D1:Int)=(D1:Int):=IntWalk.u64_in _ (by omega)
  have u4:IntKind.u64.wrap (N1:Int)=(N1:Int):=IntWalk.u64_in _ (by omega)
  have aH:HL=bitsOf W1 6++(bitsOf H1 6++(bitsOf D1 4++bitsOf N1 2)):=by
    rw [aj,headL,show p.W-1=W1 by omega,show p.H-1=H1 by omega,show p.d-1=D1 by omega,show n-1=N1 by omega]
  have t1:decide (ki < -1)=false:=zA (by omega)
  have t2:decide (4<ki)=false:=zA (by omega)
  have t3:decide (ci<0)=false:=zA (by omega)
  have t4:decide (256<ci)=false:=zA (by omega)
  have t5:decide (wi < -1)=false:=zA (by omega)
  have t6:decide (7<wi)=false:=zA (by omega)
  have c9:W1<64:=by omega
  have cU:H1<64:=by omega
  have cQ:D1<16:=by omega
  have cT:N1<4:=by omega
  obtain ⟨w1,bm⟩:=zX (w.alloc (.cells #[.int .i64 p.W,.int .i64 p.H,.int .i64 p.d,.slice (some ⟨g,o,none⟩) n cap] 27))
  obtain ⟨X,hX⟩:=zX (w.heap.size)
  have bl:Box w1 X (.int .i64 p.W) (.int .i64 p.H) (.int .i64 p.d) (.slice (some ⟨g,o,none⟩) n cap):=⟨by rw [bm,hX];exact Blk.new w _ _⟩
  have ch:Chg [] w w1:=by rw [bm];exact (zR [] w).alloc _
  have bp:=hid bm
  have HX:=hid hX
  have bQ:Hid (X<w1.heap.size):=hid bl.blk.lt
  have aU:=hid bl
  have am:=hid ch
  have bo:=hid bu
  have cu:=hid bw
  have cr:=hid ay
  have cv:=hid az
  have cx:=hid b3
  have cn:=hid cd
  have bY:=hid aC
  have bA:=hid aK
  have br:=hid aQ
  have cz:=hid bU
  have b1:=hid cg
  have cG:=hid a9
  have ap:=hid bh
  have cR:=hid bC
  have aV:=hid aI
  have bD:=hid aH
  have b5:=hid hn
  have be:=hid c1
  obtain ⟨a0,a1,a2,a3⟩:=bl.cells
  clear bm hX bl ch bu bw ay az b3 cd aC aK aQ bU cg a9 bh bC aI aH aj h ak hkind hk4 hway bS hn a7 bj cB cF cH cE cw cA cJ cN cm cD hp c1
  have bi:(ci=0/\kind=none/\ki=-1)\/(ci=0/\∃ k,kind=some k/\k<=4/\ki=(k:Int))\/1<=colours:=by
    have:=aV.out
    rcases Nat.eq_zero_or_pos colours with h0 | h0
    · rcases ax with ⟨e,e'⟩ | ⟨k,e,e',cp⟩
      · exact .inl ⟨by omega,e,e'⟩
      · exact .inr (.inl ⟨by omega,k,e,e',cp⟩)
    · exact .inr (.inr h0)
  clear ax
  rcases bi with ⟨rfl,a9,rfl⟩ | ⟨rfl,k,b7,hk4,rfl⟩ | b9
  rotate_left
  have bk:∀ v,mayH n k=v->_:=fun v hv w'=>by have:=cu.out k hk4 w';rw [hv] at this;exact this
  have cj:=hid b7
  clear b7
  have t7:decide ((0:Int)<=(k:Int))=true:=zB (by omega)
  cases hmv:mayH n k
  · have bd:=bk _ hmv
    have bN:=hid hmv
    clear bk hmv
    go_enter Tryz.func17,Tryz.ntmps17
    go_wp2_with fail
    rw [<-bp.out,<-HX.out]
    refine (bo.out w1 am.out).mono ?_
    rintro e w2 ⟨rfl,ag⟩
    obtain ⟨a0,a1,a2,a3⟩:=(aU.out.same ag).cells
    have ab:=hid ag
    clear ag
    go_wp2_with fail
    refine (bd _).mono ?_
    rintro e w3 ⟨rfl,rfl⟩
    clear bd
    go_wp2_with fail
    refine bodyPost_ret (v:=.tuple #[.slice none 0 0,.int .i64 1]) (by simp [results,Tryz.results17,go_sem]) rfl ?_
    refine ap.out _ _ (.bad 1) ?_ ⟨rfl,am.out.trans_same ab.out⟩
    unfold stR
    rw [if_pos (by have:=aV.out;omega),if_neg (by rw [b1.out k cj.out,<-b5.out,bN.out];simp)]
  have bd:=bk _ hmv
  have bN:=hid hmv
  clear bk hmv
  go_enter Tryz.func17,Tryz.ntmps17
  go_wp2_with fail
  rw [<-bp.out,<-HX.out]
  refine (bo.out w1 am.out).mono ?_
  rintro e w2 ⟨rfl,ag⟩
  obtain ⟨a0,a1,a2,a3⟩:=(aU.out.same ag).cells
  have ab:=hid ag
  clear ag
  go_wp2_with fail
  refine (bd _).mono ?_
  rintro e w3 ⟨rfl,rfl⟩
  clear bd
  have ar:Hid (kindB kind p=true):=hid (by rw [b1.out k cj.out,<-b5.out];exact bN.out)
  have aW:Hid (colours=0):=hid (by have:=aV.out;omega)
  clear a0 a1 a2 a3
  obtain ⟨w4,ae⟩:=zX (w2.alloc (.cells #[.slice none 0 0,.int .i64 0] 89))
  obtain ⟨b,hb⟩:=zX (w2.heap.size)
  have aF:IsWr w4 b [b] []:=by rw [ae,hb];exact IsWr.new w2
  have aq:Chg [] w2 w4:=by rw [ae];exact (zR [] w2).alloc _
  have aG:X∉[b]:=by
    simp only [zU]
    have:=bQ.out
    have:=ab.out.size
    omega
  have HB:Hid (w.heap.size<=b):=hid (by rw [hb];exact (am.out.trans_same ab.out).size)
  have aD:Hid (Chg [] w w4):=hid ((am.out.trans_same ab.out).trans_same aq)
  have au:Hid (∀ Fz wz,Grow [b] Fz w4 wz->Box wz X (.int .i64 p.W) (.int .i64 p.H) (.int .i64 p.d) (.slice (some ⟨g,o,none⟩) n cap)):=hid (fun Fz wz hz=>((aU.out.same ab.out).same aq).chg hz.chg aG)
  have aB:Hid (∀ Fz wz,Grow [b] Fz w4 wz->Chg [] w wz):=hid (fun Fz wz hz=>aD.out.trans hz.chg (fun x hx => .inr (by simp at hx;have:=HB.out;omega)))
  have aY:Hid (∀ Fz wz,Grow [b] Fz w4 wz->∀ x∈Fz,w.heap.size<=x):=hid (fun Fz wz hz x hx=>by
    rcases hz.new x hx with h | h
    · simp at h;have:=HB.out;omega
    · have:=aD.out.size;omega)
  obtain ⟨a0,a1,a2,a3⟩:=(au.out [b] w4 (Grow.refl _ _)).cells
  have bn:=wput_ok w4 b [b] [] W1 6 aF (by decide) (by omega) (by simp)
  have aZ:=hid ae
  have ao:=hid hb
  rw [ae] at a0 a1 a2 a3
  clear ae hb aF aq aG
  go_wp2_with fail
  rw [<-aZ.out,<-ao.out]
  rotate_left
  have c7:(ci==0)=false:=by have:=aV.out;simp;omega
  have da:¬ ci=0:=by have:=aV.out;omega
  have cX:decide (0<ci)=true:=zB (by have:=aV.out;omega)
  have aW:=hid b9
  clear b9
  go_enter Tryz.func17,Tryz.ntmps17
  go_wp2_with fail
  rw [<-bp.out,<-HX.out]
  refine (bo.out w1 am.out).mono ?_
  rintro e w2 ⟨rfl,ag⟩
  obtain ⟨a0,a1,a2,a3⟩:=(aU.out.same ag).cells
  have ab:=hid ag
  clear ag
  clear a0 a1 a2 a3
  obtain ⟨w4,ae⟩:=zX (w2.alloc (.cells #[.slice none 0 0,.int .i64 0] 89))
  obtain ⟨b,hb⟩:=zX (w2.heap.size)
  have aF:IsWr w4 b [b] []:=by rw [ae,hb];exact IsWr.new w2
  have aq:Chg [] w2 w4:=by rw [ae];exact (zR [] w2).alloc _
  have aG:X∉[b]:=by
    simp only [zU]
    have:=bQ.out
    have:=ab.out.size
    omega
  have HB:Hid (w.heap.size<=b):=hid (by rw [hb];exact (am.out.trans_same ab.out).size)
  have aD:Hid (Chg [] w w4):=hid ((am.out.trans_same ab.out).trans_same aq)
  have au:Hid (∀ Fz wz,Grow [b] Fz w4 wz->Box wz X (.int .i64 p.W) (.int .i64 p.H) (.int .i64 p.d) (.slice (some ⟨g,o,none⟩) n cap)):=hid (fun Fz wz hz=>((aU.out.same ab.out).same aq).chg hz.chg aG)
  have aB:Hid (∀ Fz wz,Grow [b] Fz w4 wz->Chg [] w wz):=hid (fun Fz wz hz=>aD.out.trans hz.chg (fun x hx => .inr (by simp at hx;have:=HB.out;omega)))
  have aY:Hid (∀ Fz wz,Grow [b] Fz w4 wz->∀ x∈Fz,w.heap.size<=x):=hid (fun Fz wz hz x hx=>by
    rcases hz.new x hx with h | h
    · simp at h;have:=HB.out;omega
    · have:=aD.out.size;omega)
  obtain ⟨a0,a1,a2,a3⟩:=(au.out [b] w4 (Grow.refl _ _)).cells
  have bn:=wput_ok w4 b [b] [] W1 6 aF (by decide) (by omega) (by simp)
  have aZ:=hid ae
  have ao:=hid hb
  rw [ae] at a0 a1 a2 a3
  clear ae hb aF aq aG
  go_wp2_with fail
  rw [<-aZ.out,<-ao.out]
  rotate_left
  have ar:Hid (kindB kind p=true):=hid (cG.out a9)
  have aW:Hid (colours=0):=hid (by have:=aV.out;omega)
  clear a9
  go_enter Tryz.func17,Tryz.ntmps17
  go_wp2_with fail
  rw [<-bp.out,<-HX.out]
  refine (bo.out w1 am.out).mono ?_
  rintro e w2 ⟨rfl,ag⟩
  obtain ⟨a0,a1,a2,a3⟩:=(aU.out.same ag).cells
  have ab:=hid ag
  clear ag
  clear a0 a1 a2 a3
  obtain ⟨w4,ae⟩:=zX (w2.alloc (.cells #[.slice none 0 0,.int .i64 0] 89))
  obtain ⟨b,hb⟩:=zX (w2.heap.size)
  have aF:IsWr w4 b [b] []:=by rw [ae,hb];exact IsWr.new w2
  have aq:Chg [] w2 w4:=by rw [ae];exact (zR [] w2).alloc _
  have aG:X∉[b]:=by
    simp only [zU]
    have:=bQ.out
    have:=ab.out.size
    omega
  have HB:Hid (w.heap.size<=b):=hid (by rw [hb];exact (am.out.trans_same ab.out).size)
  have aD:Hid (Chg [] w w4):=hid ((am.out.trans_same ab.out).trans_same aq)
  have au:Hid (∀ Fz wz,Grow [b] Fz w4 wz->Box wz X (.int .i64 p.W) (.int .i64 p.H) (.int .i64 p.d) (.slice (some ⟨g,o,none⟩) n cap)):=hid (fun Fz wz hz=>((aU.out.same ab.out).same aq).chg hz.chg aG)
  have aB:Hid (∀ Fz wz,Grow [b] Fz w4 wz->Chg [] w wz):=hid (fun Fz wz hz=>aD.out.trans hz.chg (fun x hx => .inr (by simp at hx;have:=HB.out;omega)))
  have aY:Hid (∀ Fz wz,Grow [b] Fz w4 wz->∀ x∈Fz,w.heap.size<=x):=hid (fun Fz wz hz x hx=>by
    rcases hz.new x hx with h | h
    · simp at h;have:=HB.out;omega
    · have:=aD.out.size;omega)
  obtain ⟨a0,a1,a2,a3⟩:=(au.out [b] w4 (Grow.refl _ _)).cells
  have bn:=wput_ok w4 b [b] [] W1 6 aF (by decide) (by omega) (by simp)
  have aZ:=hid ae
  have ao:=hid hb
  rw [ae] at a0 a1 a2 a3
  clear ae hb aF aq aG
  go_wp2_with fail
  rw [<-aZ.out,<-ao.out]
  all_goals
    refine bn.mono ?_
    rintro e w5 ⟨rfl,F5,cb,bO⟩
    obtain ⟨a0,a1,a2,a3⟩:=(au.out F5 w5 bO).cells
    have bZ:=wput_ok w5 b F5 _ H1 6 cb (by decide) (by omega) (by simp [bitsOf_len])
    clear bn
    go_wp2_with fail
    refine bZ.mono ?_
    rintro e w6 ⟨rfl,F6,b4,cc⟩
    have aM:=bO.trans cc
    obtain ⟨a0,a1,a2,a3⟩:=(au.out F6 w6 aM).cells
    have bX:=wput_ok w6 b F6 _ D1 4 b4 (by decide) (by omega) (by simp [bitsOf_len])
    clear bZ
    go_wp2_with fail
    refine bX.mono ?_
    rintro e w7 ⟨rfl,F7,bT,b0⟩
    have aL:=aM.trans b0
    obtain ⟨a0,a1,a2,a3⟩:=(au.out F7 w7 aL).cells
    have ce:=wput_ok w7 b F7 _ N1 2 bT (by decide) (by omega) (by simp [bitsOf_len])
    clear bX
    go_wp2_with fail
    refine ce.mono ?_
    rintro e w8 ⟨rfl,F8,bV,b2⟩
    have aR:=aL.trans b2
    have bb:IsWr w8 b F8 HL:=by
      rw [bD.out]
      simpa only [zH,List.nil_append] using bV
    have bL:=hid bb
    have av:=hid aR
    obtain ⟨a0,a1,a2,a3⟩:=(au.out F8 w8 aR).cells
    clear ce cb bO b4 cc aM bT b0 aL bV b2 aR bb
  iterate 2
    (have az:=cv.out w8 b F8 HL (aB.out _ _ av.out) (cz.out ar.out) bL.out (aY.out _ _ av.out) (by rw [bY.out];decide)
     go_wp2_with fail
     refine az.mono ?_
     rintro e w9 aa
     clear a0 a1 a2 a3 az
     cases hm:hueMay way (kindH kind p) p
     · rw [if_neg (by rw [hm];simp)] at aa
       obtain ⟨rfl,F9,ah⟩:=aa
       have aE:=hid (av.out.trans ah)
       have HM:=hid hm
       clear ah hm
       go_wp2_with fail
       refine bodyPost_ret (v:=.tuple #[.slice none 0 0,.int .i64 6]) (by simp [results,Tryz.results17,go_sem]) rfl ?_
       refine ap.out _ _ (.bad 6) ?_ ⟨rfl,aB.out _ _ aE.out⟩
       unfold stR
       rw [if_pos aW.out,if_pos ar.out,if_neg (by rw [HM.out];simp)]
     rw [if_pos hm] at aa
     obtain ⟨rfl,F9,aP,ah⟩:=aa
     have aE:=hid (av.out.trans ah)
     obtain ⟨T,hT⟩:=zX (hueBits way (kindH kind p) p)
     have af:=cx.out hm
     rw [<-hT] at af
     rw [<-bA.out,<-hT] at aP
     have bB:=hid aP
     have aw:Hid (19<=T.length/\T.length<=4096000000):=hid ⟨by omega,af.2⟩
     have bg:Hid (stR way kind colours p=.ok T):=hid (by
       unfold stR
       rw [if_pos aW.out,if_pos ar.out,if_pos hm,hT])
     clear af hT aP ah hm
     rotate_left)
  have ay:=cr.out w8 b F8 HL (aB.out _ _ av.out) aW.out bL.out (aY.out _ _ av.out) (by rw [bY.out];decide)
  go_wp2_with fail
  refine ay.mono ?_
  rintro e w9 aa
  clear a0 a1 a2 a3 ay
  have aX:¬ colours=0:=by have:=aW.out;omega
  rcases zZ colours (palP p).length with aA | aA
  · rw [if_neg (by omega)] at aa
    obtain ⟨rfl,F9,ah⟩:=aa
    have aE:=hid (av.out.trans ah)
    have HM:=hid aA
    have bF:=hid aX
    clear ah aA aX
    go_wp2_with fail
    refine bodyPost_ret (v:=.tuple #[.slice none 0 0,.int .i64 7]) (by simp [results,Tryz.results17,go_sem]) rfl ?_
    refine ap.out _ _ (.bad 7) ?_ ⟨rfl,aB.out _ _ aE.out⟩
    unfold stR
    rw [if_neg bF.out,if_neg (by have:=HM.out;omega)]
  rw [if_pos aA] at aa
  cases hm:indMay way p
  · rw [if_neg (by rw [hm];simp)] at aa
    obtain ⟨rfl,F9,ah⟩:=aa
    have aE:=hid (av.out.trans ah)
    have HM:=hid hm
    have cK:=hid aA
    have bF:=hid aX
    clear ah hm aA aX
    go_wp2_with fail
    refine bodyPost_ret (v:=.tuple #[.slice none 0 0,.int .i64 6]) (by simp [results,Tryz.results17,go_sem]) rfl ?_
    refine ap.out _ _ (.bad 6) ?_ ⟨rfl,aB.out _ _ aE.out⟩
    unfold stR
    rw [if_neg bF.out,if_pos cK.out,if_neg (by rw [HM.out];simp)]
  rw [if_pos hm] at aa
  obtain ⟨rfl,F9,aP,ah⟩:=aa
  have aE:=hid (av.out.trans ah)
  obtain ⟨T,hT⟩:=zX (indBits way p)
  have af:=cn.out (by have:=be.out;omega) hm
  rw [<-hT] at af
  rw [<-br.out,<-hT] at aP
  have bB:=hid aP
  have aw:Hid (19<=T.length/\T.length<=4096000000):=hid af
  have bg:Hid (stR way kind colours p=.ok T):=hid (by
    unfold stR
    rw [if_neg aX,if_pos aA,if_pos hm,hT])
  clear af hT aP ah hm aA aX
  all_goals
    have b6:=walign_ok w9 b F9 T bB.out (by have:=aw.out;omega)
    have bI:=hid bB.out.bit
    clear bL
    go_wp2_with fail
    refine b6.mono ?_
    rintro e cC ⟨rfl,ct,aS,ba⟩
    have al:=aE.out.trans ba
    have bE:=wbytes_ok cC b ct (padF T) aS (by rw [padF_len];have:=aw.out;omega)
    have bf:=aS.bit
    obtain ⟨ac,ad⟩:=zX (packed (padF T))
    have bz:ac.length<=1000000000:=by rw [ad,packed_len,padF_len];have:=aw.out;omega
    have aN:∀ d∈ac,d<256:=by rw [ad];exact packed_dig bf
    have cf:Hid (stBytes T=ac++big4 (crcN ac)):=hid (by rw [ad];rfl)
    rw [<-ad] at bE
    have a6:=hid (aB.out _ _ al)
    have cL:=hid (aY.out _ _ al)
    clear b6 aS ba al bf ad
    go_wp2_with fail
    refine bE.mono ?_
    rintro e cy ⟨cZ,bR,rfl,ai,a4,a8⟩
    obtain ⟨cI,cq,rfl,cs,cM,bc⟩:=ai.open_map
    have bq:=thirtyTwo_ok cy cI cq ac bc aN (by omega)
    have bP:=crcN_lt aN
    have bx:=fun w'=>big4_ok (crcN ac) bP w'
    obtain ⟨S,hS⟩:=zX (crcN ac)
    rw [<-hS] at bq bx bP cf
    obtain ⟨nb,bM⟩:=zX (ac.length)
    rw [<-bM] at bq ai bz ⊢
    have cW:IntKind.u64.wrap (S:Int)=(S:Int):=IntWalk.u64_in _ (by omega)
    have ca:=hid bM
    have bW:=hid bz
    have bK:=hid ai
    have aO:=hid (fun x hx=>Nat.le_trans a6.out.size (a8 x hx):∀ x∈bR,w.heap.size<=x)
    have bG:=hid (a6.out.trans_same a4)
    clear bE ai a4 a8 cs cM bc aN bP hS bM bz
    go_wp2_with fail
    refine bq.mono ?_
    rintro e db ⟨rfl,rfl⟩
    clear bq
    go_wp2_with fail
    refine (bx _).mono ?_
    rintro e cV ⟨c8,cP,rfl,an,aT,bJ⟩
    have aJ:=bK.out.same aT
    have bv:=hid an
    have a5:=hid (bG.out.trans_same aT)
    have cY:Hid (∀ x∈bR,w.heap.size<=x):=aO
    have bH:(big4 S).length=4:=rfl
    clear an aT bJ bx
    go_wp2_with (at_builtin;refine wpList_append_s rfl rfl u8_elem rfl rfl aJ ((big4 S).map b8) 4 rfl ?c1 ?c2 ?c3 ?c4 ?c5 ?_)
    case c1=>rfl
    case c2=>exact Row.cellsB bv.out
    case c3=>exact b8_one _
    case c4=>rw [zE,zE,bH];have := bW.out;have := ca.out;omega
    case c5=>rw [zE,zE,bH];have := bW.out;have := ca.out;omega
    intro v8 co c6 cl ck
    clear bH
    go_wp2
    refine bodyPost_ret (v:=.tuple #[v8,.int .i64 0]) (by simp [results,Tryz.results17,go_sem]) rfl ?_
    refine ap.out _ _ (.ok T) bg.out ⟨v8,co,rfl,by rw [cf.out,zM];exact cl,?_,fun x hx => ?_,bI.out⟩
    · exact a5.out.trans ck.chg (fun x hx => .inr (aO.out x hx))
    · rcases ck.new x hx with h | h
      · exact aO.out x h
      · have:=a5.out.size;omega
def hueB (p:PicD):List Nat:=hueBits none (bestH p 4) p
def encBits (p:PicD):List Nat:=if (palP p).length<=256/\(stBytes (indBits none p)).length<(stBytes (hueB p)).length then indBits none p else hueB p
theorem stR_hue (p:PicD):stR none none 0 p=.ok (hueB p):=by
 unfold stR hueB
 have h1:kindB none p=true:=rfl
 have h2:hueMay none (kindH none p) p=true:=planesMay_none _ _
 rw [if_pos rfl,if_pos h1,if_pos h2]
 rfl
theorem stR_ind (p:PicD):stR none none 256 p=if (palP p).length<=256 then .ok (indBits none p) else .bad 7:=by
 unfold stR
 have h2:indMay none p=true:=planeMay_none _ _ _ _ _
 rw [if_neg (by decide)]
 by_cases h:(palP p).length<=256
 ·rw [if_pos h,if_pos h,if_pos h2]
 ·rw [if_neg h,if_neg h]
theorem hueB_len {p:PicD} (h:p.Ok):22<=(hueB p).length/\(hueB p).length<=4096000000:=hueBits_len (way:=none) (fun _ e=>by cases e) h (planesMay_none _ _)
theorem indB_len {p:PicD} (h:p.Ok) (hc:(palP p).length<=256):19<=(indBits none p).length/\(indBits none p).length<=4096000000:=indBits_len (way:=none) (fun _ e=>by cases e) h hc (planeMay_none _ _ _ _ _)
theorem sencode_ok {w:World} {p:PicD} {g o:Nat} {B:Nat->Option Addr} {c:Nat->Nat} {G:List Nat} (cap:Nat) (h:PicAt w p g o B c G) (hp:Pts w) :
  Calls Tryz.prog 27 #[picV p g o cap] w (StPost w (.ok (encBits p))):=by
 have aA:=h.ok
 have hw:WayOk none:=fun _ e=>by cases e
 have ab:∀ w',Chg [] w w'->_:=fun w' (hc':Chg [] w w')=>sby_ok (way:=none) hw (kind:=none) hw (fun _ e=>by cases e) (colours:=0) (by decide) cap (h.same hc') (hp.same hc')
 have ac:∀ w',Chg [] w w'->_:=fun w' (hc':Chg [] w w')=>sby_ok (way:=none) hw (kind:=none) hw (fun _ e=>by cases e) (colours:=256) (by decide) cap (h.same hc') (hp.same hc')
 rw [stR_hue] at ab
 rw [stR_ind] at ac
 have e0:wayI none=-1:=rfl
 rw [e0] at ab ac
 have aj:encBits p=if (palP p).length<=256/\(stBytes (indBits none p)).length<(stBytes (hueB p)).length then indBits none p else hueB p:=rfl
 have aG:=(hueB_len aA).2
 have au:=fun hc=>(indB_len aA hc).2
 have aq:=stBytes_len (hueB p)
 have ap:=stBytes_len (indBits none p)
 rw [stBody_len] at aq ap
 obtain ⟨a,ha⟩:=zX (hueB p)
 obtain ⟨d,hd⟩:=zX (indBits none p)
 obtain ⟨m,hm⟩:=zX ((palP p).length)
 rw [<-ha] at ab aj aG aq
 rw [<-hd] at ac aj au ap
 rw [<-hm] at ac aj au
 obtain ⟨la,aw⟩:=zX ((stBytes a).length)
 obtain ⟨ld,az⟩:=zX ((stBytes d).length)
 rw [<-aw,<-az] at aj
 unfold StPost at ab
 unfold picV at *
 obtain ⟨n,hn⟩:=zX (p.P.length)
 rw [<-hn] at ab ac ⊢
 obtain ⟨w1,an⟩:=zX (w.alloc (.cells #[.int .i64 p.W,.int .i64 p.H,.int .i64 p.d,.slice (some ⟨g,o,none⟩) n cap] 27))
 obtain ⟨X,hX⟩:=zX (w.heap.size)
 have ar:Box w1 X (.int .i64 p.W) (.int .i64 p.H) (.int .i64 p.d) (.slice (some ⟨g,o,none⟩) n cap):=⟨by rw [an,hX];exact Blk.new w _ _⟩
 have aF:Chg [] w w1:=by rw [an];exact (zR [] w).alloc _
 have aM:=hid an
 have HX:=hid hX
 have aL:=hid ar
 have ax:=hid aF
 have aO:=hid ab
 have aP:=hid ac
 have av:=hid aj
 have aK:=hid aw
 have aI:=hid az
 obtain ⟨a0,a1,a2,a3⟩:=ar.cells
 clear an hX ar aF ab ac aj aw az aA h hp ha hd hm hn aG au aq ap hw e0
 go_enter Tryz.func27,Tryz.ntmps27
 go_wp2_with fail
 rw [<-aM.out,<-HX.out]
 refine (aO.out w1 ax.out).mono ?_
 rintro e w2 ⟨v2,G2,rfl,ae,ao,aB,ag⟩
 obtain ⟨A2,c2,rfl,-,-,-⟩:=ae.open_map
 rw [<-aK.out] at ae ⊢
 obtain ⟨a0,a1,a2,a3⟩:=(aL.out.same ao).cells
 have aE:=hid ae
 have al:=hid (ax.out.trans_same ao)
 have aJ:=hid ao
 have aC:Hid (∀ x∈G2,w.heap.size<=x):=hid (fun x hx=>Nat.le_trans ax.out.size (aB x hx))
 have ak:=hid ag
 clear ae ao aB ag
 go_wp2_with fail
 refine (aP.out w2 al.out).mono ?_
 intro e w3 aa
 by_cases hm:m<=256
 ·rw [if_pos hm] at aa
  unfold StPost at aa
  obtain ⟨v3,G3,rfl,ad,ai,aD,af⟩:=aa
  obtain ⟨A3,c3,rfl,-,-,-⟩:=ad.open_map
  rw [<-aI.out] at ad ⊢
  have aN:=hid ad
  have am:=hid (al.out.trans_same ai)
  have ah:=hid ai
  have aH:Hid (∀ x∈G3,w.heap.size<=x):=hid (fun x hx=>Nat.le_trans al.out.size (aD x hx))
  have ay:=hid af
  have HM:=hid hm
  clear ad ai aD af hm a0 a1 a2 a3
  by_cases hl:ld<la
  ·have t1:decide ((ld:Int)<(la:Int))=true:=zB (by omega)
   have t2:decide (ld<la)=true:=zB hl
   have HL:=hid hl
   clear hl
   go_wp2_with fail
   refine bodyPost_ret (v:=.tuple #[.slice A3 ld c3,.int .i64 0]) (by simp [results,Tryz.results27,go_sem]) rfl ?_
   rw [av.out,if_pos ⟨HM.out,HL.out⟩]
   exact ⟨_,G3,rfl,aN.out,am.out,aH.out,ay.out⟩
  ·have t1:decide ((ld:Int)<(la:Int))=false:=zA (by omega)
   have t2:decide (ld<la)=false:=zA hl
   have HL:=hid hl
   clear hl
   go_wp2_with fail
   refine bodyPost_ret (v:=.tuple #[.slice A2 la c2,.int .i64 0]) (by simp [results,Tryz.results27,go_sem]) rfl ?_
   rw [av.out,if_neg (fun hh=>HL.out hh.2)]
   exact ⟨_,G2,rfl,aE.out.same ah.out,am.out,aC.out,ak.out⟩
 ·rw [if_neg hm] at aa
  unfold StPost at aa
  obtain ⟨rfl,ai⟩:=aa
  have am:=hid (al.out.trans_same ai)
  have ah:=hid ai
  have HM:=hid hm
  clear ai hm a0 a1 a2 a3
  go_wp2_with fail
  refine bodyPost_ret (v:=.tuple #[.slice A2 la c2,.int .i64 0]) (by simp [results,Tryz.results27,go_sem]) rfl ?_
  rw [av.out,if_neg (fun hh=>HM.out hh.1)]
  exact ⟨_,G2,rfl,aE.out.same ah.out,am.out,aC.out,ak.out⟩
theorem pieces16 (n:Nat):∀ f x,n<=x+f->(pieces 16 n f x).length=(n-x+15) / 16
 | 0,x,h=>by
  show 0=_
  omega
 | f+1,x,h=>by
  by_cases hx:x<n
  ·rw [pieces_step f hx,zK,pieces16 n f (x+16) (by omega)]
   omega
  ·rw [pieces_end _ (by omega)]
   show 0=_
   omega
theorem grid16_count (W H:Nat):(gridL W H 16).length=((H+15) / 16)*((W+15) / 16):=by
 have e:∀ l:List (Nat × Nat),(l.flatMap (gridRow W 16)).length=l.length*((W+15) / 16):=by
  intro l
  induction l with
  | nil=>simp
  | cons a l ih =>
   rw [List.flatMap_cons,zC,ih,zK,Nat.succ_mul]
   have h1:(gridRow W 16 a).length=(W+15) / 16:=by
    unfold gridRow
    rw [zE,pieces16 W W 0 (by omega)]
    rfl
   omega
 unfold gridL
 rw [e,pieces16 H H 0 (by omega)]
 rfl
theorem area_takeS {ss:List Sq} {n:Nat} (h:n<ss.length):area (ss.take (n+1))=area (ss.take n)+(sqAt ss n).w*(sqAt ss n).h:=by
 rw [List.take_succ_eq_append_getElem h,area_append]
 unfold sqAt
 rw [zD,zF h]
 simp [area]
theorem planeTo_any (l:List Int) (W d:Nat) (ss:List Sq):∀ n,n<=ss.length->(planeTo none l W d ss n).length<=3*n+d*area (ss.take n)
 | 0,_=>by simp [planeTo]
 | n+1,h=>by
  have h1:=planeTo_any l W d ss n (by omega)
  have h2:=small_any (sqPart l W (sqAt ss n)) (sqAt ss n).w (sqAt ss n).h d
  rw [sqPart_len] at h2
  rw [planeTo_succ,zC,area_takeS (by omega),Nat.mul_add d]
  have h3:(tileW none (sqPart l W (sqAt ss n)) (sqAt ss n).w (sqAt ss n).h d).length=costK (bestKind (sqPart l W (sqAt ss n)) (sqAt ss n).w (sqAt ss n).h d) (sqPart l W (sqAt ss n)) (sqAt ss n).w (sqAt ss n).h d:=rfl
  omega
theorem planeBits_any (l:List Int) (W H d:Nat):(planeBits none l W H d).length<=3*(gridL W H 16).length+d*(W*H):=by
 have h:=planeTo_any l W d (gridL W H 16) _ (zQ _)
 rw [zN,area_grid (by decide)] at h
 exact h
theorem flat_part {N W H:Nat} {c:Int} (hN:N=W*H) {s:Sq} (hx:s.x+s.w<=W) (hy:s.y+s.h<=H):sqPart (List.replicate N c) W s=List.replicate (s.w*s.h) c:=by
 rw [List.eq_replicate_iff]
 refine ⟨sqPart_len _ _ _,fun v hv => ?_⟩
 unfold sqPart partF at hv
 obtain ⟨k,hk,hv⟩:=List.mem_flatMap.1 hv
 obtain ⟨i,hi,rfl⟩:=List.mem_map.1 hv
 have h1:=List.mem_range.1 hk
 have h2:=List.mem_range.1 hi
 have h3:(s.y+k)*W+(s.x+i)<N:=by
  have h4:=Nat.mul_le_mul_right W (show s.y+k+1<=H by omega)
  rw [Nat.succ_mul,zY H,<-hN] at h4
  omega
 rw [zD,List.getElem?_replicate,if_pos h3]
 rfl
theorem planeTo_flat {N W H d:Nat} {c:Int} (hN:N=W*H) {ss:List Sq} (hs:∀ s∈ss,1<=s.w/\1<=s.h/\s.x+s.w<=W/\s.y+s.h<=H):∀ n,n<=ss.length->(planeTo none (List.replicate N c) W d ss n).length<=(3+d)*n
 | 0,_=>by simp [planeTo]
 | n+1,h=>by
  have h1:=planeTo_flat (d:=d) (c:=c) hN hs n (by omega)
  obtain ⟨a1,a2,a3,a4⟩:=hs _ (sqAt_mem' (i:=n) (ss:=ss) (by omega))
  have h2:=small_flat (c:=c) (n:=(sqAt ss n).w*(sqAt ss n).h) (d:=d) (W:=(sqAt ss n).w) (H:=(sqAt ss n).h) (Nat.mul_pos a1 a2)
  rw [planeTo_succ,zC,Nat.mul_succ,flat_part hN a3 a4]
  have h3:(tileW none (List.replicate ((sqAt ss n).w*(sqAt ss n).h) c) (sqAt ss n).w (sqAt ss n).h d).length=costK (bestKind (List.replicate ((sqAt ss n).w*(sqAt ss n).h) c) (sqAt ss n).w (sqAt ss n).h d) (List.replicate ((sqAt ss n).w*(sqAt ss n).h) c) (sqAt ss n).w (sqAt ss n).h d:=rfl
  omega
theorem planeBits_flat {N W H d:Nat} {c:Int} (hN:N=W*H):(planeBits none (List.replicate N c) W H d).length<=(3+d)*(gridL W H 16).length :=
 planeTo_flat hN (fun s hs=>⟨(grid_ok (by decide) s hs).1,(grid_ok (by decide) s hs).2.2.1,(grid_in (by decide) s hs).1,(grid_in (by decide) s hs).2⟩) _ (zQ _)
theorem planesTo_le {q:PicD} {B:Nat}:∀ n,(∀ j,j<n->(planeBits none (q.P.getD j []) q.W q.H q.d).length<=B)->(planesTo none q n).length<=n*B
 | 0,_=>by simp [planesTo]
 | n+1,h=>by
  have h1:=planesTo_le n (fun j hj=>h j (by omega))
  have h2:=h n (by omega)
  rw [planesTo_succ,zC,Nat.succ_mul]
  omega
theorem hueB_eq (p:PicD):(hueB p).length=22+(planesTo none (foreH (bestH p 4) p) p.P.length).length:=by
 unfold hueB hueBits
 simp only [zC,headL_len,bitsOf_len]
 omega
theorem hueB_any (p:PicD):(hueB p).length<=22+p.P.length*(3*(gridL p.W p.H 16).length+p.d*(p.W*p.H)):=by
 have:=planesTo_le (q:=foreH (bestH p 4) p) p.P.length (fun j _=>planeBits_any _ _ _ _)
 rw [hueB_eq]
 exact Nat.add_le_add_left this 22
def Flat (p:PicD):Prop:=∀ j,j<p.P.length->∃ c,p.P.getD j []=List.replicate (p.W*p.H) c
theorem flat_pt {p:PicD} (h:Flat p) {i:Nat} (hi:i<p.W*p.H):pt4 p.P i=pt4 p.P 0:=by
 have e:∀ j,(p.P.getD j []).getD i 0=(p.P.getD j []).getD 0 0:=fun j=>by
  rcases zZ j p.P.length with hj | hj
  ·obtain ⟨c,hc⟩:=h j hj
   rw [hc,zD,zD,List.getElem?_replicate,List.getElem?_replicate,if_pos hi,if_pos (by omega)]
  ·rw [zD (l:=p.P),List.getElem?_eq_none hj]
   rfl
 rw [pt4_eq,pt4_eq,e,e,e,e]
theorem flat_fore {p:PicD} (h:Flat p) (k:Nat):Flat (foreH k p):=by
 intro j hj
 have aa:j<p.P.length:=by rw [<-show (foreH k p).P.length=p.P.length from turnPl_len _ _ _];exact hj
 refine ⟨(at4 (foreP k p.d) (pt4 p.P 0)).getD j 0,?_⟩
 show (turnPl (foreP k p.d) p.P (p.W*p.H)).getD j []=List.replicate (p.W*p.H) _
 rw [turnPl_get aa,List.eq_replicate_iff]
 refine ⟨by simp,fun v hv => ?_⟩
 obtain ⟨i,hi,rfl⟩:=List.mem_map.1 hv
 rw [flat_pt h (List.mem_range.1 hi)]
theorem hueB_flat {p:PicD} (h:Flat p):(hueB p).length<=22+p.P.length*((3+p.d)*(gridL p.W p.H 16).length):=by
 have hf:=flat_fore h (bestH p 4)
 have:=planesTo_le (q:=foreH (bestH p 4) p) (B:=(3+p.d)*(gridL p.W p.H 16).length) p.P.length (fun j hj=>by
  obtain ⟨c,hc⟩:=hf j (by rw [show (foreH (bestH p 4) p).P.length=p.P.length from turnPl_len _ _ _];exact hj)
  rw [hc]
  exact planeBits_flat rfl)
 rw [hueB_eq]
 exact Nat.add_le_add_left this 22
theorem enc_le (p:PicD):(stBytes (encBits p)).length<=(stBytes (hueB p)).length:=by
 unfold encBits
 split
 ·omega
 ·exact zQ _
theorem enc_bytes (p:PicD) {M:Nat} (h:(hueB p).length<=M):8*(stBytes (encBits p)).length<=M+7+32:=by
 have h1:=enc_le p
 rw [stBytes_len (hueB p),stBody_len] at h1
 omega
def flPl (P:List (List Int)) (N:Nat) (v:Nat->Int) (i k j:Nat):List Int:=if j<i then List.replicate N (v j) else if j=i then List.replicate k (v i)++(P.getD i []).drop k else P.getD j []
def flD (p:PicD) (v:Nat->Int) (i k:Nat):PicD:=⟨p.W,p.H,p.d,(List.range p.P.length).map (flPl p.P (p.W*p.H) v i k)⟩
theorem flD_len (p:PicD) (v:Nat->Int) (i k:Nat):(flD p v i k).P.length=p.P.length:=by simp [flD]
theorem flD_get {p:PicD} {v:Nat->Int} {i k j:Nat} (hj:j<p.P.length):(flD p v i k).P.getD j []=flPl p.P (p.W*p.H) v i k j:=by
 unfold flD
 rw [zD,zW,List.getElem?_range hj]
 rfl
theorem flPl_len {p:PicD} (h:p.Ok) {v:Nat->Int} {i k j:Nat} (hj:j<p.P.length) (hk:k<=p.W*p.H):(flPl p.P (p.W*p.H) v i k j).length=p.W*p.H:=by
 have hl:=fun a (ha:a<p.P.length)=>h.len _ (getD_mem_or (P:=p.P) ha)
 unfold flPl
 split
 ·simp
 ·split
  ·rename_i e
   subst e
   rw [zC,zV,zO,hl j hj]
   omega
  ·exact hl j hj
theorem flD_ok {p:PicD} (h:p.Ok) {v:Nat->Int} (hv:∀ j,0<=v j/\v j<2^p.d) {i k:Nat} (hk:k<=p.W*p.H):(flD p v i k).Ok where
 w0:=h.w0
 w1:=h.w1
 h0:=h.h0
 h1:=h.h1
 d0:=h.d0
 d1:=h.d1
 n0:=by rw [flD_len];exact h.n0
 n1:=by rw [flD_len];exact h.n1
 len:=fun l hl=>by
  obtain ⟨j,hj,rfl⟩:=List.mem_map.1 hl
  exact flPl_len h (List.mem_range.1 hj) hk
 smp:=fun l hl=>by
  obtain ⟨j,hj,rfl⟩:=List.mem_map.1 hl
  have hs:=fun a (ha:a<p.P.length)=>h.smp _ (getD_mem_or (P:=p.P) ha)
  have aa:=List.mem_range.1 hj
  intro x hx
  unfold flPl at hx
  split at hx
  ·rw [List.eq_of_mem_replicate hx]
   exact hv j
  ·split at hx
   ·rename_i e
    subst e
    rcases zP.1 hx with h1 | h1
    ·rw [List.eq_of_mem_replicate h1]
     exact hv j
    ·exact hs j aa x (List.mem_of_mem_drop h1)
   ·exact hs j aa x hx
theorem flD_start (p:PicD) (v:Nat->Int):flD p v 0 0=p:=by
 obtain ⟨W,H,d,P⟩:=p
 unfold flD
 congr 1
 apply List.ext_getElem?
 intro j
 rcases zZ j P.length with hj | hj
 ·rw [zW,List.getElem?_range hj,zF hj]
  unfold flPl
  simp only [Option.map_some,Nat.not_lt_zero,if_false,List.replicate_zero,List.nil_append,List.drop_zero,ite_self,Option.some.injEq]
  split
  ·rename_i e
   subst e
   rw [zD,zF hj]
   rfl
  ·rw [zD,zF hj]
   rfl
 ·rw [List.getElem?_eq_none (by simpa using hj),List.getElem?_eq_none hj]
theorem flD_step {p:PicD} (h:p.Ok) (v:Nat->Int) {i k:Nat} (hi:i<p.P.length) (hk:k<p.W*p.H) :
  (flD p v i (k+1)).P=(flD p v i k).P.set i (((flD p v i k).P.getD i []).set k (v i)):=by
 have hl:=h.len _ (getD_mem_or (P:=p.P) hi)
 rw [flD_get hi]
 apply List.ext_getElem?
 intro j
 rw [List.getElem?_set]
 rcases zZ j p.P.length with hj | hj
 ·have e1:∀ k',(flD p v i k').P[j]?=some (flPl p.P (p.W*p.H) v i k' j):=fun k'=>by
   unfold flD
   rw [zW,List.getElem?_range hj]
   rfl
  rw [e1,e1]
  by_cases e:i=j
  ·subst e
   rw [if_pos rfl,if_pos (by rw [flD_len];exact hj)]
   congr 1
   unfold flPl
   rw [if_neg (by omega),if_pos rfl,if_neg (by omega),if_pos rfl,List.set_append_right _ _ (by simp),zV,Nat.sub_self,List.replicate_succ',zH]
   congr 1
   have aa:k<(p.P.getD i []).length:=by rw [hl];exact hk
   rw [List.drop_eq_getElem_cons aa]
   rfl
  ·rw [if_neg e]
   congr 1
   unfold flPl
   rw [if_neg (Ne.symm e),if_neg (Ne.symm e)]
 ·have e1:∀ k',(flD p v i k').P[j]?=none:=fun k'=>List.getElem?_eq_none (by rw [flD_len];exact hj)
  rw [e1,e1,if_neg (by omega)]
theorem flD_next {p:PicD} (h:p.Ok) (v:Nat->Int) {i:Nat} (hi:i<p.P.length):flD p v i (p.W*p.H)=flD p v (i+1) 0:=by
 have hl:=h.len _ (getD_mem_or (P:=p.P) hi)
 unfold flD
 congr 1
 apply List.map_congr_left
 intro j hj
 unfold flPl
 by_cases h1:j<i
 ·rw [if_pos h1,if_pos (by omega)]
 ·rw [if_neg h1]
  by_cases h2:j=i
  ·subst h2
   rw [if_pos rfl,if_pos (by omega),List.drop_eq_nil_of_le (by omega),List.append_nil]
  ·rw [if_neg h2,if_neg (by omega)]
   by_cases h3:j=i+1
   ·subst h3
    rw [if_pos rfl]
    simp
   ·rw [if_neg h3]
theorem flD_flat (p:PicD) (v:Nat->Int):Flat (flD p v p.P.length 0):=fun j hj=>by
 rw [flD_len] at hj
 rw [flD_get hj]
 unfold flPl
 rw [if_pos hj]
 exact ⟨v j,rfl⟩
def pS:PicD:=⟨1,1,8,[[200]]⟩
theorem pS_ok:pS.Ok where
 w0:=by decide
 w1:=by decide
 h0:=by decide
 h1:=by decide
 d0:=by decide
 d1:=by decide
 n0:=by decide
 n1:=by decide
 len:=fun x hx=>by simp [pS] at hx;subst hx;rfl
 smp:=fun x hx=>by simp [pS] at hx;subst hx;exact fun v hv=>by simp at hv;subst hv;decide
theorem pS_may:hueMay (some 1) 0 pS=true:=by kernel_rfl
theorem pS_body:stBody (hueBits (some 1) 0 pS)=[0,7,0,228,0]:=by kernel_rfl
def tS:List Nat:=hueBits (some 1) 0 pS
theorem pS_r:stR (some 1) (some 0) 0 pS=.ok tS:=by
 have h1:kindB (some 0) pS=true:=by kernel_rfl
 have h2:hueMay (some 1) (kindH (some 0) pS) pS=true:=pS_may
 unfold stR
 rw [if_pos rfl,if_pos h1,if_pos h2]
 rfl
theorem pS_r1:stR none (some 1) 0 pS=.bad 1:=by
 have h1:kindB (some 1) pS=false:=by kernel_rfl
 unfold stR
 rw [if_pos rfl,if_neg (by rw [h1];simp)]
theorem lit1_at {w:World} {s t:Nat} (h1:Blk w s 3 #[.int .i64 200]) (h2:Blk w t 22 #[.slice (some ⟨s,0,none⟩) 1 1]) :
  PicAt w pS t 0 (fun _=>some ⟨s,0,none⟩) (fun _=>1) [s,t] where
 ok:=pS_ok
 gG:=by simp
 lt:=fun x hx=>by simp at hx;rcases hx with rfl | rfl;exact h1.lt;exact h2.lt
 cell:=fun i hi=>by
  simp [pS] at hi
  subst hi
  exact h2.cell 0
 cells:=fun i hi=>by
  simp [pS] at hi
  subst hi
  refine ⟨fun _=>⟨s,0,rfl,h1.lt,fun k a hk => ?_⟩⟩
  rw [Nat.zero_add,h1.cell k]
  simp [pS] at hk
  match k,hk with
  | 0,hk=>simp at hk;subst hk;rfl
 blk:=fun i hi ad e=>by injection e with e;subst e;simp
 cap:=fun i hi=>by simp [pS]
theorem allBits_append (ds es:List Nat):allBits (ds++es)=allBits ds++(List.range (8*es.length)).map fun i=>bitAt (ds++es) (8*ds.length+i):=by
 unfold allBits
 rw [zC,Nat.mul_add,List.range_add,zM,List.map_map]
 congr 1
 apply List.map_congr_left
 intro i hi
 have h:=List.mem_range.1 hi
 unfold bitAt
 rw [zD,zD,List.getElem?_append_left (by omega)]
theorem Ahead.more {ds bs:List Nat} (es:List Nat) (h:Ahead ds 0 bs):Ahead (ds++es) 0 bs:=by
 obtain ⟨r,hr⟩:=h
 rw [List.drop_zero] at hr
 exact ⟨r++(List.range (8*es.length)).map fun i=>bitAt (ds++es) (8*ds.length+i),by rw [List.drop_zero,allBits_append,hr,zH]⟩
theorem slook_ok {w:World} {A:Option Addr} {cap:Nat} {ds:List Nat} (hc:Cells b8 w A ds) (hd:∀ d∈ds,d<256) (h3:3<=ds.length) (hl:ds.length<=1000000004) (hcap:ds.length<=cap) (hcm:cap<=9223372036854775807)
  {W H d n:Nat} (w0:1<=W) (w1:W<=64) (h0:1<=H) (h1:H<=64) (d0:1<=d) (d1:d<=16) (n0:1<=n) (n1:n<=4) (ha:Ahead ds 0 (headL W H d n)) :
  Calls Tryz.prog 61 #[.slice A ds.length cap] w fun e w'=>e=.returned (.tuple #[.int .i64 W,.int .i64 H,.int .i64 d,.int .i64 n,.int .i64 0])/\Chg [] w w':=by
 have ab:=rnew_ok w A cap ds hc hd (by omega) hcap hcm
 have aa:=fun w' b F (h:IsRd w' b F ds 0)=>ghead_ok h w0 w1 h0 h1 d0 d1 n0 n1 ha
 obtain ⟨N,hN⟩:=zX (ds.length)
 rw [<-hN] at ab h3 hl ⊢
 have t1:decide ((N:Int)*8<18)=false:=zA (by omega)
 have ah:=hid aa
 have ae:=hid ab
 clear ab aa hN ha hd hc
 go_enter Tryz.func61,Tryz.ntmps61
 go_wp2_with fail
 refine ae.out.mono ?_
 rintro e w2 ⟨b,F,rfl,ac,af,hF⟩
 have aa:=ah.out w2 b F ac
 have ai:=ac.mem
 go_wp2_with fail
 refine aa.mono ?_
 rintro e w3 ⟨rfl,ag,ad⟩
 go_wp2_with fail
 refine bodyPost_ret (v:=.tuple #[.int .i64 W,.int .i64 H,.int .i64 d,.int .i64 n,.int .i64 0]) (by simp [results,Tryz.results61,go_sem]) rfl ?_
 exact ⟨rfl,af.trans ad (fun x hx => .inr (by simp at hx;subst hx;exact hF _ ai))⟩
def litS (a c:Nat):Value:=.agg #[.int .i64 1,.int .i64 1,.int .i64 8,.slice (some ⟨a,0,none⟩) 1 c]
theorem litS_eq (a c:Nat):picV pS a 0 c=litS a c:=by simp [picV,pS,litS]
section
variable {w:World} {a:Nat} {B:Nat->Option Addr} {c:Nat->Nat} {G:List Nat}
theorem sk_by (hA:PicAt w pS a 0 B c G) (hp:Pts w):Calls Tryz.prog 17 #[litS a 1,.int .i64 0,.int .i64 0,.int .i64 1] w (StPost w (.ok tS)):=by
 have h:=sby_ok (way:=some 1) (fun k e=>by injection e with e;omega) (kind:=some 0) (fun k e=>by injection e with e;omega) (fun k e=>by injection e with e;omega) (colours:=0) (by decide) 1 hA hp
 rw [litS_eq,pS_r] at h
 exact h
theorem sk_by1 (hA:PicAt w pS a 0 B c G) (hp:Pts w):Calls Tryz.prog 17 #[litS a 1,.int .i64 1,.int .i64 0,.int .i64 (-1)] w (StPost w (.bad 1)):=by
 have h:=sby_ok (way:=none) (fun k e=>by cases e) (kind:=some 1) (fun k e=>by injection e with e;omega) (fun k e=>by injection e with e;omega) (colours:=0) (by decide) 1 hA hp
 rw [litS_eq,pS_r1] at h
 exact h
theorem tS_len:(stBytes tS).length=9:=by rw [stBytes_len,show stBody tS=[0,7,0,228,0] from pS_body];rfl
theorem sk_dec (hbit:∀ b∈tS,b<2) (hp:Pts w) {A:Option Addr} {cap:Nat} (hc:Cells b8 w A (stBytes tS)) (hcap:9<=cap) (hcm:cap<=9223372036854775807) :
  Calls Tryz.prog 25 #[.slice A 9 cap] w fun e w'=>∃ gP capP xs gs,e=.returned (.tuple #[litS gP capP,.int .i64 0])/\PicOwn w' pS gP capP xs gs/\Chg [] w w':=by
 have h:=sdecode_hue (way:=some 1) (fun k e=>by injection e with e;omega) (k:=0) pS_ok (by decide) (by kernel_rfl) pS_may hbit hp (A:=A) (cap:=cap) hc (by rw [show (stBytes (hueBits (some 1) 0 pS)).length=9 from tS_len];exact hcap) hcm
 rw [show (stBytes (hueBits (some 1) 0 pS)).length=9 from tS_len] at h
 refine Calls.mono h ?_
 rintro e w' ⟨gP,capP,xs,gs,rfl,ho,ch,_⟩
 exact ⟨gP,capP,xs,gs,by rw [litS_eq],ho,ch⟩
theorem sk_look (hbit:∀ b∈tS,b<2) {A:Option Addr} {cap:Nat} (hc:Cells b8 w A (stBytes tS)) (hcap:9<=cap) (hcm:cap<=9223372036854775807) :
  Calls Tryz.prog 61 #[.slice A 9 cap] w fun e w'=>e=.returned (.tuple #[.int .i64 1,.int .i64 1,.int .i64 8,.int .i64 1,.int .i64 0])/\Chg [] w w':=by
 have hd:∀ d∈stBytes tS,d<256:=fun d hd=>by
  unfold stBytes at hd
  rcases zP.1 hd with h1 | h1
  ·exact packed_dig (mem_padF hbit) d h1
  ·exact big4_lt _ d h1
 have ha:Ahead (stBytes tS) 0 (headL 1 1 8 1):=by
  have h1:=body_ahead hbit
  have e:tS=headL 1 1 8 1++(bitsOf 0 1++(bitsOf 0 3++planesTo (some 1) (foreH 0 pS) 1)):=rfl
  have h2:Ahead (stBody tS) 0 (headL 1 1 8 1):=by
   rw [e] at h1 ⊢
   exact h1.left
  exact h2.more _
 have h:=slook_ok hc hd (by rw [tS_len];decide) (by rw [tS_len];decide) (by rw [tS_len];exact hcap) hcm (by decide) (by decide) (by decide) (by decide) (by decide) (by decide) (by decide) (by decide) ha
 rw [tS_len] at h
 exact h
theorem sk_same {g' capP:Nat} {xs:List Value} {gs:List Nat} (hA:PicAt w pS a 0 B c G) (ho:PicOwn w pS g' capP xs gs):Calls Tryz.prog 26 #[litS a 1,litS g' capP] w fun e w'=>e=.returned (.bool true)/\Chg [] w w':=by
 have h:=picSame_ok 1 hA capP ho.at_ rfl rfl rfl rfl
 rw [litS_eq,litS_eq] at h
 exact h
end
theorem sknown_ok (w:World) (hp:Pts w):Calls Tryz.prog 21 #[] w fun e w'=>e=.returned (.bool true)/\Chg [] w w':=by
 obtain ⟨u1,ah⟩:=zX (w.alloc (.cells #[.int .i64 200] 3))
 obtain ⟨u2,ai⟩:=zX (u1.alloc (.cells #[.slice (some ⟨w.heap.size,0,none⟩) 1 1] 22))
 obtain ⟨u3,au⟩:=zX (u2.alloc (.cells #[.int .i64 1,.int .i64 1,.int .i64 8,.slice (some ⟨w.heap.size+1,0,none⟩) 1 1] 27))
 have z1:u1.heap.size=w.heap.size+1:=by rw [ah,alloc_size]
 have z2:u2.heap.size=w.heap.size+1+1:=by rw [ai,alloc_size,z1]
 have c1:Chg [] w u1:=by rw [ah];exact (zR [] w).alloc _
 have c2:Chg [] u1 u2:=by rw [ai];exact (zR [] u1).alloc _
 have c3:Chg [] u2 u3:=by rw [au];exact (zR [] u2).alloc _
 have b1:Blk u3 (w.heap.size) 3 #[.int .i64 200]:=(((show Blk u1 (w.heap.size) 3 #[.int .i64 200] from by rw [ah];exact Blk.new _ _ _).chg c2 (by simp)).chg c3 (by simp))
 have b2:Blk u3 (w.heap.size+1) 22 #[.slice (some ⟨w.heap.size,0,none⟩) 1 1]:=((show Blk u2 (w.heap.size+1) 22 #[.slice (some ⟨w.heap.size,0,none⟩) 1 1] from by rw [ai,<-z1];exact Blk.new _ _ _).chg c3 (by simp))
 have b3:Box u3 (w.heap.size+1+1) (.int .i64 1) (.int .i64 1) (.int .i64 8) (.slice (some ⟨w.heap.size+1,0,none⟩) 1 1):=⟨by rw [au,<-z2];exact Blk.new _ _ _⟩
 have hC:Chg [] w u3:=(c1.trans_same c2).trans_same c3
 have hA:PicAt u3 pS (w.heap.size+1) 0 (fun _=>some ⟨w.heap.size,0,none⟩) (fun _=>1) [w.heap.size,w.heap.size+1]:=lit1_at b1 b2
 have ax:=fun wz (hz:Chg [] u3 wz)=>sk_by (hA.same hz) ((hp.same hC).same hz)
 have ae:=fun wz (hz:Chg [] u3 wz)=>sk_by1 (hA.same hz) ((hp.same hC).same hz)
 have af:=fun wz (hz:Chg [] u3 wz) gP ab xs gs (ho:PicOwn wz pS gP ab xs gs)=>sk_same (hA.same hz) ho
 unfold StPost litS at ax ae
 unfold litS at af
 have aM:Hid (u3=(((w.alloc (.cells #[.int .i64 200] 3)).alloc (.cells #[.slice (some ⟨w.heap.size,0,none⟩) 1 1] 22)).alloc (.cells #[.int .i64 1,.int .i64 1,.int .i64 8,.slice (some ⟨w.heap.size+1,0,none⟩) 1 1] 27))):=hid (by rw [au,ai,ah])
 have HC:=hid hC
 have az:=hid b3
 have aO:=hid ax
 have aC:=hid ae
 have aQ:=hid af
 have HP:=hid (hp.same hC)
 clear ah ai au z1 z2 c1 c2 c3 b1 b2 b3 hC hA ax ae af hp
 go_enter Tryz.func21,Tryz.ntmps21
 go_wp2_with fail
 rw [<-aM.out]
 refine (aO.out u3 (zR _ _)).mono ?_
 rintro e w4 ⟨v4,G4,rfl,ao,av,aU,ad⟩
 obtain ⟨g4,c4,rfl,aj,-⟩:=own_row (N:=9) ao (by rw [zE];exact tS_len) (by decide)
 obtain ⟨cc,aG,ap,aH,aq⟩:=aj.cells_b8
 have aD:c4=cc:=by injection aG
 clear aG
 subst aD
 rw [tS_len] at ap
 have ak:=hid (sk_dec ad (HP.out.same av) aq ap aH)
 have al:=hid (fun wz (hz:Chg [] w4 wz)=>sk_look ad (aq.same hz) ap aH)
 unfold litS at ak
 have ag:=hid av
 have aB:=hid aq
 obtain ⟨a0,a1,a2,a3⟩:=(az.out.same av).cells
 clear ao av aU ad aj aq
 go_wp2_with fail
 refine ak.out.mono ?_
 rintro e w5 ⟨gP,ab,xs,gs,rfl,aE,aF⟩
 obtain ⟨w6,ar⟩:=zX (w5.alloc (.cells #[.int .i64 1,.int .i64 1,.int .i64 8,.slice (some ⟨gP,0,none⟩) 1 ab] 27))
 obtain ⟨X,hX⟩:=zX (w5.heap.size)
 have aA:Chg [] w5 w6:=by rw [ar];exact (zR [] w5).alloc _
 have aI:Box w6 X (.int .i64 1) (.int .i64 1) (.int .i64 8) (.slice (some ⟨gP,0,none⟩) 1 ab):=⟨by rw [ar,hX];exact Blk.new w5 _ _⟩
 have aP:=hid (aE.same aA)
 have am:=hid (aF.trans_same aA)
 have aR:=hid aI
 have aN:=hid ar
 have HX:=hid hX
 clear aE aF aA aI ar hX a0 a1 a2 a3
 go_wp2_with fail
 rw [<-aN.out,<-HX.out]
 refine (al.out w6 am.out).mono ?_
 rintro e w7 ⟨rfl,ay⟩
 have ac:=hid (am.out.trans_same ay)
 have aJ:=hid ay
 obtain ⟨a0,a1,a2,a3⟩:=((az.out.same ag.out).same ac.out).cells
 clear ay
 go_wp2_with fail
 refine (aC.out w7 (ag.out.trans_same ac.out)).mono ?_
 rintro e w8 ⟨rfl,aw⟩
 have an:=ac.out.trans_same aw
 obtain ⟨a0,a1,a2,a3⟩:=((az.out.same ag.out).same an).cells
 obtain ⟨x0,x1,x2,x3⟩:=((aR.out.same aJ.out).same aw).cells
 have af:=aQ.out w8 (ag.out.trans_same an) gP ab xs gs ((aP.out.same aJ.out).same aw)
 have aX:=fun w'=>slice_to (P:=Tryz.prog) Tryz.underlying39 (some ⟨g4,0,none⟩) 9 c4 5 (by decide) ap w' (size_u8 w')
 have aV:(Go.convert 39 9 (.slice (some ⟨g4,0,none⟩) 5 c4)).run Tryz.prog w8=.ok (.string ⟨#[0,7,0,228,0]⟩) w8:=by
  have aK:=aB.out.same an
  have e9:stBytes tS=[0,7,0,228,0]++big4 (crcN [0,7,0,228,0]):=by
   unfold stBytes
   rw [show stBody tS=[0,7,0,228,0] from pS_body]
  rw [e9] at aK
  obtain ⟨g,o,eg,aW,aa⟩:=aK.ex (by simp)
  injection eg with eg
  injection eg with eg eo
  subst eg
  subst eo
  exact run_convert_bytes_arg w8 39 5 Tryz.underlying39 Tryz.underlying5 _ _ 5 c4 [0,7,0,228,0] rfl (fun i hi=>by
   match i,hi with
   | 0,_=>exact aa 0 0 rfl
   | 1,_=>exact aa 1 7 rfl
   | 2,_=>exact aa 2 0 rfl
   | 3,_=>exact aa 3 228 rfl
   | 4,_=>exact aa 4 0 rfl) 9 Tryz.underlying9
 have aS:=hid (ag.out.trans_same an)
 clear aw an
 go_wp2_with fail
 refine af.mono ?_
 rintro e w9 ⟨rfl,aL⟩
 have aT:=hid aL
 clear af aL
 go_wp2_with fail
 go_ret
 exact ⟨rfl,HC.out.trans_same (aS.out.trans_same aT.out)⟩
theorem ssmall_ok (w:World) (A:Option Addr) (cap:Nat) (L:List Int) (hc:Cells vi w A L) (hin:∀ x∈L,In64 x) (hlen:L.length<=9223372036854775807) (z:Int) (hz:In64 z) (hp:Pts w) :
  Calls Tryz.prog 6 #[.slice A L.length cap,.int .i64 z] w fun e w'=>e=.returned (.bool true)/\Chg [] w w':=by
 have af:=tape_new w A cap L hc hin hlen
 have HP:=hid hp
 clear hc hin hlen hp
 go_enter Tryz.func6,Tryz.ntmps6
 go_wp2_with fail
 refine af.mono ?_
 rintro e w1 ⟨b,rfl,bR,bO,hb⟩
 have bN:=pic_tp w1 b cap 0 40 A L bR (by omega) (by omega)
 clear af bR
 go_wp2_with fail
 refine bN.mono ?_
 rintro e w2 ⟨p,gP,ad,xs,gs,cH,rfl,ce,cq,ab,-,bQ,-⟩
 have aO:Chg [] w w2:=bO.trans bQ fun x hx => .inr (by simp at hx;omega)
 have ay:=ab.ok
 have aT:=ab.at_
 have bi:=aT.lt
 obtain ⟨w3,aD⟩:=zX (w2.alloc (.cells #[.int .i64 p.W,.int .i64 p.H,.int .i64 p.d,.slice (some ⟨gP,0,none⟩) p.P.length ad] 27))
 obtain ⟨X5,aX⟩:=zX (w2.heap.size)
 have aw:Chg [] w2 w3:=by rw [aD];exact (zR [] w2).alloc _
 have an:Box w3 X5 (.int .i64 p.W) (.int .i64 p.H) (.int .i64 p.d) (.slice (some ⟨gP,0,none⟩) p.P.length ad):=⟨by rw [aD,aX];exact Blk.new w2 _ _⟩
 have aS:=copy24_ok ad (aT.same aw)
 have a9:∀ (E:List Nat) wz,Chg E w3 wz->(∀ x∈E,w3.heap.size<=x)->Calls Tryz.prog 27 #[picV p gP 0 ad] wz (StPost wz (.ok (encBits p))):=fun E wz hz hE=>by
  have h3:Chg [] w3 wz:=(zR [] w3).trans hz (fun x hx => .inr (hE x hx))
  exact sencode_ok ad ((aT.same aw).same h3) ((HP.out.same (aO.trans_same aw)).same h3)
 have aq:∀ (E:List Nat) wz q gQ aa ys hs,Chg E w3 wz->(∀ x∈E,w3.heap.size<=x)->PicOwn wz q gQ aa ys hs->Calls Tryz.prog 27 #[picV q gQ 0 aa] wz (StPost wz (.ok (encBits q))):=fun E wz q gQ aa ys hs hz hE ho=>by
  have h3:Chg [] w3 wz:=(zR [] w3).trans hz (fun x hx => .inr (hE x hx))
  exact sencode_ok aa ho.at_ ((HP.out.same (aO.trans_same aw)).same h3)
 have bP:=fun wz (hz:Chg [] w3 wz)=>sknown_ok wz ((HP.out.same (aO.trans_same aw)).same hz)
 obtain ⟨v,hv⟩:∃ v:Nat->Int,v=fun j:Nat=>wrapI (IntKind.i64.wrap (z+(j:Int))) p.d:=⟨_,rfl⟩
 have bM:∀ j,0<=v j/\v j<2^p.d:=fun j=>by rw [hv];exact ⟨wrapI_lo _ _,wrapI_hi _ _⟩
 have bX:∀ (j:Nat) wz s,IntKind.i64.wrap (z+(j:Int))=s->Calls Tryz.prog 29 #[.int .i64 s,.int .i64 p.d] wz fun e w'=>e=.returned (.int .i64 (v j))/\wz=w':=fun j wz s hs=>by
  have h:=wrap24_ok s p.d wz ay.d0 ay.d1
  have e:v j=wrapI s p.d:=by rw [hv,<-hs]
  rw [e]
  exact h
 obtain ⟨n,hn⟩:=zX (p.P.length)
 obtain ⟨N,hN⟩:=zX (p.W*p.H)
 have cI:1<=n:=by rw [hn];exact ay.n0
 have bT:n<=4:=by rw [hn];exact ay.n1
 have cK:N<=4096:=by rw [hN];exact ay.area
 unfold picV at aS a9 aq ⊢
 rw [<-hn] at aS a9 an aD ⊢
 have HN:Hid (n=p.P.length/\N=p.W*p.H):=hid ⟨hn,hN⟩
 have az:=hid ay
 have ct:=hid bM
 have cb:=hid aS
 have cE:=hid a9
 have bn:=hid aq
 have cz:=hid bP
 have cg:=hid bX
 have cA:=hid aD
 have cs:=hid aX
 have b5:=hid an
 have cB:=hid (aO.trans_same aw)
 obtain ⟨a0,a1,a2,a3⟩:=an.cells
 rw [aD,aX] at a0 a1 a2 a3
 clear bN ab bO bQ hb aO aT bi aS a9 aq bP bX hv bM aD aX aw an hn hN ay
 go_wp2_with fail
 rw [<-cA.out,<-cs.out]
 refine cb.out.mono ?_
 rintro e w4 ⟨gQ,aa,ys,hs,rfl,ab,bY,af⟩
 clear a0 a1 a2 a3
 obtain ⟨w5,a4⟩:=zX (w4.alloc (.cells #[.int .i64 p.W,.int .i64 p.H,.int .i64 p.d,.slice (some ⟨gQ,0,none⟩) n aa] 27))
 obtain ⟨X6,ba⟩:=zX (w4.heap.size)
 have bE:Chg [] w4 w5:=by rw [a4];exact (zR [] w4).alloc _
 have aA:Box w5 X6 (.int .i64 p.W) (.int .i64 p.H) (.int .i64 p.d) (.slice (some ⟨gQ,0,none⟩) n aa):=⟨by rw [a4,ba];exact Blk.new w4 _ _⟩
 have aM:∀ x∈gQ::hs,x<X6:=fun x hx=>by
  rw [ba]
  rcases zJ.1 hx with rfl | h1
  ·exact ab.ltP
  ·exact ab.pl.lt x h1
 have bI:Hid (X5<w3.heap.size):=hid b5.out.blk.lt
 have bf:=hid af
 have br:=hid aM
 have cw:Hid (PicOwn w5 (flD p v 0 0) gQ aa ys hs):=hid (by rw [flD_start];exact ab.same bE)
 have bx:=hid aA
 have cu:=hid (bY.trans_same bE)
 have cd:=hid a4
 have cc:=hid ba
 clear ab bY af a4 ba bE aA aM
 go_wp2_with fail
 rw [<-cd.out,<-cc.out]
 go_loopg [7,8] n (fun j v7 v8 wr=>∃ i:Nat,v7=.int .i64 i/\i+j=n/\Hid (PicOwn wr (flD p v i 0) gQ aa ys hs)/\Hid (Chg hs w5 wr))
 case atStart=>exact ⟨0,rfl,by omega,cw,hid (zR _ _)⟩
 case round =>
  obtain ⟨i,rfl,c7,HO,bc⟩:=hrel
  have ai:X6∉hs:=fun hm=>by have:=br.out X6 (by simp [hm]);omega
  rcases gk with _ | j
  ·obtain rfl:i=n:=by omega
   have t1:decide ((i:Int)<(i:Int))=false:=by simp
   have aA:=bx.out.chg bc.out ai
   obtain ⟨b0,b1,b2,b3⟩:=aA.cells
   have aQ:∀ x∈hs,w3.heap.size<=x:=fun x hx=>bf.out x (by simp [hx])
   have ae:Chg hs w3 wr:=(cu.out.mono (F':=hs) (by simp)).trans_same bc.out
   have hC:Chg [] w3 wr:=(zR [] w3).trans ae (fun x hx => .inr (aQ x hx))
   have aK:X5∉hs:=fun hm=>by have:=aQ X5 hm;have:=bI.out;omega
   have an:=b5.out.chg ae aK
   obtain ⟨a0,a1,a2,a3⟩:=an.cells
   have aH:=cE.out hs wr ae aQ
   have au:=enc_bytes p (hueB_any p)
   have bm:=enc_bytes (flD p v i 0) (hueB_flat (by
    have h:=flD_flat p v
    rw [<-HN.out.1] at h
    exact h))
   rw [grid16_count,<-HN.out.1] at au
   rw [flD_len,<-HN.out.1,grid16_count] at bm
   have ac:8*(stBytes (encBits (flD p v i 0))).length<=22+i*((3+p.d)*((p.H+15) / 16*((p.W+15) / 16)))+7+32:=bm
   have al:∀ wz,Chg [] wr wz->Calls Tryz.prog 27 #[.agg #[.int .i64 p.W,.int .i64 p.H,.int .i64 p.d,.slice (some ⟨gQ,0,none⟩) i aa]] wz (StPost wz (.ok (encBits (flD p v i 0)))):=fun wz hz=>by
    have h:=bn.out hs wz (flD p v i 0) gQ aa ys hs (ae.trans_same (hz.mono (by simp))) aQ (HO.out.same hz)
    rw [flD_len,<-HN.out.1] at h
    exact h
   obtain ⟨W,hW⟩:=zX (p.W)
   obtain ⟨H,hH⟩:=zX (p.H)
   obtain ⟨d,hd⟩:=zX (p.d)
   have bB:W<=64:=by rw [hW];exact az.out.w1
   have bC:H<=64:=by rw [hH];exact az.out.h1
   have bg:d<=16:=by rw [hd];exact az.out.d1
   obtain ⟨M1,b4⟩:=zX (encBits p)
   obtain ⟨M2,bZ⟩:=zX (encBits (flD p v i 0))
   rw [<-bZ] at al ac
   rw [<-b4] at au aH
   rw [<-hW,<-hH,<-hd] at au ac aH al
   rw [<-hW] at a0 b0
   rw [<-hH] at a1 b1
   rw [<-hd] at a2 b2
   obtain ⟨aZ,aR⟩:=zX (W+15)
   obtain ⟨bb,aL⟩:=zX (H+15)
   obtain ⟨av,aI⟩:=zX (aZ / 16)
   obtain ⟨ax,aE⟩:=zX (bb / 16)
   rw [<-aR,<-aL,<-aI,<-aE] at au ac
   obtain ⟨m,hm⟩:=zX (av*ax)
   obtain ⟨tl,aF⟩:=zX (m*i)
   obtain ⟨nw,ah⟩:=zX (i*W)
   obtain ⟨aY,aj⟩:=zX (nw*H)
   obtain ⟨nd,aU⟩:=zX (aY*d)
   obtain ⟨d3,bL⟩:=zX (3+d)
   obtain ⟨td,a6⟩:=zX (tl*d3)
   have f1:i*(3*(ax*av)+d*(W*H))=3*tl+nd:=by
    rw [aF,hm,aU,aj,ah]
    simp only [Nat.mul_add,zY,Nat.mul_left_comm,Nat.mul_assoc]
   have f2:i*((3+d)*(ax*av))=td:=by
    rw [a6,bL,aF,hm]
    simp only [Nat.mul_add,Nat.add_mul,zY,Nat.mul_left_comm,Nat.mul_assoc]
   rw [f1] at au
   rw [f2] at ac
   have g1:(W:Int)+15=(aZ:Int):=by omega
   have g2:(H:Int)+15=(bb:Int):=by omega
   have g3:(aZ:Int) / 16=(av:Int):=by omega
   have g4:(bb:Int) / 16=(ax:Int):=by omega
   have cP:(aZ:Int).tdiv 16=(av:Int):=by rw [Int.tdiv_eq_ediv_of_nonneg (by omega)];exact g3
   have c1:(bb:Int).tdiv 16=(ax:Int):=by rw [Int.tdiv_eq_ediv_of_nonneg (by omega)];exact g4
   have g5:(av:Int)*(ax:Int)=(m:Int):=by rw [hm];simp
   have g6:(m:Int)*(i:Int)=(tl:Int):=by rw [aF];simp
   have aG:av<=4:=by omega
   have aP:ax<=4:=by omega
   have bp:m<=16:=by rw [hm];exact zL aG aP
   have aN:tl<=64:=by rw [aF];exact zL bp bT
   have bo:nw<=256:=by rw [ah];exact zL bT bB
   have aJ:aY<=16384:=by rw [aj];exact zL bo bC
   have cr:nd<=262144:=by rw [aU];exact zL aJ bg
   have bd:d3<=19:=by omega
   have cC:td<=1216:=by rw [a6];exact zL aN bd
   have g7:(i:Int)*(W:Int)=(nw:Int):=by rw [ah];simp
   have g8:(nw:Int)*(H:Int)=(aY:Int):=by rw [aj];simp
   have g9:(aY:Int)*(d:Int)=(nd:Int):=by rw [aU];simp
   have cW:(3:Int)+(d:Int)=(d3:Int):=by omega
   have c8:(tl:Int)*(d3:Int)=(td:Int):=by rw [a6];simp
   obtain ⟨la,bG⟩:=zX ((stBytes M1).length)
   obtain ⟨lb,bK⟩:=zX ((stBytes M2).length)
   rw [<-bG] at au
   rw [<-bK] at ac
   obtain ⟨a7,bk⟩:=zX (8*la)
   obtain ⟨a8,bu⟩:=zX (8*lb)
   obtain ⟨t3,ca⟩:=zX (3*tl)
   obtain ⟨a5,be⟩:=zX (22+t3)
   obtain ⟨s0,cn⟩:=zX (a5+nd)
   obtain ⟨s7,cf⟩:=zX (s0+7)
   obtain ⟨aV,bD⟩:=zX (s7+32)
   obtain ⟨r0,cG⟩:=zX (22+td)
   obtain ⟨r7,cp⟩:=zX (r0+7)
   obtain ⟨aW,bJ⟩:=zX (r7+32)
   have k1:(8:Int)*(la:Int)=(a7:Int):=by omega
   have k2:(8:Int)*(lb:Int)=(a8:Int):=by omega
   have k3:(3:Int)*(tl:Int)=(t3:Int):=by omega
   have k4:(22:Int)+(t3:Int)=(a5:Int):=by omega
   have k5:(a5:Int)+(nd:Int)=(s0:Int):=by omega
   have k6:(s0:Int)+7=(s7:Int):=by omega
   have k7:(s7:Int)+32=(aV:Int):=by omega
   have k8:(22:Int)+(td:Int)=(r0:Int):=by omega
   have k9:(r0:Int)+7=(r7:Int):=by omega
   have cR:(r7:Int)+32=(aW:Int):=by omega
   have l1:decide ((a7:Int)<=(aV:Int))=true:=zB (by omega)
   have l2:decide ((a8:Int)<=(aW:Int))=true:=zB (by omega)
   have cX:decide (a7<=aV)=true:=zB (by omega)
   have cV:decide (a8<=aW)=true:=zB (by omega)
   have q1:a7<=300000:=by omega
   have q2:a8<=2000:=by omega
   have q3:t3<=192:=by omega
   have q4:a5<=214:=by omega
   have q5:s0<=300000:=by omega
   have q6:s7<=300007:=by omega
   have q7:aV<=300039:=by omega
   have q8:r0<=1238:=by omega
   have q9:r7<=1245:=by omega
   have cS:aW<=1277:=by omega
   have cZ:la<=300000:=by omega
   have c5:lb<=2000:=by omega
   unfold StPost at aH al
   have cF:=hid al
   have cj:=hid bG
   have ci:=hid bK
   have bS:=hid hC
   have bw:=hid (show Box wr X5 (.int .i64 W) (.int .i64 H) (.int .i64 d) (.slice (some ⟨gP,0,none⟩) i ad) from by rw [hW,hH,hd];exact an)
   have bz:=hid (show Box wr X6 (.int .i64 W) (.int .i64 H) (.int .i64 d) (.slice (some ⟨gQ,0,none⟩) i aa) from by rw [hW,hH,hd];exact aA)
   clear aQ ae hC aK an aA au bm ac al b4 bZ aR aL aI aE hm aF ah aj aU bL a6 f1 f2 bG bK bk bu ca be cn cf bD cG cp bJ hW hH hd ai
   go_wp2_with fail
   refine aH.mono ?_
   rintro e cv ⟨c0,cM,rfl,am,ak,-,-⟩
   obtain ⟨c2,cN,rfl,-,-,-⟩:=am.open_map
   rw [<-cj.out]
   obtain ⟨b0,b1,b2,b3⟩:=(bz.out.same ak).cells
   have al:=cF.out cv ak
   have ap:=hid ak
   clear am ak aH
   go_wp2_with fail
   refine al.mono ?_
   rintro e co ⟨cT,cJ,rfl,ao,ag,-,-⟩
   obtain ⟨cY,cL,rfl,-,-,-⟩:=ao.open_map
   rw [<-ci.out]
   obtain ⟨a0,a1,a2,a3⟩:=(bw.out.same (ap.out.trans_same ag)).cells
   have b9:=cz.out co (bS.out.trans_same (ap.out.trans_same ag))
   have bs:=hid (bS.out.trans_same (ap.out.trans_same ag))
   clear ao ag al b0 b1 b2 b3
   go_wp2_with fail
   refine b9.mono ?_
   rintro e c6 ⟨rfl,bH⟩
   go_wp2_with fail
   go_ret
   exact ⟨rfl,cB.out.trans_same (bs.out.trans_same bH)⟩
  ·have hi:i<n:=by omega
   have t1:decide ((i:Int)<(n:Int))=true:=zB (by omega)
   obtain ⟨b0,b1,b2,b3⟩:=(bx.out.chg bc.out ai).cells
   obtain ⟨wo,cm⟩:=zX (wr)
   subst cm
   go_wp2_with fail
   clear b0 b1 b2 b3
   go_loopg [8] N (fun j2 v8 wr2=>∃ k:Nat,v8=.int .i64 k/\k+j2=N/\Hid (PicOwn wr2 (flD p v i k) gQ aa ys hs)/\Hid (Chg hs w5 wr2))
   case atStart=>exact ⟨0,rfl,by omega,HO,bc⟩
   case round =>
    obtain ⟨k,rfl,cQ,HK,bv⟩:=hrel
    obtain ⟨b0,b1,b2,b3⟩:=(bx.out.chg bv.out ai).cells
    have ar:i<(flD p v i k).P.length:=by rw [flD_len,<-HN.out.1];exact hi
    obtain ⟨g3,c3,e1,e2,e3,e4⟩:=HK.out.plane ar
    have aB:(flD p v i k).W*(flD p v i k).H=N:=HN.out.2.symm
    rw [aB] at e1 e3 e4
    rcases gk with _ | j2
    ·obtain rfl:k=N:=by omega
     have t2:decide ((k:Int)<(k:Int))=false:=by simp
     have aC:=HK.out
     rw [HN.out.2,flD_next az.out v (by rw [<-HN.out.1];exact hi)] at aC
     have bF:=hid aC
     clear aC e1 e2 e3 aB ar
     go_wp2_with fail
     go_roundg j
     case measure=>omega
     case rel=>exact ⟨i+1,by go_num,by omega,bF,bv⟩
    ·have hk:k<N:=by omega
     have t2:decide ((k:Int)<(N:Int))=true:=zB (by omega)
     have hlen:((flD p v i k).P.getD i []).length=N:=by rw [<-aB];exact HK.out.ok.len _ (getD_mem_or ar)
     obtain ⟨s,bA⟩:=zX (IntKind.i64.wrap (z+(i:Int)))
     have bj:=fun wz=>cg.out i wz s bA.symm
     have cO:IntKind.i64.wrap (z+(i:Int))=s:=bA.symm
     obtain ⟨vv,bh⟩:=zX (v i)
     rw [<-bh] at bj
     have cD:Hid (∀ wz,PicOwn wz (flD p v i k) gQ aa ys hs->∃ cl,wz.cell? ⟨g3,k,none⟩=some cl/\PicOwn (wz.setCell ⟨g3,k,none⟩ (.int .i64 vv)) (flD p v i (k+1)) gQ aa ys hs):=hid (fun wz ho=>by
      obtain ⟨g4,c4,d1,d2,d3,d4⟩:=ho.plane ar
      rw [aB] at d1 d3 d4
      have eg:g3=g4:=by
       have:=e2.symm.trans d2
       injection this
      subst eg
      obtain ⟨_,_,_,_,cx,bl⟩:=d3.open_map
      refine ⟨_,cx k _ (zF (by rw [hlen];exact hk)),?_⟩
      rw [bh]
      exact ho.sample d1 d2 ar d3 (by rw [hlen];exact hk) (flD_ok az.out ct.out (by rw [<-HN.out.2];omega)) (flD_step az.out v (by rw [<-HN.out.1];exact hi) (by rw [<-HN.out.2];exact hk)))
     have cy:Hid (∀ wz,PicOwn wz (flD p v i k) gQ aa ys hs->∃ g4 c4,g4=g3/\Row wz 3 (.slice (some ⟨g4,0,none⟩) N c4) g4 (((flD p v i k).P.getD i []).map vi)):=hid (fun wz ho=>by
      obtain ⟨g4,c4,d1,d2,d3,d4⟩:=ho.plane ar
      rw [aB] at d1 d3 d4
      have eg:g3=g4:=by
       have:=e2.symm.trans d2
       injection this
      exact ⟨g4,c4,eg.symm,d3⟩)
     have bU:g3∈hs:=List.mem_of_getElem? e2
     have b7:=hid bU
     clear bA bh e1 e2 e3 hlen ar aB bU
     go_wp2_with fail
     refine wp_region_quiet_tail 13 (by kernel_rfl) (by kernel_rfl) ?_
     simp only [List.take_succ_cons,List.take_zero,List.drop_succ_cons,List.drop_zero]
     repeat (go_big_quiet_step ((go_at_call 29;exact Calls.quiet_of_same ((bj _).mono (fun _ _ h=>⟨h.1,h.2.symm⟩)))))
     refine wpQuiet_nil ?_
     intro _ b6
     obtain ⟨nq,rfl⟩:=b6
     have bq:=HK.out.same ((zR [] wr).drewN nq)
     obtain ⟨cl,cU,aC⟩:=cD.out _ bq
     obtain ⟨g4,c4,rfl,bW⟩:=cy.out _ bq
     obtain ⟨_,_,_,_,_,bl⟩:=bW.open_map
     have ck:=bl k
     have bV:Chg hs w5 ((wr.drewN nq).setCell ⟨g4,k,none⟩ (.int .i64 vv)):=(bv.out.drewN nq).setCell (.inl b7.out) _
     have bF:=hid aC
     have ch:=hid bV
     clear bq aC bV bW bl b0 b1 b2 b3 e4 bj
     go_wp2_with fail
     go_roundg j2
     case measure=>omega
     case rel=>exact ⟨k+1,by go_num,by omega,bF,ch⟩
end Go.Proofs.YtepjepkgcdfboaaGreatDoor
