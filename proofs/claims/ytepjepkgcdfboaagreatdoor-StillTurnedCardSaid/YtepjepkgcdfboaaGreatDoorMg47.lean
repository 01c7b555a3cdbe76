/- package palette by its contracts: Put. -/
import Derived.Test.YtepjepkgcdfboaaGreatDoorMg44
import Derived.Test.YtepjepkgcdfboaaGreatDoorMg46
import Derived.Test.YtepjepkgcdfboaaGreatDoorMg48
set_option linter.unusedVariables false
set_option linter.unusedSimpArgs false
set_option maxHeartbeats 4000000
set_option maxRecDepth 100000
namespace Go.Proofs.YtepjepkgcdfboaaGreatDoor
open Go.RowKit
open Go.RowKit Go.Maps
theorem b2q {c:List Int} {d i:Nat} (hi:i<c.length):a1v (c.take (i+1)) d=a1v (c.take i) d++a0b (c.getD i 0).toNat d:=by
 have e:c.getD i 0=c[i]:=by rw [zD,zF hi];rfl
 rw [List.take_succ_eq_append_getElem hi,e]
 unfold a1v
 rw [List.flatMap_append]
 simp
def b2o (w:World) (b:Nat) (F bs ts:List Nat) (e:Ending) (w':World):Prop:=e=.returned (.int .i64 0)/\∃ F',a2n w' b F' (bs++ts)/\a0u F F' w w'
theorem e4n {w:World} {n d:Nat} {C:List (List Int)} {g o:Nat} {B:Nat->Option Addr} {c:Nat->Nat} {G:List Nat} (cap:Nat) (h:b1a w n d C g o B c G) (b:Nat) (F bs:List Nat) (hw:a2n w b F bs) (hG:∀ x∈G,x∉F) (hbs:bs.length<17179869184) :
  Calls Tryz.prog 23 #[.pointer (some ⟨b,0,none⟩),d1i n d C.length g o cap] w (b2o w b F bs (a2q n d C)):=by
 have ab:=h.ok
 have ai:∀ w',Chg [] w w'->_:=fun w' (hc':Chg [] w w')=>c7q cap (h.same hc')
 have br:=ab.n0
 have a9:=ab.n1
 have bk:=ab.d0
 have ap:=ab.d1
 have ag:=fun k (hk:k<=C.length)=>b3v (d:=d) ab.len k hk
 have ad:∀ k i,k<C.length->i<n->∃ v:Nat,(C.getD k []).getD i 0=(v:Int)/\v<2^d:=fun k i hk hi=>by
  obtain ⟨s0,s1⟩:=b0l (ab.smp _ (a0n hk)) i
  refine ⟨((C.getD k []).getD i 0).toNat,(Int.toNat_of_nonneg s0).symm,?_⟩
  have e2:((2^d:Nat):Int)=(2:Int)^d:=by simp
  omega
 have ay:∀ k,k<C.length->∃ b q,∀ wz,Chg F w wz->wz.cell? ⟨g,o+k,none⟩=some (.slice (some ⟨b,q,none⟩) n (c k))/\∀ i,i<n->wz.cell? ⟨b,q+i,none⟩=some (.int .i64 ((C.getD k []).getD i 0)):=fun k hk=>by
  obtain ⟨b',q,e,hb,aF⟩:=h.at_ hk
  refine ⟨b',q,fun wz hz => ?_⟩
  have a3:=(h.chg hz hG).cell k hk
  rw [e] at a3
  exact ⟨a3,fun i hi=>(World.cell?_of_block (w:=w) (hz.block b' (h.lt b' hb) (hG b' hb))).trans (aF i hi)⟩
 have aj:∀ k,k<C.length->(C.getD k []).length=n:=fun k hk=>h.len hk
 obtain ⟨m,hm⟩:=zX (C.length)
 have bo:1<=m:=by rw [hm];exact ab.c0
 have bp:m<=256:=by rw [hm];exact ab.c1
 have ac:a2q n d C=a0b (d-1) 4++(a0b (n-1) 2++(a0b (m-1) 8++a3o d C m)):=by rw [hm];rfl
 unfold b2o d1i at *
 rw [ac]
 rw [<-hm] at ai ag ad ay aj ⊢
 obtain ⟨D1,aW⟩:∃ D1,d=D1+1:=⟨d-1,by omega⟩
 obtain ⟨N1,aT⟩:∃ N1,n=N1+1:=⟨n-1,by omega⟩
 obtain ⟨M1,aU⟩:∃ M1,m=M1+1:=⟨m-1,by omega⟩
 have e1:(d:Int)-1=(D1:Int):=by omega
 have e2:(n:Int)-1=(N1:Int):=by omega
 have e3:(m:Int)-1=(M1:Int):=by omega
 have u1:IntKind.u64.wrap (D1:Int)=(D1:Int):=IntWalk.u64_in _ (by omega)
 have u2:IntKind.u64.wrap (N1:Int)=(N1:Int):=IntWalk.u64_in _ (by omega)
 have u3:IntKind.u64.wrap (M1:Int)=(M1:Int):=IntWalk.u64_in _ (by omega)
 rw [show d-1=D1 by omega,show n-1=N1 by omega,show m-1=M1 by omega]
 obtain ⟨w1,am⟩:=zX (w.alloc (.cells #[.int .i64 d,.int .i64 n,.slice (some ⟨g,o,none⟩) m cap] 45))
 obtain ⟨X,hX⟩:=zX (w.heap.size)
 have aD:c4m w1 X (.int .i64 d) (.int .i64 n) (.slice (some ⟨g,o,none⟩) m cap):=⟨by rw [am,hX];exact Blk.new w _ _⟩
 have aS:Chg [] w w1:=by rw [am];exact (zR [] w).alloc _
 have a8:X∉F:=fun hm'=>by have:=hw.lt X hm';omega
 have ba:=hid am
 have HX:=hid hX
 have ak:=hid aD
 have ax:=hid aS
 have aA:=hid ai
 have az:=hid ag
 have aB:=hid ad
 have bb:=hid ay
 have av:=hid aj
 have HW:=hid hw
 have an:=hid a8
 have bd:D1<16:=by omega
 have bu:N1<4:=by omega
 have aM:M1<256:=by omega
 have bl:=hid aW
 have bq:=hid aT
 have bn:=hid aU
 have bg:=hid hm
 obtain ⟨a0,a1,a2⟩:=aD.cells
 clear am hX aD aS ai ag ad ay aj hw a8 ab h hG ac hm aW aT aU
 go_enter Tryz.func23,Tryz.ntmps23
 go_wp2_with fail
 rw [<-ba.out,<-HX.out]
 refine (aA.out w1 ax.out).mono ?_
 rintro e w2 ⟨rfl,al⟩
 obtain ⟨a0,a1,a2⟩:=(ak.out.same al).cells
 have aP:=a0t w2 b F bs D1 4 ((HW.out.same ax.out).same al) (by decide) (by omega) (by omega)
 have au:=hid (ax.out.tq al)
 have aa:=hid al
 clear al
 go_wp2_with fail
 refine aP.mono ?_
 rintro e w3 ⟨rfl,F3,aN,aq⟩
 have aL:=a0t w3 b F3 _ N1 2 aN (by decide) (by omega) (by rw [zC,a0a];omega)
 obtain ⟨a0,a1,a2⟩:=((ak.out.same aa.out).chg aq.chg an.out).cells
 clear aP
 go_wp2_with fail
 refine aL.mono ?_
 rintro e w4 ⟨rfl,F4,aZ,aJ⟩
 have aX:=a0t w4 b F4 _ M1 8 aZ (by decide) (by omega) (by rw [zC,zC,a0a,a0a];omega)
 have ae:=aq.trans aJ
 obtain ⟨a0,a1,a2⟩:=((ak.out.same aa.out).chg ae.chg an.out).cells
 clear aL
 go_wp2_with fail
 refine aX.mono ?_
 rintro e w5 ⟨rfl,F5,a4,a6⟩
 have af:=ae.trans a6
 obtain ⟨a0,a1,a2⟩:=((ak.out.same aa.out).chg af.chg an.out).cells
 have bi:Hid (a2n w5 b F5 (bs++(a0b D1 4++(a0b N1 2++(a0b M1 8++a3o d C 0))))):=hid (by
  have e0:a3o d C 0=[]:=rfl
  rw [e0]
  simpa only [zH,List.append_nil] using a4)
 have be:=hid af
 clear aX aN aZ a4 aq aJ a6 ae af
 go_wp2_with fail
 go_loopg [6,8,34,38,39,40] m (fun j v6 v8 v34 v38 v39 v40 wr=>∃ (k:Nat) (Fk:List Nat),v34=.int .i64 k/\k+j=m/\Hid (a2n wr b Fk (bs++(a0b D1 4++(a0b N1 2++(a0b M1 8++a3o d C k)))))/\Hid (a0u F Fk w2 wr))
 case atStart=>exact ⟨0,F5,rfl,by omega,bi,be⟩
 case round =>
  obtain ⟨k,Fk,rfl,bm,a5,aG⟩:=hrel
  rcases gk with _ | j
  ·obtain rfl:k=m:=by omega
   have t1:decide ((k:Int)<(k:Int))=false:=by simp
   go_wp2_with fail
   go_ret
   exact ⟨rfl,Fk,a5.out,a0u.pre au.out aG.out⟩
  ·have hk:k<m:=by omega
   have t1:decide ((k:Int)<(m:Int))=true:=zB (by omega)
   obtain ⟨b',q,aw⟩:=bb.out k hk
   have f1:=(aw wr ((au.out.mono (by simp)).trans aG.out.chg (fun x hx => .inl hx))).1
   have bc:=hid aw
   clear aw
   obtain ⟨wo,bj⟩:=zX (wr)
   subst bj
   obtain ⟨cc,aC⟩:=zX (C.getD k [])
   have ag:=av.out k hk
   rw [<-aC] at ag
   have aY:=hid aC
   have aH:=hid ag
   clear aC ag
   go_wp2_with fail
   go_loopg [8,40] n (fun j2 v8 v40 wr=>∃ (i:Nat) (Fi:List Nat),v40=.int .i64 i/\i+j2=n/\Hid (a2n wr b Fi (bs++(a0b D1 4++(a0b N1 2++(a0b M1 8++(a3o d C k++a1v (cc.take i) d))))))/\Hid (a0u F Fi w2 wr))
   case atStart=>exact ⟨0,Fk,rfl,by omega,hid (by simpa [a1v] using a5.out),aG⟩
   case round =>
    obtain ⟨i,Fi,rfl,bv,aK,ao⟩:=hrel
    rcases gk with _ | j2
    ·obtain rfl:i=n:=by omega
     have t2:decide ((i:Int)<(i:Int))=false:=by simp
     go_wp2_with fail
     go_roundg j
     case measure=>omega
     case rel =>
      refine ⟨k+1,Fi,by go_num,by omega,hid ?_,ao⟩
      rw [a6n (by rw [<-bg.out];exact hk),<-aY.out]
      have:=aK.out
      rw [zT (by rw [aH.out];exact zQ _)] at this
      exact this
    ·have hi:i<n:=by omega
     have t2:decide ((i:Int)<(n:Int))=true:=zB (by omega)
     have aV:Chg F w wr:=(au.out.mono (by simp)).trans ao.out.chg (fun x hx => .inl hx)
     have f2:=(bc.out wr aV).2 i hi
     obtain ⟨v,hv,aE⟩:=aB.out k i hk hi
     rw [hv] at f2
     have aI:v<65536:=Nat.lt_of_lt_of_le aE (by have:=Nat.pow_le_pow_right (n:=2) (by decide) ap;exact this)
     have u4:IntKind.u64.wrap (v:Int)=(v:Int):=IntWalk.u64_in _ (by omega)
     obtain ⟨a0,a1,a2⟩:=((ak.out.same aa.out).chg ao.out.chg an.out).cells
     have aR:=az.out k (by omega)
     have ah:=a0t wr b Fi _ v d aK.out (by omega) aE (by
      simp only [zC,a0a,b4t,aR]
      have h1:d*n<=16*4:=zL ap a9
      have h2:d*n*k<=16*4*256:=zL h1 (by omega)
      have h3:d*(cc.take i).length<=16*4:=zL ap (by rw [zI];have:=aH.out;omega)
      omega)
     have aQ:bs++(a0b D1 4++(a0b N1 2++(a0b M1 8++(a3o d C k++a1v (cc.take i) d))))++a0b v d=bs++(a0b D1 4++(a0b N1 2++(a0b M1 8++(a3o d C k++a1v (cc.take (i+1)) d)))):=by
      rw [b2q (by rw [aH.out];exact hi),aY.out,hv]
      simp only [zH,Int.toNat_natCast]
     rw [aQ] at ah
     have ar:=hid ah
     clear ah aQ hv aR aV aE
     go_wp2_with fail
     refine ar.out.mono ?_
     rintro e w7 ⟨rfl,F7,aO,a7⟩
     have bf:=hid aO
     have bh:=hid (ao.out.trans a7)
     clear aO a7
     go_wp2_with fail
     go_roundg j2
     case measure=>omega
     case rel=>exact ⟨i+1,F7,by go_num,by omega,bf,bh⟩
def c6b (way:Option Nat) (colours:Nat) (w:World) (b:Nat) (F bs:List Nat) (p:a2a) (e:Ending) (w':World):Prop :=
 if (a2y p).length<=colours then
  (if b5l way p=true then e=.returned (.int .i64 0)/\∃ F',a2n w' b F' (bs++(a0b 1 1++(a2q p.P.length p.d (a2y p)++a1y way (a3q p) p.W p.H (a7i (a2y p).length))))/\a0u F F' w w'
   else e=.returned (.int .i64 6)/\∃ F',a0u F F' w w')
 else e=.returned (.int .i64 7)/\∃ F',a0u F F' w w'
theorem e4z {way:Option Nat} (hway:b1b way) {colours:Nat} {w:World} {p:a2a} {g o:Nat} {B:Nat->Option Addr} {c:Nat->Nat} {G:List Nat} (cap:Nat) (h:a4l w p g o B c G) (c0:1<=colours) (c1:colours<=256)
  (b:Nat) (F bs:List Nat) (hw:a2n w b F bs) (hG:∀ x∈G,x∉F) (hp:Pts w) (h0F:0∉F) (hbs:bs.length<1000000) :
  Calls Tryz.prog 49 #[.pointer (some ⟨b,0,none⟩),a6y p g o cap,.int .i64 colours,.int .i64 (c5y way)] w (c6b way colours w b F bs p):=by
 have am:=h.ok
 have aF:∀ w',Chg [] w w'->_:=fun w' (hc':Chg [] w w')=>f4c cap (h.same hc') colours c0 c1
 have ap:∀ w' (gL:Nat) (aa:Nat) xs gs,Chg [] w w'->b3f w' p.P.length p.d (a2y p) gL aa xs gs->_:=fun w' gL aa xs gs (hc':Chg [] w w') ab=>e4r cap (h.same hc') aa ab.at_
 unfold e1c at aF
 obtain ⟨n,hn⟩:=zX (p.P.length)
 obtain ⟨m,hm⟩:=zX ((a2y p).length)
 obtain ⟨N,hN⟩:=zX (p.W*p.H)
 have bL:N<=4096:=by rw [hN];exact am.area
 have aq:=c2b am
 have ak:=fun (h9:(a2y p).length<=256)=>b8e (c2b am h9)
 have ax:=fun (h9:(a2y p).length<=256)=>d0q (p:=p) h9
 have bC:1<=m:=by
  rw [hm]
  have:ptC p 0∈a2y p:=(a7h p _).2 ⟨0,am.pos,rfl⟩
  exact List.length_pos_of_mem this
 have aA:=a9r p
 unfold d1i a6y at *
 rw [<-hm] at aF ap ak ax
 rw [<-hN] at ap aA
 rw [<-hn] at aF ap ak ⊢
 obtain ⟨w1,aP⟩:=zX (w.alloc (.cells #[.int .i64 p.W,.int .i64 p.H,.int .i64 p.d,.slice (some ⟨g,o,none⟩) n cap] 27))
 obtain ⟨X,hX⟩:=zX (w.heap.size)
 have a7:Box w1 X (.int .i64 p.W) (.int .i64 p.H) (.int .i64 p.d) (.slice (some ⟨g,o,none⟩) n cap):=⟨by rw [aP,hX];exact Blk.new w _ _⟩
 have bk:Chg [] w w1:=by rw [aP];exact (zR [] w).alloc _
 have br:X∉F:=fun hm'=>by have:=hw.lt X hm';omega
 obtain ⟨wi,aT⟩:=zX (c5y way)
 have aH:∀ (wz:World) (A:Option Addr) (aj:Nat) (F' af:List Nat),m<=256->a0d vi wz A (a3q p)->N<=aj->a2n wz b F' af->Apt A (a3q p) F'->Pts wz->0∉F'->af.length<17179869184->Calls Tryz.prog 89 #[.pointer (some ⟨b,0,none⟩),.slice A N aj,.int .i64 p.W,.int .i64 p.H,.int .i64 (a7i m),.int .i64 wi] wz (a7s way wz b F' af (a3q p) p.W p.H (a7i m)):=by
  intro wz A aj F' af aY e3 e4 e5 e6 e7 e8 e9
  have:=c2k hway aj (W:=p.W) (H:=p.H) (by rw [aA,hN]) (ax aY) e3 (by rw [aA];exact e4) am.w0 am.w1 am.h0 am.h1 (b0o aY).1 (b0o aY).2.1 b F' af e5 e6 e7 e8 e9
  rw [aA,<-aT] at this
  exact this
 have ag:Hid (∀ e w',(if m<=colours then (if a6c way (a3q p) p.W p.H (a7i m)=true then e=.returned (.int .i64 0)/\∃ F',a2n w' b F' (bs++(a0b 1 1++(a2q n p.d (a2y p)++a1y way (a3q p) p.W p.H (a7i m))))/\a0u F F' w w'
   else e=.returned (.int .i64 6)/\∃ F',a0u F F' w w') else e=.returned (.int .i64 7)/\∃ F',a0u F F' w w')->c6b way colours w b F bs p e w'):=hid (fun e w' h=>by unfold c6b b5l;rw [<-hm,<-hn];exact h)
 rw [<-aT]
 have bu:=hid aP
 have HX:=hid hX
 have bl:=hid a7
 have ao:=hid bk
 have bE:=hid aF
 have bA:=hid ap
 have bG:=hid aH
 have HW:=hid hw
 have HP:=hid hp
 have bq:=hid h0F
 have bB:=hid br
 have a5:=hid ak
 have bO:=hid aA
 have bd:=hid hw.lt
 have bN:=hid hG
 have bM:=hid h.lt
 have aB:∀ (wz:World) (gL aa:Nat) (xs:List Value) (gs F' af:List Nat),b3f wz n p.d (a2y p) gL aa xs gs->a2n wz b F' af->(∀ x∈gL::gs,x∉F')->af.length<17179869184->Calls Tryz.prog 23 #[.pointer (some ⟨b,0,none⟩),.agg #[.int .i64 p.d,.int .i64 n,.slice (some ⟨gL,0,none⟩) m aa]] wz (b2o wz b F' af (a2q n p.d (a2y p))):=by
  intro wz gL aa xs gs F' af e1 e2 e3 e4
  have:=e4n aa e1.at_ b F' af e2 e3 e4
  unfold d1i at this
  rw [<-hm] at this
  exact this
 have bH:=hid aB
 obtain ⟨a0,a1,a2,a3⟩:=a7.cells
 clear aP hX a7 bk aF ap aH hw hp h0F br ak aA aB am h ax aq hn hm hN aT hG hway
 go_enter Tryz.func49,Tryz.ntmps49
 go_wp2_with fail
 rw [<-bu.out,<-HX.out]
 refine (bE.out w1 ao.out).mono ?_
 rintro e w2 ⟨aM,aO⟩
 rcases aO with ⟨bj,gL,aa,xs,gs,rfl,ab,aC⟩ | ⟨bo,rfl⟩
 ·obtain ⟨w3,az⟩:=zX (w2.alloc (.cells #[.int .i64 p.d,.int .i64 n,.slice (some ⟨gL,0,none⟩) m aa] 45))
  obtain ⟨X9,aE⟩:=zX (w2.heap.size)
  have av:Chg [] w2 w3:=by rw [az];exact (zR [] w2).alloc _
  have aQ:c4m w3 X9 (.int .i64 p.d) (.int .i64 n) (.slice (some ⟨gL,0,none⟩) m aa):=⟨by rw [az,aE];exact Blk.new w2 _ _⟩
  have an:Chg [] w1 w3:=aM.tq av
  obtain ⟨a0,a1,a2,a3⟩:=(bl.out.same an).cells
  obtain ⟨k0,k1,k2⟩:=aQ.cells
  have ap:=bA.out w3 gL aa xs gs (ao.out.tq an) (by
   have:=ao.out
   exact ⟨ab.ok,ab.row.chg av (by simp),ab.pl.same av⟩)
  have a6:=hid (show b3f w3 n p.d (a2y p) gL aa xs gs from ⟨ab.ok,ab.row.chg av (by simp),ab.pl.same av⟩)
  have bp:=hid bj
  have ai:m<=256:=by omega
  have al:Hid (∀ x∈gL::gs,w.heap.size<=x/\x<w3.heap.size):=hid (fun x hx=>⟨by have:=aC x hx;have:=ao.out.size;omega,by
   have:=av.size
   rcases zJ.1 hx with rfl | h1
   ·have:=ab.row.lt;omega
   ·have:=ab.pl.lt x h1;omega⟩)
  have bg:=hid aQ
  have a4:=hid an
  have aL:Hid (w.heap.size<=X9/\X9<w3.heap.size):=hid ⟨by rw [aE];have:=aM.size;have:=ao.out.size;omega,aQ.blk.lt⟩
  have bw:=hid az
  have bD:=hid aE
  have aS:=hid ap
  rw [az,aE] at k0 k1 k2
  rw [az] at a0 a1 a2 a3
  clear aM ab aC az aE av aQ an ap bj
  go_wp2_with fail
  rw [<-bw.out,<-bD.out]
  refine aS.out.mono ?_
  rintro e w4 ⟨g9,rfl,au,aX,bK⟩
  have aW:Chg [] w w4:=(ao.out.tq a4.out).tq aX
  have aD:=HW.out.same aW
  have bh:=a0t w4 b F bs 1 1 aD (by decide) (by decide) (by omega)
  have aU:=hid aW
  have ah:=hid aX
  have aZ:=hid au
  have a9:Hid (w.heap.size<=g9/\g9<w4.heap.size):=hid ⟨by have:=(ao.out.tq a4.out).size;omega,au.lt⟩
  clear au aX bK aW aD a0 a1 a2 a3 k0 k1 k2
  go_wp2_with fail
  refine bh.mono ?_
  rintro e w5 ⟨rfl,F5,bn,aN⟩
  have ar:∀ Fk wr,a0u F Fk w4 wr->∀ x,w.heap.size<=x->x<w4.heap.size->x∉Fk:=fun Fk wr hg x h1 h2 hm=>by
   rcases hg.new x hm with h3 | h3
   ·have:=bd.out x h3;omega
   ·omega
  have aG:∀ x,w.heap.size<=x->x∉F:=fun x h1 hm=>by have:=bd.out x hm;omega
  have aV:=hid ar
  have aK:=hid aG
  have aB:=bH.out w5 gL aa xs gs F5 _ (by
    have h0:=a6.out
    have hc:=(Chg.mono (F':=F) ah.out (by simp)).trans aN.chg (fun x hx => .inl hx)
    exact ⟨h0.ok,h0.row.chg hc (aG _ (al.out gL (by simp)).1),h0.pl.chg hc (fun x hx=>aG x (al.out x (by simp [hx])).1)⟩) bn
   (fun x hx=>ar F5 w5 aN x (al.out x hx).1 (by have:=(al.out x hx).2;have:=ah.out.size;omega)) (by rw [zC,a0a];omega)
  unfold b2o at aB
  obtain ⟨k0,k1,k2⟩:=((bg.out.same ah.out).chg aN.chg (aG X9 aL.out.1)).cells
  have bx:=hid aN
  clear bh bn aN ar aG
  go_wp2_with fail
  refine aB.mono ?_
  rintro e w6 ⟨rfl,F6,be,bm⟩
  have ac:=bx.out.trans bm
  have bi:a0d vi w6 (some ⟨g9,0,none⟩) (a3q p):=by
   have h0:=aZ.out.chg ac.chg (by simpa using aK.out g9 a9.out.1)
   exact h0.toOwn.cells
  have aJ:Apt (some (⟨g9,0,none⟩:Addr)) (a3q p) F6:=fun _ ad e hm=>by injection e with e;subst e;exact aV.out F6 w6 ac g9 a9.out.1 a9.out.2 hm
  have aI:=(HP.out.same aU.out).chg ac.chg bq.out
  have bc:0∉F6:=ac.out (by have:=HP.out.lt;have:=aU.out.size;omega) bq.out
  have bI:=a5.out ai
  have aH:=fun nq=>bG.out (w6.drewN nq) (some ⟨g9,0,none⟩) N F6 _ ai (bi.drewN nq) (zQ _) (be.same ((zR [] w6).drewN nq)) aJ (aI.same ((zR [] w6).drewN nq)) bc (by
   simp only [zC,a0a]
   omega)
  obtain ⟨k0,k1,k2⟩:=((bg.out.same ah.out).chg ac.chg (aK.out X9 aL.out.1)).cells
  obtain ⟨a0,a1,a2,a3⟩:=(((bl.out.same a4.out).same ah.out).chg ac.chg bB.out).cells
  have bb:=hid aH
  have ba:=hid ac
  have bJ:=fun w=>d7c m w bC ai
  clear aB be bm ac bi aJ aI bc bI aH
  go_wp2_with fail
  refine a0c 11 (by kernel_rfl) (by kernel_rfl) ?_
  simp only [List.take_succ_cons,List.take_zero,List.drop_succ_cons,List.drop_zero]
  repeat (go_big_quiet_step ((go_at_call 24;exact Calls.quiet_of_same ((bJ _).mono (fun _ _ h=>⟨h.1,h.2.symm⟩)))))
  refine wpQuiet_nil ?_
  intro _ bv
  obtain ⟨nq,rfl⟩:=bv
  go_wp2_with fail
  refine (bb.out nq).mono ?_
  rintro e w7 ae
  unfold a7s at ae
  have aR:=fun F7 (ay:a0u F6 F7 (w6.drewN nq) w7)=>a0u.pre aU.out (ba.out.trans (a0u.pre ((zR [] w6).drewN nq) ay))
  cases aq:a6c way (a3q p) p.W p.H (a7i m) with
  | true =>
   rw [if_pos aq] at ae
   obtain ⟨rfl,F7,bf,ay⟩:=ae
   have a8:=hid (aR F7 ay)
   have bF:=hid bf
   have aw:=hid aq
   clear ay bf aR aq
   go_wp2_with fail
   go_ret
   refine ag.out _ _ ?_
   rw [if_pos bp.out,if_pos aw.out]
   exact ⟨rfl,F7,by simpa only [zH] using bF.out,a8.out⟩
  | false =>
   rw [if_neg (by rw [aq];simp)] at ae
   obtain ⟨rfl,F7,ay⟩:=ae
   have a8:=hid (aR F7 ay)
   have aw:=hid aq
   clear ay aR aq
   go_wp2_with fail
   go_ret
   refine ag.out _ _ ?_
   rw [if_pos bp.out,if_neg (by rw [aw.out];simp)]
   exact ⟨rfl,F7,a8.out⟩
 ·have bz:=hid bo
  have HE:=hid (ao.out.tq aM)
  clear bo aM
  unfold f4u
  go_wp2_with fail
  go_ret
  refine ag.out _ _ ?_
  rw [if_neg (by have:=bz.out;omega)]
  exact ⟨rfl,F,a0u.pre (HE.out.tq ((zR [] _).alloc _)) (a0u.refl _ _)⟩
inductive f3k where
 | ok (bs:List Nat)
 | bad (k:Int)
def c7b (kind:Option Nat) (p:a2a):Bool:=match kind with
 | none=>true
 | some k=>b9k p.P.length k
def stR (way kind:Option Nat) (colours:Nat) (p:a2a):f3k :=
 if colours=0 then (if c7b kind p=true then (if b1t way (b4d kind p) p=true then .ok (a4h way (b4d kind p) p) else .bad 6) else .bad 1)
 else if (a2y p).length<=colours then (if b5l way p=true then .ok (a2t way p) else .bad 6) else .bad 7
def b1d (w:World) (r:f3k) (e:Ending) (w':World):Prop:=match r with
 | .ok bs=>∃ v G,e=.returned (.tuple #[v,.int .i64 0])/\Own w' 5 v G ((a1e bs).map b8)/\Chg [] w w'/\(∀ x∈G,w.heap.size<=x)/\(∀ b∈bs,b<2)
 | .bad k=>e=.returned (.tuple #[.slice none 0 0,.int .i64 k])/\Chg [] w w'
theorem d7p {way : Option Nat} (hway : b1b way) {kind : Option Nat} (hkind : b1b kind) (hk4 : ∀ k, kind = some k -> k <= 4) {colours : Nat} (c1 : colours <= 256) {w : World} {p : a2a} {g o : Nat} {B : Nat -> Option Addr} {c : Nat -> Nat} {G : List Nat} (cap : Nat) (h : a4l w p g o B c G) (hp : Pts w) :
    Calls Tryz.prog 17 #[a6y p g o cap,.int .i64 (c5y kind),.int .i64 colours,.int .i64 (c5y way)] w (b1d w (stR way kind colours p)):=by
  have aj:=h.ok
  have bA:∀ w',Chg [] w w'->_:=fun w' (hc':Chg [] w w')=>c1d cap (h.same hc')
  have bF:=fun k (k4:k<=4) w'=>c0z p.P.length k w' aj.n0 aj.n1 k4
  have az:∀ w' b F bs,Chg [] w w'->1<=colours->a2n w' b F bs->(∀ x∈F,w.heap.size<=x)->bs.length<1000000->_:=fun w' b F bs (hc':Chg [] w w') c0 hw (hF:∀ x∈F,w.heap.size<=x) hb=>e4z hway cap (h.same hc') c0 c1 b F bs hw (fun x hx hm=>by have:=h.lt x hx;have:=hF x hm;omega) (hp.same hc') (fun hm=>by have:=hF 0 hm;have:=hp.lt;omega) hb
  have aA:∀ w' b F bs,Chg [] w w'->d5c kind p->a2n w' b F bs->(∀ x∈F,w.heap.size<=x)->bs.length<1000000->_:=fun w' b F bs (hc':Chg [] w w') hk hw (hF:∀ x∈F,w.heap.size<=x) hb=>d4j hway cap (h.same hc') hk b F bs hw (fun x hx hm=>by have:=h.lt x hx;have:=hF x hm;omega) (hp.same hc') (fun hm=>by have:=hF 0 hm;have:=hp.lt;omega) hb
  have cb:=fun (hm:b1t way (b4d kind p) p=true)=>b4a hway aj hm
  have b6:=fun h9 (hm:b5l way p=true)=>b4b hway aj h9 hm
  obtain ⟨HL,ak⟩:=zX (b3z p.W p.H p.d p.P.length)
  have aE:HL.length=18:=by rw [ak];exact a9q _ _ _ _
  have aU:a4h way (b4d kind p) p=HL++(a0b 0 1++(a0b (b4d kind p) 3++a1d way (a3p (b4d kind p) p) p.P.length)):=by rw [ak];rfl
  have aI:a2t way p=HL++(a0b 1 1++(a2q p.P.length p.d (a2y p)++a1y way (a3q p) p.W p.H (a7i (a2y p).length))):=by rw [ak];rfl
  have bZ:c7b kind p=true->d5c kind p:=fun hb k hk=>⟨hk4 k hk,by subst hk;exact hb⟩
  have ca:∀ k,kind=some k->c7b kind p=b9k p.P.length k:=fun k hk=>by subst hk;rfl
  have bb:kind=none->c7b kind p=true:=fun hk=>by subst hk;rfl
  have a4:∀ e w' r,stR way kind colours p=r->b1d w r e w'->b1d w (stR way kind colours p) e w':=fun e w' r h1 h2=>by rw [h1];exact h2
  have bS : -1<=c5y way/\c5y way<=7:=by
    cases way with
    | none=>exact ⟨by decide,by decide⟩
    | some k=>have := hway k rfl;show -1<=(k:Int)/\(k:Int)<=7;omega
  have ar:(kind=none/\c5y kind=-1)\/∃ k,kind=some k/\k<=4/\c5y kind=(k:Int):=by
    cases kind with
    | none=>exact .inl ⟨rfl,rfl⟩
    | some k=>exact .inr ⟨k,rfl,hk4 k rfl,rfl⟩
  have bu : -1<=c5y kind/\c5y kind<=4:=by
    rcases ar with ⟨_,e⟩ | ⟨k,_,h1,e⟩<;>rw [e]<;>omega
  unfold b4s c6b at *
  unfold a6y at *
  obtain ⟨n,hn⟩:=zX (p.P.length)
  have cW:1<=n:=by rw [hn];exact aj.n0
  have db:n<=4:=by rw [hn];exact aj.n1
  rw [<-hn] at bA bF az aA ak aU aI ⊢
  have cy:=aj.w0
  have co:=aj.w1
  have ct:=aj.h0
  have cu:=aj.h1
  have cs:=aj.d0
  have cm:=aj.d1
  obtain ⟨wi,bf⟩:=zX (c5y way)
  obtain ⟨ki,bh⟩:=zX (c5y kind)
  obtain ⟨ci,aV⟩:=zX ((colours:Int))
  rw [<-bf] at bS az aA ⊢
  rw [<-bh] at ar bu aA ⊢
  rw [<-aV] at az ⊢
  obtain ⟨W1,cp⟩:∃ W1,p.W=W1+1:=⟨p.W-1,by omega⟩
  obtain ⟨H1,cM⟩:∃ H1,p.H=H1+1:=⟨p.H-1,by omega⟩
  obtain ⟨D1,cH⟩:∃ D1,p.d=D1+1:=⟨p.d-1,by omega⟩
  obtain ⟨N1,cC⟩:∃ N1,n=N1+1:=⟨n-1,by omega⟩
  have e1:(p.W:Int)-1=(W1:Int):=by omega
  have e2:(p.H:Int)-1=(H1:Int):=by omega
  have e3:(p.d:Int)-1=(D1:Int):=by omega
  have e4:(n:Int)-1=(N1:Int):=by omega
  have u1:IntKind.u64.wrap (W1:Int)=(W1:Int):=IntWalk.u64_in _ (by omega)
  have u2:IntKind.u64.wrap (H1:Int)=(H1:Int):=IntWalk.u64_in _ (by omega)
  have u3:IntKind.u64.wrap (D1:Int)=(D1:Int):=IntWalk.u64_in _ (by omega)
  have u4:IntKind.u64.wrap (N1:Int)=(N1:Int):=IntWalk.u64_in _ (by omega)
  have aD:HL=a0b W1 6++(a0b H1 6++(a0b D1 4++a0b N1 2)):=by
    rw [ak,b3z,show p.W-1=W1 by omega,show p.H-1=H1 by omega,show p.d-1=D1 by omega,show n-1=N1 by omega]
  have t1:decide (ki < -1)=false:=zA (by omega)
  have t2:decide (4<ki)=false:=zA (by omega)
  have t3:decide (ci<0)=false:=zA (by omega)
  have t4:decide (256<ci)=false:=zA (by omega)
  have t5:decide (wi < -1)=false:=zA (by omega)
  have t6:decide (7<wi)=false:=zA (by omega)
  have cO:W1<64:=by omega
  have cR:H1<64:=by omega
  have da:D1<16:=by omega
  have c8:N1<4:=by omega
  obtain ⟨w1,bl⟩:=zX (w.alloc (.cells #[.int .i64 p.W,.int .i64 p.H,.int .i64 p.d,.slice (some ⟨g,o,none⟩) n cap] 27))
  obtain ⟨X,hX⟩:=zX (w.heap.size)
  have bo:Box w1 X (.int .i64 p.W) (.int .i64 p.H) (.int .i64 p.d) (.slice (some ⟨g,o,none⟩) n cap):=⟨by rw [bl,hX];exact Blk.new w _ _⟩
  have b5:Chg [] w w1:=by rw [bl];exact (zR [] w).alloc _
  have bk:=hid bl
  have HX:=hid hX
  have bM:Hid (X<w1.heap.size):=hid bo.blk.lt
  have aQ:=hid bo
  have am:=hid b5
  have bp:=hid bA
  have cG:=hid bF
  have cl:=hid az
  have cn:=hid aA
  have cv:=hid cb
  have cL:=hid b6
  have b7:=hid aE
  have bD:=hid aU
  have bx:=hid aI
  have cr:=hid bZ
  have b0:=hid ca
  have cB:=hid bb
  have aq:=hid a4
  have cT:=hid bu
  have aO:=hid aV
  have bH:=hid aD
  have bR:=hid hn
  have be:=hid c1
  obtain ⟨a0,a1,a2,a3⟩:=bo.cells
  clear bl hX bo b5 bA bF az aA cb b6 aE aU aI bZ ca bb a4 bu aV aD ak h aj hkind hk4 hway bS hn bf bh cp cM cH cC cy co ct cu cs cm hp c1
  have bi:(ci=0/\kind=none/\ki=-1)\/(ci=0/\∃ k,kind=some k/\k<=4/\ki=(k:Int))\/1<=colours:=by
    have:=aO.out
    rcases Nat.eq_zero_or_pos colours with h0 | h0
    · rcases ar with ⟨e,e'⟩ | ⟨k,e,e',cK⟩
      · exact .inl ⟨by omega,e,e'⟩
      · exact .inr (.inl ⟨by omega,k,e,e',cK⟩)
    · exact .inr (.inr h0)
  clear ar
  rcases bi with ⟨rfl,bb,rfl⟩ | ⟨rfl,k,ck,hk4,rfl⟩ | b1
  rotate_left
  have bm:∀ v,b9k n k=v->_:=fun v hv w'=>by have:=cG.out k hk4 w';rw [hv] at this;exact this
  have bT:=hid ck
  clear ck
  have t7:decide ((0:Int)<=(k:Int))=true:=zB (by omega)
  cases hmv:b9k n k
  · have a8:=bm _ hmv
    have bI:=hid hmv
    clear bm hmv
    go_enter Tryz.func17,Tryz.ntmps17
    go_wp2_with fail
    rw [<-bk.out,<-HX.out]
    refine (bp.out w1 am.out).mono ?_
    rintro e w2 ⟨rfl,ag⟩
    obtain ⟨a0,a1,a2,a3⟩:=(aQ.out.same ag).cells
    have ab:=hid ag
    clear ag
    go_wp2_with fail
    refine (a8 _).mono ?_
    rintro e w3 ⟨rfl,rfl⟩
    clear a8
    go_wp2_with fail
    refine bodyPost_ret (v:=.tuple #[.slice none 0 0,.int .i64 1]) (by simp [results,Tryz.results17,go_sem]) rfl ?_
    refine aq.out _ _ (.bad 1) ?_ ⟨rfl,am.out.tq ab.out⟩
    unfold stR
    rw [if_pos (by have:=aO.out;omega),if_neg (by rw [b0.out k bT.out,<-bR.out,bI.out];simp)]
  have a8:=bm _ hmv
  have bI:=hid hmv
  clear bm hmv
  go_enter Tryz.func17,Tryz.ntmps17
  go_wp2_with fail
  rw [<-bk.out,<-HX.out]
  refine (bp.out w1 am.out).mono ?_
  rintro e w2 ⟨rfl,ag⟩
  obtain ⟨a0,a1,a2,a3⟩:=(aQ.out.same ag).cells
  have ab:=hid ag
  clear ag
  go_wp2_with fail
  refine (a8 _).mono ?_
  rintro e w3 ⟨rfl,rfl⟩
  clear a8
  have aw:Hid (c7b kind p=true):=hid (by rw [b0.out k bT.out,<-bR.out];exact bI.out)
  have aW:Hid (colours=0):=hid (by have:=aO.out;omega)
  clear a0 a1 a2 a3
  obtain ⟨w4,ae⟩:=zX (w2.alloc (.cells #[.slice none 0 0,.int .i64 0] 89))
  obtain ⟨b,hb⟩:=zX (w2.heap.size)
  have aH:a2n w4 b [b] []:=by rw [ae,hb];exact a2n.new w2
  have al:Chg [] w2 w4:=by rw [ae];exact (zR [] w2).alloc _
  have aG:X∉[b]:=by
    simp only [zU]
    have:=bM.out
    have:=ab.out.size
    omega
  have HB:Hid (w.heap.size<=b):=hid (by rw [hb];exact (am.out.tq ab.out).size)
  have ay:Hid (Chg [] w w4):=hid ((am.out.tq ab.out).tq al)
  have au:Hid (∀ Fz wz,a0u [b] Fz w4 wz->Box wz X (.int .i64 p.W) (.int .i64 p.H) (.int .i64 p.d) (.slice (some ⟨g,o,none⟩) n cap)):=hid (fun Fz wz hz=>((aQ.out.same ab.out).same al).chg hz.chg aG)
  have aC:Hid (∀ Fz wz,a0u [b] Fz w4 wz->Chg [] w wz):=hid (fun Fz wz hz=>ay.out.trans hz.chg (fun x hx => .inr (by simp at hx;have:=HB.out;omega)))
  have a6:Hid (∀ Fz wz,a0u [b] Fz w4 wz->∀ x∈Fz,w.heap.size<=x):=hid (fun Fz wz hz x hx=>by
    rcases hz.new x hx with h | h
    · simp at h;have:=HB.out;omega
    · have:=ay.out.size;omega)
  obtain ⟨a0,a1,a2,a3⟩:=(au.out [b] w4 (a0u.refl _ _)).cells
  have bn:=a0t w4 b [b] [] W1 6 aH (by decide) (by omega) (by simp)
  have bc:=hid ae
  have ap:=hid hb
  rw [ae] at a0 a1 a2 a3
  clear ae hb aH al aG
  go_wp2_with fail
  rw [<-bc.out,<-ap.out]
  rotate_left
  have cP:(ci==0)=false:=by have:=aO.out;simp;omega
  have cY:¬ ci=0:=by have:=aO.out;omega
  have c7:decide (0<ci)=true:=zB (by have:=aO.out;omega)
  have aW:=hid b1
  clear b1
  go_enter Tryz.func17,Tryz.ntmps17
  go_wp2_with fail
  rw [<-bk.out,<-HX.out]
  refine (bp.out w1 am.out).mono ?_
  rintro e w2 ⟨rfl,ag⟩
  obtain ⟨a0,a1,a2,a3⟩:=(aQ.out.same ag).cells
  have ab:=hid ag
  clear ag
  clear a0 a1 a2 a3
  obtain ⟨w4,ae⟩:=zX (w2.alloc (.cells #[.slice none 0 0,.int .i64 0] 89))
  obtain ⟨b,hb⟩:=zX (w2.heap.size)
  have aH:a2n w4 b [b] []:=by rw [ae,hb];exact a2n.new w2
  have al:Chg [] w2 w4:=by rw [ae];exact (zR [] w2).alloc _
  have aG:X∉[b]:=by
    simp only [zU]
    have:=bM.out
    have:=ab.out.size
    omega
  have HB:Hid (w.heap.size<=b):=hid (by rw [hb];exact (am.out.tq ab.out).size)
  have ay:Hid (Chg [] w w4):=hid ((am.out.tq ab.out).tq al)
  have au:Hid (∀ Fz wz,a0u [b] Fz w4 wz->Box wz X (.int .i64 p.W) (.int .i64 p.H) (.int .i64 p.d) (.slice (some ⟨g,o,none⟩) n cap)):=hid (fun Fz wz hz=>((aQ.out.same ab.out).same al).chg hz.chg aG)
  have aC:Hid (∀ Fz wz,a0u [b] Fz w4 wz->Chg [] w wz):=hid (fun Fz wz hz=>ay.out.trans hz.chg (fun x hx => .inr (by simp at hx;have:=HB.out;omega)))
  have a6:Hid (∀ Fz wz,a0u [b] Fz w4 wz->∀ x∈Fz,w.heap.size<=x):=hid (fun Fz wz hz x hx=>by
    rcases hz.new x hx with h | h
    · simp at h;have:=HB.out;omega
    · have:=ay.out.size;omega)
  obtain ⟨a0,a1,a2,a3⟩:=(au.out [b] w4 (a0u.refl _ _)).cells
  have bn:=a0t w4 b [b] [] W1 6 aH (by decide) (by omega) (by simp)
  have bc:=hid ae
  have ap:=hid hb
  rw [ae] at a0 a1 a2 a3
  clear ae hb aH al aG
  go_wp2_with fail
  rw [<-bc.out,<-ap.out]
  rotate_left
  have aw:Hid (c7b kind p=true):=hid (cB.out bb)
  have aW:Hid (colours=0):=hid (by have:=aO.out;omega)
  clear bb
  go_enter Tryz.func17,Tryz.ntmps17
  go_wp2_with fail
  rw [<-bk.out,<-HX.out]
  refine (bp.out w1 am.out).mono ?_
  rintro e w2 ⟨rfl,ag⟩
  obtain ⟨a0,a1,a2,a3⟩:=(aQ.out.same ag).cells
  have ab:=hid ag
  clear ag
  clear a0 a1 a2 a3
  obtain ⟨w4,ae⟩:=zX (w2.alloc (.cells #[.slice none 0 0,.int .i64 0] 89))
  obtain ⟨b,hb⟩:=zX (w2.heap.size)
  have aH:a2n w4 b [b] []:=by rw [ae,hb];exact a2n.new w2
  have al:Chg [] w2 w4:=by rw [ae];exact (zR [] w2).alloc _
  have aG:X∉[b]:=by
    simp only [zU]
    have:=bM.out
    have:=ab.out.size
    omega
  have HB:Hid (w.heap.size<=b):=hid (by rw [hb];exact (am.out.tq ab.out).size)
  have ay:Hid (Chg [] w w4):=hid ((am.out.tq ab.out).tq al)
  have au:Hid (∀ Fz wz,a0u [b] Fz w4 wz->Box wz X (.int .i64 p.W) (.int .i64 p.H) (.int .i64 p.d) (.slice (some ⟨g,o,none⟩) n cap)):=hid (fun Fz wz hz=>((aQ.out.same ab.out).same al).chg hz.chg aG)
  have aC:Hid (∀ Fz wz,a0u [b] Fz w4 wz->Chg [] w wz):=hid (fun Fz wz hz=>ay.out.trans hz.chg (fun x hx => .inr (by simp at hx;have:=HB.out;omega)))
  have a6:Hid (∀ Fz wz,a0u [b] Fz w4 wz->∀ x∈Fz,w.heap.size<=x):=hid (fun Fz wz hz x hx=>by
    rcases hz.new x hx with h | h
    · simp at h;have:=HB.out;omega
    · have:=ay.out.size;omega)
  obtain ⟨a0,a1,a2,a3⟩:=(au.out [b] w4 (a0u.refl _ _)).cells
  have bn:=a0t w4 b [b] [] W1 6 aH (by decide) (by omega) (by simp)
  have bc:=hid ae
  have ap:=hid hb
  rw [ae] at a0 a1 a2 a3
  clear ae hb aH al aG
  go_wp2_with fail
  rw [<-bc.out,<-ap.out]
  all_goals
    refine bn.mono ?_
    rintro e w5 ⟨rfl,F5,cg,bQ⟩
    obtain ⟨a0,a1,a2,a3⟩:=(au.out F5 w5 bQ).cells
    have bU:=a0t w5 b F5 _ H1 6 cg (by decide) (by omega) (by simp [a0a])
    clear bn
    go_wp2_with fail
    refine bU.mono ?_
    rintro e w6 ⟨rfl,F6,bW,b9⟩
    have aN:=bQ.trans b9
    obtain ⟨a0,a1,a2,a3⟩:=(au.out F6 w6 aN).cells
    have ce:=a0t w6 b F6 _ D1 4 bW (by decide) (by omega) (by simp [a0a])
    clear bU
    go_wp2_with fail
    refine ce.mono ?_
    rintro e w7 ⟨rfl,F7,bY,cj⟩
    have aS:=aN.trans cj
    obtain ⟨a0,a1,a2,a3⟩:=(au.out F7 w7 aS).cells
    have b3:=a0t w7 b F7 _ N1 2 bY (by decide) (by omega) (by simp [a0a])
    clear ce
    go_wp2_with fail
    refine b3.mono ?_
    rintro e w8 ⟨rfl,F8,cf,bX⟩
    have aK:=aS.trans bX
    have aY:a2n w8 b F8 HL:=by
      rw [bH.out]
      simpa only [zH,List.nil_append] using cf
    have bG:=hid aY
    have ax:=hid aK
    obtain ⟨a0,a1,a2,a3⟩:=(au.out F8 w8 aK).cells
    clear b3 cg bQ bW b9 aN bY cj aS cf bX aK aY
  iterate 2
    (have aA:=cn.out w8 b F8 HL (aC.out _ _ ax.out) (cr.out aw.out) bG.out (a6.out _ _ ax.out) (by rw [b7.out];decide)
     go_wp2_with fail
     refine aA.mono ?_
     rintro e w9 aa
     clear a0 a1 a2 a3 aA
     cases hm:b1t way (b4d kind p) p
     · rw [if_neg (by rw [hm];simp)] at aa
       obtain ⟨rfl,F9,ai⟩:=aa
       have aF:=hid (ax.out.trans ai)
       have HM:=hid hm
       clear ai hm
       go_wp2_with fail
       refine bodyPost_ret (v:=.tuple #[.slice none 0 0,.int .i64 6]) (by simp [results,Tryz.results17,go_sem]) rfl ?_
       refine aq.out _ _ (.bad 6) ?_ ⟨rfl,aC.out _ _ aF.out⟩
       unfold stR
       rw [if_pos aW.out,if_pos aw.out,if_neg (by rw [HM.out];simp)]
     rw [if_pos hm] at aa
     obtain ⟨rfl,F9,aP,ai⟩:=aa
     have aF:=hid (ax.out.trans ai)
     obtain ⟨T,hT⟩:=zX (a4h way (b4d kind p) p)
     have af:=cv.out hm
     rw [<-hT] at af
     rw [<-bD.out,<-hT] at aP
     have br:=hid aP
     have av:Hid (19<=T.length/\T.length<=4096000000):=hid ⟨by omega,af.2⟩
     have ba:Hid (stR way kind colours p=.ok T):=hid (by
       unfold stR
       rw [if_pos aW.out,if_pos aw.out,if_pos hm,hT])
     clear af hT aP ai hm
     rotate_left)
  have az:=cl.out w8 b F8 HL (aC.out _ _ ax.out) aW.out bG.out (a6.out _ _ ax.out) (by rw [b7.out];decide)
  go_wp2_with fail
  refine az.mono ?_
  rintro e w9 aa
  clear a0 a1 a2 a3 az
  have aX:¬ colours=0:=by have:=aW.out;omega
  rcases zZ colours (a2y p).length with aB | aB
  · rw [if_neg (by omega)] at aa
    obtain ⟨rfl,F9,ai⟩:=aa
    have aF:=hid (ax.out.trans ai)
    have HM:=hid aB
    have bv:=hid aX
    clear ai aB aX
    go_wp2_with fail
    refine bodyPost_ret (v:=.tuple #[.slice none 0 0,.int .i64 7]) (by simp [results,Tryz.results17,go_sem]) rfl ?_
    refine aq.out _ _ (.bad 7) ?_ ⟨rfl,aC.out _ _ aF.out⟩
    unfold stR
    rw [if_neg bv.out,if_neg (by have:=HM.out;omega)]
  rw [if_pos aB] at aa
  cases hm:b5l way p
  · rw [if_neg (by rw [hm];simp)] at aa
    obtain ⟨rfl,F9,ai⟩:=aa
    have aF:=hid (ax.out.trans ai)
    have HM:=hid hm
    have cN:=hid aB
    have bv:=hid aX
    clear ai hm aB aX
    go_wp2_with fail
    refine bodyPost_ret (v:=.tuple #[.slice none 0 0,.int .i64 6]) (by simp [results,Tryz.results17,go_sem]) rfl ?_
    refine aq.out _ _ (.bad 6) ?_ ⟨rfl,aC.out _ _ aF.out⟩
    unfold stR
    rw [if_neg bv.out,if_pos cN.out,if_neg (by rw [HM.out];simp)]
  rw [if_pos hm] at aa
  obtain ⟨rfl,F9,aP,ai⟩:=aa
  have aF:=hid (ax.out.trans ai)
  obtain ⟨T,hT⟩:=zX (a2t way p)
  have af:=cL.out (by have:=be.out;omega) hm
  rw [<-hT] at af
  rw [<-bx.out,<-hT] at aP
  have br:=hid aP
  have av:Hid (19<=T.length/\T.length<=4096000000):=hid af
  have ba:Hid (stR way kind colours p=.ok T):=hid (by
    unfold stR
    rw [if_neg aX,if_pos aB,if_pos hm,hT])
  clear af hT aP ai hm aB aX
  all_goals
    have bV:=e6g w9 b F9 T br.out (by have:=av.out;omega)
    have bN:=hid br.out.bit
    clear bG
    go_wp2_with fail
    refine bV.mono ?_
    rintro e cq ⟨rfl,cF,aL,a9⟩
    have an:=aF.out.trans a9
    have bK:=c3c cq b cF (d7a T) aL (by rw [b9m];have:=av.out;omega)
    have aZ:=aL.bit
    obtain ⟨ac,ad⟩:=zX (a1n (d7a T))
    have bO:ac.length<=1000000000:=by rw [ad,a4p,b9m];have:=av.out;omega
    have aR:∀ d∈ac,d<256:=by rw [ad];exact b2z aZ
    have b2:Hid (a1e T=ac++d8f (c3g ac)):=hid (by rw [ad];rfl)
    rw [<-ad] at bK
    have a5:=hid (aC.out _ _ an)
    have cD:=hid (a6.out _ _ an)
    clear bV aL a9 an aZ ad
    go_wp2_with fail
    refine bK.mono ?_
    rintro e cJ ⟨cQ,b4,rfl,ah,bd,bg⟩
    obtain ⟨cE,cz,rfl,cI,cA,bj⟩:=ah.oq
    have bq:=b2g cJ cE cz ac bj aR (by omega)
    have bB:=c6p aR
    have bL:=fun w'=>f1f (c3g ac) bB w'
    obtain ⟨S,hS⟩:=zX (c3g ac)
    rw [<-hS] at bq bL bB b2
    obtain ⟨nb,bw⟩:=zX (ac.length)
    rw [<-bw] at bq ah bO ⊢
    have c6:IntKind.u64.wrap (S:Int)=(S:Int):=IntWalk.u64_in _ (by omega)
    have cd:=hid bw
    have ch:=hid bO
    have bJ:=hid ah
    have aJ:=hid (fun x hx=>Nat.le_trans a5.out.size (bg x hx):∀ x∈b4,w.heap.size<=x)
    have bE:=hid (a5.out.tq bd)
    clear bK ah bd bg cI cA bj aR bB hS bw bO
    go_wp2_with fail
    refine bq.mono ?_
    rintro e cX ⟨rfl,rfl⟩
    clear bq
    go_wp2_with fail
    refine (bL _).mono ?_
    rintro e cV ⟨cZ,c9,rfl,ao,aM,bP⟩
    have aT:=bJ.out.same aM
    have bz:=hid ao
    have a7:=hid (bE.out.tq aM)
    have cU:Hid (∀ x∈b4,w.heap.size<=x):=aJ
    have bC:(d8f S).length=4:=rfl
    clear ao aM bP bL
    go_wp2_with (at_builtin;refine a1m rfl rfl b2h rfl rfl aT ((d8f S).map b8) 4 rfl ?c1 ?c2 ?c3 ?c4 ?c5 ?_)
    case c1=>rfl
    case c2=>exact Row.cellsB bz.out
    case c3=>exact c4s _
    case c4=>rw [zE,zE,bC];have := ch.out;have := cd.out;omega
    case c5=>rw [zE,zE,bC];have := ch.out;have := cd.out;omega
    intro v8 cw cS cx cc
    clear bC
    go_wp2
    refine bodyPost_ret (v:=.tuple #[v8,.int .i64 0]) (by simp [results,Tryz.results17,go_sem]) rfl ?_
    refine aq.out _ _ (.ok T) ba.out ⟨v8,cw,rfl,by rw [b2.out,zM];exact cx,?_,fun x hx => ?_,bN.out⟩
    · exact a7.out.trans cc.chg (fun x hx => .inr (aJ.out x hx))
    · rcases cc.new x hx with h | h
      · exact aJ.out x h
      · have:=a7.out.size;omega
def e0x (p:a2a):List Nat:=a4h none (a7t p 4) p
def a5p (p:a2a):List Nat:=if (a2y p).length<=256/\(a1e (a2t none p)).length<(a1e (e0x p)).length then a2t none p else e0x p
theorem f2s (p:a2a):stR none none 0 p=.ok (e0x p):=by
 unfold stR e0x
 have h1:c7b none p=true:=rfl
 have h2:b1t none (b4d none p) p=true:=a9b _ _
 rw [if_pos rfl,if_pos h1,if_pos h2]
 rfl
theorem f2t (p:a2a):stR none none 256 p=if (a2y p).length<=256 then .ok (a2t none p) else .bad 7:=by
 unfold stR
 have h2:b5l none p=true:=a5s _ _ _ _ _
 rw [if_neg (by decide)]
 by_cases h:(a2y p).length<=256
 ·rw [if_pos h,if_pos h,if_pos h2]
 ·rw [if_neg h,if_neg h]
theorem d6f {p:a2a} (h:p.Ok):22<=(e0x p).length/\(e0x p).length<=4096000000:=b4a (way:=none) (fun _ e=>by cases e) h (a9b _ _)
theorem d6h {p:a2a} (h:p.Ok) (hc:(a2y p).length<=256):19<=(a2t none p).length/\(a2t none p).length<=4096000000:=b4b (way:=none) (fun _ e=>by cases e) h hc (a5s _ _ _ _ _)
theorem d3e {p:a2a} (h:p.Ok):19<=(a5p p).length/\(a5p p).length<=4096000000:=by
 unfold a5p
 split
 ·rename_i hc
  exact d6h h hc.1
 ·have:=d6f h
  omega
theorem e0l {w:World} {p:a2a} {g o:Nat} {B:Nat->Option Addr} {c:Nat->Nat} {G:List Nat} (cap:Nat) (h:a4l w p g o B c G) (hp:Pts w) :
  Calls Tryz.prog 27 #[a6y p g o cap] w (b1d w (.ok (a5p p))):=by
 have ay:=h.ok
 have hw:b1b none:=fun _ e=>by cases e
 have ab:∀ w',Chg [] w w'->_:=fun w' (hc':Chg [] w w')=>d7p (way:=none) hw (kind:=none) hw (fun _ e=>by cases e) (colours:=0) (by decide) cap (h.same hc') (hp.same hc')
 have ac:∀ w',Chg [] w w'->_:=fun w' (hc':Chg [] w w')=>d7p (way:=none) hw (kind:=none) hw (fun _ e=>by cases e) (colours:=256) (by decide) cap (h.same hc') (hp.same hc')
 rw [f2s] at ab
 rw [f2t] at ac
 have e0:c5y none=-1:=rfl
 rw [e0] at ab ac
 have aj:a5p p=if (a2y p).length<=256/\(a1e (a2t none p)).length<(a1e (e0x p)).length then a2t none p else e0x p:=rfl
 have aD:=(d6f ay).2
 have ax:=fun hc=>(d6h ay hc).2
 have ar:=b4k (e0x p)
 have az:=b4k (a2t none p)
 rw [b7o] at ar az
 obtain ⟨a,ha⟩:=zX (e0x p)
 obtain ⟨d,hd⟩:=zX (a2t none p)
 obtain ⟨m,hm⟩:=zX ((a2y p).length)
 rw [<-ha] at ab aj aD ar
 rw [<-hd] at ac aj ax az
 rw [<-hm] at ac aj ax
 obtain ⟨la,ap⟩:=zX ((a1e a).length)
 obtain ⟨ld,aA⟩:=zX ((a1e d).length)
 rw [<-ap,<-aA] at aj
 unfold b1d at ab
 unfold a6y at *
 obtain ⟨n,hn⟩:=zX (p.P.length)
 rw [<-hn] at ab ac ⊢
 obtain ⟨w1,al⟩:=zX (w.alloc (.cells #[.int .i64 p.W,.int .i64 p.H,.int .i64 p.d,.slice (some ⟨g,o,none⟩) n cap] 27))
 obtain ⟨X,hX⟩:=zX (w.heap.size)
 have aq:Box w1 X (.int .i64 p.W) (.int .i64 p.H) (.int .i64 p.d) (.slice (some ⟨g,o,none⟩) n cap):=⟨by rw [al,hX];exact Blk.new w _ _⟩
 have aB:Chg [] w w1:=by rw [al];exact (zR [] w).alloc _
 have aI:=hid al
 have HX:=hid hX
 have aO:=hid aq
 have au:=hid aB
 have aH:=hid ab
 have aL:=hid ac
 have av:=hid aj
 have aK:=hid ap
 have aJ:=hid aA
 obtain ⟨a0,a1,a2,a3⟩:=aq.cells
 clear al hX aq aB ab ac aj ap aA ay h hp ha hd hm hn aD ax ar az hw e0
 go_enter Tryz.func27,Tryz.ntmps27
 go_wp2_with fail
 rw [<-aI.out,<-HX.out]
 refine (aH.out w1 au.out).mono ?_
 rintro e w2 ⟨v2,G2,rfl,ae,an,aC,ag⟩
 obtain ⟨A2,c2,rfl,-,-,-⟩:=ae.oq
 rw [<-aK.out] at ae ⊢
 obtain ⟨a0,a1,a2,a3⟩:=(aO.out.same an).cells
 have aF:=hid ae
 have ao:=hid (au.out.tq an)
 have aM:=hid an
 have aE:Hid (∀ x∈G2,w.heap.size<=x):=hid (fun x hx=>Nat.le_trans au.out.size (aC x hx))
 have ak:=hid ag
 clear ae an aC ag
 go_wp2_with fail
 refine (aL.out w2 ao.out).mono ?_
 intro e w3 aa
 by_cases hm:m<=256
 ·rw [if_pos hm] at aa
  unfold b1d at aa
  obtain ⟨v3,G3,rfl,ad,ah,aG,af⟩:=aa
  obtain ⟨A3,c3,rfl,-,-,-⟩:=ad.oq
  rw [<-aJ.out] at ad ⊢
  have aP:=hid ad
  have am:=hid (ao.out.tq ah)
  have ai:=hid ah
  have aN:Hid (∀ x∈G3,w.heap.size<=x):=hid (fun x hx=>Nat.le_trans ao.out.size (aG x hx))
  have aw:=hid af
  have HM:=hid hm
  clear ad ah aG af hm a0 a1 a2 a3
  by_cases hl:ld<la
  ·have t1:decide ((ld:Int)<(la:Int))=true:=zB (by omega)
   have t2:decide (ld<la)=true:=zB hl
   have HL:=hid hl
   clear hl
   go_wp2_with fail
   refine bodyPost_ret (v:=.tuple #[.slice A3 ld c3,.int .i64 0]) (by simp [results,Tryz.results27,go_sem]) rfl ?_
   rw [av.out,if_pos ⟨HM.out,HL.out⟩]
   exact ⟨_,G3,rfl,aP.out,am.out,aN.out,aw.out⟩
  ·have t1:decide ((ld:Int)<(la:Int))=false:=zA (by omega)
   have t2:decide (ld<la)=false:=zA hl
   have HL:=hid hl
   clear hl
   go_wp2_with fail
   refine bodyPost_ret (v:=.tuple #[.slice A2 la c2,.int .i64 0]) (by simp [results,Tryz.results27,go_sem]) rfl ?_
   rw [av.out,if_neg (fun hh=>HL.out hh.2)]
   exact ⟨_,G2,rfl,aF.out.same ai.out,am.out,aE.out,ak.out⟩
 ·rw [if_neg hm] at aa
  unfold b1d at aa
  obtain ⟨rfl,ah⟩:=aa
  have am:=hid (ao.out.tq ah)
  have ai:=hid ah
  have HM:=hid hm
  clear ah hm a0 a1 a2 a3
  go_wp2_with fail
  refine bodyPost_ret (v:=.tuple #[.slice A2 la c2,.int .i64 0]) (by simp [results,Tryz.results27,go_sem]) rfl ?_
  rw [av.out,if_neg (fun hh=>HM.out hh.1)]
  exact ⟨_,G2,rfl,aF.out.same ai.out,am.out,aE.out,ak.out⟩
def pS:a2a:=⟨1,1,8,[[200]]⟩
theorem f4a:pS.Ok where
 w0:=by decide
 w1:=by decide
 h0:=by decide
 h1:=by decide
 d0:=by decide
 d1:=by decide
 n0:=by decide
 n1:=by decide
 len:=fun x hx=>by simp [pS] at hx;subst hx;rfl
 smp:=fun x hx=>by simp [pS] at hx;subst hx;exact fun v hv=>by simp at hv;subst hv;decide
theorem f0w:b1t (some 1) 0 pS=true:=by kernel_rfl
theorem e4k:b0b (a4h (some 1) 0 pS)=[0,7,0,228,0]:=by kernel_rfl
def tS:List Nat:=a4h (some 1) 0 pS
theorem f5b:stR (some 1) (some 0) 0 pS=.ok tS:=by
 have h1:c7b (some 0) pS=true:=by kernel_rfl
 have h2:b1t (some 1) (b4d (some 0) pS) pS=true:=f0w
 unfold stR
 rw [if_pos rfl,if_pos h1,if_pos h2]
 rfl
theorem f4x:stR none (some 1) 0 pS=.bad 1:=by
 have h1:c7b (some 1) pS=false:=by kernel_rfl
 unfold stR
 rw [if_pos rfl,if_neg (by rw [h1];simp)]
theorem f1r {w:World} {s t:Nat} (h1:Blk w s 3 #[.int .i64 200]) (h2:Blk w t 22 #[.slice (some ⟨s,0,none⟩) 1 1]) :
  a4l w pS t 0 (fun _=>some ⟨s,0,none⟩) (fun _=>1) [s,t] where
 ok:=f4a
 gG:=by simp
 lt:=fun x hx=>by simp at hx;rcases hx with rfl | rfl;exact h1.lt;exact h2.lt
 cell:=fun i hi=>by
  simp [pS] at hi
  subst hi
  exact h2.cell 0
 cells:=fun i hi=>by
  simp [pS] at hi
  subst hi
  refine ⟨fun _=>⟨s,0,rfl,h1.lt,fun k a hk => ?_⟩⟩
  rw [Nat.zero_add,h1.cell k]
  simp [pS] at hk
  match k,hk with
  | 0,hk=>simp at hk;subst hk;rfl
 blk:=fun i hi ad e=>by injection e with e;subst e;simp
 cap:=fun i hi=>by simp [pS]
theorem c3k (ds es:List Nat):a5m (ds++es)=a5m ds++(List.range (8*es.length)).map fun i=>a8h (ds++es) (8*ds.length+i):=by
 unfold a5m
 rw [zC,Nat.mul_add,List.range_add,zM,List.map_map]
 congr 1
 apply List.map_congr_left
 intro i hi
 have h:=List.mem_range.1 hi
 unfold a8h
 rw [zD,zD,List.getElem?_append_left (by omega)]
theorem a0y.more {ds bs:List Nat} (es:List Nat) (h:a0y ds 0 bs):a0y (ds++es) 0 bs:=by
 obtain ⟨r,hr⟩:=h
 rw [List.drop_zero] at hr
 exact ⟨r++(List.range (8*es.length)).map fun i=>a8h (ds++es) (8*ds.length+i),by rw [List.drop_zero,c3k,hr,zH]⟩
theorem e9x {w:World} {A:Option Addr} {cap:Nat} {ds:List Nat} (hc:a0d b8 w A ds) (hd:∀ d∈ds,d<256) (h3:3<=ds.length) (hl:ds.length<=1000000004) (hcap:ds.length<=cap) (hcm:cap<=9223372036854775807)
  {W H d n:Nat} (w0:1<=W) (w1:W<=64) (h0:1<=H) (h1:H<=64) (d0:1<=d) (d1:d<=16) (n0:1<=n) (n1:n<=4) (ha:a0y ds 0 (b3z W H d n)) :
  Calls Tryz.prog 61 #[.slice A ds.length cap] w fun e w'=>e=.returned (.tuple #[.int .i64 W,.int .i64 H,.int .i64 d,.int .i64 n,.int .i64 0])/\Chg [] w w':=by
 have ab:=e5h w A cap ds hc hd (by omega) hcap hcm
 have aa:=fun w' b F (h:a1r w' b F ds 0)=>d6c h w0 w1 h0 h1 d0 d1 n0 n1 ha
 obtain ⟨N,hN⟩:=zX (ds.length)
 rw [<-hN] at ab h3 hl ⊢
 have t1:decide ((N:Int)*8<18)=false:=zA (by omega)
 have ad:=hid aa
 have af:=hid ab
 clear ab aa hN ha hd hc
 go_enter Tryz.func61,Tryz.ntmps61
 go_wp2_with fail
 refine af.out.mono ?_
 rintro e w2 ⟨b,F,rfl,ac,ah,hF⟩
 have aa:=ad.out w2 b F ac
 have ag:=ac.mem
 go_wp2_with fail
 refine aa.mono ?_
 rintro e w3 ⟨rfl,ai,ae⟩
 go_wp2_with fail
 refine bodyPost_ret (v:=.tuple #[.int .i64 W,.int .i64 H,.int .i64 d,.int .i64 n,.int .i64 0]) (by simp [results,Tryz.results61,go_sem]) rfl ?_
 exact ⟨rfl,ah.trans ae (fun x hx => .inr (by simp at hx;subst hx;exact hF _ ag))⟩
def e6p (a c:Nat):Value:=.agg #[.int .i64 1,.int .i64 1,.int .i64 8,.slice (some ⟨a,0,none⟩) 1 c]
theorem c1m (a c:Nat):a6y pS a 0 c=e6p a c:=by simp [a6y,pS,e6p]
section
variable {w:World} {a:Nat} {B:Nat->Option Addr} {c:Nat->Nat} {G:List Nat}
theorem f4y (hA:a4l w pS a 0 B c G) (hp:Pts w):Calls Tryz.prog 17 #[e6p a 1,.int .i64 0,.int .i64 0,.int .i64 1] w (b1d w (.ok tS)):=by
 have h:=d7p (way:=some 1) (fun k e=>by injection e with e;omega) (kind:=some 0) (fun k e=>by injection e with e;omega) (fun k e=>by injection e with e;omega) (colours:=0) (by decide) 1 hA hp
 rw [c1m,f5b] at h
 exact h
theorem f4f (hA:a4l w pS a 0 B c G) (hp:Pts w):Calls Tryz.prog 17 #[e6p a 1,.int .i64 1,.int .i64 0,.int .i64 (-1)] w (b1d w (.bad 1)):=by
 have h:=d7p (way:=none) (fun k e=>by cases e) (kind:=some 1) (fun k e=>by injection e with e;omega) (fun k e=>by injection e with e;omega) (colours:=0) (by decide) 1 hA hp
 rw [c1m,f4x] at h
 exact h
theorem b8p:(a1e tS).length=9:=by rw [b4k,show b0b tS=[0,7,0,228,0] from e4k];rfl
theorem f4g (hbit:∀ b∈tS,b<2) (hp:Pts w) {A:Option Addr} {cap:Nat} (hc:a0d b8 w A (a1e tS)) (hcap:9<=cap) (hcm:cap<=9223372036854775807) :
  Calls Tryz.prog 25 #[.slice A 9 cap] w fun e w'=>∃ gP capP xs gs,e=.returned (.tuple #[e6p gP capP,.int .i64 0])/\a1x w' pS gP capP xs gs/\Chg [] w w':=by
 have h:=c2q (way:=some 1) (fun k e=>by injection e with e;omega) (k:=0) f4a (by decide) (by kernel_rfl) f0w hbit hp (A:=A) (cap:=cap) hc (by rw [show (a1e (a4h (some 1) 0 pS)).length=9 from b8p];exact hcap) hcm
 rw [show (a1e (a4h (some 1) 0 pS)).length=9 from b8p] at h
 refine Calls.mono h ?_
 rintro e w' ⟨gP,capP,xs,gs,rfl,ho,ch,_⟩
 exact ⟨gP,capP,xs,gs,by rw [c1m],ho,ch⟩
theorem f2p (hbit:∀ b∈tS,b<2) {A:Option Addr} {cap:Nat} (hc:a0d b8 w A (a1e tS)) (hcap:9<=cap) (hcm:cap<=9223372036854775807) :
  Calls Tryz.prog 61 #[.slice A 9 cap] w fun e w'=>e=.returned (.tuple #[.int .i64 1,.int .i64 1,.int .i64 8,.int .i64 1,.int .i64 0])/\Chg [] w w':=by
 have hd:∀ d∈a1e tS,d<256:=fun d hd=>by
  unfold a1e at hd
  rcases zP.1 hd with h1 | h1
  ·exact b2z (b5o hbit) d h1
  ·exact d2u _ d h1
 have ha:a0y (a1e tS) 0 (b3z 1 1 8 1):=by
  have h1:=c4u hbit
  have e:tS=b3z 1 1 8 1++(a0b 0 1++(a0b 0 3++a1d (some 1) (a3p 0 pS) 1)):=rfl
  have h2:a0y (b0b tS) 0 (b3z 1 1 8 1):=by
   rw [e] at h1 ⊢
   exact h1.left
  exact h2.more _
 have h:=e9x hc hd (by rw [b8p];decide) (by rw [b8p];decide) (by rw [b8p];exact hcap) hcm (by decide) (by decide) (by decide) (by decide) (by decide) (by decide) (by decide) (by decide) ha
 rw [b8p] at h
 exact h
theorem f2q {g' capP:Nat} {xs:List Value} {gs:List Nat} (hA:a4l w pS a 0 B c G) (ho:a1x w pS g' capP xs gs):Calls Tryz.prog 26 #[e6p a 1,e6p g' capP] w fun e w'=>e=.returned (.bool true)/\Chg [] w w':=by
 have h:=e0c 1 hA capP ho.at_ rfl rfl rfl rfl
 rw [c1m,c1m] at h
 exact h
end
theorem e5q (w:World) (hp:Pts w):Calls Tryz.prog 21 #[] w fun e w'=>e=.returned (.bool true)/\Chg [] w w':=by
 obtain ⟨u1,ah⟩:=zX (w.alloc (.cells #[.int .i64 200] 3))
 obtain ⟨u2,ao⟩:=zX (u1.alloc (.cells #[.slice (some ⟨w.heap.size,0,none⟩) 1 1] 22))
 obtain ⟨u3,av⟩:=zX (u2.alloc (.cells #[.int .i64 1,.int .i64 1,.int .i64 8,.slice (some ⟨w.heap.size+1,0,none⟩) 1 1] 27))
 have z1:u1.heap.size=w.heap.size+1:=by rw [ah,a3f]
 have z2:u2.heap.size=w.heap.size+1+1:=by rw [ao,a3f,z1]
 have c1:Chg [] w u1:=by rw [ah];exact (zR [] w).alloc _
 have c2:Chg [] u1 u2:=by rw [ao];exact (zR [] u1).alloc _
 have c3:Chg [] u2 u3:=by rw [av];exact (zR [] u2).alloc _
 have b1:Blk u3 (w.heap.size) 3 #[.int .i64 200]:=(((show Blk u1 (w.heap.size) 3 #[.int .i64 200] from by rw [ah];exact Blk.new _ _ _).chg c2 (by simp)).chg c3 (by simp))
 have b2:Blk u3 (w.heap.size+1) 22 #[.slice (some ⟨w.heap.size,0,none⟩) 1 1]:=((show Blk u2 (w.heap.size+1) 22 #[.slice (some ⟨w.heap.size,0,none⟩) 1 1] from by rw [ao,<-z1];exact Blk.new _ _ _).chg c3 (by simp))
 have b3:Box u3 (w.heap.size+1+1) (.int .i64 1) (.int .i64 1) (.int .i64 8) (.slice (some ⟨w.heap.size+1,0,none⟩) 1 1):=⟨by rw [av,<-z2];exact Blk.new _ _ _⟩
 have hC:Chg [] w u3:=(c1.tq c2).tq c3
 have hA:a4l u3 pS (w.heap.size+1) 0 (fun _=>some ⟨w.heap.size,0,none⟩) (fun _=>1) [w.heap.size,w.heap.size+1]:=f1r b1 b2
 have aD:=fun wz (hz:Chg [] u3 wz)=>f4y (hA.same hz) ((hp.same hC).same hz)
 have ae:=fun wz (hz:Chg [] u3 wz)=>f4f (hA.same hz) ((hp.same hC).same hz)
 have af:=fun wz (hz:Chg [] u3 wz) gP ab xs gs (ho:a1x wz pS gP ab xs gs)=>f2q (hA.same hz) ho
 unfold b1d e6p at aD ae
 unfold e6p at af
 have aU:Hid (u3=(((w.alloc (.cells #[.int .i64 200] 3)).alloc (.cells #[.slice (some ⟨w.heap.size,0,none⟩) 1 1] 22)).alloc (.cells #[.int .i64 1,.int .i64 1,.int .i64 8,.slice (some ⟨w.heap.size+1,0,none⟩) 1 1] 27))):=hid (by rw [av,ao,ah])
 have HC:=hid hC
 have aA:=hid b3
 have aQ:=hid aD
 have aB:=hid ae
 have aT:=hid af
 have HP:=hid (hp.same hC)
 clear ah ao av z1 z2 c1 c2 c3 b1 b2 b3 hC hA aD ae af hp
 go_enter Tryz.func21,Tryz.ntmps21
 go_wp2_with fail
 rw [<-aU.out]
 refine (aQ.out u3 (zR _ _)).mono ?_
 rintro e w4 ⟨v4,G4,rfl,an,aw,aS,ad⟩
 obtain ⟨g4,c4,rfl,ag,-⟩:=e4j (N:=9) an (by rw [zE];exact b8p) (by decide)
 obtain ⟨cc,aK,au,aF,ap⟩:=ag.cells_b8
 have az:c4=cc:=by injection aK
 clear aK
 subst az
 rw [b8p] at au
 have ak:=hid (f4g ad (HP.out.same aw) ap au aF)
 have am:=hid (fun wz (hz:Chg [] w4 wz)=>f2p ad (ap.same hz) au aF)
 unfold e6p at ak
 have aj:=hid aw
 have ax:=hid ap
 obtain ⟨a0,a1,a2,a3⟩:=(aA.out.same aw).cells
 clear an aw aS ad ag ap
 go_wp2_with fail
 refine ak.out.mono ?_
 rintro e w5 ⟨gP,ab,xs,gs,rfl,aI,aE⟩
 obtain ⟨w6,ar⟩:=zX (w5.alloc (.cells #[.int .i64 1,.int .i64 1,.int .i64 8,.slice (some ⟨gP,0,none⟩) 1 ab] 27))
 obtain ⟨X,hX⟩:=zX (w5.heap.size)
 have ay:Chg [] w5 w6:=by rw [ar];exact (zR [] w5).alloc _
 have aH:Box w6 X (.int .i64 1) (.int .i64 1) (.int .i64 8) (.slice (some ⟨gP,0,none⟩) 1 ab):=⟨by rw [ar,hX];exact Blk.new w5 _ _⟩
 have aR:=hid (aI.same ay)
 have al:=hid (aE.tq ay)
 have aO:=hid aH
 have aP:=hid ar
 have HX:=hid hX
 clear aI aE ay aH ar hX a0 a1 a2 a3
 go_wp2_with fail
 rw [<-aP.out,<-HX.out]
 refine (am.out w6 al.out).mono ?_
 rintro e w7 ⟨rfl,aC⟩
 have ac:=hid (al.out.tq aC)
 have aG:=hid aC
 obtain ⟨a0,a1,a2,a3⟩:=((aA.out.same aj.out).same ac.out).cells
 clear aC
 go_wp2_with fail
 refine (aB.out w7 (aj.out.tq ac.out)).mono ?_
 rintro e w8 ⟨rfl,aq⟩
 have ai:=ac.out.tq aq
 obtain ⟨a0,a1,a2,a3⟩:=((aA.out.same aj.out).same ai).cells
 obtain ⟨x0,x1,x2,x3⟩:=((aO.out.same aG.out).same aq).cells
 have af:=aT.out w8 (aj.out.tq ai) gP ab xs gs ((aR.out.same aG.out).same aq)
 have aV:=fun w'=>c8l (P:=Tryz.prog) Tryz.underlying39 (some ⟨g4,0,none⟩) 9 c4 5 (by decide) au w' (c2r w')
 have aW:(Go.convert 39 9 (.slice (some ⟨g4,0,none⟩) 5 c4)).run Tryz.prog w8=.ok (.string ⟨#[0,7,0,228,0]⟩) w8:=by
  have aJ:=ax.out.same ai
  have e9:a1e tS=[0,7,0,228,0]++d8f (c3g [0,7,0,228,0]):=by
   unfold a1e
   rw [show b0b tS=[0,7,0,228,0] from e4k]
  rw [e9] at aJ
  obtain ⟨g,o,eg,aX,aa⟩:=aJ.ex (by simp)
  injection eg with eg
  injection eg with eg eo
  subst eg
  subst eo
  exact run_convert_bytes_arg w8 39 5 Tryz.underlying39 Tryz.underlying5 _ _ 5 c4 [0,7,0,228,0] rfl (fun i hi=>by
   match i,hi with
   | 0,_=>exact aa 0 0 rfl
   | 1,_=>exact aa 1 7 rfl
   | 2,_=>exact aa 2 0 rfl
   | 3,_=>exact aa 3 228 rfl
   | 4,_=>exact aa 4 0 rfl) 9 Tryz.underlying9
 have aN:=hid (aj.out.tq ai)
 clear aq ai
 go_wp2_with fail
 refine af.mono ?_
 rintro e w9 ⟨rfl,aL⟩
 have aM:=hid aL
 clear af aL
 go_wp2_with fail
 go_ret
 exact ⟨rfl,HC.out.tq (aN.out.tq aM.out)⟩
end Go.Proofs.YtepjepkgcdfboaaGreatDoor
