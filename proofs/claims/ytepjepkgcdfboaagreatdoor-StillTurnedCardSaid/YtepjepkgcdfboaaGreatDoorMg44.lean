/- package still by its contracts: putTransformed. -/
import Derived.Test.YtepjepkgcdfboaaGreatDoorMg39
import Derived.Test.YtepjepkgcdfboaaGreatDoorMg43
set_option linter.unusedVariables false
set_option linter.unusedSimpArgs false
set_option maxHeartbeats 1000000
set_option maxRecDepth 100000
namespace Go.Proofs.YtepjepkgcdfboaaGreatDoor
open Go.RowKit
def b4d (kind:Option Nat) (p:a2a):Nat:=match kind with
 | none=>a7t p 4
 | some k=>k
def d5c (kind:Option Nat) (p:a2a):Prop:=∀ k,kind=some k->k<=4/\b9k p.P.length k=true
theorem e8h {kind:Option Nat} {p:a2a} (hp:p.Ok) (h:d5c kind p):b4d kind p<=4/\b9k p.P.length (b4d kind p)=true:=by
 cases kind with
 | none=>exact ⟨b9g p 4,b4v hp 4⟩
 | some k=>exact h k rfl
def b4s (way:Option Nat) (kind:Nat) (w:World) (b:Nat) (F bs:List Nat) (p:a2a) (e:Ending) (w':World):Prop :=
 if b1t way kind p=true then e=.returned (.int .i64 0)/\∃ F',a2n w' b F' (bs++(a0b 0 1++(a0b kind 3++a1d way (a3p kind p) p.P.length)))/\a0u F F' w w' else e=.returned (.int .i64 6)/\∃ F',a0u F F' w w'
theorem d4j {way:Option Nat} (hway:b1b way) {kind:Option Nat} {w:World} {p:a2a} {g o:Nat} {B:Nat->Option Addr} {c:Nat->Nat} {G:List Nat} (cap:Nat) (h:a4l w p g o B c G) (hk:d5c kind p)
  (b:Nat) (F bs:List Nat) (hw:a2n w b F bs) (hG:∀ x∈G,x∉F) (hp:Pts w) (h0F:0∉F) (hbs:bs.length<1000000) :
  Calls Tryz.prog 50 #[.pointer (some ⟨b,0,none⟩),a6y p g o cap,.int .i64 (c5y kind),.int .i64 (c5y way)] w (b4s way (b4d kind p) w b F bs p):=by
 have am:=h.ok
 obtain ⟨bx,a8⟩:=e8h am hk
 have ac:∀ w',Chg [] w w'->_:=fun w' (hc':Chg [] w w')=>e7y cap (h.same hc')
 have aa:∀ w',Chg [] w w'->_:=fun w' (hc':Chg [] w w')=>d6e cap (h.same hc') (b4d kind p) bx a8
 obtain ⟨K,hK⟩:=zX (b4d kind p)
 rw [<-hK] at bx aa ⊢
 obtain ⟨q,hq⟩:=zX (a3p K p)
 obtain ⟨n,hn⟩:=zX (p.P.length)
 have ai:q.Ok:=by rw [hq];exact b2t am K
 have aH:q.P.length=n:=by rw [hq,hn];exact a3y _ _ _
 have ag:q.W=p.W/\q.H=p.H/\q.d=p.d:=by rw [hq];exact ⟨rfl,rfl,rfl⟩
 have bq:=fun k=>b2a hway ai k
 have bP:n<=4:=by rw [hn];exact am.n1
 unfold a2x at aa
 rw [<-hq] at aa
 unfold a6y at ac aa ⊢
 rw [aH,ag.1,ag.2.1,ag.2.2] at aa
 rw [<-hn] at ac aa ⊢
 have af:Hid (b1t way K p=a2u way q n/\a1d way (a3p K p) p.P.length=a1d way q n):=hid (by unfold b1t;rw [<-hq,<-hn];exact ⟨rfl,rfl⟩)
 obtain ⟨w1,aB⟩:=zX (w.alloc (.cells #[.int .i64 p.W,.int .i64 p.H,.int .i64 p.d,.slice (some ⟨g,o,none⟩) n cap] 27))
 obtain ⟨X,hX⟩:=zX (w.heap.size)
 have aX:Box w1 X (.int .i64 p.W) (.int .i64 p.H) (.int .i64 p.d) (.slice (some ⟨g,o,none⟩) n cap):=⟨by rw [aB,hX];exact Blk.new w _ _⟩
 have bn:Chg [] w w1:=by rw [aB];exact (zR [] w).alloc _
 have bB:X∉F:=fun hm'=>by have:=hw.lt X hm';omega
 obtain ⟨ki,aG⟩:=zX (c5y kind)
 rw [<-aG]
 have ax:∀ {wz:World} {l:List Int} {A:Option Addr} (ae:Nat),l.length=q.W*q.H->a1u q.d l->a0d vi wz A l->l.length<=ae->∀ (F' au:List Nat),a2n wz b F' au->Apt A l F'->Pts wz->0∉F'->au.length<17179869184->Calls Tryz.prog 89 #[.pointer (some ⟨b,0,none⟩),.slice A l.length ae,.int .i64 p.W,.int .i64 p.H,.int .i64 p.d,.int .i64 (c5y way)] wz (a7s way wz b F' au l q.W q.H q.d):=by
  intro wz l A ae e1 e2 e3 e4 F' au e5 e6 e7 e8 e9
  have:=c2k hway ae e1 e2 e3 e4 ai.w0 ai.w1 ai.h0 ai.h1 ai.d0 ai.d1 b F' au e5 e6 e7 e8 e9
  rw [ag.1,ag.2.1,ag.2.2] at this
  rw [ag.1,ag.2.1,ag.2.2]
  exact this
 have a7:=hid aB
 have HX:=hid hX
 have bo:=hid aX
 have aw:=hid bn
 have HB:=hid ac
 have HF:=hid aa
 have be:=hid aG
 have HK:=hid hK
 have bf:=hid ai
 have aP:=hid aH
 have HW:=hid hw
 have HP:=hid hp
 have bA:=hid h0F
 have bF:=hid bB
 have bC:=hid bq
 have bk:=hid (fun wz l A ae a b c d e f g i j k m=>@ax wz l A ae a b c d e f g i j k m)
 have bO:∃ wi,wi=c5y way:=⟨_,rfl⟩
 obtain ⟨wi,ba⟩:=bO
 rw [<-ba] at bk ⊢
 obtain ⟨a0,a1,a2,a3⟩:=aX.cells
 clear aB hX aX bn ac aa aG hK hq ai aH ag hw hp h0F bB bq ax ba am h hk a8 hG hn hway
 rcases kind with _ | k
 have e1:ki=-1:=be.out
 subst e1
 have br:K=a7t p 4:=HK.out
 have hb:=HB.out w1 aw.out
 rw [<-br] at hb
 clear br
 go_enter Tryz.func50,Tryz.ntmps50
 go_wp2_with fail
 rw [<-a7.out,<-HX.out]
 refine hb.mono ?_
 rintro e wz ⟨rfl,aL⟩
 clear a0 a1 a2 a3 hb
 obtain ⟨a0,a1,a2,a3⟩:=(bo.out.same aL).cells
 have an:=hid aL
 clear aL
 go_wp2_with fail
 rotate_left
 have e1:ki=(k:Int):=be.out
 have e2:k=K:=HK.out.symm
 subst e1
 subst e2
 have t0:decide ((k:Int)<0)=false:=zA (by omega)
 go_enter Tryz.func50,Tryz.ntmps50
 go_wp2_with fail
 rw [<-a7.out,<-HX.out]
 obtain ⟨wz,a4⟩:=zX (w1)
 have an:Hid (Chg [] w1 wz):=hid (by rw [a4];exact zR _ _)
 rw [<-a4] at a0 a1 a2 a3 ⊢
 clear a4 t0
 obtain ⟨K,bN⟩:=zX (k)
 subst bN
 all_goals
  clear a0 a1 a2 a3
  refine (HF.out wz (aw.out.tq an.out)).mono ?_
  rintro e w3 ⟨gP,az,xs,gs,rfl,aj,aE,ao⟩
  obtain ⟨w4,aF⟩:=zX (w3.alloc (.cells #[.int .i64 p.W,.int .i64 p.H,.int .i64 p.d,.slice (some ⟨gP,0,none⟩) n az] 27))
  obtain ⟨X9,aD⟩:=zX (w3.heap.size)
  have av:Chg [] w3 w4:=by rw [aF];exact (zR [] w3).alloc _
  have aR:Box w4 X9 (.int .i64 p.W) (.int .i64 p.H) (.int .i64 p.d) (.slice (some ⟨gP,0,none⟩) n az):=⟨by rw [aF,aD];exact Blk.new w3 _ _⟩
  have aK:Chg [] w w4:=((aw.out.tq an.out).tq aE).tq av
  have bj:∀ x∈gP::gs,w.heap.size<=x/\x<w4.heap.size:=fun x hx=>⟨by have:=ao x hx;have:=(aw.out.tq an.out).size;omega,by
   have:=av.size
   rcases zJ.1 hx with rfl | h1
   ·have:=aj.ltP;omega
   ·have:=aj.pl.lt x h1;omega⟩
  have ap:w.heap.size<=X9/\X9<w4.heap.size:=⟨by rw [aD];have:=((aw.out.tq an.out).tq aE).size;omega,aR.blk.lt⟩
  have aq:=HW.out.same aK
  have bl:=a0t w4 b F bs 0 1 aq (by decide) (by decide) (by omega)
  have bM:=hid aF
  have aC:=hid aK
  have bK:=hid aR
  have bG:=hid ap
  have aQ:=hid bj
  have aW:=hid (aj.same av)
  have aU:Hid (Chg [] w1 w4):=hid ((an.out.tq aE).tq av)
  have aN:=hid HW.out.lt
  have aS:=hid aD
  clear aF aD av aR aK bj ap aq aj aE ao
  go_wp2_with fail
  rw [<-bM.out,<-aS.out]
  refine bl.mono ?_
  rintro e w5 ⟨rfl,F5,bv,bz⟩
  have u1:IntKind.u64.wrap (K:Int)=(K:Int):=IntWalk.u64_in _ (by omega)
  have bc:=a0t w5 b F5 _ K 3 bv (by decide) (by omega) (by rw [zC,a0a];omega)
  have bE:=hid bz
  clear bl bv bz
  go_wp2_with fail
  refine bc.mono ?_
  rintro e w6 ⟨rfl,F6,bh,bp⟩
  have bu:=hid (bE.out.trans bp)
  have bL:Hid (a2n w6 b F6 (bs++(a0b 0 1++(a0b K 3++a1d way q 0)))):=hid (by
   have e0:a1d way q 0=[]:=rfl
   rw [e0]
   simpa only [zH,List.append_nil] using bh)
  have ar:∀ Fk wr,a0u F Fk w4 wr->∀ x,w.heap.size<=x->x<w4.heap.size->x∉Fk:=fun Fk wr hg x h1 h2 hm=>by
   rcases hg.new x hm with h3 | h3
   ·have:=aN.out x h3;omega
   ·omega
  have aI:=hid ar
  obtain ⟨b0,b1,b2,b3⟩:=(bK.out.chg bu.out.chg (fun hm=>by have:=aN.out _ hm;have:=bG.out;omega)).cells
  clear bc bh bp ar
  go_wp2_with fail
  clear b0 b1 b2 b3
  go_loopg [12,13,36] n (fun j v12 v13 v36 wr=>∃ (i:Nat) (Fk:List Nat),v36=.int .i64 i/\i+j=n/\Hid (a2n wr b Fk (bs++(a0b 0 1++(a0b K 3++a1d way q i))))/\Hid (a0u F Fk w4 wr)/\Hid (a2u way q i=true))
  case atStart=>exact ⟨0,F6,rfl,by omega,bL,bu,hid rfl⟩
  case round =>
   obtain ⟨i,Fk,rfl,bQ,bw,ak,aJ⟩:=hrel
   rcases gk with _ | j
   ·obtain rfl:i=n:=by omega
    have t1:decide ((i:Int)<(i:Int))=false:=by simp
    go_wp2_with fail
    go_ret
    unfold b4s
    rw [af.out.1,af.out.2,if_pos aJ.out]
    exact ⟨rfl,Fk,bw.out,a0u.pre aC.out ak.out⟩
   ·have hi:i<n:=by omega
    have t1:decide ((i:Int)<(n:Int))=true:=zB (by omega)
    have aO:∀ x∈gP::gs,x∉F:=fun x hx hm=>by have:=aQ.out x hx;have:=aN.out x hm;omega
    have am:=aW.out.chg ak.out.chg (aO gP (by simp)) (fun x hx=>aO x (by simp [hx]))
    obtain ⟨gi,ci,e1,e2,e3,e4⟩:=am.plane (show i<q.P.length by rw [aP.out];exact hi)
    obtain ⟨D,hD⟩:=zX (q.P.getD i [])
    rw [<-hD] at e3
    have a6:D.length=q.W*q.H:=by rw [hD];exact bf.out.len _ (a0n (by rw [aP.out];exact hi))
    have a9:a1u q.d D:=by rw [hD];exact bf.out.smp _ (a0n (by rw [aP.out];exact hi))
    rw [<-a6] at e3 e4
    have bm:a0d vi wr (some ⟨gi,0,none⟩) D:=e3.toOwn.cells
    have ah:D.length<=ci:=by
     obtain ⟨c7,aZ,ah,_⟩:=e3.oq
     injection aZ with _ _ aZ
     rw [aZ]
     exact ah
    have bd:gi∉Fk:=aI.out Fk wr ak.out gi (aQ.out gi (by simp [List.mem_of_getElem? e2])).1 (aQ.out gi (by simp [List.mem_of_getElem? e2])).2
    have bg:Apt (some (⟨gi,0,none⟩:Addr)) D Fk:=fun _ ad e hm=>by injection e with e;subst e;exact bd hm
    have ay:=(HP.out.same aC.out).chg ak.out.chg bA.out
    have bb:0∉Fk:=ak.out.out (by have:=HP.out.lt;have:=aC.out.size;omega) bA.out
    have ax:=bk.out wr D (some ⟨gi,0,none⟩) ci a6 a9 bm ah Fk _ bw.out bg ay bb (by
     have:=bC.out i aJ.out
     simp only [zC,a0a]
     omega)
    have al:=a5t way q i
    have aT:=b3n way q i
    rw [<-hD] at al aT
    obtain ⟨a0,a1,a2,a3⟩:=(((bo.out.same aU.out).chg ak.out.chg bF.out)).cells
    have a5:=hid ax
    have bI:=hid hD
    have aV:=hid al
    have bD:=hid aT
    clear ax al aT hD a6 a9 bm ah bg ay bb bd am aO e1 e2 e3
    go_wp2_with fail
    refine a5.out.mono ?_
    rintro e w7 ab
    unfold a7s at ab
    cases hpo:a6c way D q.W q.H q.d with
    | true =>
     rw [if_pos hpo] at ab
     obtain ⟨rfl,F7,bi,aA⟩:=ab
     have aY:=hid (ak.out.trans aA)
     have bH:Hid (a2n w7 b F7 (bs++(a0b 0 1++(a0b K 3++a1d way q (i+1))))):=hid (by rw [aV.out];simpa only [zH] using bi)
     have bJ:Hid (a2u way q (i+1)=true):=hid (by rw [bD.out,aJ.out,hpo];rfl)
     clear bi aA hpo
     go_wp2_with fail
     go_roundg j
     case measure=>omega
     case rel=>exact ⟨i+1,F7,by go_num,by omega,bH,aY,bJ⟩
    | false =>
     rw [if_neg (by rw [hpo];simp)] at ab
     obtain ⟨rfl,F7,aA⟩:=ab
     have aY:=hid (ak.out.trans aA)
     have aM:Hid (¬ a2u way q n=true):=hid (fun h=>by
      have h1:=b8g h hi
      rw [<-bI.out,hpo] at h1
      cases h1)
     clear aA hpo
     go_wp2_with fail
     go_ret
     unfold b4s
     rw [af.out.1,if_neg aM.out]
     exact ⟨rfl,F7,a0u.pre aC.out aY.out⟩
theorem e5f (b:Nat) (w:World):Calls Tryz.prog 100 #[.pointer (some ⟨b,0,none⟩),.int .i64 0] w fun e w'=>e=.returned (.int .i64 0)/\w=w':=by
 go_enter Tryz.func100,Tryz.ntmps100
 go_wp2
 go_ret
 exact ⟨rfl,rfl⟩
theorem b8h (way:Option Nat) (q:a2a):∀ k n i,i+k=n->∃ rest,a1d way q n=a1d way q i++rest
 | 0,n,i,h=>⟨[],by rw [List.append_nil,show i=n by omega]⟩
 | k+1,n,i,h=>by
  obtain ⟨r,hr⟩:=b8h way q k n (i+1) (by omega)
  exact ⟨_,by rw [hr,a5t,zH]⟩
theorem c3x {way:Option Nat} {q:a2a} {n:Nat} {ds:List Nat} {pos:Nat} (ha:a0y ds pos (a1d way q n)) {k:Nat} (hk:k<n) :
  a0y ds (pos+(a1d way q k).length) (a1y way (q.P.getD k []) q.W q.H q.d):=by
 obtain ⟨r,hr⟩:=b8h way q (n-(k+1)) n (k+1) (by omega)
 rw [hr,a5t,zH] at ha
 exact ha.right.left
def a9h (w:World) (b:Nat) (F ds:List Nat) (pos:Nat) (p:a2a) (e:Ending) (w':World):Prop :=
 ∃ (gP capP:Nat) (xs:List Value) (gs:List Nat),e=.returned (.tuple #[a6y p gP 0 capP,.int .i64 0])/\a1x w' p gP capP xs gs/\a1r w' b F ds pos/\Chg [b] w w'/\∀ x∈gP::gs,w.heap.size<=x
theorem d3m {way:Option Nat} (hway:b1b way) {w:World} {b:Nat} {F ds:List Nat} {pos:Nat} (hr:a1r w b F ds pos) {q:a2a} (hq:q.Ok) {k:Nat} (k4:k<=4) (hm:b9k q.P.length k=true) (hmay:a2u way q q.P.length=true)
  (hp:Pts w) (h0F:0∉F) (ha:a0y ds pos (a0b k 3++a1d way q q.P.length)) :
  Calls Tryz.prog 71 #[.pointer (some ⟨b,0,none⟩),.int .i64 q.W,.int .i64 q.H,.int .i64 q.d,.int .i64 q.P.length] w (a9h w b F ds (pos+3+(a1d way q q.P.length).length) (c9h k q)):=by
 unfold a9h
 have bP:=hr.lt b hr.mem
 have a8:b≠0:=fun e=>h0F (by rw [<-e];exact hr.mem)
 have bg:=fun w1 (h:a1r w1 b F ds pos)=>a0j w1 b F ds pos 3 k h (by omega) (by omega) ha.left
 have aH:=fun w'=>c0z q.P.length k w' hq.n0 hq.n1 k4
 rw [hm] at aH
 have aN:=ha.right
 rw [a0a] at aN
 have af:∀ i,i<q.P.length->∀ w',a1r w' b F ds (pos+3+(a1d way q i).length)->Pts w'->Calls Tryz.prog 101 #[.pointer (some ⟨b,0,none⟩),.int .i64 q.W,.int .i64 q.H,.int .i64 q.d] w' (a6l w' b F ds (pos+3+(a1d way q (i+1)).length) (q.P.getD i [])):=fun i hi w' hr' hp'=>by
  have:=c0y hway hr' (hq.len _ (a0n hi)) (hq.smp _ (a0n hi)) hq.w0 hq.w1 hq.h0 hq.h1 hq.d0 hq.d1 hp' h0F (b8g hmay hi) (c3x aN hi)
  rw [Nat.add_assoc,<-zC,<-a5t] at this
  exact this
 have aK:∀ i,i<q.P.length->(q.P.getD i []).length=q.W*q.H:=fun i hi=>hq.len _ (a0n hi)
 obtain ⟨N,hN⟩:=zX (q.W*q.H)
 have ad:=fun {w':World} {gP aa:Nat} {xs:List Value} {gs:List Nat} (h:a1x w' q gP aa xs gs)=>e7x aa h.at_ k k4 hm
 have aq:c9a q (c9h k q):=⟨rfl,rfl,rfl,(a3y _ _ _).symm⟩
 obtain ⟨r,aw⟩:=zX (c9h k q)
 rw [<-aw] at ad aq ⊢
 have bn:a6y r=fun gP o' cap' => .agg #[.int .i64 q.W,.int .i64 q.H,.int .i64 q.d,.slice (some ⟨gP,o',none⟩) q.P.length cap']:=by
  funext gP o' cap'
  unfold a6y
  rw [aq.W,aq.H,aq.d,aq.n]
 unfold a2x at ad
 rw [bn] at ad ⊢
 obtain ⟨n,hn⟩:=zX (q.P.length)
 have bW:n<=4:=by rw [hn];exact hq.n1
 have bT:1<=n:=by rw [hn];exact hq.n0
 unfold a6y at ad
 rw [<-hn] at aH af ad aK ⊢
 rw [<-hN] at aK
 have bV:IntKind.i64.wrap (k:Int)=(k:Int):=IntWalk.i64_in _ (by omega)
 obtain ⟨w1,aA⟩:=zX (w.alloc (.cells #[.int .i64 0,.int .i64 0,.int .i64 0,.slice none 0 0] 27))
 obtain ⟨R,hR⟩:=zX (w.heap.size)
 have a7:Box w1 R (.int .i64 0) (.int .i64 0) (.int .i64 0) (.slice none 0 0):=⟨by rw [aA,hR];exact Blk.new w _ _⟩
 have bk:Chg [] w w1:=by rw [aA];exact (zR [] w).alloc _
 have aF:Hid (w.heap.size<=R/\R<w1.heap.size/\b<R):=hid ⟨by omega,a7.blk.lt,by omega⟩
 have aJ:Hid (n=q.P.length):=hid hn
 have HQ:=hid hq
 have bS:Hid (q=⟨q.W,q.H,q.d,q.P⟩):=hid rfl
 have bH:=hid bg
 have bL:=hid aH
 have bE:=hid af
 have bD:=hid aK
 have bQ:=hid (fun (w':World) (gP aa:Nat) (xs:List Value) (gs:List Nat) h=>@ad w' gP aa xs gs h)
 have bu:=hid aA
 have bs:=hid hR
 have bK:=hid a7
 have aE:=hid bk
 have bo:=hid hr
 have HP:=hid hp
 have bb:=hid a8
 clear bP a8 bg aH af aK hN ad aq aw bn hn aA hR a7 bk hr hp ha aN hm hmay hway hq h0F
 go_enter Tryz.func71,Tryz.ntmps71
 go_wp2_with fail
 rw [<-bu.out,<-bs.out]
 refine (bH.out w1 (bo.out.chg aE.out (by simp))).mono ?_
 rintro e w2 ⟨rfl,aL,bq⟩
 have ay:=a2b w2 b F ds _ aL
 have aB:=hid aL
 have av:=hid bq
 clear aL bq
 go_wp2_with (go_at_call 69;refine ay.mono ?_;rintro e w' ⟨rfl,rfl⟩)
 refine (bL.out w2).mono ?_
 rintro e w3 ⟨rfl,rfl⟩
 clear ay
 obtain ⟨wA,az⟩:=zX (w2.alloc (.cells #[.int .i64 q.W,.int .i64 q.H,.int .i64 q.d,.slice none 0 0] 27))
 obtain ⟨cb,aX⟩:=zX (w2.heap.size)
 have bc:c8v [b] w2 q.W q.H q.d cb wA (.slice none 0 0) [] [] (q.P.take 0) []:=by
  refine ⟨by rw [az,aX];exact Blk.new w2 _ _,Own.nil _ _,a2k.nil _,by simp,by simp,by simp,?_,?_,by rw [az];exact (zR [b] w2).alloc _⟩
  ·intro x hx
   simp at hx
   omega
  ·intro x hx
   simp at hx
   subst hx
   exact aB.out.lt _ aB.out.mem
 have bJ:=hid bc
 have bG:Hid (a1r wA b F ds (pos+3+(a1d way q 0).length)):=hid (by
  have e:a1d way q 0=[]:=rfl
  rw [e,az]
  exact aB.out.chg ((zR [] w2).alloc _) (by simp))
 have bA:=hid az
 have bF:=hid aX
 clear bc az aX
 go_wp2_with fail
 rw [<-bA.out,<-bF.out]
 go_loopg [15,16,38] n (fun j v15 v16 v38 wr=>∃ (i:Nat) (vP:Value) (E:List Nat) (xs:List Value) (gs:List Nat),v38=.int .i64 i/\i+j=n/\Hid (c8v [b] w2 q.W q.H q.d cb wr vP E xs (q.P.take i) gs)/\Hid (a1r wr b F ds (pos+3+(a1d way q i).length)))
 case atStart=>exact ⟨0,_,[],[],[],rfl,by omega,bJ,bG⟩
 case round =>
  obtain ⟨i,vP,E,xs,gs,rfl,bU,HS,bm⟩:=hrel
  rcases gk with _ | j
  ·obtain rfl:i=n:=by omega
   have t1:decide ((i:Int)<(i:Int))=false:=by simp
   have bf:q.P.take i=q.P:=zT (by rw [<-aJ.out];exact zQ _)
   have hs:=HS.out
   rw [bf] at hs
   have ap:xs.length=i:=by rw [hs.pl.lx,<-aJ.out]
   rcases hs.own.cases with ⟨_,he,_⟩ | ⟨gP,am,hE⟩
   ·exfalso
    rw [he] at ap
    simp at ap
    omega
   have aP:=am
   obtain ⟨aa,rfl,aT,aO,-,-⟩:=am.open_
   rw [ap] at aP hs
   have ax:a1x wr q gP aa xs gs:=⟨HQ.out,by rw [<-aJ.out];exact aP,hs.pl⟩
   obtain ⟨b0,b1,b2,b3⟩:=(show Box wr cb _ _ _ _ from ⟨hs.blk⟩).cells
   have an:Hid (Chg [b] w1 wr):=hid (av.out.tq hs.chg)
   have ad:=bQ.out wr gP aa xs gs ax
   clear hs am aT aO bf aP ax
   go_wp2_with fail
   refine ad.mono ?_
   rintro e w5 ⟨gQ,ag,ys,hs,rfl,ak,ao,aj⟩
   clear b0 b1 b2 b3 ad
   obtain ⟨wX,au⟩:=zX (w5.alloc (.cells #[.int .i64 q.W,.int .i64 q.H,.int .i64 q.d,.slice (some ⟨gQ,0,none⟩) i ag] 27))
   obtain ⟨X,hX⟩:=zX (w5.heap.size)
   have aG:Chg [] w5 wX:=by rw [au];exact (zR [] w5).alloc _
   have a6:Box wX X (.int .i64 q.W) (.int .i64 q.H) (.int .i64 q.d) (.slice (some ⟨gQ,0,none⟩) i ag):=⟨by rw [au,hX];exact Blk.new w5 _ _⟩
   have ae:Box wX R (.int .i64 0) (.int .i64 0) (.int .i64 0) (.slice none 0 0):=((bK.out.chg an.out (by have:=aF.out;simp;omega)).same ao).same aG
   obtain ⟨a0,a1,a2,a3⟩:=a6.cells
   have bR:=hid a6
   have bw:=hid ae
   have bi:=hid au
   have bp:=hid hX
   have a4:=hid (ak.same aG)
   have bh:=hid (ao.tq aG)
   have bj:Hid (∀ x∈gQ::hs,w1.heap.size<=x):=hid (fun x hx=>Nat.le_trans an.out.size (aj x hx))
   rw [au,hX] at a0 a1 a2 a3
   clear au hX aG a6 ae ak ao aj
   go_wp2_with fail
   rw [<-bi.out,<-bp.out]
   rw [<-bi.out,<-bp.out] at a0 a1 a2 a3
   have aw:=e5f b
   refine a0c 4 (by kernel_rfl) (by kernel_rfl) ?_
   simp only [List.take_succ_cons,List.take_zero,List.drop_succ_cons,List.drop_zero]
   repeat (go_big_quiet_step ((go_at_call 100;exact Calls.quiet_of_same ((aw _).mono (fun _ _ h=>⟨h.1,h.2.symm⟩)))))
   refine wpQuiet_nil ?_
   intro _ bx
   obtain ⟨nq,rfl⟩:=bx
   have ae:=bw.out.same ((zR [] wX).drewN nq)
   obtain ⟨z0,z1,z2,z3⟩:=ae.cells
   have f0:=ae.blk.frozen 0
   have f1:=ae.blk.frozen 1
   have f2:=ae.blk.frozen 2
   have f3:=ae.blk.frozen 3
   have aS:=hid ae
   clear ae aw a0 a1 a2 a3
   go_wp2_with fail
   refine b1x aS.out ?_
   intro V hV hY
   obtain ⟨x0,x1,x2,x3⟩:=hV.cells
   refine bodyPost_ret (v:=.tuple #[.agg #[.int .i64 q.W,.int .i64 q.H,.int .i64 q.d,.slice (some ⟨gQ,0,none⟩) i ag],.int .i64 0]) (by simp [results,Tryz.results71,go_sem,x0,x1,x2,x3]) rfl ?_
   have aV:Chg [R] wX V:=((zR [R] wX).drewN nq).tq hY
   have a9:∀ x∈gQ::hs,x≠R:=fun x hx e=>by have:=bj.out x hx;have:=aF.out;omega
   refine ⟨gQ,ag,ys,hs,rfl,a4.out.chg aV (by simpa using a9 gQ (by simp)) (fun x hx=>by simpa using a9 x (by simp [hx])),?_,?_,fun x hx=>by have:=bj.out x hx;have:=aE.out.size;omega⟩
   ·refine ((bm.out.chg bh.out (by simp))).chg aV (fun x hx hm => ?_)
    simp at hm
    subst hm
    have:=bo.out.lt _ hx
    have:=aF.out
    omega
   ·refine (((aE.out.mono (F':=[b]) (by simp)).tq an.out).tq (bh.out.mono (by simp))).trans aV (fun x hx => .inr ?_)
    simp at hx
    have:=aF.out
    omega
  ·have hi:i<n:=by omega
   have t1:decide ((i:Int)<(n:Int))=true:=zB (by omega)
   have af:=bE.out i hi wr bm.out (((HP.out.same aE.out).chg av.out (by simpa using fun e=>bb.out e.symm)).chg HS.out.chg (by simpa using fun e=>bb.out e.symm))
   have a5:i<q.P.length:=by rw [<-aJ.out];exact hi
   have aI:q.P.take (i+1)=q.P.take i++[q.P.getD i []]:=by
    rw [List.take_succ_eq_append_getElem a5,zD,zF a5]
    rfl
   have ap:xs.length=i:=by rw [HS.out.pl.lx,zI];omega
   have bl:=hid aI
   have bM:=hid ap
   obtain ⟨l,hl⟩:=zX (q.P.getD i [])
   have aZ:=bD.out i hi
   rw [<-hl] at aI af aZ
   have bl:=hid aI
   unfold a6l at af
   rw [aZ] at af
   have aR:=hid af
   clear af a5 aI ap hl aZ
   go_wp2_with fail
   refine aR.out.mono ?_
   rintro e w5 ⟨g5,rfl,al,bd,ao,br⟩
   have aC:=HS.out.turn ao
   obtain ⟨wB,aD⟩:=zX (w5.alloc (.cells #[.slice (some ⟨g5,0,none⟩) N N] 22))
   have ar:Chg [] w5 wB:=by rw [aD];exact (zR [] w5).alloc _
   have ba:=Blk.new w5 22 #[.slice (some ⟨g5,0,none⟩) N N]
   have ac:=aC.own.same ar
   have ah:=al.chg ar (by simp)
   have bv:=hid (aC.blk.chg ar (by simp))
   have y5:=aC.blk.cell 3
   simp at y5
   rw [aD] at ac
   have bB:=hid aD
   have aU:=hid ah
   have bN:=hid (ao.tq (ar.mono (F':=[b]) (by simp)))
   have bI:=hid (bd.chg ar (by simp))
   have bC:=hid br
   have aQ:=bM.out
   clear aD ar al ah ao br bd aC
   go_wp2_with (at_builtin;refine a0f rfl rfl b7k rfl rfl ac (.slice (some ⟨g5,0,none⟩) N N) rfl ?c1 rfl ?c3 ?c4 ?_)
   case c1=>exact ba.cell 0
   case c3=>rw [aQ];omega
   case c4=>rw [aQ];omega
   intro g6 aY w6 ai ab
   rw [<-bB.out] at ab
   have aM:=bv.out.chg ab.chg HS.out.cF
   have y6:=aM.cell 3
   have z6:=aM.frozen 3
   simp at y6
   have aW:=c8v.next HS.out bN.out aU.out bC.out ai ab
   rw [<-bl.out] at aW
   have bO:=hid aW
   have be:a1r (w6.setCell ⟨cb,3,none⟩ (.slice (some ⟨g6,0,none⟩) (i+1) aY)) b F ds (pos+3+(a1d way q (i+1)).length):=by
    have hF:∀ x∈cb::(E++gs),x∉F:=fun x hx hm=>by have:=HS.out.new x hx;have:=aB.out.lt x hm;omega
    exact (bI.out.chg ab.chg (fun x hx hm=>hF x (by simp [hm]) hx)).chg ((zR [cb] w6).setCell (p:=⟨cb,3,none⟩) (.inl (by simp)) _) (fun x hx hm=>hF cb (by simp) (by simp at hm;exact hm ▸ hx))
   have bz:=hid be
   clear aW ai ab aM ac ba y5 be
   clear aQ
   go_wp2_with fail
   go_roundg j
   case measure=>omega
   case rel=>exact ⟨i+1,_,_,_,_,by go_num,by omega,bO,bz⟩
end Go.Proofs.YtepjepkgcdfboaaGreatDoor
