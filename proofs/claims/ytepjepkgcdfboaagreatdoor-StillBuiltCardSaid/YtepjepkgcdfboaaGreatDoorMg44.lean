/- package still by its contracts: putTransformed. -/
import Derived.Test.YtepjepkgcdfboaaGreatDoorMg39
import Derived.Test.YtepjepkgcdfboaaGreatDoorMg43
set_option linter.unusedVariables false
set_option linter.unusedSimpArgs false
set_option maxHeartbeats 1000000
set_option maxRecDepth 100000
namespace Go.Proofs.YtepjepkgcdfboaaGreatDoor
open Go.RowKit
def b4d (kind:Option Nat) (p:a2a):Nat:=match kind with
 | none=>a7t p 4
 | some k=>k
def d5c (kind:Option Nat) (p:a2a):Prop:=∀ k,kind=some k->k<=4/\b9k p.P.length k=true
theorem e8h {kind:Option Nat} {p:a2a} (hp:p.Ok) (h:d5c kind p):b4d kind p<=4/\b9k p.P.length (b4d kind p)=true:=by
 cases kind with
 | none=>exact ⟨b9g p 4,b4v hp 4⟩
 | some k=>exact h k rfl
def b4s (way:Option Nat) (kind:Nat) (w:World) (b:Nat) (F bs:List Nat) (p:a2a) (e:Ending) (w':World):Prop :=
 if b1t way kind p=true then e=.returned (.int .i64 0)/\∃ F',a2n w' b F' (bs++(a0b 0 1++(a0b kind 3++a1d way (a3p kind p) p.P.length)))/\a0u F F' w w' else e=.returned (.int .i64 6)/\∃ F',a0u F F' w w'
theorem d4j {way:Option Nat} (hway:b1b way) {kind:Option Nat} {w:World} {p:a2a} {g o:Nat} {B:Nat->Option Addr} {c:Nat->Nat} {G:List Nat} (cap:Nat) (h:a4l w p g o B c G) (hk:d5c kind p)
  (b:Nat) (F bs:List Nat) (hw:a2n w b F bs) (hG:∀ x∈G,x∉F) (hp:Pts w) (h0F:0∉F) (hbs:bs.length<1000000) :
  Calls Tryz.prog 50 #[.pointer (some ⟨b,0,none⟩),a6y p g o cap,.int .i64 (c5y kind),.int .i64 (c5y way)] w (b4s way (b4d kind p) w b F bs p):=by
 have al:=h.ok
 obtain ⟨br,bf⟩:=e8h al hk
 have ac:∀ w',Chg [] w w'->_:=fun w' (hc':Chg [] w w')=>e7y cap (h.same hc')
 have aa:∀ w',Chg [] w w'->_:=fun w' (hc':Chg [] w w')=>d6e cap (h.same hc') (b4d kind p) br bf
 obtain ⟨K,hK⟩:=zX (b4d kind p)
 rw [<-hK] at br aa ⊢
 obtain ⟨q,hq⟩:=zX (a3p K p)
 obtain ⟨n,hn⟩:=zX (p.P.length)
 have aj:q.Ok:=by rw [hq];exact b2t al K
 have aR:q.P.length=n:=by rw [hq,hn];exact a3y _ _ _
 have ag:q.W=p.W/\q.H=p.H/\q.d=p.d:=by rw [hq];exact ⟨rfl,rfl,rfl⟩
 have bd:=fun k=>b2a hway aj k
 have bP:n<=4:=by rw [hn];exact al.n1
 unfold a2x at aa
 rw [<-hq] at aa
 unfold a6y at ac aa ⊢
 rw [aR,ag.1,ag.2.1,ag.2.2] at aa
 rw [<-hn] at ac aa ⊢
 have af:Hid (b1t way K p=a2u way q n/\a1d way (a3p K p) p.P.length=a1d way q n):=hid (by unfold b1t;rw [<-hq,<-hn];exact ⟨rfl,rfl⟩)
 obtain ⟨w1,aD⟩:=zX (w.alloc (.cells #[.int .i64 p.W,.int .i64 p.H,.int .i64 p.d,.slice (some ⟨g,o,none⟩) n cap] 27))
 obtain ⟨X,hX⟩:=zX (w.heap.size)
 have aH:Box w1 X (.int .i64 p.W) (.int .i64 p.H) (.int .i64 p.d) (.slice (some ⟨g,o,none⟩) n cap):=⟨by rw [aD,hX];exact Blk.new w _ _⟩
 have bw:Chg [] w w1:=by rw [aD];exact (zR [] w).alloc _
 have bp:X∉F:=fun hm'=>by have:=hw.lt X hm';omega
 obtain ⟨ki,a5⟩:=zX (c5y kind)
 rw [<-a5]
 have aw:∀ {wz:World} {l:List Int} {A:Option Addr} (ae:Nat),l.length=q.W*q.H->a1u q.d l->a0d vi wz A l->l.length<=ae->∀ (F' az:List Nat),a2n wz b F' az->Apt A l F'->Pts wz->0∉F'->az.length<17179869184->Calls Tryz.prog 89 #[.pointer (some ⟨b,0,none⟩),.slice A l.length ae,.int .i64 p.W,.int .i64 p.H,.int .i64 p.d,.int .i64 (c5y way)] wz (a7s way wz b F' az l q.W q.H q.d):=by
  intro wz l A ae e1 e2 e3 e4 F' az e5 e6 e7 e8 e9
  have:=c2k hway ae e1 e2 e3 e4 aj.w0 aj.w1 aj.h0 aj.h1 aj.d0 aj.d1 b F' az e5 e6 e7 e8 e9
  rw [ag.1,ag.2.1,ag.2.2] at this
  rw [ag.1,ag.2.1,ag.2.2]
  exact this
 have bB:=hid aD
 have HX:=hid hX
 have bA:=hid aH
 have ar:=hid bw
 have HB:=hid ac
 have HF:=hid aa
 have bk:=hid a5
 have HK:=hid hK
 have a7:=hid aj
 have aT:=hid aR
 have HW:=hid hw
 have HP:=hid hp
 have bz:=hid h0F
 have bF:=hid bp
 have bH:=hid bd
 have bv:=hid (fun wz l A ae a b c d e f g i j k m=>@aw wz l A ae a b c d e f g i j k m)
 have bI:∃ wi,wi=c5y way:=⟨_,rfl⟩
 obtain ⟨wi,bg⟩:=bI
 rw [<-bg] at bv ⊢
 obtain ⟨a0,a1,a2,a3⟩:=aH.cells
 clear aD hX aH bw ac aa a5 hK hq aj aR ag hw hp h0F bp bd aw bg al h hk bf hG hn hway
 rcases kind with _ | k
 have e1:ki=-1:=bk.out
 subst e1
 have bu:K=a7t p 4:=HK.out
 have hb:=HB.out w1 ar.out
 rw [<-bu] at hb
 clear bu
 go_enter Tryz.func50,Tryz.ntmps50
 go_wp2_with fail
 rw [<-bB.out,<-HX.out]
 refine hb.mono ?_
 rintro e wz ⟨rfl,aV⟩
 clear a0 a1 a2 a3 hb
 obtain ⟨a0,a1,a2,a3⟩:=(bA.out.same aV).cells
 have an:=hid aV
 clear aV
 go_wp2_with fail
 rotate_left
 have e1:ki=(k:Int):=bk.out
 have e2:k=K:=HK.out.symm
 subst e1
 subst e2
 have t0:decide ((k:Int)<0)=false:=zA (by omega)
 go_enter Tryz.func50,Tryz.ntmps50
 go_wp2_with fail
 rw [<-bB.out,<-HX.out]
 obtain ⟨wz,aL⟩:=zX (w1)
 have an:Hid (Chg [] w1 wz):=hid (by rw [aL];exact zR _ _)
 rw [<-aL] at a0 a1 a2 a3 ⊢
 clear aL t0
 obtain ⟨K,bG⟩:=zX (k)
 subst bG
 all_goals
  clear a0 a1 a2 a3
  refine (HF.out wz (ar.out.tq an.out)).mono ?_
  rintro e w3 ⟨gP,av,xs,gs,rfl,ai,aE,ao⟩
  obtain ⟨w4,aB⟩:=zX (w3.alloc (.cells #[.int .i64 p.W,.int .i64 p.H,.int .i64 p.d,.slice (some ⟨gP,0,none⟩) n av] 27))
  obtain ⟨X9,aF⟩:=zX (w3.heap.size)
  have ay:Chg [] w3 w4:=by rw [aB];exact (zR [] w3).alloc _
  have aU:Box w4 X9 (.int .i64 p.W) (.int .i64 p.H) (.int .i64 p.d) (.slice (some ⟨gP,0,none⟩) n av):=⟨by rw [aB,aF];exact Blk.new w3 _ _⟩
  have aX:Chg [] w w4:=((ar.out.tq an.out).tq aE).tq ay
  have bc:∀ x∈gP::gs,w.heap.size<=x/\x<w4.heap.size:=fun x hx=>⟨by have:=ao x hx;have:=(ar.out.tq an.out).size;omega,by
   have:=ay.size
   rcases zJ.1 hx with rfl | h1
   ·have:=ai.ltP;omega
   ·have:=ai.pl.lt x h1;omega⟩
  have ap:w.heap.size<=X9/\X9<w4.heap.size:=⟨by rw [aF];have:=((ar.out.tq an.out).tq aE).size;omega,aU.blk.lt⟩
  have aA:=HW.out.same aX
  have bq:=a0t w4 b F bs 0 1 aA (by decide) (by decide) (by omega)
  have bN:=hid aB
  have aC:=hid aX
  have bD:=hid aU
  have bM:=hid ap
  have aK:=hid bc
  have aI:=hid (ai.same ay)
  have a6:Hid (Chg [] w1 w4):=hid ((an.out.tq aE).tq ay)
  have aO:=hid HW.out.lt
  have aM:=hid aF
  clear aB aF ay aU aX bc ap aA ai aE ao
  go_wp2_with fail
  rw [<-bN.out,<-aM.out]
  refine bq.mono ?_
  rintro e w5 ⟨rfl,F5,be,bn⟩
  have u1:IntKind.u64.wrap (K:Int)=(K:Int):=IntWalk.u64_in _ (by omega)
  have bh:=a0t w5 b F5 _ K 3 be (by decide) (by omega) (by rw [zC,a0a];omega)
  have bC:=hid bn
  clear bq be bn
  go_wp2_with fail
  refine bh.mono ?_
  rintro e w6 ⟨rfl,F6,bb,bo⟩
  have bj:=hid (bC.out.trans bo)
  have bO:Hid (a2n w6 b F6 (bs++(a0b 0 1++(a0b K 3++a1d way q 0)))):=hid (by
   have e0:a1d way q 0=[]:=rfl
   rw [e0]
   simpa only [zH,List.append_nil] using bb)
  have aq:∀ Fk wr,a0u F Fk w4 wr->∀ x,w.heap.size<=x->x<w4.heap.size->x∉Fk:=fun Fk wr hg x h1 h2 hm=>by
   rcases hg.new x hm with h3 | h3
   ·have:=aO.out x h3;omega
   ·omega
  have aS:=hid aq
  obtain ⟨b0,b1,b2,b3⟩:=(bD.out.chg bj.out.chg (fun hm=>by have:=aO.out _ hm;have:=bM.out;omega)).cells
  clear bh bb bo aq
  go_wp2_with fail
  clear b0 b1 b2 b3
  go_loopg [12,13,36] n (fun j v12 v13 v36 wr=>∃ (i:Nat) (Fk:List Nat),v36=.int .i64 i/\i+j=n/\Hid (a2n wr b Fk (bs++(a0b 0 1++(a0b K 3++a1d way q i))))/\Hid (a0u F Fk w4 wr)/\Hid (a2u way q i=true))
  case atStart=>exact ⟨0,F6,rfl,by omega,bO,bj,hid rfl⟩
  case round =>
   obtain ⟨i,Fk,rfl,bQ,a8,ak,aG⟩:=hrel
   rcases gk with _ | j
   ·obtain rfl:i=n:=by omega
    have t1:decide ((i:Int)<(i:Int))=false:=by simp
    go_wp2_with fail
    go_ret
    unfold b4s
    rw [af.out.1,af.out.2,if_pos aG.out]
    exact ⟨rfl,Fk,a8.out,a0u.pre aC.out ak.out⟩
   ·have hi:i<n:=by omega
    have t1:decide ((i:Int)<(n:Int))=true:=zB (by omega)
    have aY:∀ x∈gP::gs,x∉F:=fun x hx hm=>by have:=aK.out x hx;have:=aO.out x hm;omega
    have al:=aI.out.chg ak.out.chg (aY gP (by simp)) (fun x hx=>aY x (by simp [hx]))
    obtain ⟨gi,ci,e1,e2,e3,e4⟩:=al.plane (show i<q.P.length by rw [aT.out];exact hi)
    obtain ⟨D,hD⟩:=zX (q.P.getD i [])
    rw [<-hD] at e3
    have aP:D.length=q.W*q.H:=by rw [hD];exact a7.out.len _ (a0n (by rw [aT.out];exact hi))
    have bm:a1u q.d D:=by rw [hD];exact a7.out.smp _ (a0n (by rw [aT.out];exact hi))
    rw [<-aP] at e3 e4
    have a9:a0d vi wr (some ⟨gi,0,none⟩) D:=e3.toOwn.cells
    have ah:D.length<=ci:=by
     obtain ⟨c7,aQ,ah,_⟩:=e3.oq
     injection aQ with _ _ aQ
     rw [aQ]
     exact ah
    have ba:gi∉Fk:=aS.out Fk wr ak.out gi (aK.out gi (by simp [List.mem_of_getElem? e2])).1 (aK.out gi (by simp [List.mem_of_getElem? e2])).2
    have bi:Apt (some (⟨gi,0,none⟩:Addr)) D Fk:=fun _ ad e hm=>by injection e with e;subst e;exact ba hm
    have au:=(HP.out.same aC.out).chg ak.out.chg bz.out
    have bx:0∉Fk:=ak.out.out (by have:=HP.out.lt;have:=aC.out.size;omega) bz.out
    have aw:=bv.out wr D (some ⟨gi,0,none⟩) ci aP bm a9 ah Fk _ a8.out bi au bx (by
     have:=bH.out i aG.out
     simp only [zC,a0a]
     omega)
    have am:=a5t way q i
    have aZ:=b3n way q i
    rw [<-hD] at am aZ
    obtain ⟨a0,a1,a2,a3⟩:=(((bA.out.same a6.out).chg ak.out.chg bF.out)).cells
    have aJ:=hid aw
    have bL:=hid hD
    have a4:=hid am
    have bK:=hid aZ
    clear aw am aZ hD aP bm a9 ah bi au bx ba al aY e1 e2 e3
    go_wp2_with fail
    refine aJ.out.mono ?_
    rintro e w7 ab
    unfold a7s at ab
    cases hpo:a6c way D q.W q.H q.d with
    | true =>
     rw [if_pos hpo] at ab
     obtain ⟨rfl,F7,bl,ax⟩:=ab
     have aW:=hid (ak.out.trans ax)
     have bE:Hid (a2n w7 b F7 (bs++(a0b 0 1++(a0b K 3++a1d way q (i+1))))):=hid (by rw [a4.out];simpa only [zH] using bl)
     have bJ:Hid (a2u way q (i+1)=true):=hid (by rw [bK.out,aG.out,hpo];rfl)
     clear bl ax hpo
     go_wp2_with fail
     go_roundg j
     case measure=>omega
     case rel=>exact ⟨i+1,F7,by go_num,by omega,bE,aW,bJ⟩
    | false =>
     rw [if_neg (by rw [hpo];simp)] at ab
     obtain ⟨rfl,F7,ax⟩:=ab
     have aW:=hid (ak.out.trans ax)
     have aN:Hid (¬ a2u way q n=true):=hid (fun h=>by
      have h1:=b8g h hi
      rw [<-bL.out,hpo] at h1
      cases h1)
     clear ax hpo
     go_wp2_with fail
     go_ret
     unfold b4s
     rw [af.out.1,if_neg aN.out]
     exact ⟨rfl,F7,a0u.pre aC.out aW.out⟩
theorem e5f (b:Nat) (w:World):Calls Tryz.prog 100 #[.pointer (some ⟨b,0,none⟩),.int .i64 0] w fun e w'=>e=.returned (.int .i64 0)/\w=w':=by
 go_enter Tryz.func100,Tryz.ntmps100
 go_wp2
 go_ret
 exact ⟨rfl,rfl⟩
theorem b8h (way:Option Nat) (q:a2a):∀ k n i,i+k=n->∃ rest,a1d way q n=a1d way q i++rest
 | 0,n,i,h=>⟨[],by rw [List.append_nil,show i=n by omega]⟩
 | k+1,n,i,h=>by
  obtain ⟨r,hr⟩:=b8h way q k n (i+1) (by omega)
  exact ⟨_,by rw [hr,a5t,zH]⟩
theorem c3x {way:Option Nat} {q:a2a} {n:Nat} {ds:List Nat} {pos:Nat} (ha:a0y ds pos (a1d way q n)) {k:Nat} (hk:k<n) :
  a0y ds (pos+(a1d way q k).length) (a1y way (q.P.getD k []) q.W q.H q.d):=by
 obtain ⟨r,hr⟩:=b8h way q (n-(k+1)) n (k+1) (by omega)
 rw [hr,a5t,zH] at ha
 exact ha.right.left
def a9h (w:World) (b:Nat) (F ds:List Nat) (pos:Nat) (p:a2a) (e:Ending) (w':World):Prop :=
 ∃ (gP capP:Nat) (xs:List Value) (gs:List Nat),e=.returned (.tuple #[a6y p gP 0 capP,.int .i64 0])/\a1x w' p gP capP xs gs/\a1r w' b F ds pos/\Chg [b] w w'/\∀ x∈gP::gs,w.heap.size<=x
theorem d3m {way:Option Nat} (hway:b1b way) {w:World} {b:Nat} {F ds:List Nat} {pos:Nat} (hr:a1r w b F ds pos) {q:a2a} (hq:q.Ok) {k:Nat} (k4:k<=4) (hm:b9k q.P.length k=true) (hmay:a2u way q q.P.length=true)
  (hp:Pts w) (h0F:0∉F) (ha:a0y ds pos (a0b k 3++a1d way q q.P.length)) :
  Calls Tryz.prog 71 #[.pointer (some ⟨b,0,none⟩),.int .i64 q.W,.int .i64 q.H,.int .i64 q.d,.int .i64 q.P.length] w (a9h w b F ds (pos+3+(a1d way q q.P.length).length) (c9h k q)):=by
 unfold a9h
 have bF:=hr.lt b hr.mem
 have bo:b≠0:=fun e=>h0F (by rw [<-e];exact hr.mem)
 have a9:=fun w1 (h:a1r w1 b F ds pos)=>a0j w1 b F ds pos 3 k h (by omega) (by omega) ha.left
 have aI:=fun w'=>c0z q.P.length k w' hq.n0 hq.n1 k4
 rw [hm] at aI
 have aW:=ha.right
 rw [a0a] at aW
 have ag:∀ i,i<q.P.length->∀ w',a1r w' b F ds (pos+3+(a1d way q i).length)->Pts w'->Calls Tryz.prog 101 #[.pointer (some ⟨b,0,none⟩),.int .i64 q.W,.int .i64 q.H,.int .i64 q.d] w' (a6l w' b F ds (pos+3+(a1d way q (i+1)).length) (q.P.getD i [])):=fun i hi w' hr' hp'=>by
  have:=c0y hway hr' (hq.len _ (a0n hi)) (hq.smp _ (a0n hi)) hq.w0 hq.w1 hq.h0 hq.h1 hq.d0 hq.d1 hp' h0F (b8g hmay hi) (c3x aW hi)
  rw [Nat.add_assoc,<-zC,<-a5t] at this
  exact this
 have aA:∀ i,i<q.P.length->(q.P.getD i []).length=q.W*q.H:=fun i hi=>hq.len _ (a0n hi)
 obtain ⟨N,hN⟩:=zX (q.W*q.H)
 have ae:=fun {w':World} {gP aa:Nat} {xs:List Value} {gs:List Nat} (h:a1x w' q gP aa xs gs)=>e7x aa h.at_ k k4 hm
 have ar:c9a q (c9h k q):=⟨rfl,rfl,rfl,(a3y _ _ _).symm⟩
 obtain ⟨r,az⟩:=zX (c9h k q)
 rw [<-az] at ae ar ⊢
 have bk:a6y r=fun gP o' cap' => .agg #[.int .i64 q.W,.int .i64 q.H,.int .i64 q.d,.slice (some ⟨gP,o',none⟩) q.P.length cap']:=by
  funext gP o' cap'
  unfold a6y
  rw [ar.W,ar.H,ar.d,ar.n]
 unfold a2x at ae
 rw [bk] at ae ⊢
 obtain ⟨n,hn⟩:=zX (q.P.length)
 have bW:n<=4:=by rw [hn];exact hq.n1
 have bV:1<=n:=by rw [hn];exact hq.n0
 unfold a6y at ae
 rw [<-hn] at aI ag ae aA ⊢
 rw [<-hN] at aA
 have bT:IntKind.i64.wrap (k:Int)=(k:Int):=IntWalk.i64_in _ (by omega)
 obtain ⟨w1,aF⟩:=zX (w.alloc (.cells #[.int .i64 0,.int .i64 0,.int .i64 0,.slice none 0 0] 27))
 obtain ⟨R,hR⟩:=zX (w.heap.size)
 have aL:Box w1 R (.int .i64 0) (.int .i64 0) (.int .i64 0) (.slice none 0 0):=⟨by rw [aF,hR];exact Blk.new w _ _⟩
 have bn:Chg [] w w1:=by rw [aF];exact (zR [] w).alloc _
 have aE:Hid (w.heap.size<=R/\R<w1.heap.size/\b<R):=hid ⟨by omega,aL.blk.lt,by omega⟩
 have aC:Hid (n=q.P.length):=hid hn
 have HQ:=hid hq
 have bR:Hid (q=⟨q.W,q.H,q.d,q.P⟩):=hid rfl
 have bv:=hid a9
 have bs:=hid aI
 have bM:=hid ag
 have bz:=hid aA
 have bH:=hid (fun (w':World) (gP aa:Nat) (xs:List Value) (gs:List Nat) h=>@ae w' gP aa xs gs h)
 have bP:=hid aF
 have bN:=hid hR
 have bO:=hid aL
 have aD:=hid bn
 have be:=hid hr
 have HP:=hid hp
 have bd:=hid bo
 clear bF bo a9 aI ag aA hN ae ar az bk hn aF hR aL bn hr hp ha aW hm hmay hway hq h0F
 go_enter Tryz.func71,Tryz.ntmps71
 go_wp2_with fail
 rw [<-bP.out,<-bN.out]
 refine (bv.out w1 (be.out.chg aD.out (by simp))).mono ?_
 rintro e w2 ⟨rfl,a5,bg⟩
 have aw:=a2b w2 b F ds _ a5
 have aJ:=hid a5
 have ay:=hid bg
 clear a5 bg
 go_wp2_with (go_at_call 69;refine aw.mono ?_;rintro e w' ⟨rfl,rfl⟩)
 refine (bs.out w2).mono ?_
 rintro e w3 ⟨rfl,rfl⟩
 clear aw
 obtain ⟨wA,av⟩:=zX (w2.alloc (.cells #[.int .i64 q.W,.int .i64 q.H,.int .i64 q.d,.slice none 0 0] 27))
 obtain ⟨cb,a6⟩:=zX (w2.heap.size)
 have bb:c8v [b] w2 q.W q.H q.d cb wA (.slice none 0 0) [] [] (q.P.take 0) []:=by
  refine ⟨by rw [av,a6];exact Blk.new w2 _ _,Own.nil _ _,a2k.nil _,by simp,by simp,by simp,?_,?_,by rw [av];exact (zR [b] w2).alloc _⟩
  ·intro x hx
   simp at hx
   omega
  ·intro x hx
   simp at hx
   subst hx
   exact aJ.out.lt _ aJ.out.mem
 have bQ:=hid bb
 have bD:Hid (a1r wA b F ds (pos+3+(a1d way q 0).length)):=hid (by
  have e:a1d way q 0=[]:=rfl
  rw [e,av]
  exact aJ.out.chg ((zR [] w2).alloc _) (by simp))
 have bB:=hid av
 have bL:=hid a6
 clear bb av a6
 go_wp2_with fail
 rw [<-bB.out,<-bL.out]
 go_loopg [15,16,38] n (fun j v15 v16 v38 wr=>∃ (i:Nat) (vP:Value) (E:List Nat) (xs:List Value) (gs:List Nat),v38=.int .i64 i/\i+j=n/\Hid (c8v [b] w2 q.W q.H q.d cb wr vP E xs (q.P.take i) gs)/\Hid (a1r wr b F ds (pos+3+(a1d way q i).length)))
 case atStart=>exact ⟨0,_,[],[],[],rfl,by omega,bQ,bD⟩
 case round =>
  obtain ⟨i,vP,E,xs,gs,rfl,bU,HS,br⟩:=hrel
  rcases gk with _ | j
  ·obtain rfl:i=n:=by omega
   have t1:decide ((i:Int)<(i:Int))=false:=by simp
   have ba:q.P.take i=q.P:=zT (by rw [<-aC.out];exact zQ _)
   have hs:=HS.out
   rw [ba] at hs
   have ap:xs.length=i:=by rw [hs.pl.lx,<-aC.out]
   rcases hs.own.cases with ⟨_,he,_⟩ | ⟨gP,am,hE⟩
   ·exfalso
    rw [he] at ap
    simp at ap
    omega
   have aU:=am
   obtain ⟨aa,rfl,aV,aO,-,-⟩:=am.open_
   rw [ap] at aU hs
   have ax:a1x wr q gP aa xs gs:=⟨HQ.out,by rw [<-aC.out];exact aU,hs.pl⟩
   obtain ⟨b0,b1,b2,b3⟩:=(show Box wr cb _ _ _ _ from ⟨hs.blk⟩).cells
   have an:Hid (Chg [b] w1 wr):=hid (ay.out.tq hs.chg)
   have ae:=bH.out wr gP aa xs gs ax
   clear hs am aV aO ba aU ax
   go_wp2_with fail
   refine ae.mono ?_
   rintro e w5 ⟨gQ,af,ys,hs,rfl,al,ao,ah⟩
   clear b0 b1 b2 b3 ae
   obtain ⟨wX,au⟩:=zX (w5.alloc (.cells #[.int .i64 q.W,.int .i64 q.H,.int .i64 q.d,.slice (some ⟨gQ,0,none⟩) i af] 27))
   obtain ⟨X,hX⟩:=zX (w5.heap.size)
   have aK:Chg [] w5 wX:=by rw [au];exact (zR [] w5).alloc _
   have aR:Box wX X (.int .i64 q.W) (.int .i64 q.H) (.int .i64 q.d) (.slice (some ⟨gQ,0,none⟩) i af):=⟨by rw [au,hX];exact Blk.new w5 _ _⟩
   have ad:Box wX R (.int .i64 0) (.int .i64 0) (.int .i64 0) (.slice none 0 0):=((bO.out.chg an.out (by have:=aE.out;simp;omega)).same ao).same aK
   obtain ⟨a0,a1,a2,a3⟩:=aR.cells
   have bS:=hid aR
   have bu:=hid ad
   have bh:=hid au
   have bp:=hid hX
   have aM:=hid (al.same aK)
   have bc:=hid (ao.tq aK)
   have bj:Hid (∀ x∈gQ::hs,w1.heap.size<=x):=hid (fun x hx=>Nat.le_trans an.out.size (ah x hx))
   rw [au,hX] at a0 a1 a2 a3
   clear au hX aK aR ad al ao ah
   go_wp2_with fail
   rw [<-bh.out,<-bp.out]
   rw [<-bh.out,<-bp.out] at a0 a1 a2 a3
   have az:=e5f b
   refine a0c 4 (by kernel_rfl) (by kernel_rfl) ?_
   simp only [List.take_succ_cons,List.take_zero,List.drop_succ_cons,List.drop_zero]
   repeat (go_big_quiet_step ((go_at_call 100;exact Calls.quiet_of_same ((az _).mono (fun _ _ h=>⟨h.1,h.2.symm⟩)))))
   refine wpQuiet_nil ?_
   intro _ bA
   obtain ⟨nq,rfl⟩:=bA
   have ad:=bu.out.same ((zR [] wX).drewN nq)
   obtain ⟨z0,z1,z2,z3⟩:=ad.cells
   have f0:=ad.blk.frozen 0
   have f1:=ad.blk.frozen 1
   have f2:=ad.blk.frozen 2
   have f3:=ad.blk.frozen 3
   have aT:=hid ad
   clear ad az a0 a1 a2 a3
   go_wp2_with fail
   refine b1x aT.out ?_
   intro V hV hY
   obtain ⟨x0,x1,x2,x3⟩:=hV.cells
   refine bodyPost_ret (v:=.tuple #[.agg #[.int .i64 q.W,.int .i64 q.H,.int .i64 q.d,.slice (some ⟨gQ,0,none⟩) i af],.int .i64 0]) (by simp [results,Tryz.results71,go_sem,x0,x1,x2,x3]) rfl ?_
   have aZ:Chg [R] wX V:=((zR [R] wX).drewN nq).tq hY
   have bq:∀ x∈gQ::hs,x≠R:=fun x hx e=>by have:=bj.out x hx;have:=aE.out;omega
   refine ⟨gQ,af,ys,hs,rfl,aM.out.chg aZ (by simpa using bq gQ (by simp)) (fun x hx=>by simpa using bq x (by simp [hx])),?_,?_,fun x hx=>by have:=bj.out x hx;have:=aD.out.size;omega⟩
   ·refine ((br.out.chg bc.out (by simp))).chg aZ (fun x hx hm => ?_)
    simp at hm
    subst hm
    have:=be.out.lt _ hx
    have:=aE.out
    omega
   ·refine (((aD.out.mono (F':=[b]) (by simp)).tq an.out).tq (bc.out.mono (by simp))).trans aZ (fun x hx => .inr ?_)
    simp at hx
    have:=aE.out
    omega
  ·have hi:i<n:=by omega
   have t1:decide ((i:Int)<(n:Int))=true:=zB (by omega)
   have ag:=bM.out i hi wr br.out (((HP.out.same aD.out).chg ay.out (by simpa using fun e=>bd.out e.symm)).chg HS.out.chg (by simpa using fun e=>bd.out e.symm))
   have a7:i<q.P.length:=by rw [<-aC.out];exact hi
   have aH:q.P.take (i+1)=q.P.take i++[q.P.getD i []]:=by
    rw [List.take_succ_eq_append_getElem a7,zD,zF a7]
    rfl
   have ap:xs.length=i:=by rw [HS.out.pl.lx,zI];omega
   have a8:=hid aH
   have bx:=hid ap
   obtain ⟨l,hl⟩:=zX (q.P.getD i [])
   have aN:=bz.out i hi
   rw [<-hl] at aH ag aN
   have a8:=hid aH
   unfold a6l at ag
   rw [aN] at ag
   have aP:=hid ag
   clear ag a7 aH ap hl aN
   go_wp2_with fail
   refine aP.out.mono ?_
   rintro e w5 ⟨g5,rfl,ak,bf,ao,bl⟩
   have aB:=HS.out.turn ao
   obtain ⟨wB,aG⟩:=zX (w5.alloc (.cells #[.slice (some ⟨g5,0,none⟩) N N] 22))
   have aq:Chg [] w5 wB:=by rw [aG];exact (zR [] w5).alloc _
   have bm:=Blk.new w5 22 #[.slice (some ⟨g5,0,none⟩) N N]
   have ac:=aB.own.same aq
   have ai:=ak.chg aq (by simp)
   have bI:=hid (aB.blk.chg aq (by simp))
   have y5:=aB.blk.cell 3
   simp at y5
   rw [aG] at ac
   have bE:=hid aG
   have aX:=hid ai
   have bC:=hid (ao.tq (aq.mono (F':=[b]) (by simp)))
   have bJ:=hid (bf.chg aq (by simp))
   have bw:=hid bl
   have aQ:=bx.out
   clear aG aq ak ai ao bl bf aB
   go_wp2_with (at_builtin;refine a0f rfl rfl b7k rfl rfl ac (.slice (some ⟨g5,0,none⟩) N N) rfl ?c1 rfl ?c3 ?c4 ?_)
   case c1=>exact bm.cell 0
   case c3=>rw [aQ];omega
   case c4=>rw [aQ];omega
   intro g6 aS w6 aj ab
   rw [<-bE.out] at ab
   have aY:=bI.out.chg ab.chg HS.out.cF
   have y6:=aY.cell 3
   have z6:=aY.frozen 3
   simp at y6
   have a4:=c8v.next HS.out bC.out aX.out bw.out aj ab
   rw [<-a8.out] at a4
   have bG:=hid a4
   have bi:a1r (w6.setCell ⟨cb,3,none⟩ (.slice (some ⟨g6,0,none⟩) (i+1) aS)) b F ds (pos+3+(a1d way q (i+1)).length):=by
    have hF:∀ x∈cb::(E++gs),x∉F:=fun x hx hm=>by have:=HS.out.new x hx;have:=aJ.out.lt x hm;omega
    exact (bJ.out.chg ab.chg (fun x hx hm=>hF x (by simp [hm]) hx)).chg ((zR [cb] w6).setCell (p:=⟨cb,3,none⟩) (.inl (by simp)) _) (fun x hx hm=>hF cb (by simp) (by simp at hm;exact hm ▸ hx))
   have bK:=hid bi
   clear a4 aj ab aY ac bm y5 bi
   clear aQ
   go_wp2_with fail
   go_roundg j
   case measure=>omega
   case rel=>exact ⟨i+1,_,_,_,_,by go_num,by omega,bG,bK⟩
end Go.Proofs.YtepjepkgcdfboaaGreatDoor
