/- package still by its contracts: putTransformed. -/
import Derived.Test.YtepjepkgcdfboaaGreatDoorMg39
import Derived.Test.YtepjepkgcdfboaaGreatDoorMg43
set_option linter.unusedVariables false
set_option linter.unusedSimpArgs false
set_option maxHeartbeats 1000000
set_option maxRecDepth 100000
namespace Go.Proofs.YtepjepkgcdfboaaGreatDoor
open Go.RowKit
def b4d (kind:Option Nat) (p:a2a):Nat:=match kind with
 | none=>a7t p 4
 | some k=>k
def d5c (kind:Option Nat) (p:a2a):Prop:=∀ k,kind=some k->k<=4/\b9k p.P.length k=true
theorem e8h {kind:Option Nat} {p:a2a} (hp:p.Ok) (h:d5c kind p):b4d kind p<=4/\b9k p.P.length (b4d kind p)=true:=by
 cases kind with
 | none=>exact ⟨b9g p 4,b4v hp 4⟩
 | some k=>exact h k rfl
def b4s (way:Option Nat) (kind:Nat) (w:World) (b:Nat) (F bs:List Nat) (p:a2a) (e:Ending) (w':World):Prop :=
 if b1t way kind p=true then e=.returned (.int .i64 0)/\∃ F',a2n w' b F' (bs++(a0b 0 1++(a0b kind 3++a1d way (a3p kind p) p.P.length)))/\a0u F F' w w' else e=.returned (.int .i64 6)/\∃ F',a0u F F' w w'
theorem d4j {way:Option Nat} (hway:b1b way) {kind:Option Nat} {w:World} {p:a2a} {g o:Nat} {B:Nat->Option Addr} {c:Nat->Nat} {G:List Nat} (cap:Nat) (h:a4l w p g o B c G) (hk:d5c kind p)
  (b:Nat) (F bs:List Nat) (hw:a2n w b F bs) (hG:∀ x∈G,x∉F) (hp:Pts w) (h0F:0∉F) (hbs:bs.length<1000000) :
  Calls Tryz.prog 50 #[.pointer (some ⟨b,0,none⟩),a6y p g o cap,.int .i64 (c5y kind),.int .i64 (c5y way)] w (b4s way (b4d kind p) w b F bs p):=by
 have am:=h.ok
 obtain ⟨ba,be⟩:=e8h am hk
 have ac:∀ w',Chg [] w w'->_:=fun w' (hc':Chg [] w w')=>e7y cap (h.same hc')
 have aa:∀ w',Chg [] w w'->_:=fun w' (hc':Chg [] w w')=>d6e cap (h.same hc') (b4d kind p) ba be
 obtain ⟨K,hK⟩:=zX (b4d kind p)
 rw [<-hK] at ba aa ⊢
 obtain ⟨q,hq⟩:=zX (a3p K p)
 obtain ⟨n,hn⟩:=zX (p.P.length)
 have ai:q.Ok:=by rw [hq];exact b2t am K
 have aG:q.P.length=n:=by rw [hq,hn];exact a3y _ _ _
 have ag:q.W=p.W/\q.H=p.H/\q.d=p.d:=by rw [hq];exact ⟨rfl,rfl,rfl⟩
 have bj:=fun k=>b2a hway ai k
 have bQ:n<=4:=by rw [hn];exact am.n1
 unfold a2x at aa
 rw [<-hq] at aa
 unfold a6y at ac aa ⊢
 rw [aG,ag.1,ag.2.1,ag.2.2] at aa
 rw [<-hn] at ac aa ⊢
 have af:Hid (b1t way K p=a2u way q n/\a1d way (a3p K p) p.P.length=a1d way q n):=hid (by unfold b1t;rw [<-hq,<-hn];exact ⟨rfl,rfl⟩)
 obtain ⟨w1,aC⟩:=zX (w.alloc (.cells #[.int .i64 p.W,.int .i64 p.H,.int .i64 p.d,.slice (some ⟨g,o,none⟩) n cap] 27))
 obtain ⟨X,hX⟩:=zX (w.heap.size)
 have aK:Box w1 X (.int .i64 p.W) (.int .i64 p.H) (.int .i64 p.d) (.slice (some ⟨g,o,none⟩) n cap):=⟨by rw [aC,hX];exact Blk.new w _ _⟩
 have bk:Chg [] w w1:=by rw [aC];exact (zR [] w).alloc _
 have bh:X∉F:=fun hm'=>by have:=hw.lt X hm';omega
 obtain ⟨ki,aW⟩:=zX (c5y kind)
 rw [<-aW]
 have ap:∀ {wz:World} {l:List Int} {A:Option Addr} (ae:Nat),l.length=q.W*q.H->a1u q.d l->a0d vi wz A l->l.length<=ae->∀ (F' ax:List Nat),a2n wz b F' ax->Apt A l F'->Pts wz->0∉F'->ax.length<17179869184->Calls Tryz.prog 89 #[.pointer (some ⟨b,0,none⟩),.slice A l.length ae,.int .i64 p.W,.int .i64 p.H,.int .i64 p.d,.int .i64 (c5y way)] wz (a7s way wz b F' ax l q.W q.H q.d):=by
  intro wz l A ae e1 e2 e3 e4 F' ax e5 e6 e7 e8 e9
  have:=c2k hway ae e1 e2 e3 e4 ai.w0 ai.w1 ai.h0 ai.h1 ai.d0 ai.d1 b F' ax e5 e6 e7 e8 e9
  rw [ag.1,ag.2.1,ag.2.2] at this
  rw [ag.1,ag.2.1,ag.2.2]
  exact this
 have bw:=hid aC
 have HX:=hid hX
 have bf:=hid aK
 have ay:=hid bk
 have HB:=hid ac
 have HF:=hid aa
 have bA:=hid aW
 have HK:=hid hK
 have bv:=hid ai
 have aM:=hid aG
 have HW:=hid hw
 have HP:=hid hp
 have bp:=hid h0F
 have bL:=hid bh
 have bJ:=hid bj
 have bm:=hid (fun wz l A ae a b c d e f g i j k m=>@ap wz l A ae a b c d e f g i j k m)
 have bN:∃ wi,wi=c5y way:=⟨_,rfl⟩
 obtain ⟨wi,a9⟩:=bN
 rw [<-a9] at bm ⊢
 obtain ⟨a0,a1,a2,a3⟩:=aK.cells
 clear aC hX aK bk ac aa aW hK hq ai aG ag hw hp h0F bh bj ap a9 am h hk be hG hn hway
 rcases kind with _ | k
 have e1:ki=-1:=bA.out
 subst e1
 have bc:K=a7t p 4:=HK.out
 have hb:=HB.out w1 ay.out
 rw [<-bc] at hb
 clear bc
 go_enter Tryz.func50,Tryz.ntmps50
 go_wp2_with fail
 rw [<-bw.out,<-HX.out]
 refine hb.mono ?_
 rintro e wz ⟨rfl,aU⟩
 clear a0 a1 a2 a3 hb
 obtain ⟨a0,a1,a2,a3⟩:=(bf.out.same aU).cells
 have an:=hid aU
 clear aU
 go_wp2_with fail
 rotate_left
 have e1:ki=(k:Int):=bA.out
 have e2:k=K:=HK.out.symm
 subst e1
 subst e2
 have t0:decide ((k:Int)<0)=false:=zA (by omega)
 go_enter Tryz.func50,Tryz.ntmps50
 go_wp2_with fail
 rw [<-bw.out,<-HX.out]
 obtain ⟨wz,aX⟩:=zX (w1)
 have an:Hid (Chg [] w1 wz):=hid (by rw [aX];exact zR _ _)
 rw [<-aX] at a0 a1 a2 a3 ⊢
 clear aX t0
 obtain ⟨K,bM⟩:=zX (k)
 subst bM
 all_goals
  clear a0 a1 a2 a3
  refine (HF.out wz (ay.out.tq an.out)).mono ?_
  rintro e w3 ⟨gP,ao,xs,gs,rfl,ah,aD,aw⟩
  obtain ⟨w4,aE⟩:=zX (w3.alloc (.cells #[.int .i64 p.W,.int .i64 p.H,.int .i64 p.d,.slice (some ⟨gP,0,none⟩) n ao] 27))
  obtain ⟨X9,aF⟩:=zX (w3.heap.size)
  have az:Chg [] w3 w4:=by rw [aE];exact (zR [] w3).alloc _
  have aN:Box w4 X9 (.int .i64 p.W) (.int .i64 p.H) (.int .i64 p.d) (.slice (some ⟨gP,0,none⟩) n ao):=⟨by rw [aE,aF];exact Blk.new w3 _ _⟩
  have aZ:Chg [] w w4:=((ay.out.tq an.out).tq aD).tq az
  have a7:∀ x∈gP::gs,w.heap.size<=x/\x<w4.heap.size:=fun x hx=>⟨by have:=aw x hx;have:=(ay.out.tq an.out).size;omega,by
   have:=az.size
   rcases zJ.1 hx with rfl | h1
   ·have:=ah.ltP;omega
   ·have:=ah.pl.lt x h1;omega⟩
  have aA:w.heap.size<=X9/\X9<w4.heap.size:=⟨by rw [aF];have:=((ay.out.tq an.out).tq aD).size;omega,aN.blk.lt⟩
  have av:=HW.out.same aZ
  have bd:=a0t w4 b F bs 0 1 av (by decide) (by decide) (by omega)
  have bI:=hid aE
  have aB:=hid aZ
  have bC:=hid aN
  have bO:=hid aA
  have aP:=hid a7
  have a5:=hid (ah.same az)
  have aJ:Hid (Chg [] w1 w4):=hid ((an.out.tq aD).tq az)
  have aT:=hid HW.out.lt
  have a4:=hid aF
  clear aE aF az aN aZ a7 aA av ah aD aw
  go_wp2_with fail
  rw [<-bI.out,<-a4.out]
  refine bd.mono ?_
  rintro e w5 ⟨rfl,F5,bq,bg⟩
  have u1:IntKind.u64.wrap (K:Int)=(K:Int):=IntWalk.u64_in _ (by omega)
  have bB:=a0t w5 b F5 _ K 3 bq (by decide) (by omega) (by rw [zC,a0a];omega)
  have bK:=hid bg
  clear bd bq bg
  go_wp2_with fail
  refine bB.mono ?_
  rintro e w6 ⟨rfl,F6,bb,bu⟩
  have a8:=hid (bK.out.trans bu)
  have bF:Hid (a2n w6 b F6 (bs++(a0b 0 1++(a0b K 3++a1d way q 0)))):=hid (by
   have e0:a1d way q 0=[]:=rfl
   rw [e0]
   simpa only [zH,List.append_nil] using bb)
  have ar:∀ Fk wr,a0u F Fk w4 wr->∀ x,w.heap.size<=x->x<w4.heap.size->x∉Fk:=fun Fk wr hg x h1 h2 hm=>by
   rcases hg.new x hm with h3 | h3
   ·have:=aT.out x h3;omega
   ·omega
  have aY:=hid ar
  obtain ⟨b0,b1,b2,b3⟩:=(bC.out.chg a8.out.chg (fun hm=>by have:=aT.out _ hm;have:=bO.out;omega)).cells
  clear bB bb bu ar
  go_wp2_with fail
  clear b0 b1 b2 b3
  go_loopg [12,13,36] n (fun j v12 v13 v36 wr=>∃ (i:Nat) (Fk:List Nat),v36=.int .i64 i/\i+j=n/\Hid (a2n wr b Fk (bs++(a0b 0 1++(a0b K 3++a1d way q i))))/\Hid (a0u F Fk w4 wr)/\Hid (a2u way q i=true))
  case atStart=>exact ⟨0,F6,rfl,by omega,bF,a8,hid rfl⟩
  case round =>
   obtain ⟨i,Fk,rfl,bP,bo,ak,a6⟩:=hrel
   rcases gk with _ | j
   ·obtain rfl:i=n:=by omega
    have t1:decide ((i:Int)<(i:Int))=false:=by simp
    go_wp2_with fail
    go_ret
    unfold b4s
    rw [af.out.1,af.out.2,if_pos a6.out]
    exact ⟨rfl,Fk,bo.out,a0u.pre aB.out ak.out⟩
   ·have hi:i<n:=by omega
    have t1:decide ((i:Int)<(n:Int))=true:=zB (by omega)
    have aV:∀ x∈gP::gs,x∉F:=fun x hx hm=>by have:=aP.out x hx;have:=aT.out x hm;omega
    have am:=a5.out.chg ak.out.chg (aV gP (by simp)) (fun x hx=>aV x (by simp [hx]))
    obtain ⟨gi,ci,e1,e2,e3,e4⟩:=am.plane (show i<q.P.length by rw [aM.out];exact hi)
    obtain ⟨D,hD⟩:=zX (q.P.getD i [])
    rw [<-hD] at e3
    have aO:D.length=q.W*q.H:=by rw [hD];exact bv.out.len _ (a0n (by rw [aM.out];exact hi))
    have bz:a1u q.d D:=by rw [hD];exact bv.out.smp _ (a0n (by rw [aM.out];exact hi))
    rw [<-aO] at e3 e4
    have bl:a0d vi wr (some ⟨gi,0,none⟩) D:=e3.toOwn.cells
    have aj:D.length<=ci:=by
     obtain ⟨c7,aI,aj,_⟩:=e3.oq
     injection aI with _ _ aI
     rw [aI]
     exact aj
    have bn:gi∉Fk:=aY.out Fk wr ak.out gi (aP.out gi (by simp [List.mem_of_getElem? e2])).1 (aP.out gi (by simp [List.mem_of_getElem? e2])).2
    have bx:Apt (some (⟨gi,0,none⟩:Addr)) D Fk:=fun _ ad e hm=>by injection e with e;subst e;exact bn hm
    have aq:=(HP.out.same aB.out).chg ak.out.chg bp.out
    have bi:0∉Fk:=ak.out.out (by have:=HP.out.lt;have:=aB.out.size;omega) bp.out
    have ap:=bm.out wr D (some ⟨gi,0,none⟩) ci aO bz bl aj Fk _ bo.out bx aq bi (by
     have:=bJ.out i a6.out
     simp only [zC,a0a]
     omega)
    have al:=a5t way q i
    have aH:=b3n way q i
    rw [<-hD] at al aH
    obtain ⟨a0,a1,a2,a3⟩:=(((bf.out.same aJ.out).chg ak.out.chg bL.out)).cells
    have aL:=hid ap
    have bD:=hid hD
    have aS:=hid al
    have bG:=hid aH
    clear ap al aH hD aO bz bl aj bx aq bi bn am aV e1 e2 e3
    go_wp2_with fail
    refine aL.out.mono ?_
    rintro e w7 ab
    unfold a7s at ab
    cases hpo:a6c way D q.W q.H q.d with
    | true =>
     rw [if_pos hpo] at ab
     obtain ⟨rfl,F7,br,au⟩:=ab
     have aR:=hid (ak.out.trans au)
     have bH:Hid (a2n w7 b F7 (bs++(a0b 0 1++(a0b K 3++a1d way q (i+1))))):=hid (by rw [aS.out];simpa only [zH] using br)
     have bE:Hid (a2u way q (i+1)=true):=hid (by rw [bG.out,a6.out,hpo];rfl)
     clear br au hpo
     go_wp2_with fail
     go_roundg j
     case measure=>omega
     case rel=>exact ⟨i+1,F7,by go_num,by omega,bH,aR,bE⟩
    | false =>
     rw [if_neg (by rw [hpo];simp)] at ab
     obtain ⟨rfl,F7,au⟩:=ab
     have aR:=hid (ak.out.trans au)
     have aQ:Hid (¬ a2u way q n=true):=hid (fun h=>by
      have h1:=b8g h hi
      rw [<-bD.out,hpo] at h1
      cases h1)
     clear au hpo
     go_wp2_with fail
     go_ret
     unfold b4s
     rw [af.out.1,if_neg aQ.out]
     exact ⟨rfl,F7,a0u.pre aB.out aR.out⟩
theorem e5f (b:Nat) (w:World):Calls Tryz.prog 100 #[.pointer (some ⟨b,0,none⟩),.int .i64 0] w fun e w'=>e=.returned (.int .i64 0)/\w=w':=by
 go_enter Tryz.func100,Tryz.ntmps100
 go_wp2
 go_ret
 exact ⟨rfl,rfl⟩
theorem b8h (way:Option Nat) (q:a2a):∀ k n i,i+k=n->∃ rest,a1d way q n=a1d way q i++rest
 | 0,n,i,h=>⟨[],by rw [List.append_nil,show i=n by omega]⟩
 | k+1,n,i,h=>by
  obtain ⟨r,hr⟩:=b8h way q k n (i+1) (by omega)
  exact ⟨_,by rw [hr,a5t,zH]⟩
theorem c3x {way:Option Nat} {q:a2a} {n:Nat} {ds:List Nat} {pos:Nat} (ha:a0y ds pos (a1d way q n)) {k:Nat} (hk:k<n) :
  a0y ds (pos+(a1d way q k).length) (a1y way (q.P.getD k []) q.W q.H q.d):=by
 obtain ⟨r,hr⟩:=b8h way q (n-(k+1)) n (k+1) (by omega)
 rw [hr,a5t,zH] at ha
 exact ha.right.left
def a9h (w:World) (b:Nat) (F ds:List Nat) (pos:Nat) (p:a2a) (e:Ending) (w':World):Prop :=
 ∃ (gP capP:Nat) (xs:List Value) (gs:List Nat),e=.returned (.tuple #[a6y p gP 0 capP,.int .i64 0])/\a1x w' p gP capP xs gs/\a1r w' b F ds pos/\Chg [b] w w'/\∀ x∈gP::gs,w.heap.size<=x
theorem d3m {way:Option Nat} (hway:b1b way) {w:World} {b:Nat} {F ds:List Nat} {pos:Nat} (hr:a1r w b F ds pos) {q:a2a} (hq:q.Ok) {k:Nat} (k4:k<=4) (hm:b9k q.P.length k=true) (hmay:a2u way q q.P.length=true)
  (hp:Pts w) (h0F:0∉F) (ha:a0y ds pos (a0b k 3++a1d way q q.P.length)) :
  Calls Tryz.prog 71 #[.pointer (some ⟨b,0,none⟩),.int .i64 q.W,.int .i64 q.H,.int .i64 q.d,.int .i64 q.P.length] w (a9h w b F ds (pos+3+(a1d way q q.P.length).length) (c9h k q)):=by
 unfold a9h
 have bE:=hr.lt b hr.mem
 have bh:b≠0:=fun e=>h0F (by rw [<-e];exact hr.mem)
 have bb:=fun w1 (h:a1r w1 b F ds pos)=>a0j w1 b F ds pos 3 k h (by omega) (by omega) ha.left
 have aE:=fun w'=>c0z q.P.length k w' hq.n0 hq.n1 k4
 rw [hm] at aE
 have aR:=ha.right
 rw [a0a] at aR
 have af:∀ i,i<q.P.length->∀ w',a1r w' b F ds (pos+3+(a1d way q i).length)->Pts w'->Calls Tryz.prog 101 #[.pointer (some ⟨b,0,none⟩),.int .i64 q.W,.int .i64 q.H,.int .i64 q.d] w' (a6l w' b F ds (pos+3+(a1d way q (i+1)).length) (q.P.getD i [])):=fun i hi w' hr' hp'=>by
  have:=c0y hway hr' (hq.len _ (a0n hi)) (hq.smp _ (a0n hi)) hq.w0 hq.w1 hq.h0 hq.h1 hq.d0 hq.d1 hp' h0F (b8g hmay hi) (c3x aR hi)
  rw [Nat.add_assoc,<-zC,<-a5t] at this
  exact this
 have aD:∀ i,i<q.P.length->(q.P.getD i []).length=q.W*q.H:=fun i hi=>hq.len _ (a0n hi)
 obtain ⟨N,hN⟩:=zX (q.W*q.H)
 have ad:=fun {w':World} {gP aa:Nat} {xs:List Value} {gs:List Nat} (h:a1x w' q gP aa xs gs)=>e7x aa h.at_ k k4 hm
 have ar:c9a q (c9h k q):=⟨rfl,rfl,rfl,(a3y _ _ _).symm⟩
 obtain ⟨r,au⟩:=zX (c9h k q)
 rw [<-au] at ad ar ⊢
 have bf:a6y r=fun gP o' cap' => .agg #[.int .i64 q.W,.int .i64 q.H,.int .i64 q.d,.slice (some ⟨gP,o',none⟩) q.P.length cap']:=by
  funext gP o' cap'
  unfold a6y
  rw [ar.W,ar.H,ar.d,ar.n]
 unfold a2x at ad
 rw [bf] at ad ⊢
 obtain ⟨n,hn⟩:=zX (q.P.length)
 have bU:n<=4:=by rw [hn];exact hq.n1
 have bW:1<=n:=by rw [hn];exact hq.n0
 unfold a6y at ad
 rw [<-hn] at aE af ad aD ⊢
 rw [<-hN] at aD
 have bV:IntKind.i64.wrap (k:Int)=(k:Int):=IntWalk.i64_in _ (by omega)
 obtain ⟨w1,aB⟩:=zX (w.alloc (.cells #[.int .i64 0,.int .i64 0,.int .i64 0,.slice none 0 0] 27))
 obtain ⟨R,hR⟩:=zX (w.heap.size)
 have aM:Box w1 R (.int .i64 0) (.int .i64 0) (.int .i64 0) (.slice none 0 0):=⟨by rw [aB,hR];exact Blk.new w _ _⟩
 have bi:Chg [] w w1:=by rw [aB];exact (zR [] w).alloc _
 have aF:Hid (w.heap.size<=R/\R<w1.heap.size/\b<R):=hid ⟨by omega,aM.blk.lt,by omega⟩
 have aC:Hid (n=q.P.length):=hid hn
 have HQ:=hid hq
 have bR:Hid (q=⟨q.W,q.H,q.d,q.P⟩):=hid rfl
 have bL:=hid bb
 have bN:=hid aE
 have bI:=hid af
 have bF:=hid aD
 have bD:=hid (fun (w':World) (gP aa:Nat) (xs:List Value) (gs:List Nat) h=>@ad w' gP aa xs gs h)
 have bO:=hid aB
 have bJ:=hid hR
 have bQ:=hid aM
 have aG:=hid bi
 have bm:=hid hr
 have HP:=hid hp
 have br:=hid bh
 clear bE bh bb aE af aD hN ad ar au bf hn aB hR aM bi hr hp ha aR hm hmay hway hq h0F
 go_enter Tryz.func71,Tryz.ntmps71
 go_wp2_with fail
 rw [<-bO.out,<-bJ.out]
 refine (bL.out w1 (bm.out.chg aG.out (by simp))).mono ?_
 rintro e w2 ⟨rfl,aX,bp⟩
 have av:=a2b w2 b F ds _ aX
 have aJ:=hid aX
 have ay:=hid bp
 clear aX bp
 go_wp2_with (go_at_call 69;refine av.mono ?_;rintro e w' ⟨rfl,rfl⟩)
 refine (bN.out w2).mono ?_
 rintro e w3 ⟨rfl,rfl⟩
 clear av
 obtain ⟨wA,ax⟩:=zX (w2.alloc (.cells #[.int .i64 q.W,.int .i64 q.H,.int .i64 q.d,.slice none 0 0] 27))
 obtain ⟨cb,aZ⟩:=zX (w2.heap.size)
 have bq:c8v [b] w2 q.W q.H q.d cb wA (.slice none 0 0) [] [] (q.P.take 0) []:=by
  refine ⟨by rw [ax,aZ];exact Blk.new w2 _ _,Own.nil _ _,a2k.nil _,by simp,by simp,by simp,?_,?_,by rw [ax];exact (zR [b] w2).alloc _⟩
  ·intro x hx
   simp at hx
   omega
  ·intro x hx
   simp at hx
   subst hx
   exact aJ.out.lt _ aJ.out.mem
 have bC:=hid bq
 have bs:Hid (a1r wA b F ds (pos+3+(a1d way q 0).length)):=hid (by
  have e:a1d way q 0=[]:=rfl
  rw [e,ax]
  exact aJ.out.chg ((zR [] w2).alloc _) (by simp))
 have bB:=hid ax
 have bA:=hid aZ
 clear bq ax aZ
 go_wp2_with fail
 rw [<-bB.out,<-bA.out]
 go_loopg [15,16,38] n (fun j v15 v16 v38 wr=>∃ (i:Nat) (vP:Value) (E:List Nat) (xs:List Value) (gs:List Nat),v38=.int .i64 i/\i+j=n/\Hid (c8v [b] w2 q.W q.H q.d cb wr vP E xs (q.P.take i) gs)/\Hid (a1r wr b F ds (pos+3+(a1d way q i).length)))
 case atStart=>exact ⟨0,_,[],[],[],rfl,by omega,bC,bs⟩
 case round =>
  obtain ⟨i,vP,E,xs,gs,rfl,bS,HS,bd⟩:=hrel
  rcases gk with _ | j
  ·obtain rfl:i=n:=by omega
   have t1:decide ((i:Int)<(i:Int))=false:=by simp
   have be:q.P.take i=q.P:=zT (by rw [<-aC.out];exact zQ _)
   have hs:=HS.out
   rw [be] at hs
   have ap:xs.length=i:=by rw [hs.pl.lx,<-aC.out]
   rcases hs.own.cases with ⟨_,he,_⟩ | ⟨gP,am,hE⟩
   ·exfalso
    rw [he] at ap
    simp at ap
    omega
   have aQ:=am
   obtain ⟨aa,rfl,aW,aO,-,-⟩:=am.open_
   rw [ap] at aQ hs
   have aw:a1x wr q gP aa xs gs:=⟨HQ.out,by rw [<-aC.out];exact aQ,hs.pl⟩
   obtain ⟨b0,b1,b2,b3⟩:=(show Box wr cb _ _ _ _ from ⟨hs.blk⟩).cells
   have an:Hid (Chg [b] w1 wr):=hid (ay.out.tq hs.chg)
   have ad:=bD.out wr gP aa xs gs aw
   clear hs am aW aO be aQ aw
   go_wp2_with fail
   refine ad.mono ?_
   rintro e w5 ⟨gQ,ag,ys,hs,rfl,ai,ao,al⟩
   clear b0 b1 b2 b3 ad
   obtain ⟨wX,az⟩:=zX (w5.alloc (.cells #[.int .i64 q.W,.int .i64 q.H,.int .i64 q.d,.slice (some ⟨gQ,0,none⟩) i ag] 27))
   obtain ⟨X,hX⟩:=zX (w5.heap.size)
   have aA:Chg [] w5 wX:=by rw [az];exact (zR [] w5).alloc _
   have aP:Box wX X (.int .i64 q.W) (.int .i64 q.H) (.int .i64 q.d) (.slice (some ⟨gQ,0,none⟩) i ag):=⟨by rw [az,hX];exact Blk.new w5 _ _⟩
   have ae:Box wX R (.int .i64 0) (.int .i64 0) (.int .i64 0) (.slice none 0 0):=((bQ.out.chg an.out (by have:=aF.out;simp;omega)).same ao).same aA
   obtain ⟨a0,a1,a2,a3⟩:=aP.cells
   have bT:=hid aP
   have bK:=hid ae
   have bo:=hid az
   have bl:=hid hX
   have a6:=hid (ai.same aA)
   have ba:=hid (ao.tq aA)
   have bc:Hid (∀ x∈gQ::hs,w1.heap.size<=x):=hid (fun x hx=>Nat.le_trans an.out.size (al x hx))
   rw [az,hX] at a0 a1 a2 a3
   clear az hX aA aP ae ai ao al
   go_wp2_with fail
   rw [<-bo.out,<-bl.out]
   rw [<-bo.out,<-bl.out] at a0 a1 a2 a3
   have au:=e5f b
   refine a0c 4 (by kernel_rfl) (by kernel_rfl) ?_
   simp only [List.take_succ_cons,List.take_zero,List.drop_succ_cons,List.drop_zero]
   repeat (go_big_quiet_step ((go_at_call 100;exact Calls.quiet_of_same ((au _).mono (fun _ _ h=>⟨h.1,h.2.symm⟩)))))
   refine wpQuiet_nil ?_
   intro _ bG
   obtain ⟨nq,rfl⟩:=bG
   have ae:=bK.out.same ((zR [] wX).drewN nq)
   obtain ⟨z0,z1,z2,z3⟩:=ae.cells
   have f0:=ae.blk.frozen 0
   have f1:=ae.blk.frozen 1
   have f2:=ae.blk.frozen 2
   have f3:=ae.blk.frozen 3
   have aY:=hid ae
   clear ae au a0 a1 a2 a3
   go_wp2_with fail
   refine b1x aY.out ?_
   intro V hV hY
   obtain ⟨x0,x1,x2,x3⟩:=hV.cells
   refine bodyPost_ret (v:=.tuple #[.agg #[.int .i64 q.W,.int .i64 q.H,.int .i64 q.d,.slice (some ⟨gQ,0,none⟩) i ag],.int .i64 0]) (by simp [results,Tryz.results71,go_sem,x0,x1,x2,x3]) rfl ?_
   have aS:Chg [R] wX V:=((zR [R] wX).drewN nq).tq hY
   have a9:∀ x∈gQ::hs,x≠R:=fun x hx e=>by have:=bc.out x hx;have:=aF.out;omega
   refine ⟨gQ,ag,ys,hs,rfl,a6.out.chg aS (by simpa using a9 gQ (by simp)) (fun x hx=>by simpa using a9 x (by simp [hx])),?_,?_,fun x hx=>by have:=bc.out x hx;have:=aG.out.size;omega⟩
   ·refine ((bd.out.chg ba.out (by simp))).chg aS (fun x hx hm => ?_)
    simp at hm
    subst hm
    have:=bm.out.lt _ hx
    have:=aF.out
    omega
   ·refine (((aG.out.mono (F':=[b]) (by simp)).tq an.out).tq (ba.out.mono (by simp))).trans aS (fun x hx => .inr ?_)
    simp at hx
    have:=aF.out
    omega
  ·have hi:i<n:=by omega
   have t1:decide ((i:Int)<(n:Int))=true:=zB (by omega)
   have af:=bI.out i hi wr bd.out (((HP.out.same aG.out).chg ay.out (by simpa using fun e=>br.out e.symm)).chg HS.out.chg (by simpa using fun e=>br.out e.symm))
   have a7:i<q.P.length:=by rw [<-aC.out];exact hi
   have aK:q.P.take (i+1)=q.P.take i++[q.P.getD i []]:=by
    rw [List.take_succ_eq_append_getElem a7,zD,zF a7]
    rfl
   have ap:xs.length=i:=by rw [HS.out.pl.lx,zI];omega
   have bk:=hid aK
   have bu:=hid ap
   obtain ⟨l,hl⟩:=zX (q.P.getD i [])
   have aT:=bF.out i hi
   rw [<-hl] at aK af aT
   have bk:=hid aK
   unfold a6l at af
   rw [aT] at af
   have aN:=hid af
   clear af a7 aK ap hl aT
   go_wp2_with fail
   refine aN.out.mono ?_
   rintro e w5 ⟨g5,rfl,aj,bj,ao,bg⟩
   have aH:=HS.out.turn ao
   obtain ⟨wB,aI⟩:=zX (w5.alloc (.cells #[.slice (some ⟨g5,0,none⟩) N N] 22))
   have aq:Chg [] w5 wB:=by rw [aI];exact (zR [] w5).alloc _
   have a8:=Blk.new w5 22 #[.slice (some ⟨g5,0,none⟩) N N]
   have ab:=aH.own.same aq
   have ah:=aj.chg aq (by simp)
   have bP:=hid (aH.blk.chg aq (by simp))
   have y5:=aH.blk.cell 3
   simp at y5
   rw [aI] at ab
   have bH:=hid aI
   have aL:=hid ah
   have bz:=hid (ao.tq (aq.mono (F':=[b]) (by simp)))
   have bv:=hid (bj.chg aq (by simp))
   have bM:=hid bg
   have a4:=bu.out
   clear aI aq aj ah ao bg bj aH
   go_wp2_with (at_builtin;refine a0f rfl rfl b7k rfl rfl ab (.slice (some ⟨g5,0,none⟩) N N) rfl ?c1 rfl ?c3 ?c4 ?_)
   case c1=>exact a8.cell 0
   case c3=>rw [a4];omega
   case c4=>rw [a4];omega
   intro g6 aV w6 ak ac
   rw [<-bH.out] at ac
   have aU:=bP.out.chg ac.chg HS.out.cF
   have y6:=aU.cell 3
   have z6:=aU.frozen 3
   simp at y6
   have a5:=c8v.next HS.out bz.out aL.out bM.out ak ac
   rw [<-bk.out] at a5
   have bx:=hid a5
   have bn:a1r (w6.setCell ⟨cb,3,none⟩ (.slice (some ⟨g6,0,none⟩) (i+1) aV)) b F ds (pos+3+(a1d way q (i+1)).length):=by
    have hF:∀ x∈cb::(E++gs),x∉F:=fun x hx hm=>by have:=HS.out.new x hx;have:=aJ.out.lt x hm;omega
    exact (bv.out.chg ac.chg (fun x hx hm=>hF x (by simp [hm]) hx)).chg ((zR [cb] w6).setCell (p:=⟨cb,3,none⟩) (.inl (by simp)) _) (fun x hx hm=>hF cb (by simp) (by simp at hm;exact hm ▸ hx))
   have bw:=hid bn
   clear a5 ak ac aU ab a8 y5 bn
   clear a4
   go_wp2_with fail
   go_roundg j
   case measure=>omega
   case rel=>exact ⟨i+1,_,_,_,_,by go_num,by omega,bx,bw⟩
end Go.Proofs.YtepjepkgcdfboaaGreatDoor
