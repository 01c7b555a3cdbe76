/- package still by its contracts: putTransformed. -/
import Derived.Test.YtepjepkgcdfboaaGreatDoorMg39
import Derived.Test.YtepjepkgcdfboaaGreatDoorMg43
set_option linter.unusedVariables false
set_option linter.unusedSimpArgs false
set_option maxHeartbeats 1000000
set_option maxRecDepth 100000
namespace Go.Proofs.YtepjepkgcdfboaaGreatDoor
open Go.RowKit
def kindH (kind:Option Nat) (p:PicD):Nat:=match kind with
 | none=>bestH p 4
 | some k=>k
def KindOk (kind:Option Nat) (p:PicD):Prop:=∀ k,kind=some k->k<=4/\mayH p.P.length k=true
theorem kindH_ok {kind:Option Nat} {p:PicD} (hp:p.Ok) (h:KindOk kind p):kindH kind p<=4/\mayH p.P.length (kindH kind p)=true:=by
 cases kind with
 | none=>exact ⟨bestH_le p 4,bestH_may hp 4⟩
 | some k=>exact h k rfl
def TransPost (way:Option Nat) (kind:Nat) (w:World) (b:Nat) (F bs:List Nat) (p:PicD) (e:Ending) (w':World):Prop :=
 if hueMay way kind p=true then e=.returned (.int .i64 0)/\∃ F',IsWr w' b F' (bs++(bitsOf 0 1++(bitsOf kind 3++planesTo way (foreH kind p) p.P.length)))/\Grow F F' w w' else e=.returned (.int .i64 6)/\∃ F',Grow F F' w w'
theorem putTrans_ok {way:Option Nat} (hway:WayOk way) {kind:Option Nat} {w:World} {p:PicD} {g o:Nat} {B:Nat->Option Addr} {c:Nat->Nat} {G:List Nat} (cap:Nat) (h:PicAt w p g o B c G) (hk:KindOk kind p)
  (b:Nat) (F bs:List Nat) (hw:IsWr w b F bs) (hG:∀ x∈G,x∉F) (hp:Pts w) (h0F:0∉F) (hbs:bs.length<1000000) :
  Calls Tryz.prog 50 #[.pointer (some ⟨b,0,none⟩),picV p g o cap,.int .i64 (wayI kind),.int .i64 (wayI way)] w (TransPost way (kindH kind p) w b F bs p):=by
 have am:=h.ok
 obtain ⟨bn,bm⟩:=kindH_ok am hk
 have ac:∀ w',Chg [] w w'->_:=fun w' (hc':Chg [] w w')=>hbest_ok cap (h.same hc')
 have aa:∀ w',Chg [] w w'->_:=fun w' (hc':Chg [] w w')=>hfore_ok cap (h.same hc') (kindH kind p) bn bm
 obtain ⟨K,hK⟩:=zX (kindH kind p)
 rw [<-hK] at bn aa ⊢
 obtain ⟨q,hq⟩:=zX (foreH K p)
 obtain ⟨n,hn⟩:=zX (p.P.length)
 have ai:q.Ok:=by rw [hq];exact foreH_ok am K
 have aN:q.P.length=n:=by rw [hq,hn];exact turnPl_len _ _ _
 have ag:q.W=p.W/\q.H=p.H/\q.d=p.d:=by rw [hq];exact ⟨rfl,rfl,rfl⟩
 have bx:=fun k=>planesTo_len hway ai k
 have bP:n<=4:=by rw [hn];exact am.n1
 unfold TurnPost at aa
 rw [<-hq] at aa
 unfold picV at ac aa ⊢
 rw [aN,ag.1,ag.2.1,ag.2.2] at aa
 rw [<-hn] at ac aa ⊢
 have af:Hid (hueMay way K p=planesMay way q n/\planesTo way (foreH K p) p.P.length=planesTo way q n):=hid (by unfold hueMay;rw [<-hq,<-hn];exact ⟨rfl,rfl⟩)
 obtain ⟨w1,aB⟩:=zX (w.alloc (.cells #[.int .i64 p.W,.int .i64 p.H,.int .i64 p.d,.slice (some ⟨g,o,none⟩) n cap] 27))
 obtain ⟨X,hX⟩:=zX (w.heap.size)
 have aH:Box w1 X (.int .i64 p.W) (.int .i64 p.H) (.int .i64 p.d) (.slice (some ⟨g,o,none⟩) n cap):=⟨by rw [aB,hX];exact Blk.new w _ _⟩
 have bB:Chg [] w w1:=by rw [aB];exact (zR [] w).alloc _
 have be:X∉F:=fun hm'=>by have:=hw.lt X hm';omega
 obtain ⟨ki,aR⟩:=zX (wayI kind)
 rw [<-aR]
 have au:∀ {wz:World} {l:List Int} {A:Option Addr} (ae:Nat),l.length=q.W*q.H->SmpOk q.d l->Cells vi wz A l->l.length<=ae->∀ (F' az:List Nat),IsWr wz b F' az->Apt A l F'->Pts wz->0∉F'->az.length<17179869184->Calls Tryz.prog 89 #[.pointer (some ⟨b,0,none⟩),.slice A l.length ae,.int .i64 p.W,.int .i64 p.H,.int .i64 p.d,.int .i64 (wayI way)] wz (PlanePost way wz b F' az l q.W q.H q.d):=by
  intro wz l A ae e1 e2 e3 e4 F' az e5 e6 e7 e8 e9
  have:=putPlane_ok hway ae e1 e2 e3 e4 ai.w0 ai.w1 ai.h0 ai.h1 ai.d0 ai.d1 b F' az e5 e6 e7 e8 e9
  rw [ag.1,ag.2.1,ag.2.2] at this
  rw [ag.1,ag.2.1,ag.2.2]
  exact this
 have bk:=hid aB
 have HX:=hid hX
 have bz:=hid aH
 have ao:=hid bB
 have HB:=hid ac
 have HF:=hid aa
 have ba:=hid aR
 have HK:=hid hK
 have a7:=hid ai
 have aS:=hid aN
 have HW:=hid hw
 have HP:=hid hp
 have bf:=hid h0F
 have bH:=hid be
 have bN:=hid bx
 have bl:=hid (fun wz l A ae a b c d e f g i j k m=>@au wz l A ae a b c d e f g i j k m)
 have bC:∃ wi,wi=wayI way:=⟨_,rfl⟩
 obtain ⟨wi,a8⟩:=bC
 rw [<-a8] at bl ⊢
 obtain ⟨a0,a1,a2,a3⟩:=aH.cells
 clear aB hX aH bB ac aa aR hK hq ai aN ag hw hp h0F be bx au a8 am h hk bm hG hn hway
 rcases kind with _ | k
 have e1:ki=-1:=ba.out
 subst e1
 have bw:K=bestH p 4:=HK.out
 have hb:=HB.out w1 ao.out
 rw [<-bw] at hb
 clear bw
 go_enter Tryz.func50,Tryz.ntmps50
 go_wp2_with fail
 rw [<-bk.out,<-HX.out]
 refine hb.mono ?_
 rintro e wz ⟨rfl,aZ⟩
 clear a0 a1 a2 a3 hb
 obtain ⟨a0,a1,a2,a3⟩:=(bz.out.same aZ).cells
 have an:=hid aZ
 clear aZ
 go_wp2_with fail
 rotate_left
 have e1:ki=(k:Int):=ba.out
 have e2:k=K:=HK.out.symm
 subst e1
 subst e2
 have t0:decide ((k:Int)<0)=false:=zA (by omega)
 go_enter Tryz.func50,Tryz.ntmps50
 go_wp2_with fail
 rw [<-bk.out,<-HX.out]
 obtain ⟨wz,aL⟩:=zX (w1)
 have an:Hid (Chg [] w1 wz):=hid (by rw [aL];exact zR _ _)
 rw [<-aL] at a0 a1 a2 a3 ⊢
 clear aL t0
 obtain ⟨K,bK⟩:=zX (k)
 subst bK
 all_goals
  clear a0 a1 a2 a3
  refine (HF.out wz (ao.out.trans_same an.out)).mono ?_
  rintro e w3 ⟨gP,ar,xs,gs,rfl,aj,aE,aA⟩
  obtain ⟨w4,aF⟩:=zX (w3.alloc (.cells #[.int .i64 p.W,.int .i64 p.H,.int .i64 p.d,.slice (some ⟨gP,0,none⟩) n ar] 27))
  obtain ⟨X9,aD⟩:=zX (w3.heap.size)
  have ay:Chg [] w3 w4:=by rw [aF];exact (zR [] w3).alloc _
  have aV:Box w4 X9 (.int .i64 p.W) (.int .i64 p.H) (.int .i64 p.d) (.slice (some ⟨gP,0,none⟩) n ar):=⟨by rw [aF,aD];exact Blk.new w3 _ _⟩
  have aW:Chg [] w w4:=((ao.out.trans_same an.out).trans_same aE).trans_same ay
  have bA:∀ x∈gP::gs,w.heap.size<=x/\x<w4.heap.size:=fun x hx=>⟨by have:=aA x hx;have:=(ao.out.trans_same an.out).size;omega,by
   have:=ay.size
   rcases zJ.1 hx with rfl | h1
   ·have:=aj.ltP;omega
   ·have:=aj.pl.lt x h1;omega⟩
  have ax:w.heap.size<=X9/\X9<w4.heap.size:=⟨by rw [aD];have:=((ao.out.trans_same an.out).trans_same aE).size;omega,aV.blk.lt⟩
  have aw:=HW.out.same aW
  have bb:=wput_ok w4 b F bs 0 1 aw (by decide) (by decide) (by omega)
  have bD:=hid aF
  have aC:=hid aW
  have bG:=hid aV
  have bL:=hid ax
  have a5:=hid bA
  have aT:=hid (aj.same ay)
  have aJ:Hid (Chg [] w1 w4):=hid ((an.out.trans_same aE).trans_same ay)
  have aU:=hid HW.out.lt
  have aP:=hid aD
  clear aF aD ay aV aW bA ax aw aj aE aA
  go_wp2_with fail
  rw [<-bD.out,<-aP.out]
  refine bb.mono ?_
  rintro e w5 ⟨rfl,F5,bo,bv⟩
  have u1:IntKind.u64.wrap (K:Int)=(K:Int):=IntWalk.u64_in _ (by omega)
  have bd:=wput_ok w5 b F5 _ K 3 bo (by decide) (by omega) (by rw [zC,bitsOf_len];omega)
  have bE:=hid bv
  clear bb bo bv
  go_wp2_with fail
  refine bd.mono ?_
  rintro e w6 ⟨rfl,F6,bj,br⟩
  have bg:=hid (bE.out.trans br)
  have bI:Hid (IsWr w6 b F6 (bs++(bitsOf 0 1++(bitsOf K 3++planesTo way q 0)))):=hid (by
   have e0:planesTo way q 0=[]:=rfl
   rw [e0]
   simpa only [zH,List.append_nil] using bj)
  have av:∀ Fk wr,Grow F Fk w4 wr->∀ x,w.heap.size<=x->x<w4.heap.size->x∉Fk:=fun Fk wr hg x h1 h2 hm=>by
   rcases hg.new x hm with h3 | h3
   ·have:=aU.out x h3;omega
   ·omega
  have aO:=hid av
  obtain ⟨b0,b1,b2,b3⟩:=(bG.out.chg bg.out.chg (fun hm=>by have:=aU.out _ hm;have:=bL.out;omega)).cells
  clear bd bj br av
  go_wp2_with fail
  clear b0 b1 b2 b3
  go_loopg [12,13,36] n (fun j v12 v13 v36 wr=>∃ (i:Nat) (Fk:List Nat),v36=.int .i64 i/\i+j=n/\Hid (IsWr wr b Fk (bs++(bitsOf 0 1++(bitsOf K 3++planesTo way q i))))/\Hid (Grow F Fk w4 wr)/\Hid (planesMay way q i=true))
  case atStart=>exact ⟨0,F6,rfl,by omega,bI,bg,hid rfl⟩
  case round =>
   obtain ⟨i,Fk,rfl,bQ,bc,ak,aI⟩:=hrel
   rcases gk with _ | j
   ·obtain rfl:i=n:=by omega
    have t1:decide ((i:Int)<(i:Int))=false:=by simp
    go_wp2_with fail
    go_ret
    unfold TransPost
    rw [af.out.1,af.out.2,if_pos aI.out]
    exact ⟨rfl,Fk,bc.out,Grow.pre aC.out ak.out⟩
   ·have hi:i<n:=by omega
    have t1:decide ((i:Int)<(n:Int))=true:=zB (by omega)
    have a6:∀ x∈gP::gs,x∉F:=fun x hx hm=>by have:=a5.out x hx;have:=aU.out x hm;omega
    have am:=aT.out.chg ak.out.chg (a6 gP (by simp)) (fun x hx=>a6 x (by simp [hx]))
    obtain ⟨gi,ci,e1,e2,e3,e4⟩:=am.plane (show i<q.P.length by rw [aS.out];exact hi)
    obtain ⟨D,hD⟩:=zX (q.P.getD i [])
    rw [<-hD] at e3
    have aM:D.length=q.W*q.H:=by rw [hD];exact a7.out.len _ (getD_mem_or (by rw [aS.out];exact hi))
    have bh:SmpOk q.d D:=by rw [hD];exact a7.out.smp _ (getD_mem_or (by rw [aS.out];exact hi))
    rw [<-aM] at e3 e4
    have bp:Cells vi wr (some ⟨gi,0,none⟩) D:=e3.toOwn.cells
    have ah:D.length<=ci:=by
     obtain ⟨c7,aX,ah,_⟩:=e3.open_map
     injection aX with _ _ aX
     rw [aX]
     exact ah
    have bq:gi∉Fk:=aO.out Fk wr ak.out gi (a5.out gi (by simp [List.mem_of_getElem? e2])).1 (a5.out gi (by simp [List.mem_of_getElem? e2])).2
    have bi:Apt (some (⟨gi,0,none⟩:Addr)) D Fk:=fun _ ad e hm=>by injection e with e;subst e;exact bq hm
    have aq:=(HP.out.same aC.out).chg ak.out.chg bf.out
    have bu:0∉Fk:=ak.out.out (by have:=HP.out.lt;have:=aC.out.size;omega) bf.out
    have au:=bl.out wr D (some ⟨gi,0,none⟩) ci aM bh bp ah Fk _ bc.out bi aq bu (by
     have:=bN.out i aI.out
     simp only [zC,bitsOf_len]
     omega)
    have al:=planesTo_succ way q i
    have aG:=planesMay_succ way q i
    rw [<-hD] at al aG
    obtain ⟨a0,a1,a2,a3⟩:=(((bz.out.same aJ.out).chg ak.out.chg bH.out)).cells
    have aY:=hid au
    have bJ:=hid hD
    have aQ:=hid al
    have bO:=hid aG
    clear au al aG hD aM bh bp ah bi aq bu bq am a6 e1 e2 e3
    go_wp2_with fail
    refine aY.out.mono ?_
    rintro e w7 ab
    unfold PlanePost at ab
    cases hpo:planeOk way D q.W q.H q.d with
    | true =>
     rw [if_pos hpo] at ab
     obtain ⟨rfl,F7,a9,ap⟩:=ab
     have aK:=hid (ak.out.trans ap)
     have bM:Hid (IsWr w7 b F7 (bs++(bitsOf 0 1++(bitsOf K 3++planesTo way q (i+1))))):=hid (by rw [aQ.out];simpa only [zH] using a9)
     have bF:Hid (planesMay way q (i+1)=true):=hid (by rw [bO.out,aI.out,hpo];rfl)
     clear a9 ap hpo
     go_wp2_with fail
     go_roundg j
     case measure=>omega
     case rel=>exact ⟨i+1,F7,by go_num,by omega,bM,aK,bF⟩
    | false =>
     rw [if_neg (by rw [hpo];simp)] at ab
     obtain ⟨rfl,F7,ap⟩:=ab
     have aK:=hid (ak.out.trans ap)
     have a4:Hid (¬ planesMay way q n=true):=hid (fun h=>by
      have h1:=planesMay_at h hi
      rw [<-bJ.out,hpo] at h1
      cases h1)
     clear ap hpo
     go_wp2_with fail
     go_ret
     unfold TransPost
     rw [af.out.1,if_neg a4.out]
     exact ⟨rfl,F7,Grow.pre aC.out aK.out⟩
theorem rerr_ok (b:Nat) (w:World):Calls Tryz.prog 100 #[.pointer (some ⟨b,0,none⟩),.int .i64 0] w fun e w'=>e=.returned (.int .i64 0)/\w=w':=by
 go_enter Tryz.func100,Tryz.ntmps100
 go_wp2
 go_ret
 exact ⟨rfl,rfl⟩
theorem planesTo_pre (way:Option Nat) (q:PicD):∀ k n i,i+k=n->∃ rest,planesTo way q n=planesTo way q i++rest
 | 0,n,i,h=>⟨[],by rw [List.append_nil,show i=n by omega]⟩
 | k+1,n,i,h=>by
  obtain ⟨r,hr⟩:=planesTo_pre way q k n (i+1) (by omega)
  exact ⟨_,by rw [hr,planesTo_succ,zH]⟩
theorem planesTo_ahead {way:Option Nat} {q:PicD} {n:Nat} {ds:List Nat} {pos:Nat} (ha:Ahead ds pos (planesTo way q n)) {k:Nat} (hk:k<n) :
  Ahead ds (pos+(planesTo way q k).length) (planeBits way (q.P.getD k []) q.W q.H q.d):=by
 obtain ⟨r,hr⟩:=planesTo_pre way q (n-(k+1)) n (k+1) (by omega)
 rw [hr,planesTo_succ,zH] at ha
 exact ha.right.left
def RdPicPost (w:World) (b:Nat) (F ds:List Nat) (pos:Nat) (p:PicD) (e:Ending) (w':World):Prop :=
 ∃ (gP capP:Nat) (xs:List Value) (gs:List Nat),e=.returned (.tuple #[picV p gP 0 capP,.int .i64 0])/\PicOwn w' p gP capP xs gs/\IsRd w' b F ds pos/\Chg [b] w w'/\∀ x∈gP::gs,w.heap.size<=x
theorem getTrans_ok {way:Option Nat} (hway:WayOk way) {w:World} {b:Nat} {F ds:List Nat} {pos:Nat} (hr:IsRd w b F ds pos) {q:PicD} (hq:q.Ok) {k:Nat} (k4:k<=4) (hm:mayH q.P.length k=true) (hmay:planesMay way q q.P.length=true)
  (hp:Pts w) (h0F:0∉F) (ha:Ahead ds pos (bitsOf k 3++planesTo way q q.P.length)) :
  Calls Tryz.prog 71 #[.pointer (some ⟨b,0,none⟩),.int .i64 q.W,.int .i64 q.H,.int .i64 q.d,.int .i64 q.P.length] w (RdPicPost w b F ds (pos+3+(planesTo way q q.P.length).length) (backH k q)):=by
 unfold RdPicPost
 have bM:=hr.lt b hr.mem
 have a8:b≠0:=fun e=>h0F (by rw [<-e];exact hr.mem)
 have bn:=fun w1 (h:IsRd w1 b F ds pos)=>rget_ahead w1 b F ds pos 3 k h (by omega) (by omega) ha.left
 have aC:=fun w'=>hmay_ok q.P.length k w' hq.n0 hq.n1 k4
 rw [hm] at aC
 have aO:=ha.right
 rw [bitsOf_len] at aO
 have af:∀ i,i<q.P.length->∀ w',IsRd w' b F ds (pos+3+(planesTo way q i).length)->Pts w'->Calls Tryz.prog 101 #[.pointer (some ⟨b,0,none⟩),.int .i64 q.W,.int .i64 q.H,.int .i64 q.d] w' (GetPlanePost w' b F ds (pos+3+(planesTo way q (i+1)).length) (q.P.getD i [])):=fun i hi w' hr' hp'=>by
  have:=getPlane_ok hway hr' (hq.len _ (getD_mem_or hi)) (hq.smp _ (getD_mem_or hi)) hq.w0 hq.w1 hq.h0 hq.h1 hq.d0 hq.d1 hp' h0F (planesMay_at hmay hi) (planesTo_ahead aO hi)
  rw [Nat.add_assoc,<-zC,<-planesTo_succ] at this
  exact this
 have aJ:∀ i,i<q.P.length->(q.P.getD i []).length=q.W*q.H:=fun i hi=>hq.len _ (getD_mem_or hi)
 obtain ⟨N,hN⟩:=zX (q.W*q.H)
 have ae:=fun {w':World} {gP aa:Nat} {xs:List Value} {gs:List Nat} (h:PicOwn w' q gP aa xs gs)=>hback_ok aa h.at_ k k4 hm
 have aq:AlikeD q (backH k q):=⟨rfl,rfl,rfl,(turnPl_len _ _ _).symm⟩
 obtain ⟨r,au⟩:=zX (backH k q)
 rw [<-au] at ae aq ⊢
 have bb:picV r=fun gP o' cap' => .agg #[.int .i64 q.W,.int .i64 q.H,.int .i64 q.d,.slice (some ⟨gP,o',none⟩) q.P.length cap']:=by
  funext gP o' cap'
  unfold picV
  rw [aq.W,aq.H,aq.d,aq.n]
 unfold TurnPost at ae
 rw [bb] at ae ⊢
 obtain ⟨n,hn⟩:=zX (q.P.length)
 have bT:n<=4:=by rw [hn];exact hq.n1
 have bR:1<=n:=by rw [hn];exact hq.n0
 unfold picV at ae
 rw [<-hn] at aC af ae aJ ⊢
 rw [<-hN] at aJ
 have bS:IntKind.i64.wrap (k:Int)=(k:Int):=IntWalk.i64_in _ (by omega)
 obtain ⟨w1,aA⟩:=zX (w.alloc (.cells #[.int .i64 0,.int .i64 0,.int .i64 0,.slice none 0 0] 27))
 obtain ⟨R,hR⟩:=zX (w.heap.size)
 have aL:Box w1 R (.int .i64 0) (.int .i64 0) (.int .i64 0) (.slice none 0 0):=⟨by rw [aA,hR];exact Blk.new w _ _⟩
 have br:Chg [] w w1:=by rw [aA];exact (zR [] w).alloc _
 have aI:Hid (w.heap.size<=R/\R<w1.heap.size/\b<R):=hid ⟨by omega,aL.blk.lt,by omega⟩
 have aG:Hid (n=q.P.length):=hid hn
 have HQ:=hid hq
 have bW:Hid (q=⟨q.W,q.H,q.d,q.P⟩):=hid rfl
 have bD:=hid bn
 have bA:=hid aC
 have bP:=hid af
 have bv:=hid aJ
 have bw:=hid (fun (w':World) (gP aa:Nat) (xs:List Value) (gs:List Nat) h=>@ae w' gP aa xs gs h)
 have bE:=hid aA
 have bJ:=hid hR
 have bO:=hid aL
 have aD:=hid br
 have be:=hid hr
 have HP:=hid hp
 have bh:=hid a8
 clear bM a8 bn aC af aJ hN ae aq au bb hn aA hR aL br hr hp ha aO hm hmay hway hq h0F
 go_enter Tryz.func71,Tryz.ntmps71
 go_wp2_with fail
 rw [<-bE.out,<-bJ.out]
 refine (bD.out w1 (be.out.chg aD.out (by simp))).mono ?_
 rintro e w2 ⟨rfl,a5,bf⟩
 have av:=err_ok w2 b F ds _ a5
 have aH:=hid a5
 have ax:=hid bf
 clear a5 bf
 go_wp2_with (go_at_call 69;refine av.mono ?_;rintro e w' ⟨rfl,rfl⟩)
 refine (bA.out w2).mono ?_
 rintro e w3 ⟨rfl,rfl⟩
 clear av
 obtain ⟨wA,az⟩:=zX (w2.alloc (.cells #[.int .i64 q.W,.int .i64 q.H,.int .i64 q.d,.slice none 0 0] 27))
 obtain ⟨cb,aY⟩:=zX (w2.heap.size)
 have bi:CpSt [b] w2 q.W q.H q.d cb wA (.slice none 0 0) [] [] (q.P.take 0) []:=by
  refine ⟨by rw [az,aY];exact Blk.new w2 _ _,Own.nil _ _,PlRows.nil _,by simp,by simp,by simp,?_,?_,by rw [az];exact (zR [b] w2).alloc _⟩
  ·intro x hx
   simp at hx
   omega
  ·intro x hx
   simp at hx
   subst hx
   exact aH.out.lt _ aH.out.mem
 have bN:=hid bi
 have bB:Hid (IsRd wA b F ds (pos+3+(planesTo way q 0).length)):=hid (by
  have e:planesTo way q 0=[]:=rfl
  rw [e,az]
  exact aH.out.chg ((zR [] w2).alloc _) (by simp))
 have bC:=hid az
 have bH:=hid aY
 clear bi az aY
 go_wp2_with fail
 rw [<-bC.out,<-bH.out]
 go_loopg [15,16,38] n (fun j v15 v16 v38 wr=>∃ (i:Nat) (vP:Value) (E:List Nat) (xs:List Value) (gs:List Nat),v38=.int .i64 i/\i+j=n/\Hid (CpSt [b] w2 q.W q.H q.d cb wr vP E xs (q.P.take i) gs)/\Hid (IsRd wr b F ds (pos+3+(planesTo way q i).length)))
 case atStart=>exact ⟨0,_,[],[],[],rfl,by omega,bN,bB⟩
 case round =>
  obtain ⟨i,vP,E,xs,gs,rfl,bV,HS,bd⟩:=hrel
  rcases gk with _ | j
  ·obtain rfl:i=n:=by omega
   have t1:decide ((i:Int)<(i:Int))=false:=by simp
   have bq:q.P.take i=q.P:=zT (by rw [<-aG.out];exact zQ _)
   have hs:=HS.out
   rw [bq] at hs
   have ar:xs.length=i:=by rw [hs.pl.lx,<-aG.out]
   rcases hs.own.cases with ⟨_,he,_⟩ | ⟨gP,ao,hE⟩
   ·exfalso
    rw [he] at ar
    simp at ar
    omega
   have a4:=ao
   obtain ⟨aa,rfl,a7,aP,-,-⟩:=ao.open_
   rw [ar] at a4 hs
   have ay:PicOwn wr q gP aa xs gs:=⟨HQ.out,by rw [<-aG.out];exact a4,hs.pl⟩
   obtain ⟨b0,b1,b2,b3⟩:=(show Box wr cb _ _ _ _ from ⟨hs.blk⟩).cells
   have am:Hid (Chg [b] w1 wr):=hid (ax.out.trans_same hs.chg)
   have ae:=bw.out wr gP aa xs gs ay
   clear hs ao a7 aP bq a4 ay
   go_wp2_with fail
   refine ae.mono ?_
   rintro e w5 ⟨gQ,ag,ys,hs,rfl,ak,an,aj⟩
   clear b0 b1 b2 b3 ae
   obtain ⟨wX,aw⟩:=zX (w5.alloc (.cells #[.int .i64 q.W,.int .i64 q.H,.int .i64 q.d,.slice (some ⟨gQ,0,none⟩) i ag] 27))
   obtain ⟨X,hX⟩:=zX (w5.heap.size)
   have aE:Chg [] w5 wX:=by rw [aw];exact (zR [] w5).alloc _
   have aX:Box wX X (.int .i64 q.W) (.int .i64 q.H) (.int .i64 q.d) (.slice (some ⟨gQ,0,none⟩) i ag):=⟨by rw [aw,hX];exact Blk.new w5 _ _⟩
   have ad:Box wX R (.int .i64 0) (.int .i64 0) (.int .i64 0) (.slice none 0 0):=((bO.out.chg am.out (by have:=aI.out;simp;omega)).same an).same aE
   obtain ⟨a0,a1,a2,a3⟩:=aX.cells
   have bU:=hid aX
   have bL:=hid ad
   have bl:=hid aw
   have bm:=hid hX
   have aW:=hid (ak.same aE)
   have bc:=hid (an.trans_same aE)
   have a9:Hid (∀ x∈gQ::hs,w1.heap.size<=x):=hid (fun x hx=>Nat.le_trans am.out.size (aj x hx))
   rw [aw,hX] at a0 a1 a2 a3
   clear aw hX aE aX ad ak an aj
   go_wp2_with fail
   rw [<-bl.out,<-bm.out]
   rw [<-bl.out,<-bm.out] at a0 a1 a2 a3
   have au:=rerr_ok b
   refine wp_region_quiet_tail 4 (by kernel_rfl) (by kernel_rfl) ?_
   simp only [List.take_succ_cons,List.take_zero,List.drop_succ_cons,List.drop_zero]
   repeat (go_big_quiet_step ((go_at_call 100;exact Calls.quiet_of_same ((au _).mono (fun _ _ h=>⟨h.1,h.2.symm⟩)))))
   refine wpQuiet_nil ?_
   intro _ bs
   obtain ⟨nq,rfl⟩:=bs
   have ad:=bL.out.same ((zR [] wX).drewN nq)
   obtain ⟨z0,z1,z2,z3⟩:=ad.cells
   have f0:=ad.blk.frozen 0
   have f1:=ad.blk.frozen 1
   have f2:=ad.blk.frozen 2
   have f3:=ad.blk.frozen 3
   have aR:=hid ad
   clear ad au a0 a1 a2 a3
   go_wp2_with fail
   refine pic_ret aR.out ?_
   intro V hV hY
   obtain ⟨x0,x1,x2,x3⟩:=hV.cells
   refine bodyPost_ret (v:=.tuple #[.agg #[.int .i64 q.W,.int .i64 q.H,.int .i64 q.d,.slice (some ⟨gQ,0,none⟩) i ag],.int .i64 0]) (by simp [results,Tryz.results71,go_sem,x0,x1,x2,x3]) rfl ?_
   have aM:Chg [R] wX V:=((zR [R] wX).drewN nq).trans_same hY
   have bj:∀ x∈gQ::hs,x≠R:=fun x hx e=>by have:=a9.out x hx;have:=aI.out;omega
   refine ⟨gQ,ag,ys,hs,rfl,aW.out.chg aM (by simpa using bj gQ (by simp)) (fun x hx=>by simpa using bj x (by simp [hx])),?_,?_,fun x hx=>by have:=a9.out x hx;have:=aD.out.size;omega⟩
   ·refine ((bd.out.chg bc.out (by simp))).chg aM (fun x hx hm => ?_)
    simp at hm
    subst hm
    have:=be.out.lt _ hx
    have:=aI.out
    omega
   ·refine (((aD.out.mono (F':=[b]) (by simp)).trans_same am.out).trans_same (bc.out.mono (by simp))).trans aM (fun x hx => .inr ?_)
    simp at hx
    have:=aI.out
    omega
  ·have hi:i<n:=by omega
   have t1:decide ((i:Int)<(n:Int))=true:=zB (by omega)
   have af:=bP.out i hi wr bd.out (((HP.out.same aD.out).chg ax.out (by simpa using fun e=>bh.out e.symm)).chg HS.out.chg (by simpa using fun e=>bh.out e.symm))
   have aQ:i<q.P.length:=by rw [<-aG.out];exact hi
   have aB:q.P.take (i+1)=q.P.take i++[q.P.getD i []]:=by
    rw [List.take_succ_eq_append_getElem aQ,zD,zF aQ]
    rfl
   have ar:xs.length=i:=by rw [HS.out.pl.lx,zI];omega
   have bp:=hid aB
   have bQ:=hid ar
   obtain ⟨l,hl⟩:=zX (q.P.getD i [])
   have aN:=bv.out i hi
   rw [<-hl] at aB af aN
   have bp:=hid aB
   unfold GetPlanePost at af
   rw [aN] at af
   have aV:=hid af
   clear af aQ aB ar hl aN
   go_wp2_with fail
   refine aV.out.mono ?_
   rintro e w5 ⟨g5,rfl,al,bk,an,bo⟩
   have aF:=HS.out.turn an
   obtain ⟨wB,aK⟩:=zX (w5.alloc (.cells #[.slice (some ⟨g5,0,none⟩) N N] 22))
   have ap:Chg [] w5 wB:=by rw [aK];exact (zR [] w5).alloc _
   have bg:=Blk.new w5 22 #[.slice (some ⟨g5,0,none⟩) N N]
   have ac:=aF.own.same ap
   have ai:=al.chg ap (by simp)
   have bu:=hid (aF.blk.chg ap (by simp))
   have y5:=aF.blk.cell 3
   simp at y5
   rw [aK] at ac
   have bz:=hid aK
   have aT:=hid ai
   have bI:=hid (an.trans_same (ap.mono (F':=[b]) (by simp)))
   have bF:=hid (bk.chg ap (by simp))
   have bx:=hid bo
   have a6:=bQ.out
   clear aK ap al ai an bo bk aF
   go_wp2_with (at_builtin;refine wpList_append_o1 rfl rfl rows_el rfl rfl ac (.slice (some ⟨g5,0,none⟩) N N) rfl ?c1 rfl ?c3 ?c4 ?_)
   case c1=>exact bg.cell 0
   case c3=>rw [a6];omega
   case c4=>rw [a6];omega
   intro g6 aU w6 ah ab
   rw [<-bz.out] at ab
   have aS:=bu.out.chg ab.chg HS.out.cF
   have y6:=aS.cell 3
   have z6:=aS.frozen 3
   simp at y6
   have aZ:=CpSt.next HS.out bI.out aT.out bx.out ah ab
   rw [<-bp.out] at aZ
   have bK:=hid aZ
   have ba:IsRd (w6.setCell ⟨cb,3,none⟩ (.slice (some ⟨g6,0,none⟩) (i+1) aU)) b F ds (pos+3+(planesTo way q (i+1)).length):=by
    have hF:∀ x∈cb::(E++gs),x∉F:=fun x hx hm=>by have:=HS.out.new x hx;have:=aH.out.lt x hm;omega
    exact (bF.out.chg ab.chg (fun x hx hm=>hF x (by simp [hm]) hx)).chg ((zR [cb] w6).setCell (p:=⟨cb,3,none⟩) (.inl (by simp)) _) (fun x hx hm=>hF cb (by simp) (by simp at hm;exact hm ▸ hx))
   have bG:=hid ba
   clear aZ ah ab aS ac bg y5 ba
   clear a6
   go_wp2_with fail
   go_roundg j
   case measure=>omega
   case rel=>exact ⟨i+1,_,_,_,_,by go_num,by omega,bK,bG⟩
end Go.Proofs.YtepjepkgcdfboaaGreatDoor
