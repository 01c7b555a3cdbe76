/- kinorakeep2.Tape.Alike by its contract. -/
import Derived.Test.YtklocammllljiaaGreatDoorMg48
import Derived.Test.YtklocammllljiaaGreatDoorMg47
import Derived.Test.YtklocammllljiaaGreatDoorMg46
set_option linter.unusedVariables false
set_option linter.unusedSimpArgs false
set_option maxHeartbeats 4000000
set_option maxRecDepth 100000
namespace Go.Proofs.YtklocammllljiaaGreatDoor
open Go.RowKit
def AlS (nb gP cP n i gi N ci k d bx:Nat) (v:Int) (w':World):Prop:=w'.cell? ⟨nb,3,none⟩=some (.slice (some ⟨gP,0,none⟩) n cP)/\w'.cell? ⟨bx,2,none⟩=some (.int .i64 d)/\w'.cell? ⟨gP,i,none⟩=some (.slice (some ⟨gi,0,none⟩) N ci)/\w'.cell? ⟨gi,k,none⟩=some (.int .i64 v)
def TapeAlikePost (w:World) (p:PicD) (b cap:Nat) (A:Option Addr) (L:List Int) (e:Ending) (w':World):Prop :=
 ∃ (q:PicD) (gP capP:Nat) (xs:List Value) (gs:List Nat) (at':Nat),e=.returned (picV q gP 0 capP)/\PicOwn w' q gP capP xs gs/\AlikeD p q/\IsTp w' b A cap L at'/\Chg [b] w w'/\∀ x∈gP::gs,w.heap.size<=x
theorem talike_tp {w:World} {p:PicD} {g o:Nat} {B:Nat->Option Addr} {c:Nat->Nat} {G:List Nat} (cap:Nat) (h:PicAt w p g o B c G) (b capT at_:Nat) (A:Option Addr) (L:List Int) (ht:IsTp w b A capT L at_) (hbG:b∉G) :
  Calls Tryz.prog 47 #[.pointer (some ⟨b,0,none⟩),picV p g o cap] w (TapeAlikePost w p b capT A L):=by
 have ai:=h.ok
 unfold TapeAlikePost
 have aZ:∀ w',Chg [] w w'->_:=fun w' hc=>copy24_ok cap (h.same hc)
 have b7:=ai.w0
 have aX:=ai.w1
 have ck:=ai.h0
 have aF:=ai.h1
 have bn:=ai.d0
 have a1:=ai.d1
 have cJ:=ai.n1
 obtain ⟨N,hN⟩:=zX (p.W*p.H)
 have eN:(p.W:Int)*(p.H:Int)=(N:Int):=by rw [hN];simp
 have cb:1<=N:=by rw [hN];exact ai.pos
 have dp:N<=4096:=by rw [hN];exact ai.area
 have cQ:N<=64*p.W:=by rw [hN,zY];exact Nat.mul_le_mul_right p.W aF
 have bB:∀ w',Chg [b] w w'->∀ i,i<p.P.length->∃ bi qi,w'.cell? ⟨g,o+i,none⟩=some (.slice (some ⟨bi,qi,none⟩) N (c i))/\∀ k,k<N->∃ v:Int,w'.cell? ⟨bi,qi+k,none⟩=some (.int .i64 v)/\0<=v/\v<2^p.d:=by
  intro w' hc i hi
  have h9:=h.chg hc (by intro x hx hm;simp at hm;subst hm;exact hbG hx)
  obtain ⟨bi,qi,e,hb,hk⟩:=h9.at_ hi
  have bG:=h9.cell i hi
  rw [e,<-hN] at bG
  exact ⟨bi,qi,bG,fun k hkk=>⟨_,hk k (by rw [<-hN];exact hkk),getD_smp (ai.smp _ (plane_mem hi)) k⟩⟩
 have aC:∀ X Y:Nat,X<p.W->Y<p.H->Y*p.W+X<N:=fun X Y hx hy=>by
  have h3:=Nat.mul_le_mul_right p.W (show Y+1<=p.H by omega)
  rw [Nat.succ_mul,zY p.H,<-hN] at h3
  omega
 have bJ:=fun v w=>wrap24_ok v p.d w bn a1
 have cC:=ht.blk.lt
 have bO:∀ F:List Nat,(∀ x∈F,w.heap.size<=x)->Apt A L F:=fun F hF=>Apt.fresh ht.cells hF
 unfold picV at aZ ⊢
 obtain ⟨wZ,aw⟩:=zX ((w.alloc (.cells #[.int .i64 p.W,.int .i64 p.H,.int .i64 p.d,.slice (some ⟨g,o,none⟩) p.P.length cap] 25)).alloc (.cells #[.int .i64 0,.int .i64 0,.int .i64 0,.slice none 0 0] 25))
 have aR:Chg [] w wZ:=by rw [aw];exact ((zR [] w).alloc _).alloc _
 have ag:Blk wZ w.heap.size 25 #[.int .i64 p.W,.int .i64 p.H,.int .i64 p.d,.slice (some ⟨g,o,none⟩) p.P.length cap]:=by rw [aw];exact (Blk.new w _ _).alloc _
 have ay:Blk wZ (w.heap.size+1) 25 #[.int .i64 0,.int .i64 0,.int .i64 0,.slice none 0 0]:=by rw [aw];exact Blk.new2 w _ _ _
 have bI:wZ.heap.size=w.heap.size+1+1:=by rw [aw,alloc_size,alloc_size]
 have bF:=ht.fresh aR
 have k0:=ag.cell 0
 have k1:=ag.cell 1
 have k2:=ag.cell 2
 have k3:=ag.cell 3
 simp at k0 k1 k2 k3
 rw [aw] at k0 k1 k2 k3
 have cd:=hid aw
 have b5:=hid aR
 have cl:=hid ag
 have bX:=hid ay
 have b9:=hid bI
 have co:=hid bF
 have cB:=hid bB
 have a0:=hid aC
 have cG:=hid bJ
 have cH:=hid bO
 have aI:=hid hN
 have c0:=hid ai
 have cg:=hid (aZ wZ aR)
 clear aw aR ag ay bI bF bB aC bJ bO ai aZ h ht hN hbG
 go_enter Tryz.func47,Tryz.ntmps47
 go_wp2_with fail
 rw [<-cd.out]
 refine cg.out.mono ?_
 rintro e w1 ⟨gP,cP,xs,gs,rfl,ap,ba,bz⟩
 obtain ⟨nb,bj⟩:=zX (w1.heap.size)
 obtain ⟨w2,aL⟩:=zX (w1.alloc (.cells #[.int .i64 p.W,.int .i64 p.H,.int .i64 p.d,.slice (some ⟨gP,0,none⟩) p.P.length cP] 25))
 have bb:Chg [] w1 w2:=by rw [aL];exact (zR [] w1).alloc _
 have bg:AlSt w p g o cap b capT A L w.heap.size nb (w.heap.size+1) gP cP w2 p xs gs at_:=by
  have c2:=ba.trans_same bb
  have hs:=b9.out
  have cL:=ba.size
  refine ⟨ap.same bb,⟨rfl,rfl,rfl,rfl⟩,co.out.fresh c2,(b5.out.trans_same c2).mono (by simp),cl.out.chg c2 (by simp),by rw [aL,bj];exact Blk.new w1 _ _,bX.out.chg c2 (by simp),fun x hx => ?_,⟨zQ _,by omega,by omega⟩,cC,cH.out⟩
  have h1:=bz x hx
  have h2:x<w1.heap.size:=by
   rcases zJ.1 hx with rfl | h1
   ·exact ap.ltP
   ·exact ap.pl.lt x h1
  exact ⟨by omega,by omega,by omega,by omega⟩
 have cK:=hid bg
 have cq:=hid aL
 have bY:=hid bj
 have aW:=next_tp w2 b capT at_ 6 A L bg.tp (by omega) (by omega)
 clear ap ba bz bj aL bb bg k0 k1 k2 k3
 go_wp2_with fail
 rw [<-cq.out,<-bY.out]
 refine aW.mono ?_
 rintro e w3 ⟨am,a3,rfl,cj,bo,bR⟩
 have cf:=hid (cK.out.tape bR bo)
 have aM:=next_tp w3 b capT a3 7 A L bo (by omega) (by omega)
 clear aW bo bR
 go_wp2_with fail
 refine aM.mono ?_
 rintro e w4 ⟨n4,a4,rfl,cw,bk,bw⟩
 have cz:=hid (cf.out.tape bw bk)
 have aM:=next_tp w4 b capT a4 7 A L bk (by omega) (by omega)
 obtain ⟨dx,cr⟩:∃ dx:Int,(n4:Int)-3=dx:=⟨_,rfl⟩
 have db : -3<=dx:=by omega
 have dj:dx<=3:=by omega
 clear bk bw
 go_wp2_with fail
 refine aM.mono ?_
 rintro e w5 ⟨n5,a5,rfl,cp,bS,bL⟩
 have ch:=hid (cz.out.tape bL bS)
 obtain ⟨dy,b6⟩:∃ dy:Int,(n5:Int)-3=dy:=⟨_,rfl⟩
 have dm : -3<=dy:=by omega
 have cS:dy<=3:=by omega
 clear aM bS bL
 go_wp2_with fail
 clear cr b6 cw cp
 go_loopg [9,10,11,12,13,14] p.P.length (fun j v9 v10 v11 v12 v13 v14 wr=>∃ (i:Nat) (q:PicD) (xs:List Value) (gs:List Nat) (at':Nat),v9=.int .i64 i/\i+j=p.P.length/\Hid (AlSt w p g o cap b capT A L w.heap.size nb (w.heap.size+1) gP cP wr q xs gs at'))
 case atStart=>exact ⟨0,p,xs,gs,a5,rfl,by omega,ch⟩
 case round =>
  obtain ⟨i,q,xs,gs,ax,rfl,cU,HS⟩:=hrel
  have n0:=HS.out.nbB.cell 0
  have n1:=HS.out.nbB.cell 1
  have n2:=HS.out.nbB.cell 2
  have n3:=HS.out.nbB.cell 3
  simp at n0 n1 n2 n3
  rcases gk with _ | j
  ·have hi:i=p.P.length:=by omega
   have t1:decide (i<p.P.length)=false:=zA (by omega)
   have r0:=HS.out.rbB.cell 0
   have r1:=HS.out.rbB.cell 1
   have r2:=HS.out.rbB.cell 2
   have r3:=HS.out.rbB.cell 3
   simp at r0 r1 r2 r3
   have z0:=HS.out.rbB.frozen 0
   have z1:=HS.out.rbB.frozen 1
   have z2:=HS.out.rbB.frozen 2
   have z3:=HS.out.rbB.frozen 3
   have cY:=hid hi
   have cT:nb≠w.heap.size+1:=fun e=>by
    have h1:=HS.out.nbB.cell 0
    have h2:=HS.out.rbB.cell 0
    rw [e,h2] at h1
    simp at h1
    omega
   clear hi
   go_wp2_with fail
   obtain ⟨rb,cx⟩:=zX (w.heap.size+1)
   have bP:=HS.out.rbB
   rw [<-cx] at bP ⊢
   obtain ⟨wE,be⟩:=zX ((((wr.setCell ⟨rb,0,none⟩ (.int .i64 p.W)).setCell ⟨rb,1,none⟩ (.int .i64 p.H)).setCell ⟨rb,2,none⟩ (.int .i64 p.d)).setCell ⟨rb,3,none⟩ (.slice (some ⟨gP,0,none⟩) p.P.length cP))
   have aQ:Blk wE rb 25 #[.int .i64 p.W,.int .i64 p.H,.int .i64 p.d,.slice (some ⟨gP,0,none⟩) p.P.length cP]:=by
    rw [be]
    have:=(((bP.set_ 0 (.int .i64 p.W)).set_ 1 (.int .i64 p.H)).set_ 2 (.int .i64 p.d)).set_ 3 (.slice (some ⟨gP,0,none⟩) p.P.length cP)
    simpa using this
   have aV:Chg [rb] wr wE:=by
    rw [be]
    exact ((((zR [rb] wr).setCell (p:=⟨rb,0,none⟩) (.inl (by simp)) _).setCell (p:=⟨rb,1,none⟩) (.inl (by simp)) _).setCell (p:=⟨rb,2,none⟩) (.inl (by simp)) _).setCell (p:=⟨rb,3,none⟩) (.inl (by simp)) _
   have g0:=aQ.cell 0
   have g1:=aQ.cell 1
   have g2:=aQ.cell 2
   have g3:=aQ.cell 3
   simp at g0 g1 g2 g3
   rw [<-be]
   refine bodyPost_ret (v:=.agg #[.int .i64 p.W,.int .i64 p.H,.int .i64 p.d,.slice (some ⟨gP,0,none⟩) p.P.length cP]) (by simp [results,Tryz.results47,go_sem,g0,g1,g2,g3]) rfl ?_
   have av:=HS.out.far
   refine ⟨q,gP,cP,xs,gs,ax,?_,HS.out.own.chg aV ?_ ?_,HS.out.al,HS.out.tp.same aV ?_ (HS.out.tpA _ ?_),HS.out.chg.trans aV ?_,fun x hx=>(av x hx).1⟩
   ·rw [HS.out.al.W,HS.out.al.H,HS.out.al.d,HS.out.al.n]
   ·have:=(av gP (by simp)).2.2.2
    simp
    omega
   ·intro x hx
    have:=(av x (by simp [hx])).2.2.2
    simp
    omega
   ·simp
    omega
   ·intro x hx
    simp at hx
    omega
   ·intro x hx
    simp at hx
    right
    omega
  ·have hi:i<p.P.length:=by omega
   have t1:decide (i<p.P.length)=true:=zB hi
   by_cases hw5:am=5
   ·have t2:((am:Int)==5)=true:=by rw [beq_iff_eq];omega
    obtain ⟨gi,ci,aq,ar,aa,ad,-,-⟩:=HS.out.at_ (N:=N) hi aI.out
    have x0:=HS.out.bxB.cell 0
    have x1:=HS.out.bxB.cell 1
    have x2:=HS.out.bxB.cell 2
    simp at x0 x1 x2
    have ac:∀ wz,Chg [b] wr wz->wz.cell? ⟨gP,i,none⟩=some (.slice (some ⟨gi,0,none⟩) N ci)/\wz.frozen? ⟨gP,i,none⟩=false:=fun wz hz=>by
     have ho:=HS.out.old
     have hP:=(HS.out.far gP (by simp)).1
     have hr:=HS.out.own.row.chg hz (by simp;omega)
     obtain ⟨_,_,_,_,_,au⟩:=hr.open_
     exact ⟨(World.cell?_of_block (w:=wr) (hz.block gP HS.out.own.ltP (by simp;omega))).trans aa,au i⟩
    have aj:∀ wz,Chg [b,gP] wr wz->wz.cell? ⟨nb,3,none⟩=some (.slice (some ⟨gP,0,none⟩) p.P.length cP)/\wz.cell? ⟨w.heap.size,0,none⟩=some (.int .i64 p.W)/\wz.cell? ⟨w.heap.size,1,none⟩=some (.int .i64 p.H)/\wz.cell? ⟨w.heap.size,2,none⟩=some (.int .i64 p.d):=fun wz hz=>by
     have ho:=HS.out.old
     obtain ⟨b1,b2,b3⟩:=HS.out.big
     obtain ⟨f1,f2,f3,f4⟩:=HS.out.far gP (by simp)
     have hb:=HS.out.nbB.chg hz (by simp;omega)
     have hx:=HS.out.bxB.chg hz (by simp;omega)
     exact ⟨hb.cell 3,hx.cell 0,hx.cell 1,hx.cell 2⟩
    have an:=hid aj
    have bq:=fun wz (hz:Chg [] wr wz)=>plane_tp wz b capT ax p.W p.H p.d A L (HS.out.tp.fresh hz) b7 aX ck aF bn a1
    have af:=hid ac
    have cA:=hid bq
    have HI:=hid hi
    clear ac aj bq aq ar hw5
    go_wp2_with fail
    go_region_held3 (fun w'=>w'.cell? ⟨nb,3,none⟩=some (.slice (some ⟨gP,0,none⟩) p.P.length cP)/\w'.cell? ⟨w.heap.size,0,none⟩=some (.int .i64 p.W)/\w'.cell? ⟨w.heap.size,1,none⟩=some (.int .i64 p.H)/\w'.cell? ⟨w.heap.size,2,none⟩=some (.int .i64 p.d))
     (first | (go_keep;done) | exact an.out _ (((zR [b,gP] wr).drew).trans_same (ao.mono (by simp))) | exact an.out _ ((((zR [b,gP] wr).drew).trans_same (ao.mono (by simp))).setCell (.inl (by simp)) _) | trivial)
     (first | (go_at_call 57;refine (cA.out _ ((zR [] wr).drew)).mono ?_;rintro e w6 ⟨v6,g6,l6,a6,rfl,ae,aS,bM,aB,ao,bu⟩;obtain ⟨c6,rfl,-,-,-,-⟩:=ae.open_map;rw [aS] at ae;have da:=(af.out _ (((zR [b] wr).drew).trans_same ao)).1;have dh:=(af.out _ (((zR [b] wr).drew).trans_same ao)).2))
    have aA:Hid (∃ q',AlSt w p g o cap b capT A L w.heap.size nb (w.heap.size+1) gP cP (w6.setCell ⟨gP,i,none⟩ (.slice (some ⟨g6,0,none⟩) (p.W*p.H) c6)) q' (xs.set i (.slice (some ⟨g6,0,none⟩) (p.W*p.H) c6)) (gs.set i g6) a6):=hid ((HS.out.same ((zR [] wr).drew)).plane (by rw [<-HS.out.al.n];exact HI.out) ao aB ae bu (by rw [aS,HS.out.al.W,HS.out.al.H]) (by rw [<-HS.out.al.d];exact bM))
    clear ae aS bM aB ao bu n0 n1 n2 n3 x0 x1 x2 aa ad
    go_wp2_with fail
    go_roundg j
    case measure=>omega
    case rel =>
     obtain ⟨q',aD⟩:=aA.out
     exact ⟨i+1,q',_,_,a6,by go_num,by omega,hid aD⟩
   ·have t2:((am:Int)==5)=false:=by rw [beq_eq_false_iff_ne];omega
    have HI:=hid hi
    clear hi hw5
    go_wp2_with fail
    obtain ⟨dg,rfl⟩:=zX (wr)
    go_loopg [10,11,12] N (fun j v10 v11 v12 wr=>∃ (k:Nat) (q:PicD) (xs:List Value) (gs:List Nat),v10=.int .i64 k/\k+j=N/\Hid (AlSt w p g o cap b capT A L w.heap.size nb (w.heap.size+1) gP cP wr q xs gs ax))
    case atStart=>exact ⟨0,q,xs,gs,rfl,by omega,HS⟩
    case round =>
     clear n0 n1 n2 n3
     obtain ⟨k,q,xs,gs,rfl,dc,HK⟩:=hrel
     have n3:=HK.out.nbB.cell 3
     have x0:=HK.out.bxB.cell 0
     have x1:=HK.out.bxB.cell 1
     have x2:=HK.out.bxB.cell 2
     have x3:=HK.out.bxB.cell 3
     simp at n3 x0 x1 x2 x3
     have az:(decide (k<N)=false\/(decide (k<N)=true/\decide ((0:Int)<(am:Int))=false/\decide (0<am)=false))\/(decide (k<N)=true/\decide ((0:Int)<(am:Int))=true/\decide (0<am)=true/\∃ j2,gk=j2+1):=by
      by_cases hk:k<N
      ·by_cases hw0:am=0
       ·exact .inl (.inr ⟨zB hk,zA (by omega),zA (by omega)⟩)
       ·exact .inr ⟨zB hk,zB (by omega),zB (by omega),gk-1,by omega⟩
      ·exact .inl (.inl (zA hk))
     rcases az with (t3 | ⟨t3,t4,cE⟩) | ⟨t3,t4,cE,j2,rfl⟩
     rotate_left 2
     ·have hk:k<N:=by omega
      obtain ⟨xm,bV⟩:=zX (k%p.W)
      obtain ⟨ym,bc⟩:=zX (k / p.W)
      have aJ:xm<64:=by have:=Nat.mod_lt k (show p.W>0 by omega);omega
      have aH:ym<64:=by rw [bc];exact Nat.div_lt_of_lt_mul (by rw [zY];omega)
      have bA:(k:Int)%(p.W:Int)=(xm:Int):=by rw [bV];simp
      have bT:(k:Int) / (p.W:Int)=(ym:Int):=by rw [bc];simp
      have cI:(k:Int).tmod (p.W:Int)=(xm:Int):=by rw [Int.tmod_eq_emod_of_nonneg (by omega)];exact bA
      have cm:(k:Int).tdiv (p.W:Int)=(ym:Int):=by rw [Int.tdiv_eq_ediv_of_nonneg (by omega)];exact bT
      have bf:(p.W:Int)≠0:=by omega
      obtain ⟨X,hX⟩:∃ X:Int,(xm:Int)+dx=X:=⟨_,rfl⟩
      obtain ⟨Y,hY⟩:∃ Y:Int,(ym:Int)+dy=Y:=⟨_,rfl⟩
      have cX : -10<=X:=by omega
      have df:X<=100:=by omega
      have dk : -10<=Y:=by omega
      have di:Y<=100:=by omega
      clear bV bc
      go_wp2
      go_quiet (fail)
      clear hX hY bA bT cI cm bf aJ aH
      have cn:(decide ((0:Int)<=X)=false\/(decide ((0:Int)<=X)=true/\decide (X<(p.W:Int))=false)\/(decide ((0:Int)<=X)=true/\decide (X<(p.W:Int))=true/\decide ((0:Int)<=Y)=false)\/(decide ((0:Int)<=X)=true/\decide (X<(p.W:Int))=true/\decide ((0:Int)<=Y)=true/\decide (Y<(p.H:Int))=false))\/(0<=X/\X<(p.W:Int)/\0<=Y/\Y<(p.H:Int)):=by
       by_cases c1:0<=X
       ·by_cases c2:X<(p.W:Int)
        ·by_cases c3:0<=Y
         ·by_cases c4:Y<(p.H:Int)
          ·exact .inr ⟨c1,c2,c3,c4⟩
          ·exact .inl (.inr (.inr (.inr ⟨zB c1,zB c2,zB c3,zA c4⟩)))
         ·exact .inl (.inr (.inr (.inl ⟨zB c1,zB c2,zA c3⟩)))
        ·exact .inl (.inr (.inl ⟨zB c1,zA c2⟩))
       ·exact .inl (.inl (zA c1))
      obtain ⟨wy,bl⟩:=zX (wr.drewN nq)
      have ah:Hid (AlSt w p g o cap b capT A L w.heap.size nb (w.heap.size+1) gP cP wy q xs gs ax):=hid (by rw [bl];exact HK.out.same ((zR [] wr).drewN nq))
      rw [<-bl]
      clear bl n3 x0 x1 x2 x3
      have n3:=ah.out.nbB.cell 3
      have x0:=ah.out.bxB.cell 0
      have x1:=ah.out.bxB.cell 1
      have x3:=ah.out.bxB.cell 3
      simp at n3 x0 x1 x3
      rcases cn with (t6 | ⟨t6,t7⟩ | ⟨t6,t7,t8⟩ | ⟨t6,t7,t8,t9⟩) | ⟨c1,c2,c3,c4⟩
      rotate_left 4
      ·obtain ⟨Xn,rfl⟩:∃ Xn:Nat,X=(Xn:Int):=⟨X.toNat,by omega⟩
       obtain ⟨Yn,rfl⟩:∃ Yn:Nat,Y=(Yn:Int):=⟨Y.toNat,by omega⟩
       have t7:decide (Xn<p.W)=true:=zB (by omega)
       have t9:decide (Yn<p.H)=true:=zB (by omega)
       obtain ⟨P0,bp⟩:=zX (Yn*p.W)
       have eP:(Yn:Int)*(p.W:Int)=(P0:Int):=by rw [bp];simp
       have hf:=a0.out Xn Yn (by omega) (by omega)
       rw [<-bp] at hf
       obtain ⟨bU,bH⟩:=zX (P0+Xn)
       have eQ:(P0:Int)+(Xn:Int)=(bU:Int):=by omega
       rw [<-bH] at hf
       obtain ⟨bi,qi,cW,bC⟩:=cB.out wy ah.out.chg i HI.out
       obtain ⟨v,hv,aN,aP⟩:=bC bU hf
       obtain ⟨gi,ci,aq,ar,aa,ad,ak,au⟩:=ah.out.at_ (N:=N) HI.out aI.out
       obtain ⟨v9,dq,-,-⟩:=ak k hk
       have bd:=au k
       have cZ:=HI.out
       have cO:P0<=4096:=by omega
       have aA:Hid (∀ nq,∃ q',AlSt w p g o cap b capT A L w.heap.size nb (w.heap.size+1) gP cP ((wy.drewN nq).setCell ⟨gi,k,none⟩ (.int .i64 v)) q' xs gs ax):=hid (fun nq=>(ah.out.same ((zR [] wy).drewN nq)).store (by rw [<-ah.out.al.n];exact HI.out) aq (by rw [<-ah.out.al.W,<-ah.out.al.H,<-aI.out];exact hk) aN (by rw [<-ah.out.al.d];exact aP))
       clear bp bH bC ak au aq ar aN aP c1 c2 c3 c4
       go_wp2_with fail
       refine wp_region_quiet_tail 20 (by kernel_rfl) (by kernel_rfl) ?_
       simp only [List.take_succ_cons,List.take_zero,List.drop_succ_cons,List.drop_zero]
       repeat (go_big_quiet_step (fail))
       refine wpQuiet_nil ?_
       intro _ cc
       obtain ⟨cy,rfl⟩:=cc
       go_wp2_with fail
       go_roundg j2
       case measure=>omega
       case rel =>
        obtain ⟨q',aD⟩:=aA.out cy
        exact ⟨k+1,q',xs,gs,by go_num,by omega,hid aD⟩
      all_goals
       go_wp2_with fail
       go_roundg j2
       case measure=>omega
       case rel=>exact ⟨k+1,q,xs,gs,by go_num,by omega,ah⟩
     all_goals
      have a2:=next_tp wr b capT ax (am+1) A L HK.out.tp (by omega) (by omega)
      obtain ⟨aK,br⟩:=zX (am+1)
      have c5:(am:Int)+1=(aK:Int):=by omega
      rw [<-br] at a2
      have bQ:aK<=7:=by omega
      clear br
      go_wp2_with fail
      refine a2.mono ?_
      rintro e w6 ⟨nn,a6,rfl,aW,aB,ao⟩
      have ct:=hid (HK.out.tape ao aB)
      clear a2 aB ao n3 x0 x1 x2 x3
      go_wp2_with fail
      obtain ⟨dn,rfl⟩:=zX (wr)
      go_loopg [13,14] nn (fun j v13 v14 wr=>∃ (q:PicD) (xs:List Value) (gs:List Nat) (at':Nat),v13=.int .i64 j/\j<=nn/\Hid (AlSt w p g o cap b capT A L w.heap.size nb (w.heap.size+1) gP cP wr q xs gs at'))
      case atStart=>exact ⟨_,_,_,_,rfl,zQ _,ct⟩
      case round =>
       obtain ⟨q,xs,gs,a7,rfl,cM,HJ⟩:=hrel
       have n3:=HJ.out.nbB.cell 3
       have x0:=HJ.out.bxB.cell 0
       have x1:=HJ.out.bxB.cell 1
       have x2:=HJ.out.bxB.cell 2
       simp at n3 x0 x1 x2
       rcases gk with _ | j3
       ·have t5:decide ((0:Int)<((0:Nat):Int))=false:=by decide
        go_wp2_with fail
        go_roundg j
        case measure=>omega
        case rel=>exact ⟨i+1,q,xs,gs,a7,by go_num,by omega,HJ⟩
       ·obtain ⟨m3,bh⟩:=zX (j3+1)
        rw [<-bh]
        have t5:decide ((0:Int)<(m3:Int))=true:=zB (by omega)
        have c8:decide (0<m3)=true:=zB (by omega)
        have cN:(m3:Int)-1=(j3:Int):=by omega
        have bE:=next_tp wr b capT a7 N A L HJ.out.tp cb (by omega)
        have bZ:=hid bh
        clear bh
        go_wp2_with fail
        refine bE.mono ?_
        rintro e w8 ⟨k,a8,rfl,aY,bK,bx⟩
        have ab:=hid (HJ.out.tape bx bK)
        obtain ⟨gi,ci,aq,ar,aa,ad,ak,au⟩:=ab.out.at_ (N:=N) HI.out aI.out
        obtain ⟨v,hv,aN,aP⟩:=ak k aY
        have bd:=au k
        obtain ⟨aU,bm⟩:=pow_d bn a1
        have c7:v<65536:=by omega
        have n3:=ab.out.nbB.cell 3
        have x2:=ab.out.bxB.cell 2
        simp at n3 x2
        have ac:∀ wz,Chg [b,gi] w8 wz->wz.cell? ⟨nb,3,none⟩=some (.slice (some ⟨gP,0,none⟩) p.P.length cP)/\wz.cell? ⟨w.heap.size,2,none⟩=some (.int .i64 p.d)/\wz.cell? ⟨gP,i,none⟩=some (.slice (some ⟨gi,0,none⟩) N ci):=fun wz hz=>by
         have ho:=ab.out.old
         obtain ⟨b1,b2,b3⟩:=ab.out.big
         obtain ⟨f1,f2,f3,f4⟩:=ab.out.far gi (by simp [ar])
         have hP:=(ab.out.far gP (by simp)).1
         have cF:=ab.out.own.neP (by rw [<-ab.out.al.n];exact HI.out) aq
         have hb:=ab.out.nbB.chg hz (by simp;omega)
         have hx:=ab.out.bxB.chg hz (by simp;omega)
         exact ⟨hb.cell 3,hx.cell 2,(World.cell?_of_block (w:=w8) (hz.block gP ab.out.own.ltP (by simp;exact ⟨by omega,cF⟩))).trans aa⟩
        have aj:∀ wz,Chg [b] w8 wz->wz.cell? ⟨gi,k,none⟩=some (.int .i64 v)/\wz.frozen? ⟨gi,k,none⟩=false:=fun wz hz=>by
         have h9:=ab.out.own.pl.lt gi ar
         have ho:=ab.out.old
         have hP:=(ab.out.far gi (by simp [ar])).1
         have bD:=hz.block gi h9 (by simp;omega)
         exact ⟨(World.cell?_of_block (w:=w8) bD).trans hv,(World.frozen?_of_block (w:=w8) bD).trans bd⟩
        have aO:=fun wz (hz:Chg [] w8 wz)=>next_tp wz b capT a8 9 A L (ab.out.tp.fresh hz) (by omega) (by omega)
        have bs:∀ n9:Nat,n9<9->IntKind.i64.wrap (v+1+(n9:Int))=v+1+(n9:Int):=fun n9 h=>IntWalk.i64_in _ (by omega)
        have aT:IntKind.i64.wrap (v+1)=v+1:=IntWalk.i64_in _ (by omega)
        have af:=hid ac
        have an:=hid aj
        have bW:=hid aO
        have ca:=hid aq
        have cs:=hid aY
        have dr:(0:Int)<=(i:Int):=by omega
        have dd:(i:Int)<(p.P.length:Int):=by have:=HI.out;omega
        have cR:(i:Int)<=(p.P.length:Int):=by omega
        have de:(0:Int)<=(k:Int):=by omega
        have dl:(k:Int)<(N:Int):=by omega
        have c9:(k:Int)<=(N:Int):=by omega
        clear ac aj aO aq ar au ak aY bK bx bE x0 x1 aN aP aU bm
        go_wp2_with fail
        have cv:AlS nb gP cP p.P.length i gi N ci k p.d w.heap.size v w8.drew:=⟨n3,x2,aa,hv⟩
        refine wp_region_headH 21 (by kernel_rfl) (by decide) cv ?_
        refine hT (i:=0) (v:=?_) (by decide +kernel) rfl (fun _ _ _ h=>h) (by rfl) (by assumption) ?_ ?_
        rotate_left
        ·(rintro _ ⟨_,_,_,_⟩;go_simp;try with_reducible rfl)
        refine hT (i:=1) (v:=?_) (by decide +kernel) rfl (fun _ _ _ h=>h) (by rfl) (by assumption) ?_ ?_
        rotate_left
        ·(rintro _ ⟨_,_,_,_⟩;go_simp;try with_reducible rfl)
        refine hT (i:=2) (v:=?_) (by decide +kernel) rfl (fun _ _ _ h=>h) (by rfl) (by assumption) ?_ ?_
        rotate_left
        ·(rintro _ ⟨_,_,_,_⟩;go_simp;try with_reducible rfl)
        refine hT (i:=3) (v:=?_) (by decide +kernel) rfl (fun _ _ _ h=>h) (by rfl) (by assumption) ?_ ?_
        rotate_left
        ·(rintro _ ⟨_,_,_,_⟩;go_simp;try with_reducible rfl)
        refine hT (i:=4) (v:=?_) (by decide +kernel) rfl (fun _ _ _ h=>h) (by rfl) (by assumption) ?_ ?_
        rotate_left
        ·(rintro _ ⟨_,_,_,_⟩;go_simp;try with_reducible rfl)
        refine hT (i:=5) (v:=?_) (by decide +kernel) rfl (fun _ _ _ h=>h) (by rfl) (by assumption) ?_ ?_
        rotate_left
        ·(rintro _ ⟨_,_,_,_⟩;go_simp;try with_reducible rfl)
        refine hT (i:=6) (v:=?_) (by decide +kernel) rfl (fun _ _ _ h=>h) (by rfl) (by assumption) ?_ ?_
        rotate_left
        ·(rintro _ ⟨_,_,_,_⟩;go_simp;try with_reducible rfl)
        refine hT (i:=7) (v:=?_) (by decide +kernel) rfl (fun _ _ _ h=>h) (by rfl) (by assumption) ?_ ?_
        rotate_left
        ·(rintro _ ⟨_,_,_,_⟩;go_simp;try with_reducible rfl)
        refine hT (i:=8) (v:=?_) (by decide +kernel) rfl (fun _ _ _ h=>h) (by rfl) (by assumption) ?_ ?_
        rotate_left
        ·(rintro _ ⟨_,_,_,_⟩;go_simp;try with_reducible rfl)
        refine hT (i:=9) (v:=?_) (by decide +kernel) rfl (fun _ _ _ h=>h) (by rfl) (by assumption) ?_ ?_
        rotate_left
        ·(rintro _ ⟨_,_,_,_⟩;go_simp;try with_reducible rfl)
        refine hT (i:=10) (v:=?_) (by decide +kernel) rfl (fun _ _ _ h=>h) (by rfl) (by assumption) ?_ ?_
        rotate_left
        ·(rintro _ ⟨_,_,_,_⟩;go_simp;try with_reducible rfl)
        refine hT (i:=11) (v:=?_) (by decide +kernel) rfl (fun _ _ _ h=>h) (by rfl) (by assumption) ?_ ?_
        rotate_left
        ·(rintro _ ⟨_,_,_,_⟩;go_simp;try with_reducible rfl)
        refine hT (i:=12) (v:=?_) (by decide +kernel) rfl (fun _ _ _ h=>h) (by rfl) (by assumption) ?_ ?_
        rotate_left
        ·(rintro _ ⟨_,_,_,_⟩;go_simp;try with_reducible rfl)
        refine hT (i:=13) (v:=?_) (by decide +kernel) rfl (fun _ _ _ h=>h) (by rfl) (by assumption) ?_ ?_
        rotate_left
        ·(rintro _ ⟨_,_,_,_⟩;go_simp;try with_reducible rfl)
        refine hT (i:=14) (v:=?_) (by decide +kernel) rfl (fun _ _ _ h=>h) (by rfl) (by assumption) ?_ ?_
        rotate_left
        ·(rintro _ ⟨_,_,_,_⟩;go_simp;try with_reducible rfl)
        refine hT (i:=15) (v:=?_) (by decide +kernel) rfl (fun _ _ _ h=>h) (by rfl) (by assumption) ?_ ?_
        rotate_left
        ·(rintro _ ⟨_,_,_,_⟩;go_simp;try with_reducible rfl)
        refine hT (i:=18) (v:=?_) (by decide +kernel) rfl (fun _ _ _ h=>h) (by rfl) (by assumption) ?_ ?_
        rotate_left
        ·(rintro _ ⟨_,_,_,_⟩;go_simp;try with_reducible rfl)
        refine hT (i:=19) (v:=?_) (by decide +kernel) rfl (fun _ _ _ h=>h) (by rfl) (by assumption) ?_ ?_
        rotate_left
        ·(rintro _ ⟨_,_,_,_⟩;go_simp;try with_reducible rfl)
        refine hH_one (i:=16) rfl (by decide) (by decide +kernel) ?_
        intro K' aE
        go_simp
        go_at_call 55
        refine (bW.out _ ((zR [] w8).drew)).mono ?_
        rintro e w9 ⟨n9,a9,rfl,aO,bN,aG⟩
        have b4:=(an.out _ (((zR [b] w8).drew).trans_same aG)).1
        have cV:=(an.out _ (((zR [b] w8).drew).trans_same aG)).2
        have cu:=bs n9 aO
        obtain ⟨b0,ce,cD⟩:=af.out _ (((zR [b,gi] w8).drew).trans_same (aG.mono (by simp)))
        have bv:AlS nb gP cP p.P.length i gi N ci k p.d w.heap.size v w9:=⟨b0,ce,cD,b4⟩
        refine aE.out _ _ bv ?_
        clear aE K'
        try simp only [Act.put,List.setIfInBounds_toArray,List.set_cons_zero,List.set_cons_succ]
        refine hT (i:=17) (v:=?_) (by decide +kernel) rfl (fun _ _ _ h=>h) (by rfl) (by assumption) ?_ ?_
        rotate_left
        ·(rintro _ ⟨_,_,_,_⟩;go_simp;try with_reducible rfl)
        refine hH_one (i:=20) rfl (by decide) (by decide +kernel) ?_
        intro K' aE
        go_simp
        go_at_call 37
        refine (cG.out _ _).mono ?_
        rintro e w' ⟨rfl,rfl⟩
        refine aE.out _ _ bv ?_
        clear aE K'
        try simp only [Act.put,List.setIfInBounds_toArray,List.set_cons_zero,List.set_cons_succ]
        refine hH_done (by decide +kernel) ?_
        simp only [List.drop_succ_cons,List.drop_zero,List.toList_toArray]
        have aA:Hid (∃ q',AlSt w p g o cap b capT A L w.heap.size nb (w.heap.size+1) gP cP (w9.setCell ⟨gi,k,none⟩ (.int .i64 (wrapI (v+1+(n9:Int)) p.d))) q' xs gs a9):=hid (((ab.out.same ((zR [] w8).drew)).tape aG bN).store (by rw [<-ab.out.al.n];exact HI.out) ca.out (by rw [<-ab.out.al.W,<-ab.out.al.H,<-aI.out];exact cs.out) (wrapI_lo _ _) (by rw [<-ab.out.al.d];exact wrapI_hi _ _))
        clear aG bN cu hv bd n3 x2 aa ad bs aT
        go_wp2_with fail
        go_roundg j3
        case measure=>omega
        case rel =>
         obtain ⟨q',aD⟩:=aA.out
         have:=bZ.out
         exact ⟨q',xs,gs,a9,by go_num,by omega,hid aD⟩
def TwoPost (w:World) (A:Option Addr) (cap:Nat) (L:List Int) (side:Nat) (e:Ending) (w':World):Prop :=
 ∃ (p q:PicD) (gP cP gQ cQ b at':Nat) (xs xq:List Value) (gs gq:List Nat),e=.returned (.tuple #[picV p gP 0 cP,picV q gQ 0 cQ,.pointer (some ⟨b,0,none⟩)])/\PicOwn w' p gP cP xs gs/\PicOwn w' q gQ cQ xq gq/\AlikeD p q/\p.W<=side/\p.H<=side /\
  IsTp w' b A cap L at'/\Chg [] w w'/\w.heap.size<=b/\(∀ x∈gP::gs,b<x)/\∀ x∈gQ::gq,b<x
theorem two_ok (w:World) (A:Option Addr) (cap:Nat) (L:List Int) (side:Nat) (hc:Cells vi w A L) (hin:∀ x∈L,In64 x) (hlen:L.length<=9223372036854775807) (hs0:1<=side) (hs1:side<=64) :
  Calls Tryz.prog 10 #[.slice A L.length cap,.int .i64 side] w (TwoPost w A cap L side):=by
 unfold TwoPost
 obtain ⟨wA,aj⟩:=zX ((w.alloc (.cells #[.int .i64 0,.int .i64 0,.int .i64 0,.slice none 0 0] 25)).alloc (.cells #[.int .i64 0,.int .i64 0,.int .i64 0,.slice none 0 0] 25))
 have aI:Chg [] w wA:=by rw [aj];exact ((zR [] w).alloc _).alloc _
 have aN:Blk wA w.heap.size 25 #[.int .i64 0,.int .i64 0,.int .i64 0,.slice none 0 0]:=by rw [aj];exact (Blk.new w _ _).alloc _
 have aY:Blk wA (w.heap.size+1) 25 #[.int .i64 0,.int .i64 0,.int .i64 0,.slice none 0 0]:=by rw [aj];exact Blk.new2 w _ _ _
 have aD:wA.heap.size=w.heap.size+1+1:=by rw [aj,alloc_size,alloc_size]
 have aq:=tape_new wA A cap L (hc.same aI) hin hlen
 have bc:=hid aj
 have a9:=hid aI
 have aX:=hid aN
 have aP:=hid aY
 have aO:=hid aD
 have aS:∀ F:List Nat,(∀ x∈F,w.heap.size<=x)->Apt A L F:=fun F hF=>Apt.fresh hc hF
 have bf:=hid aS
 clear aj aI aN aY aD hc hin hlen aS
 go_enter Tryz.func10,Tryz.ntmps10
 go_wp2_with fail
 rw [<-bc.out]
 refine aq.mono ?_
 rintro e w1 ⟨b,rfl,aF,aK,hb⟩
 have aM:=pic_tp w1 b cap 0 side A L aF hs0 hs1
 have aL:=hid aK
 have ap:Hid (wA.heap.size<=b/\b<w1.heap.size):=hid ⟨hb,aF.blk.lt⟩
 clear aq aF aK hb
 go_wp2_with fail
 refine aM.mono ?_
 rintro e w2 ⟨p,gP,cP,xs,gs,aW,rfl,a2,aZ,ad,an,aG,ae⟩
 have aU:=ad.at_
 have aQ:b∉gP::gs:=fun hm=>by have:=ae b hm;have:=ap.out;omega
 have av:=fun wz (hz:Chg [] w2 wz) (tp:IsTp wz b A cap L aW)=>talike_tp cP (aU.same hz) b cap aW A L tp aQ
 unfold TapeAlikePost at av
 unfold picV at av ⊢
 obtain ⟨nb,aw⟩:=zX (w2.heap.size)
 obtain ⟨w3,aA⟩:=zX (w2.alloc (.cells #[.int .i64 p.W,.int .i64 p.H,.int .i64 p.d,.slice (some ⟨gP,0,none⟩) p.P.length cP] 25))
 have am:Chg [] w2 w3:=by rw [aA];exact (zR [] w2).alloc _
 have ak:Blk w3 nb 25 #[.int .i64 p.W,.int .i64 p.H,.int .i64 p.d,.slice (some ⟨gP,0,none⟩) p.P.length cP]:=by rw [aA,aw];exact Blk.new w2 _ _
 have af:Chg [b] wA w3:=((aL.out.mono (by simp)).trans_same aG).trans_same (am.mono (by simp))
 have aJ:=aX.out.lt
 have aH:=aP.out.lt
 have hs1:=aL.out.size
 have a7:=aG.size
 have au:∀ wz,Chg [b] w3 wz->Blk wz w.heap.size 25 #[.int .i64 0,.int .i64 0,.int .i64 0,.slice none 0 0]/\Blk wz (w.heap.size+1) 25 #[.int .i64 0,.int .i64 0,.int .i64 0,.slice none 0 0]:=fun wz hz=>by
  have h1:=ap.out
  exact ⟨(aX.out.chg af (by simp;omega)).chg hz (by simp;omega),(aP.out.chg af (by simp;omega)).chg hz (by simp;omega)⟩
 have hk:∀ (F:List Nat) wz,Chg F w3 wz->nb∉F->wz.cell? ⟨nb,0,none⟩=some (.int .i64 p.W)/\wz.cell? ⟨nb,1,none⟩=some (.int .i64 p.H)/\wz.cell? ⟨nb,2,none⟩=some (.int .i64 p.d)/\wz.cell? ⟨nb,3,none⟩=some (.slice (some ⟨gP,0,none⟩) p.P.length cP):=fun F wz hz hF=>⟨(ak.chg hz hF).cell 0,(ak.chg hz hF).cell 1,(ak.chg hz hF).cell 2,(ak.chg hz hF).cell 3⟩
 have bo:nb≠w.heap.size:=by omega
 have bl:nb≠w.heap.size+1:=by omega
 have be:nb≠b:=by have:=ap.out;omega
 have a8:=hid (av w3.drew (am.drew) ((an.fresh am).fresh (zR [] w3).drew))
 have aE:=hid (ad.same am)
 have bb:Hid (∀ x∈gP::gs,b<x/\w.heap.size+1<x/\x<nb):=hid (fun x hx=>by
  have h1:=ae x hx
  have h2:=ap.out
  have h3:=aO.out
  refine ⟨by omega,by omega,?_⟩
  rw [aw]
  rcases zJ.1 hx with rfl | h4
  ·exact ad.ltP
  ·exact ad.pl.lt x h4)
 have ar:=hid au
 have HK:=hid hk
 have aC:=hid af
 have bg:=hid aA
 have a3:=hid aw
 have bj:Hid (nb<w3.heap.size):=hid ak.lt
 clear av ad aU an aG ae aQ aw aA am ak af aJ aH hs1 a7 au hk aM
 go_wp2_with fail
 rw [<-bg.out,<-a3.out]
 obtain ⟨n0,n1,n2,n3⟩:=HK.out [] w3 (zR _ _) (by simp)
 go_region_law (first | (go_simp;go_at_call 47;refine a8.out.mono ?_;rintro e w6 ⟨q,gQ,cQ,xq,gq,a6,rfl,ag,ao,aV,al,ai⟩;have ab:=(ar.out _ (((zR [b] w3).drew).trans_same al)).1;have aa:=(ar.out _ (((zR [b] w3).drew).trans_same al)).2;have z0:=ab.frozen 0;have z1:=ab.frozen 1;have z2:=ab.frozen 2;have z3:=ab.frozen 3;have y0:=aa.frozen 0;have y1:=aa.frozen 1;have y2:=aa.frozen 2;have y3:=aa.frozen 3;have r0:=ab.cell 0;have r1:=ab.cell 1;have r2:=ab.cell 2;have r3:=ab.cell 3;have q0:=aa.cell 0;have q1:=aa.cell 1;have q2:=aa.cell 2;have q3:=aa.cell 3;obtain ⟨m0,m1,m2,m3⟩:=HK.out [b] w6 (((zR [b] w3).drew).trans_same al) (by simpa using be);simp at r0 r1 r2 r3 q0 q1 q2 q3))
 all_goals
  have ba:=hid ab
  have bd:=hid aa
  have a4:=hid ag
  have a0:=hid ao
  have bk:=hid aV
  have aR:=hid (((zR [b] w3).drew).trans_same al)
  have a1:=hid ai
  clear ab aa ag ao aV al ai z0 z1 z2 z3 y0 y1 y2 y3 r0 r1 r2 r3 q0 q1 q2 q3 m0 m1 m2 m3 n0 n1 n2 n3
  go_wp2_with fail
  obtain ⟨ra,aT⟩:=zX (w.heap.size)
  obtain ⟨rb,bi⟩:=zX (w.heap.size+1)
  have h4:=ba.out
  have h5:=bd.out
  rw [<-aT] at h4
  rw [<-bi] at h5
  rw [<-aT,show ra+1=rb by omega]
  obtain ⟨wE,az⟩:=zX ((((((((w6.setCell ⟨ra,0,none⟩ (.int .i64 p.W)).setCell ⟨ra,1,none⟩ (.int .i64 p.H)).setCell ⟨ra,2,none⟩ (.int .i64 p.d)).setCell ⟨ra,3,none⟩ (.slice (some ⟨gP,0,none⟩) p.P.length cP)).setCell ⟨rb,0,none⟩ (.int .i64 q.W)).setCell ⟨rb,1,none⟩ (.int .i64 q.H)).setCell ⟨rb,2,none⟩ (.int .i64 q.d)).setCell ⟨rb,3,none⟩ (.slice (some ⟨gQ,0,none⟩) q.P.length cQ))
  have ah:ra≠rb:=by omega
  have aB:Blk wE ra 25 #[.int .i64 p.W,.int .i64 p.H,.int .i64 p.d,.slice (some ⟨gP,0,none⟩) p.P.length cP]:=by
   rw [az]
   have:=((((((((h4.set_ 0 (.int .i64 p.W)).set_ 1 (.int .i64 p.H)).set_ 2 (.int .i64 p.d)).set_ 3 (.slice (some ⟨gP,0,none⟩) p.P.length cP)).far (p:=⟨rb,0,none⟩) ah (.int .i64 q.W)).far (p:=⟨rb,1,none⟩) ah (.int .i64 q.H)).far (p:=⟨rb,2,none⟩) ah (.int .i64 q.d)).far (p:=⟨rb,3,none⟩) ah (.slice (some ⟨gQ,0,none⟩) q.P.length cQ))
   simpa using this
  have ax:Blk wE rb 25 #[.int .i64 q.W,.int .i64 q.H,.int .i64 q.d,.slice (some ⟨gQ,0,none⟩) q.P.length cQ]:=by
   rw [az]
   have:=((((((((h5.far (p:=⟨ra,0,none⟩) ah.symm (.int .i64 p.W)).far (p:=⟨ra,1,none⟩) ah.symm (.int .i64 p.H)).far (p:=⟨ra,2,none⟩) ah.symm (.int .i64 p.d)).far (p:=⟨ra,3,none⟩) ah.symm (.slice (some ⟨gP,0,none⟩) p.P.length cP)).set_ 0 (.int .i64 q.W)).set_ 1 (.int .i64 q.H)).set_ 2 (.int .i64 q.d)).set_ 3 (.slice (some ⟨gQ,0,none⟩) q.P.length cQ))
   simpa using this
  have ay:Chg [ra,rb] w6 wE:=by
   rw [az]
   exact ((((((((zR [ra,rb] w6).setCell (p:=⟨ra,0,none⟩) (.inl (by simp)) _).setCell (p:=⟨ra,1,none⟩) (.inl (by simp)) _).setCell (p:=⟨ra,2,none⟩) (.inl (by simp)) _).setCell (p:=⟨ra,3,none⟩) (.inl (by simp)) _).setCell (p:=⟨rb,0,none⟩) (.inl (by simp)) _).setCell (p:=⟨rb,1,none⟩) (.inl (by simp)) _).setCell (p:=⟨rb,2,none⟩) (.inl (by simp)) _).setCell (p:=⟨rb,3,none⟩) (.inl (by simp)) _
  have g0:=aB.cell 0
  have g1:=aB.cell 1
  have g2:=aB.cell 2
  have g3:=aB.cell 3
  have l0:=ax.cell 0
  have l1:=ax.cell 1
  have l2:=ax.cell 2
  have l3:=ax.cell 3
  simp at g0 g1 g2 g3 l0 l1 l2 l3
  rw [<-az]
  refine bodyPost_ret (v:=.tuple #[.agg #[.int .i64 p.W,.int .i64 p.H,.int .i64 p.d,.slice (some ⟨gP,0,none⟩) p.P.length cP],.agg #[.int .i64 q.W,.int .i64 q.H,.int .i64 q.d,.slice (some ⟨gQ,0,none⟩) q.P.length cQ],.pointer (some ⟨b,0,none⟩)]) (by simp [results,Tryz.results10,go_sem,g0,g1,g2,g3,l0,l1,l2,l3]) rfl ?_
  have bp:=ap.out
  have aD:=aO.out
  have bm:=bj.out
  have ae:=bb.out
  have bn:=ae gP (by simp)
  have a5:w3.drew.heap.size=w3.heap.size:=rfl
  have ai:=a1.out
  rw [a5] at ai
  have ac:∀ x,w.heap.size+1<x->x∉[ra,rb]:=fun x hx=>by simp;omega
  have bh:PicOwn w6 p gP cP xs gs:=aE.out.chg aR.out (by have:=(ae gP (by simp)).1;simp;omega) (fun x hx=>by have:=(ae x (by simp [hx])).1;simp;omega)
  refine ⟨p,q,gP,cP,gQ,cQ,b,a6,xs,xq,gs,gq,rfl,bh.chg ay (ac _ (ae gP (by simp)).2.1) (fun x hx=>ac _ (ae x (by simp [hx])).2.1),a4.out.chg ay (ac _ (by have:=ai gQ (by simp);omega)) (fun x hx=>ac _ (by have:=ai x (by simp [hx]);omega)),a0.out,a2,aZ,?_,?_,by omega,fun x hx=>(ae x hx).1,fun x hx => ?_⟩
  ·refine bk.out.same ay (ac _ (by omega)) (bf.out _ ?_)
   intro x hx
   simp at hx
   omega
  ·refine ((a9.out.trans_same ?_)).trans ay ?_
   ·exact (zR [] wA).trans (aC.out.trans_same aR.out) (fun x hx=>by simp at hx;right;omega)
   ·intro x hx
    simp at hx
    right
    omega
  ·have:=ai x hx
   omega
theorem cost_none {p r:PicD} {s:Sq} {m:Int × Int} (hr:r.Ok) (h:∀ k,k<r.P.length->oldB r k s (0,0)=oldB p k s m):costB p r s m=0:=by
 unfold costB
 have h:∀ n,n<=r.P.length->((List.range n).map fun i=>costL (oldB r i s (0,0)) (oldB p i s m) r.d).sum=0:=by
  intro n
  induction n with
  | zero=>intro _;rfl
  | succ n ih =>
   intro hn
   rw [List.range_succ,zM,List.sum_append,ih (by omega)]
   simp only [List.map_cons,List.map_nil,List.sum_cons,List.sum_nil]
   rw [<-h n (by omega),costL_self _ _ (oldB_smp hr (by omega) s (0,0))]
   rfl
 exact h _ (zQ _)
theorem max_abs (z:Int):(if z < -z then -z else z)=(z.natAbs:Int)/\(if -z<z then z else -z)=(z.natAbs:Int)/\(if z<=-z then -z else z)=(z.natAbs:Int)/\(if -z<=z then z else -z)=(z.natAbs:Int)/\max z (-z)=(z.natAbs:Int):=by
 refine ⟨?_,?_,?_,?_,?_⟩<;>(try split)<;>omega
def LsS (rr rs gR cR nP i gi N ci W:Nat) (s:Sq) (wz:World):Prop:=wz.cell? ⟨rr,0,none⟩=some (.int .i64 W)/\wz.cell? ⟨rr,3,none⟩=some (.slice (some ⟨gR,0,none⟩) nP cR)/\wz.cell? ⟨rs,0,none⟩=some (.int .i64 s.x)/\wz.cell? ⟨rs,1,none⟩=some (.int .i64 s.y)/\wz.cell? ⟨rs,2,none⟩=some (.int .i64 s.w)/\wz.cell? ⟨rs,3,none⟩=some (.int .i64 s.h)/\wz.cell? ⟨gR,i,none⟩=some (.slice (some ⟨gi,0,none⟩) N ci)
theorem mleast_ok (w:World) (A:Option Addr) (cap:Nat) (L:List Int) (hc:Cells vi w A L) (hin:∀ x∈L,In64 x) (hlen:L.length<=9223372036854775807) (z1:Int) (hz1:In64 z1) (z2:Int) (hz2:In64 z2) (z3:Int) (hz3:In64 z3) (hp:Pts w) :
  Calls Tryz.prog 3 #[.slice A L.length cap,.int .i64 z1,.int .i64 z2,.int .i64 z3] w fun e w'=>e=.returned (.bool true)/\Chg [] w w':=by
 have cJ:=two_ok w A cap L 20 hc hin hlen (by omega) (by omega)
 have HP:=hid hp
 have b5:=fun w'=>within_ok z2 (-4) 4 w' hz2 (by decide) (by decide) (by decide)
 have b7:=fun w'=>within_ok z3 (-4) 4 w' hz3 (by decide) (by decide) (by decide)
 obtain ⟨X0,X4⟩:=within_in z2 (lo:=-4) (hi:=4) (by decide)
 obtain ⟨Y0,Y4⟩:=within_in z3 (lo:=-4) (hi:=4) (by decide)
 obtain ⟨X,hX⟩:=zX (withinI z2 (-4) 4)
 obtain ⟨Y,hY⟩:=zX (withinI z3 (-4) 4)
 rw [<-hX] at b5 X0 X4
 rw [<-hY] at b7 Y0 Y4
 clear hc hin hlen hp hX hY hz2 hz3
 go_enter Tryz.func3,Tryz.ntmps3
 go_wp2_with fail
 refine cJ.mono ?_
 rintro e wA ⟨p,q,gP,cP,gQ,cQ,b,ge,xs,xq,gs,gq,rfl,au,an,a7,-,-,-,dv,-,-,-⟩
 have ad:=an.ok
 have ay:=au.ok
 obtain ⟨ss,aq⟩:=zX (gridL q.W q.H 8)
 obtain ⟨n,hn⟩:=zX (ss.length)
 have gw:0<n:=by
  rcases Nat.eq_zero_or_pos n with h0 | h0
  ·exfalso
   have h1:=area_grid (w:=q.W) (h:=q.H) (s:=8) (by decide)
   rw [<-aq,List.eq_nil_of_length_eq_zero (show ss.length=0 by omega)] at h1
   have h2:=ad.pos
   simp [area] at h1
   omega
  ·exact h0
 have gc:n<=4096:=by rw [hn,aq];exact grid8_len ad.w1 ad.h1
 obtain ⟨n1,dI⟩:=zX (n-1)
 have f7:(n:Int)-1=(n1:Int):=by omega
 have ct:=within_ok z1 0 (n1:Int)
 obtain ⟨fm,dS⟩:=within_in z1 (lo:=0) (hi:=(n1:Int)) (by omega)
 obtain ⟨k0,cU⟩:∃ k0:Nat,(k0:Int)=withinI z1 0 (n1:Int):=⟨(withinI z1 0 (n1:Int)).toNat,by omega⟩
 have aM:k0<n:=by omega
 have bD:∀ w',Calls Tryz.prog 12 #[.int .i64 z1,.int .i64 0,.int .i64 n1] w' fun e w''=>e=.returned (.int .i64 k0)/\w'=w'':=fun w'=>by
  rw [cU]
  exact ct w' hz1 (by decide) (by omega) (by omega)
 obtain ⟨s,hs⟩:=zX (sqAt ss k0)
 have bw:s∈gridL q.W q.H 8:=by rw [hs,<-aq];exact sqAt_mem (by omega)
 obtain ⟨fH,fA,d6,dL⟩:=grid_ok (w:=q.W) (h:=q.H) (s:=8) (by decide) s bw
 obtain ⟨dn,cN⟩:=grid_in (by decide) s bw
 have aF:SqIn p.W p.H s:=⟨by rw [a7.W];exact dn,by rw [a7.H];exact cN⟩
 have fI:=ay.w1
 have fX:=ay.h1
 have dU:s.x<=64:=by have:=aF.x;omega
 have d8:=(by have:=aF.y;omega:s.y<=64)
 have az:=fun w'=>blocks_ok ad gQ 0 cQ w'
 rw [<-aq] at az
 have aE:=fun wz (hz:Chg [] wA wz)=>copy24_ok cQ (an.at_.same hz)
 have bC:=fun wz (hz:Chg [] wA wz)=>msearch_ok cP (au.at_.same hz) cQ (an.at_.same hz) a7 k0 (by rw [<-aq,<-hn];exact aM) s.x s.y (by rw [hs,aq]) (by rw [hs,aq])
 have aS:=fun wz (hz:Chg [] w wz)=>mknown_ok wz (HP.out.same hz)
 unfold MSearchPost at bC
 unfold picV at az aE bC ⊢
 obtain ⟨ra,bA⟩:=zX (wA.heap.size)
 obtain ⟨w1,ar⟩:=zX (((wA.alloc (.cells #[.int .i64 p.W,.int .i64 p.H,.int .i64 p.d,.slice (some ⟨gP,0,none⟩) p.P.length cP] 25)).alloc (.cells #[.int .i64 q.W,.int .i64 q.H,.int .i64 q.d,.slice (some ⟨gQ,0,none⟩) q.P.length cQ] 25)))
 have cC:Chg [] wA w1:=by rw [ar];exact ((zR [] wA).alloc _).alloc _
 have cY:Blk w1 ra 25 #[.int .i64 p.W,.int .i64 p.H,.int .i64 p.d,.slice (some ⟨gP,0,none⟩) p.P.length cP]:=by rw [ar,bA];exact (Blk.new wA _ _).alloc _
 have aR:Blk w1 (ra+1) 25 #[.int .i64 q.W,.int .i64 q.H,.int .i64 q.d,.slice (some ⟨gQ,0,none⟩) q.P.length cQ]:=by rw [ar,bA];exact Blk.new2 wA _ _ _
 have f4:=hid cY
 have dX:=hid aR
 have fO:=hid cC
 have bY:=hid dv
 have cM:=hid ar
 have dZ:=hid bA
 have cr:=hid az
 have cq:=hid aE
 have fG:=hid bC
 have dM:=hid aS
 have bO:=hid aF
 have ae:=hid a7
 have a4:=hid au
 have bl:=hid an
 have fZ:=hid bD
 have HS:=hid (And.intro hs (And.intro aq hn))
 have cy:=hid bw
 have bn:=hid aM
 have ak:=hid ay
 have aa:=hid ad
 have aH:=aR.cell 0
 have aI:=aR.cell 1
 have aG:=aR.cell 2
 have aL:=aR.cell 3
 simp at aH aI aG aL
 clear cJ au an a7 dv ad ay ct fm dS cU bD bw dn cN aF az aE bC aS bA cY aR cC hs aq hn dI
 rw [cM.out] at aH aI aG aL
 go_wp2_with fail
 rw [<-cM.out,<-dZ.out]
 refine (cr.out w1).mono ?_
 rintro e w2 ⟨v8,F8,rfl,a9,bo,fx⟩
 obtain ⟨A8,c8,rfl,fd,fR,cW,-⟩:=OwnK.open_ a9
 obtain ⟨g8,o8,ft,x0,x1,x2,x3⟩:=sq_cell cW (i:=k0) (by rw [<-HS.out.2.2];exact bn.out)
 subst ft
 rw [<-HS.out.1] at x0 x1 x2 x3
 rw [<-HS.out.2.2] at fd ⊢
 have ca:(0:Int)<=(k0:Int):=by omega
 have cg:(k0:Int)<(n:Int):=by have:=bn.out;omega
 have aM:=bn.out
 have bm:=hid (fO.out.trans_same bo)
 have a5:=f4.out.chg bo (by simp)
 have aX:=dX.out.chg bo (by simp)
 obtain ⟨rs,bp⟩:=zX (w2.heap.size)
 obtain ⟨w3,af⟩:=zX (w2.alloc (.cells #[.int .i64 s.x,.int .i64 s.y,.int .i64 s.w,.int .i64 s.h] 31))
 have bu:Chg [] w2 w3:=by rw [af];exact (zR [] w2).alloc _
 have aT:Blk w3 rs 31 #[.int .i64 s.x,.int .i64 s.y,.int .i64 s.w,.int .i64 s.h]:=by rw [af,bp];exact Blk.new w2 _ _
 have bs:=hid (bm.out.trans_same bu)
 have ax:=hid (a5.chg bu (by simp))
 have ag:=hid (aX.chg bu (by simp))
 have dk:=hid aT
 have bN:=hid af
 have fw:=hid bp
 have bb:=fZ.out
 have bK:=ax.out.cell 0
 have bG:=ax.out.cell 1
 have bZ:=aT.cell 0
 have cl:=aT.cell 1
 have bW:=aT.cell 2
 have bR:=aT.cell 3
 simp at bK bG bZ cl bW bR
 rw [af] at bK bG
 rw [af,bp] at bZ cl bW bR
 obtain ⟨X1,fD⟩:∃ X1:Int,(s.x:Int)+X=X1:=⟨_,rfl⟩
 obtain ⟨Y1,fF⟩:∃ Y1:Int,(s.y:Int)+Y=Y1:=⟨_,rfl⟩
 obtain ⟨X2,gB⟩:∃ X2:Int,X1+(s.w:Int)=X2:=⟨_,rfl⟩
 obtain ⟨Y2,gl⟩:∃ Y2:Int,Y1+(s.h:Int)=Y2:=⟨_,rfl⟩
 have fE : -4<=X1:=by omega
 have fP:X1<=68:=by omega
 have fL : -4<=Y1:=by omega
 have fb:Y1<=68:=by omega
 have f2:X2<=76:=by omega
 have fY:Y2<=76:=by omega
 have ba:(decide (X1<0)=true\/(decide (X1<0)=false/\decide (Y1<0)=true)\/(decide (X1<0)=false/\decide (Y1<0)=false/\decide ((p.W:Int)<X2)=true)\/(decide (X1<0)=false/\decide (Y1<0)=false/\decide ((p.W:Int)<X2)=false/\decide ((p.H:Int)<Y2)=true))\/((decide (X1<0)=false/\decide (Y1<0)=false/\decide ((p.W:Int)<X2)=false/\decide ((p.H:Int)<Y2)=false)/\0<=X1/\0<=Y1/\X2<=(p.W:Int)/\Y2<=(p.H:Int)):=by
  by_cases c1:X1<0
  ·exact .inl (.inl (zB c1))
  ·by_cases c2:Y1<0
   ·exact .inl (.inr (.inl ⟨zA c1,zB c2⟩))
   ·by_cases c3:(p.W:Int)<X2
    ·exact .inl (.inr (.inr (.inl ⟨zA c1,zA c2,zB c3⟩)))
    ·by_cases c4:(p.H:Int)<Y2
     ·exact .inl (.inr (.inr (.inr ⟨zA c1,zA c2,zA c3,zB c4⟩)))
     ·exact .inr ⟨⟨zA c1,zA c2,zA c3,zA c4⟩,by omega,by omega,by omega,by omega⟩
 clear a9 bo fx cW fR aT a5 aX bu af bp aH aI aG aL
 rcases ba with (d1 | ⟨d1,d2⟩ | ⟨d1,d2,d3⟩ | ⟨d1,d2,d3,d4⟩) | ⟨⟨d1,d2,d3,d4⟩,q1,q2,q3,q4⟩
 rotate_left 4
 ·obtain ⟨Xn,rfl⟩:∃ Xn:Nat,X1=(Xn:Int):=⟨X1.toNat,by omega⟩
  obtain ⟨Yn,rfl⟩:∃ Yn:Nat,Y1=(Yn:Int):=⟨Y1.toNat,by omega⟩
  have cb:=ag.out.cell 0
  have bP:=ag.out.cell 1
  have cm:=ag.out.cell 2
  have bM:=ag.out.cell 3
  simp at cb bP cm bM
  rw [bN.out] at cb bP cm bM
  go_wp2_with fail
  refine (bb _).mono ?_
  rintro e w' ⟨rfl,rfl⟩
  go_wp2_with fail
  refine (b5 _).mono ?_
  rintro e w' ⟨rfl,rfl⟩
  go_wp2_with fail
  refine (b7 _).mono ?_
  rintro e w' ⟨rfl,rfl⟩
  go_wp2_with fail
  rw [<-bN.out,<-fw.out]
  refine (cq.out w3 bs.out).mono ?_
  rintro e w4 ⟨gR,cR,xr,gr,rfl,aJ,bF,dp⟩
  have bk:mvOk p.W p.H s (X,Y):=⟨X0,X4,Y0,Y4,by simp only;omega,by simp only;omega,by simp only;omega,by simp only;omega⟩
  have fg:Xn+s.w<=p.W:=by omega
  have dK:Yn+s.h<=p.H:=by omega
  obtain ⟨nP,ah⟩:=zX (q.P.length)
  have aw:p.P.length=nP:=by rw [ah];exact ae.out.n
  have fQ:nP<=4:=by rw [ah];exact aa.out.n1
  obtain ⟨N,hN⟩:=zX (p.W*p.H)
  have bi:q.W*q.H=N:=by rw [hN,ae.out.W,ae.out.H]
  have gf:N<=4096:=by rw [hN];exact ak.out.area
  have d5:0<N:=by rw [hN];exact ak.out.pos
  obtain ⟨M,hM⟩:=zX (s.h*s.w)
  have gh:M<=64:=by rw [hM];exact zL dL fA
  have cZ:0<M:=by rw [hM];exact Nat.mul_pos d6 fH
  have cS:∀ i,oldB p i s (X,Y)=partF (p.P.getD i []) p.W Xn Yn s.w s.h:=fun i=>by
   unfold oldB
   simp only
   rw [fD,fF]
   rfl
  have db:∀ i,oldB q i s (0,0)=partF (q.P.getD i []) q.W s.x s.y s.w s.h:=fun i=>by
   unfold oldB
   simp
  have ai:s.x+s.w<=q.W/\s.y+s.h<=q.H:=⟨by rw [<-ae.out.W];exact bO.out.x,by rw [<-ae.out.H];exact bO.out.y⟩
  obtain ⟨rr,aB⟩:=zX (w4.heap.size)
  obtain ⟨w5,be⟩:=zX (w4.alloc (.cells #[.int .i64 q.W,.int .i64 q.H,.int .i64 q.d,.slice (some ⟨gR,0,none⟩) q.P.length cR] 25))
  have bf:Chg [] w4 w5:=by rw [be];exact (zR [] w4).alloc _
  have dd:Blk w5 rr 25 #[.int .i64 q.W,.int .i64 q.H,.int .i64 q.d,.slice (some ⟨gR,0,none⟩) q.P.length cR]:=by rw [be,aB];exact Blk.new w4 _ _
  have bq:Chg [] wA w5:=(bs.out.trans_same bF).trans_same bf
  have cG:w3.heap.size<=gR:=dp gR (by simp)
  have fk:gR<rr:=by rw [aB];exact aJ.ltP
  have dQ:wA.heap.size<=gR:=Nat.le_trans bs.out.size cG
  have av:∀ (w0:World) {x:Nat},x<w3.heap.size->x∉[gR]:=fun _ x hx=>by simp;omega
  have lP:=ax.out.lt
  have lQ:=ag.out.lt
  have lS:=dk.out.lt
  have bx:=bF.trans_same bf
  have bd:∀ wz,Chg [gR] w5 wz->(wz.cell? ⟨ra,0,none⟩=some (.int .i64 p.W)/\wz.cell? ⟨ra,1,none⟩=some (.int .i64 p.H)/\wz.cell? ⟨ra,2,none⟩=some (.int .i64 p.d)/\wz.cell? ⟨ra,3,none⟩=some (.slice (some ⟨gP,0,none⟩) nP cP))/\(wz.cell? ⟨ra+1,0,none⟩=some (.int .i64 q.W)/\wz.cell? ⟨ra+1,1,none⟩=some (.int .i64 q.H)/\wz.cell? ⟨ra+1,2,none⟩=some (.int .i64 q.d)/\wz.cell? ⟨ra+1,3,none⟩=some (.slice (some ⟨gQ,0,none⟩) nP cQ)) /\
    (wz.cell? ⟨rs,0,none⟩=some (.int .i64 s.x)/\wz.cell? ⟨rs,1,none⟩=some (.int .i64 s.y)/\wz.cell? ⟨rs,2,none⟩=some (.int .i64 s.w)/\wz.cell? ⟨rs,3,none⟩=some (.int .i64 s.h))/\(wz.cell? ⟨rr,0,none⟩=some (.int .i64 q.W)/\wz.cell? ⟨rr,1,none⟩=some (.int .i64 q.H)/\wz.cell? ⟨rr,2,none⟩=some (.int .i64 q.d)/\wz.cell? ⟨rr,3,none⟩=some (.slice (some ⟨gR,0,none⟩) nP cR)):=fun wz hz=>by
   have b1:=(ax.out.chg bx (by simp)).chg hz (av w5 lP)
   have b2:=(ag.out.chg bx (by simp)).chg hz (av w5 lQ)
   have b3:=(dk.out.chg bx (by simp)).chg hz (av w5 lS)
   have b4:=dd.chg hz (by simp;omega)
   rw [aw] at b1
   rw [<-ah] at b2 b4
   exact ⟨⟨b1.cell 0,b1.cell 1,b1.cell 2,b1.cell 3⟩,⟨b2.cell 0,b2.cell 1,b2.cell 2,b2.cell 3⟩,⟨b3.cell 0,b3.cell 1,b3.cell 2,b3.cell 3⟩,⟨b4.cell 0,b4.cell 1,b4.cell 2,b4.cell 3⟩⟩
  have cu:∀ wz,Chg [gR] w5 wz->∀ i,i<nP->∃ gi ci,wz.cell? ⟨gP,i,none⟩=some (.slice (some ⟨gi,0,none⟩) N ci)/\∀ wy,Chg [] wz wy->Calls Tryz.prog 14 #[.slice (some ⟨gi,0,none⟩) N ci,.int .i64 p.W,.int .i64 Xn,.int .i64 Yn,.int .i64 s.w,.int .i64 s.h] wy fun e w'=>∃ g4 c4,e=.returned (.slice (some ⟨g4,0,none⟩) M c4)/\Row w' 3 (.slice (some ⟨g4,0,none⟩) M c4) g4 ((oldB p i s (X,Y)).map vi)/\Chg [] wy w'/\wy.heap.size<=g4:=by
   intro wz hz i hi
   have hl:=a4.out.pl.lt
   have own:=(a4.out.same bq).chg hz (by have:=a4.out.ltP;simp;omega) (fun x hx=>by have:=hl x hx;simp;omega)
   obtain ⟨gi,ci,h1,h2,h3,h4⟩:=own.plane (i:=i) (by omega)
   have hlen:=ak.out.len _ (plane_mem (p:=p) (i:=i) (by omega))
   rw [<-hN] at h3 h4 hlen
   refine ⟨gi,ci,h4,fun wy hy => ?_⟩
   obtain ⟨_,_,aC⟩:=Row.cells_vi (h3.chg hy (by simp))
   have hp:=part24_ok wy (some ⟨gi,0,none⟩) ci _ p.W p.H Xn Yn s.w s.h (by rw [hlen,hN]) fI fX fg dK aC
   rw [hlen] at hp
   refine hp.mono ?_
   rintro e w' ⟨v,F,rfl,aN,ch,hF⟩
   obtain ⟨g4,c4,rfl,ab,cs⟩:=own_row (N:=M) aN (by rw [zE,partF_len,hM]) cZ
   rw [<-cS i] at ab
   exact ⟨g4,c4,rfl,ab,ch,hF g4 (by rw [cs];simp)⟩
  have dj:∀ wz,Chg [gR] w5 wz->∀ i,i<nP->∃ gi ci,wz.cell? ⟨gQ,i,none⟩=some (.slice (some ⟨gi,0,none⟩) N ci)/\∀ wy,Chg [] wz wy->Calls Tryz.prog 14 #[.slice (some ⟨gi,0,none⟩) N ci,.int .i64 q.W,.int .i64 s.x,.int .i64 s.y,.int .i64 s.w,.int .i64 s.h] wy fun e w'=>∃ g4 c4,e=.returned (.slice (some ⟨g4,0,none⟩) M c4)/\Row w' 3 (.slice (some ⟨g4,0,none⟩) M c4) g4 ((oldB q i s (0,0)).map vi)/\Chg [] wy w'/\wy.heap.size<=g4:=by
   intro wz hz i hi
   have hl:=bl.out.pl.lt
   have own:=(bl.out.same bq).chg hz (by have:=bl.out.ltP;simp;omega) (fun x hx=>by have:=hl x hx;simp;omega)
   obtain ⟨gi,ci,h1,h2,h3,h4⟩:=own.plane (i:=i) (by omega)
   have hlen:=aa.out.len _ (plane_mem (p:=q) (i:=i) (by omega))
   rw [bi] at h3 h4 hlen
   refine ⟨gi,ci,h4,fun wy hy => ?_⟩
   obtain ⟨_,_,aC⟩:=Row.cells_vi (h3.chg hy (by simp))
   have hp:=part24_ok wy (some ⟨gi,0,none⟩) ci _ q.W q.H s.x s.y s.w s.h (by rw [hlen,bi]) aa.out.w1 aa.out.h1 ai.1 ai.2 aC
   rw [hlen] at hp
   refine hp.mono ?_
   rintro e w' ⟨v,F,rfl,aN,ch,hF⟩
   obtain ⟨g4,c4,rfl,ab,cs⟩:=own_row (N:=M) aN (by rw [zE,partF_len,hM]) cZ
   rw [<-db i] at ab
   exact ⟨g4,c4,rfl,ab,ch,hF g4 (by rw [cs];simp)⟩
  have dD:∀ wr i r xs gs,LsSt p q s (X,Y) gR cR wr i r xs gs->i<nP->∃ gi ci,wr.cell? ⟨gR,i,none⟩=some (.slice (some ⟨gi,0,none⟩) N ci)/\wr.frozen? ⟨gR,i,none⟩=false/\∀ wy g4 c4,Chg [] wr wy->Cells vi wy (some ⟨g4,0,none⟩) (oldB p i s (X,Y))->Calls Tryz.prog 16 #[.slice (some ⟨gi,0,none⟩) N ci,.int .i64 q.W,.slice (some ⟨g4,0,none⟩) M c4,.int .i64 s.x,.int .i64 s.y,.int .i64 s.w,.int .i64 s.h] wy fun e w'=>∃ g5 c5 lo,e=.returned (.slice (some ⟨g5,0,none⟩) N c5)/\Row w' 3 (.slice (some ⟨g5,0,none⟩) N c5) g5 (lo.map vi)/\OvSt (q.P.getD i []) (oldB p i s (X,Y)) p.W q.H s.x s.y s.w s.h s.h 0 lo/\Chg [] wy w'/\wy.heap.size<=g5:=by
   intro wr i r xs gs st hi
   have da:i<r.P.length:=by rw [<-st.al.n,<-ah];exact hi
   obtain ⟨gi,ci,h1,h2,h3,h4⟩:=st.own.plane da
   obtain ⟨_,_,_,_,_,fK⟩:=st.own.row.open_
   have fl:r.W*r.H=N:=by rw [<-st.al.W,<-st.al.H,bi]
   have hlen:=st.own.ok.len _ (plane_mem da)
   rw [fl] at h3 h4 hlen
   rw [st.rest i (zQ _)] at h3 hlen
   refine ⟨gi,ci,h4,fK i,fun wy g4 c4 hy hc4 => ?_⟩
   obtain ⟨_,_,aC⟩:=Row.cells_vi (h3.chg hy (by simp))
   have ho:=over24_ok wy (some ⟨gi,0,none⟩) ci _ (some ⟨g4,0,none⟩) c4 _ q.W q.H s.x s.y s.w s.h (by rw [hlen,bi]) (by rw [hlen];exact d5) (by rw [oldB_len]) aa.out.w1 aa.out.h1 ai.1 ai.2 aC hc4
   rw [hlen,oldB_len,<-hM,<-ae.out.W] at ho
   rw [<-ae.out.W]
   refine ho.mono ?_
   rintro e w' ⟨g5,c5,lo,rfl,row,ov,ch,hg⟩
   exact ⟨g5,c5,lo,rfl,row,ov,ch,hg⟩
  have bh:∀ wz,Chg [gR] w5 wz->Chg [] wA wz:=fun wz hz=>bq.trans hz (fun x hx=>by simp at hx;right;omega)
  have c9:∀ wr r xs gs wz,LsSt p q s (X,Y) gR cR wr nP r xs gs->Chg [gR] w5 wr->Chg [] wr wz->Calls Tryz.prog 17 #[.agg #[.int .i64 p.W,.int .i64 p.H,.int .i64 p.d,.slice (some ⟨gP,0,none⟩) nP cP],.agg #[.int .i64 q.W,.int .i64 q.H,.int .i64 q.d,.slice (some ⟨gR,0,none⟩) nP cR],.int .i64 s.x,.int .i64 s.y] wz fun e w'=>∃ dx dy:Int,e=.returned (.tuple #[.int .i64 dx,.int .i64 dy,.int .i64 0])/\Chg [] wz w':=by
   intro wr r xs gs wz st hz hy
   have aB:gridL r.W r.H 8=ss:=by rw [<-st.al.W,<-st.al.H];exact HS.out.2.1.symm
   have fh:AlikeD p r:=⟨ae.out.W.trans st.al.W,ae.out.H.trans st.al.H,ae.out.d.trans st.al.d,ae.out.n.trans st.al.n⟩
   have h1:=msearch_ok cP (a4.out.at_.same ((bh wr hz).trans_same hy)) cR (st.own.at_.same hy) fh k0 (by rw [aB,<-HS.out.2.2];exact bn.out) s.x s.y (by rw [aB,<-HS.out.1]) (by rw [aB,<-HS.out.1])
   unfold MSearchPost picV at h1
   rw [aw,<-st.al.W,<-st.al.H,<-st.al.d,<-st.al.n,<-ah] at h1
   refine h1.mono ?_
   rintro e w' ⟨dx,dy,c,s',rfl,bL,bE,bS,hb,ch⟩
   have e1:s'=s:=grid_same bL cy.out bE bS
   rw [e1] at hb
   have h2:=hb.le (X,Y) trivial bk
   rw [cost_none st.own.ok (fun k hk=>st.got k (by rw [<-st.al.n,<-ah] at hk;exact hk))] at h2
   have e2:c=0:=by omega
   subst e2
   exact ⟨dx,dy,rfl,ch⟩
  have aF:∀ wz,Chg [gR] w5 wz->Calls Tryz.prog 17 #[.agg #[.int .i64 p.W,.int .i64 p.H,.int .i64 p.d,.slice (some ⟨gP,0,none⟩) nP cP],.agg #[.int .i64 q.W,.int .i64 q.H,.int .i64 q.d,.slice (some ⟨gQ,0,none⟩) nP cQ],.int .i64 s.x,.int .i64 s.y] wz fun e w'=>∃ (dx dy:Int) (c:Nat),e=.returned (.tuple #[.int .i64 dx,.int .i64 dy,.int .i64 c])/\c<=costP' p q s (X,Y) nP/\Chg [] wz w':=by
   intro wz hz
   have h1:=fG.out wz (bh wz hz)
   rw [aw,<-ah] at h1
   refine h1.mono ?_
   rintro e w' ⟨dx,dy,c,s',rfl,bL,bE,bS,hb,ch⟩
   have e1:s'=s:=grid_same bL cy.out bE bS
   rw [e1] at hb
   have h2:=hb.le (X,Y) trivial bk
   have e2:costP' p q s (X,Y) nP=costB p q s (X,Y):=by rw [ah];rfl
   exact ⟨dx,dy,c,rfl,by rw [e2];exact h2,ch⟩
  have dc:∀ wz,Chg [gR] w5 wz->_:=fun wz hz=>dM.out wz (bY.out.trans_same (bh wz hz))
  have ao:=aa.out.d0
  have am:=aa.out.d1
  have aW:=fun v w=>fold24_ok v q.d w ao am
  have dl:=fun v=>fold_abs ao am v
  have aC:=costPl_le p q s (X,Y) ao am (by omega) (by omega)
  have c6:∀ i,(oldB p i s (X,Y)).length=M:=fun i=>by rw [oldB_len,hM]
  have dG:∀ i,(oldB q i s (0,0)).length=M:=fun i=>by rw [oldB_len,hM]
  have cw:∀ i,i<nP->SmpOk q.d (oldB p i s (X,Y)):=fun i hi=>by rw [<-ae.out.d];exact oldB_smp ak.out (by omega) s (X,Y)
  have du:∀ i,i<nP->SmpOk q.d (oldB q i s (0,0)):=fun i hi=>oldB_smp aa.out (by omega) s (0,0)
  have bX:Hid (LsSt p q s (X,Y) gR cR w5 0 q xr gr):=hid ⟨aJ.same bf,⟨rfl,rfl,rfl,rfl⟩,fun k hk=>by omega,fun k _=>rfl⟩
  have ac:=hid bd
  have fq:=hid cu
  have dP:=hid dj
  have dY:=hid dD
  have co:=hid bh
  have fU:=hid c9
  have bU:=hid aF
  have fs:=hid dc
  have fv:=hid aW
  have fW:=hid dl
  have f5:=hid aC
  have f3:=hid c6
  have fr:=hid dG
  have dR:=hid cw
  have b6:=hid du
  rw [<-ah] at be
  have fB:=hid be
  have fM:=hid aB
  have fy:=hid ah
  have gv:=hid bk
  have fp:gR<w5.heap.size:=by have:=bf.size;omega
  clear bd cu dj dD bh c9 aF dc aW dl aC c6 dG cw du be aB aw hN bi hM cS db dd bq aJ bF bf bx dp bk ai cb bP cm bM bK bG bZ cl bW bR lP lQ lS x0 x1 x2 x3 av cG dQ
  rw [<-ah]
  clear ah
  go_wp2_with fail
  rw [<-fB.out,<-fM.out]
  go_loopg [16,18,19,20,21] nP (fun j v16 v18 v19 v20 v21 wr=>∃ (i C:Nat) (r:PicD) (xs:List Value) (gs:List Nat),v16=.int .i64 C/\v18=.int .i64 i/\i+j=nP/\C<=536870912/\Hid (C=costP' p q s (X,Y) i)/\Hid (LsSt p q s (X,Y) gR cR wr i r xs gs)/\Hid (Chg [gR] w5 wr))
  case atStart=>exact ⟨0,0,q,xr,gr,rfl,rfl,by omega,by omega,hid rfl,bX,hid (zR _ _)⟩
  case round =>
   obtain ⟨i,C,r,xs,gs,rfl,rfl,gm,gu,dC,HL,ap⟩:=hrel
   obtain ⟨⟨a0,a1,a2,a3⟩,⟨b0,b1,b2,b3⟩,⟨s0,s1,s2,s3⟩,⟨r0,r1,r2,r3⟩⟩:=ac.out wr ap.out
   rcases gk with _ | j
   ·obtain rfl:i=nP:=by omega
    have t1:decide (i<i)=false:=by simp
    have h1:=bU.out wr ap.out
    go_wp2_with fail
    refine h1.mono ?_
    rintro e w6 ⟨dx,dy,c,rfl,hc,aD⟩
    obtain ⟨⟨a0,a1,a2,a3⟩,⟨b0,b1,b2,b3⟩,⟨s0,s1,s2,s3⟩,⟨r0,r1,r2,r3⟩⟩:=ac.out w6 (ap.out.trans_same (aD.mono (by simp)))
    have h2:=fU.out wr r xs gs w6 HL.out ap.out aD
    have t7:decide (c<=C)=true:=zB (by rw [dC.out];exact hc)
    have br:Hid (Chg [gR] w5 w6):=hid (ap.out.trans_same (aD.mono (by simp)))
    clear h1 hc aD
    go_wp2_with fail
    refine h2.mono ?_
    rintro e w7 ⟨gd,gA,rfl,aU⟩
    have aP:Hid (Chg [gR] w5 w7):=hid (br.out.trans_same (aU.mono (by simp)))
    have dJ:=fs.out w7 aP.out
    clear h2 aU
    go_wp2_with fail
    refine dJ.mono ?_
    rintro e w8 ⟨rfl,dT⟩
    go_wp2_with fail
    go_ret
    exact ⟨rfl,bY.out.trans_same ((co.out w7 aP.out).trans_same dT)⟩
   ·have hi:i<nP:=by omega
    have t1:decide (i<nP)=true:=zB hi
    obtain ⟨gp,cp,dm,cE⟩:=fq.out wr ap.out i hi
    have cT:∀ wz,Chg [] wr wz->wz.cell? ⟨ra,0,none⟩=some (.int .i64 p.W)/\wz.cell? ⟨ra,3,none⟩=some (.slice (some ⟨gP,0,none⟩) nP cP)/\wz.cell? ⟨rs,0,none⟩=some (.int .i64 s.x)/\wz.cell? ⟨rs,1,none⟩=some (.int .i64 s.y)/\wz.cell? ⟨rs,2,none⟩=some (.int .i64 s.w)/\wz.cell? ⟨rs,3,none⟩=some (.int .i64 s.h)/\wz.cell? ⟨gP,i,none⟩=some (.slice (some ⟨gp,0,none⟩) N cp):=fun wz hz=>by
     obtain ⟨⟨a0,a1,a2,a3⟩,-,⟨s0,s1,s2,s3⟩,-⟩:=ac.out wz (ap.out.trans_same (hz.mono (by simp)))
     have hl:gP<wr.heap.size:=by have:=a4.out.ltP;have:=(co.out wr ap.out).size;omega
     exact ⟨a0,a3,s0,s1,s2,s3,(World.cell?_of_block (w:=wr) (hz.block gP hl (by simp))).trans dm⟩
    have dB:=hid cT
    have bI:=hid (cE wr.drew (zR [] wr).drew)
    have ca:(0:Int)<=(i:Int):=by omega
    have cg:(i:Int)<(nP:Int):=by omega
    have gg:IntKind.i64.wrap (Xn:Int)=(Xn:Int):=IntWalk.i64_in _ (by omega)
    have gz:IntKind.i64.wrap (Yn:Int)=(Yn:Int):=IntWalk.i64_in _ (by omega)
    clear cT cE
    go_wp2_with fail
    go_region_held3 (fun wz=>wz.cell? ⟨ra,0,none⟩=some (.int .i64 p.W)/\wz.cell? ⟨ra,3,none⟩=some (.slice (some ⟨gP,0,none⟩) nP cP)/\wz.cell? ⟨rs,0,none⟩=some (.int .i64 s.x)/\wz.cell? ⟨rs,1,none⟩=some (.int .i64 s.y)/\wz.cell? ⟨rs,2,none⟩=some (.int .i64 s.w)/\wz.cell? ⟨rs,3,none⟩=some (.int .i64 s.h)/\wz.cell? ⟨gP,i,none⟩=some (.slice (some ⟨gp,0,none⟩) N cp))
     (first | exact dB.out _ ((zR [] wr).drew) | exact dB.out _ (((zR [] wr).drew).trans_same aD) | trivial)
     (first | (go_at_call 14;refine bI.out.mono ?_;rintro e w6 ⟨g4,c4,rfl,ab,aD,cX⟩))
    have br:Hid (Chg [] wr w6):=hid (((zR [] wr).drew).trans_same aD)
    have aj:Hid (Chg [gR] w5 w6):=hid (ap.out.trans_same (br.out.mono (by simp)))
    have fT:=hid ab
    have gy:Hid (wr.heap.size<=g4):=hid cX
    clear a0 a1 a2 a3 b0 b1 b2 b3 s0 s1 s2 s3 r0 r1 r2 r3 ab aD cX dm
    obtain ⟨⟨a0,a1,a2,a3⟩,⟨b0,b1,b2,b3⟩,⟨s0,s1,s2,s3⟩,⟨r0,r1,r2,r3⟩⟩:=ac.out w6 aj.out
    obtain ⟨dq,cz,cF,c0⟩:=dP.out w6 aj.out i hi
    have cV:∀ wz,Chg [] w6 wz->wz.cell? ⟨ra+1,0,none⟩=some (.int .i64 q.W)/\wz.cell? ⟨ra+1,3,none⟩=some (.slice (some ⟨gQ,0,none⟩) nP cQ)/\wz.cell? ⟨rs,0,none⟩=some (.int .i64 s.x)/\wz.cell? ⟨rs,1,none⟩=some (.int .i64 s.y)/\wz.cell? ⟨rs,2,none⟩=some (.int .i64 s.w)/\wz.cell? ⟨rs,3,none⟩=some (.int .i64 s.h)/\wz.cell? ⟨gQ,i,none⟩=some (.slice (some ⟨dq,0,none⟩) N cz):=fun wz hz=>by
     obtain ⟨-,⟨b0,b1,b2,b3⟩,⟨s0,s1,s2,s3⟩,-⟩:=ac.out wz (aj.out.trans_same (hz.mono (by simp)))
     have hl:gQ<w6.heap.size:=by have:=bl.out.ltP;have:=(co.out w6 aj.out).size;omega
     exact ⟨b0,b3,s0,s1,s2,s3,(World.cell?_of_block (w:=w6) (hz.block gQ hl (by simp))).trans cF⟩
    have cL:=hid cV
    have ce:=hid (c0 w6.drew (zR [] w6).drew)
    clear cV c0
    go_wp2_with fail
    go_region_held3 (fun wz=>wz.cell? ⟨ra+1,0,none⟩=some (.int .i64 q.W)/\wz.cell? ⟨ra+1,3,none⟩=some (.slice (some ⟨gQ,0,none⟩) nP cQ)/\wz.cell? ⟨rs,0,none⟩=some (.int .i64 s.x)/\wz.cell? ⟨rs,1,none⟩=some (.int .i64 s.y)/\wz.cell? ⟨rs,2,none⟩=some (.int .i64 s.w)/\wz.cell? ⟨rs,3,none⟩=some (.int .i64 s.h)/\wz.cell? ⟨gQ,i,none⟩=some (.slice (some ⟨dq,0,none⟩) N cz))
     (first | exact cL.out _ ((zR [] w6).drew) | exact cL.out _ (((zR [] w6).drew).trans_same aU) | trivial)
     (first | (go_at_call 14;refine ce.out.mono ?_;rintro e w7 ⟨g7,c7,rfl,bj,aU,fJ⟩))
    have aP:Hid (Chg [] w6 w7):=hid (((zR [] w6).drew).trans_same aU)
    have a6:Hid (Chg [gR] w5 w7):=hid (aj.out.trans_same (aP.out.mono (by simp)))
    have fe:=hid bj
    have b9:=hid (fT.out.chg aP.out (by simp))
    clear a0 a1 a2 a3 b0 b1 b2 b3 s0 s1 s2 s3 r0 r1 r2 r3 bj aU fJ cF
    go_wp2_with fail
    have bH:=f3.out i
    have bV:=fr.out i
    have cj:=dR.out i hi
    have ck:=b6.out i hi
    have bz:=costPl_succ p q s (X,Y) i
    have aQ:=dY.out wr i r xs gs HL.out hi
    obtain ⟨old,aK⟩:=zX (oldB p i s (X,Y))
    obtain ⟨aO,bg⟩:=zX (oldB q i s (0,0))
    have bJ:=b9.out
    have cn:=fe.out
    rw [<-aK] at bH cj bz aQ bJ
    rw [<-bg] at bV ck bz cn
    have dw:=hid bH
    have cf:=hid bV
    have d7:=hid cj
    have fa:=hid ck
    have f0:=hid bz
    have bT:=hid aQ
    have cH:=hid bJ
    have fz:=hid cn
    have cc:=hid aK
    have HI:=hid hi
    have dr:∀ k,C+costTo aO old q.d k<=536870912+32768*k:=fun k=>by have:=costTo_le ao am aO old k;omega
    have gb:=hid dr
    clear bH bV cj ck bz aQ bJ cn aK bg dr ca cg hi
    obtain ⟨bB,rfl⟩:=zX (wr)
    go_loopg [16,21] M (fun j2 v16 v21 wr2=>∃ k C2:Nat,v16=.int .i64 C2/\v21=.int .i64 k/\k+j2=M/\C2<=536870912+32768*k/\Hid (C2=C+costTo aO old q.d k)/\Hid (Chg [] w7 wr2))
    case atStart=>exact ⟨0,C,rfl,rfl,by omega,by omega,hid (by simp [costTo,costL]),hid (zR _ _)⟩
    case round =>
    obtain ⟨k,C2,rfl,rfl,f9,gt,bm,HQ⟩:=hrel
    rcases gk with _ | j2
    case succ =>
     have hk:k<M:=by omega
     have t2:decide (k<M)=true:=zB hk
     obtain ⟨_,-,-,-,aY,-⟩:=(cH.out.chg HQ.out (by simp)).open_map
     obtain ⟨_,-,-,-,bc,-⟩:=(fz.out.chg HQ.out (by simp)).open_map
     have bQ:k<old.length:=by rw [dw.out];exact hk
     have aS:k<aO.length:=by rw [cf.out];exact hk
     have cA:=aY k _ (zF bQ)
     have cB:=bc k _ (zF aS)
     have aV:=costTo_succ (d:=q.d) aS bQ
     obtain ⟨ff,dt⟩:=fa.out aO[k] (zG _)
     obtain ⟨fc,dE⟩:=d7.out old[k] (zG _)
     obtain ⟨x,hx⟩:=zX (aO[k])
     obtain ⟨y,hy⟩:=zX (old[k])
     rw [<-hx] at cB aV ff dt
     rw [<-hy] at cA aV fc dE
     have ga:wr.cell? ⟨g4,k,none⟩=some (.int .i64 y):=cA
     have gx:wr.cell? ⟨g7,k,none⟩=some (.int .i64 x):=cB
     obtain ⟨fC,fu⟩:=pow_d ao am
     have f8:x<65536:=by omega
     have gj:y<65536:=by omega
     have dh:=fW.out (x-y)
     have aW:=fv.out (x-y)
     obtain ⟨z,hz⟩:=zX (foldI (x-y) q.d)
     rw [<-hz] at dh aW aV
     obtain ⟨m1,m2,m3,m4,m5⟩:=max_abs z
     obtain ⟨u,hu⟩:=zX (z.natAbs)
     rw [<-hu] at dh aV m1 m2 m3 m4 m5
     have dN:Hid (∀ w,Calls Tryz.prog 15 #[.int .i64 (x-y),.int .i64 q.d] w fun e w'=>e=.returned (.int .i64 z)/\w'=w):=hid (fun w=>(aW w).mono fun e w' h=>⟨h.1,h.2.symm⟩)
     have fj:=hid aV
     obtain ⟨-,⟨b0,b1,b2,b3⟩,-,-⟩:=ac.out wr (a6.out.trans_same (HQ.out.mono (by simp)))
     have d9 : -32768<=z/\z<=32768:=by omega
     obtain ⟨fo,fV⟩:=d9
     have bD:IntKind.i64.wrap (x-y)=x-y:=IntWalk.i64_in _ (by omega)
     have dO:IntKind.i64.wrap (-z)=-z:=IntWalk.i64_in _ (by omega)
     have f1:IntKind.i64.wrap ((C2:Int)+(u:Int))=(C2:Int)+(u:Int):=IntWalk.i64_in _ (by omega)
     clear aY bc cA cB bQ aS hx hy hz hu aW aV dt dE
     go_wp2_with fail
     go_quiet ((go_at_call 15;exact Calls.quiet_of_same (dN.out _)))
     go_wp2
     go_roundg j2
     case measure=>omega
     case rel=>exact ⟨k+1,C2+u,by go_num,by go_num,by omega,by omega,hid (by rw [fj.out,bm.out];omega),hid (HQ.out.drewN nq)⟩
    case zero =>
     have dg:k=M:=by omega
     have t2:decide (k<M)=false:=zA (by omega)
     have cx:Hid (C2=costP' p q s (X,Y) (i+1)):=hid (by
      rw [f0.out,<-costTo_full (by rw [dw.out,cf.out]),cf.out,<-dC.out,bm.out,dg])
     have hb:C2<=536870912:=by have h1:=f5.out (i+1);rw [<-cx.out] at h1;have:=HI.out;omega
     obtain ⟨gi,ci,cD,cK,aQ⟩:=bT.out
     have bv:Chg [] bB wr:=(br.out.trans_same aP.out).trans_same HQ.out
     have dF:∀ wz,Chg [] wr wz->LsS rr rs gR cR nP i gi N ci q.W s wz/\wz.frozen? ⟨gR,i,none⟩=false:=fun wz hz=>by
      obtain ⟨-,-,⟨s0,s1,s2,s3⟩,⟨r0,r1,r2,r3⟩⟩:=ac.out wz (a6.out.trans_same ((HQ.out.trans_same hz).mono (by simp)))
      have hl:=HL.out.own.ltP
      have ds:=(bv.trans_same hz).block gR hl (by simp)
      exact ⟨⟨r0,r3,s0,s1,s2,s3,(World.cell?_of_block (w:=bB) ds).trans cD⟩,(World.frozen?_of_block (w:=bB) ds).trans cK⟩
     have dH:Cells vi wr.drew (some ⟨g4,0,none⟩) old:=by
      obtain ⟨_,_,h⟩:=Row.cells_vi (cH.out.chg (HQ.out.drew) (by simp))
      exact h
     have a8:=aQ wr.drew g4 c4 bv.drew dH
     have fS:=hid a8
     have dz:=hid dF
     have di:=hid bv
     have ca:(0:Int)<=(i:Int):=by omega
     have cg:(i:Int)<(nP:Int):=by have:=HI.out;omega
     clear dg cD cK aQ bv dF dH a8
     go_wp2_with fail
     have cO:LsS rr rs gR cR nP i gi N ci q.W s wr.drew:=(dz.out _ (zR [] wr).drew).1
     refine wp_region_headH 20 (by kernel_rfl) (by decide) cO ?_
     refine hT (i:=0) (v:=?_) (by decide +kernel) rfl (fun _ _ _ h=>h) (by rfl) (by assumption) ?_ ?_
     rotate_left
     ·(rintro _ ⟨_,_,_,_,_,_,_⟩;go_simp;try with_reducible rfl)
     refine hT (i:=1) (v:=?_) (by decide +kernel) rfl (fun _ _ _ h=>h) (by rfl) (by assumption) ?_ ?_
     rotate_left
     ·(rintro _ ⟨_,_,_,_,_,_,_⟩;go_simp;try with_reducible rfl)
     refine hT (i:=2) (v:=?_) (by decide +kernel) rfl (fun _ _ _ h=>h) (by rfl) (by assumption) ?_ ?_
     rotate_left
     ·(rintro _ ⟨_,_,_,_,_,_,_⟩;go_simp;try with_reducible rfl)
     refine hT (i:=3) (v:=?_) (by decide +kernel) rfl (fun _ _ _ h=>h) (by rfl) (by assumption) ?_ ?_
     rotate_left
     ·(rintro _ ⟨_,_,_,_,_,_,_⟩;go_simp;try with_reducible rfl)
     refine hT (i:=4) (v:=?_) (by decide +kernel) rfl (fun _ _ _ h=>h) (by rfl) (by assumption) ?_ ?_
     rotate_left
     ·(rintro _ ⟨_,_,_,_,_,_,_⟩;go_simp;try with_reducible rfl)
     refine hT (i:=5) (v:=?_) (by decide +kernel) rfl (fun _ _ _ h=>h) (by rfl) (by assumption) ?_ ?_
     rotate_left
     ·(rintro _ ⟨_,_,_,_,_,_,_⟩;go_simp;try with_reducible rfl)
     refine hT (i:=6) (v:=?_) (by decide +kernel) rfl (fun _ _ _ h=>h) (by rfl) (by assumption) ?_ ?_
     rotate_left
     ·(rintro _ ⟨_,_,_,_,_,_,_⟩;go_simp;try with_reducible rfl)
     refine hT (i:=7) (v:=?_) (by decide +kernel) rfl (fun _ _ _ h=>h) (by rfl) (by assumption) ?_ ?_
     rotate_left
     ·(rintro _ ⟨_,_,_,_,_,_,_⟩;go_simp;try with_reducible rfl)
     refine hT (i:=8) (v:=?_) (by decide +kernel) rfl (fun _ _ _ h=>h) (by rfl) (by assumption) ?_ ?_
     rotate_left
     ·(rintro _ ⟨_,_,_,_,_,_,_⟩;go_simp;try with_reducible rfl)
     refine hT (i:=9) (v:=?_) (by decide +kernel) rfl (fun _ _ _ h=>h) (by rfl) (by assumption) ?_ ?_
     rotate_left
     ·(rintro _ ⟨_,_,_,_,_,_,_⟩;go_simp;try with_reducible rfl)
     refine hT (i:=10) (v:=?_) (by decide +kernel) rfl (fun _ _ _ h=>h) (by rfl) (by assumption) ?_ ?_
     rotate_left
     ·(rintro _ ⟨_,_,_,_,_,_,_⟩;go_simp;try with_reducible rfl)
     refine hT (i:=11) (v:=?_) (by decide +kernel) rfl (fun _ _ _ h=>h) (by rfl) (by assumption) ?_ ?_
     rotate_left
     ·(rintro _ ⟨_,_,_,_,_,_,_⟩;go_simp;try with_reducible rfl)
     refine hT (i:=12) (v:=?_) (by decide +kernel) rfl (fun _ _ _ h=>h) (by rfl) (by assumption) ?_ ?_
     rotate_left
     ·(rintro _ ⟨_,_,_,_,_,_,_⟩;go_simp;try with_reducible rfl)
     refine hT (i:=13) (v:=?_) (by decide +kernel) rfl (fun _ _ _ h=>h) (by rfl) (by assumption) ?_ ?_
     rotate_left
     ·(rintro _ ⟨_,_,_,_,_,_,_⟩;go_simp;try with_reducible rfl)
     refine hT (i:=14) (v:=?_) (by decide +kernel) rfl (fun _ _ _ h=>h) (by rfl) (by assumption) ?_ ?_
     rotate_left
     ·(rintro _ ⟨_,_,_,_,_,_,_⟩;go_simp;try with_reducible rfl)
     refine hT (i:=15) (v:=?_) (by decide +kernel) rfl (fun _ _ _ h=>h) (by rfl) (by assumption) ?_ ?_
     rotate_left
     ·(rintro _ ⟨_,_,_,_,_,_,_⟩;go_simp;try with_reducible rfl)
     refine hT (i:=16) (v:=?_) (by decide +kernel) rfl (fun _ _ _ h=>h) (by rfl) (by assumption) ?_ ?_
     rotate_left
     ·(rintro _ ⟨_,_,_,_,_,_,_⟩;go_simp;try with_reducible rfl)
     refine hT (i:=17) (v:=?_) (by decide +kernel) rfl (fun _ _ _ h=>h) (by rfl) (by assumption) ?_ ?_
     rotate_left
     ·(rintro _ ⟨_,_,_,_,_,_,_⟩;go_simp;try with_reducible rfl)
     refine hT (i:=18) (v:=?_) (by decide +kernel) rfl (fun _ _ _ h=>h) (by rfl) (by assumption) ?_ ?_
     rotate_left
     ·(rintro _ ⟨_,_,_,_,_,_,_⟩;go_simp;try with_reducible rfl)
     refine hH_one (i:=19) rfl (by decide) (by decide +kernel) ?_
     intro K' cI
     go_simp
     go_at_call 16
     refine fS.out.mono ?_
     rintro e w9 ⟨g5,c5,lo,rfl,aZ,dA,cd,df⟩
     have aA:=dz.out w9 (((zR [] wr).drew).trans_same cd)
     have cv:=aA.1
     have gn:=aA.2
     obtain ⟨-,-,-,-,-,-,f6⟩:=aA.1
     refine cI.out _ _ cv ?_
     clear cI K'
     try simp only [Act.put,List.setIfInBounds_toArray,List.set_cons_zero,List.set_cons_succ]
     refine hH_done (by decide +kernel) ?_
     simp only [List.drop_succ_cons,List.drop_zero,List.toList_toArray]
     have de:Hid (Chg [] bB w9):=hid (di.out.trans_same (((zR [] wr).drew).trans_same cd))
     have fN:=hid (HL.out.next ak.out ae.out bO.out (by rw [<-fy.out];exact HI.out) aZ de.out (by have:=di.out.size;have hd:wr.drew.heap.size=wr.heap.size:=rfl;rw [hd] at df;omega) (by rw [<-cc.out];exact dA))
     have fi:Hid (Chg [gR] w5 (w9.setCell ⟨gR,i,none⟩ (.slice (some ⟨g5,0,none⟩) N c5))):=hid ((ap.out.trans_same (de.out.mono (by simp))).setCell (p:=⟨gR,i,none⟩) (.inl (by simp)) _)
     clear aZ dA cd df aA cv cO
     go_wp2_with fail
     go_roundg j
     case measure=>omega
     case rel=>exact ⟨i+1,C2,_,_,_,rfl,by go_num,by omega,hb,cx,fN,fi⟩
 all_goals
  go_wp2_with fail
  refine (bb _).mono ?_
  rintro e w' ⟨rfl,rfl⟩
  go_wp2_with fail
  refine (b5 _).mono ?_
  rintro e w' ⟨rfl,rfl⟩
  go_wp2_with fail
  refine (b7 _).mono ?_
  rintro e w' ⟨rfl,rfl⟩
  go_wp2_with fail
  go_ret
  exact ⟨rfl,bY.out.trans_same (by rw [<-bN.out];exact bs.out)⟩
end Go.Proofs.YtklocammllljiaaGreatDoor
