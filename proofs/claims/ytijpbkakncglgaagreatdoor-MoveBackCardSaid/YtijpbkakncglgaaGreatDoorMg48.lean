/- kinorakeep2.Tape.Alike by its contract. -/
import Derived.Test.YtijpbkakncglgaaGreatDoorMg47
import Derived.Test.YtijpbkakncglgaaGreatDoorMg46
import Derived.Test.YtijpbkakncglgaaGreatDoorMg49
set_option linter.unusedVariables false
set_option linter.unusedSimpArgs false
set_option maxHeartbeats 4000000
set_option maxRecDepth 100000
namespace Go.Proofs.YtijpbkakncglgaaGreatDoor
open Go.RowKit
def AlS (nb gP cP n i gi N ci k d bx:Nat) (v:Int) (w':World):Prop:=w'.cell? ⟨nb,3,none⟩=some (.slice (some ⟨gP,0,none⟩) n cP)∧w'.cell? ⟨bx,2,none⟩=some (.int .i64 d)∧w'.cell? ⟨gP,i,none⟩=some (.slice (some ⟨gi,0,none⟩) N ci)∧w'.cell? ⟨gi,k,none⟩=some (.int .i64 v)
def TapeAlikePost (w:World) (p:PicD) (b cap:Nat) (A:Option Addr) (L:List Int) (e:Ending) (w':World):Prop :=
 ∃ (q:PicD) (gP capP:Nat) (xs:List Value) (gs:List Nat) (at':Nat),e=.returned (picV q gP 0 capP)∧PicOwn w' q gP capP xs gs∧AlikeD p q∧IsTp w' b A cap L at'∧Chg [b] w w'∧∀ x∈gP::gs,w.heap.size≤x
theorem talike_tp {w:World} {p:PicD} {g o:Nat} {B:Nat→Option Addr} {c:Nat→Nat} {G:List Nat} (cap:Nat) (h:PicAt w p g o B c G) (b capT at_:Nat) (A:Option Addr) (L:List Int) (ht:IsTp w b A capT L at_) (hbG:b∉G) :
  Calls Tryz.prog 22 #[.pointer (some ⟨b,0,none⟩),picV p g o cap] w (TapeAlikePost w p b capT A L):=by
 have hok:=h.ok
 unfold TapeAlikePost
 have hcp:∀ w',Chg [] w w'→_:=fun w' hc=>copy24_ok cap (h.same hc)
 have hW1:=hok.w0
 have hW64:=hok.w1
 have hH1:=hok.h0
 have hH64:=hok.h1
 have hd0:=hok.d0
 have hd1:=hok.d1
 have hPl4:=hok.n1
 obtain ⟨N,hN⟩:∃ N,N=p.W*p.H:=⟨_,rfl⟩
 have eN:(p.W:Int)*(p.H:Int)=(N:Int):=by rw [hN];simp
 have hN0:1≤N:=by rw [hN];exact hok.pos
 have hN4:N≤4096:=by rw [hN];exact hok.area
 have hNW:N≤64*p.W:=by rw [hN,Nat.mul_comm];exact Nat.mul_le_mul_right p.W hH64
 have hpc:∀ w',Chg [b] w w'→∀ i,i<p.P.length→∃ bi qi,w'.cell? ⟨g,o+i,none⟩=some (.slice (some ⟨bi,qi,none⟩) N (c i))∧∀ k,k<N→∃ v:Int,w'.cell? ⟨bi,qi+k,none⟩=some (.int .i64 v)∧0≤v∧v<2^p.d:=by
  intro w' hc i hi
  have h9:=h.chg hc (by intro x hx hm;simp at hm;subst hm;exact hbG hx)
  obtain ⟨bi,qi,e,hb,hk⟩:=h9.at_ hi
  have hce:=h9.cell i hi
  rw [e,←hN] at hce
  exact ⟨bi,qi,hce,fun k hkk=>⟨_,hk k (by rw [←hN];exact hkk),getD_smp (hok.smp _ (plane_mem hi)) k⟩⟩
 have hfit:∀ X Y:Nat,X<p.W→Y<p.H→Y*p.W+X<N:=fun X Y hx hy=>by
  have h3:=Nat.mul_le_mul_right p.W (show Y+1≤p.H by omega)
  rw [Nat.succ_mul,Nat.mul_comm p.H,←hN] at h3
  omega
 have hwr:=fun v w=>wrap24_ok v p.d w hd0 hd1
 have hbw:=ht.blk.lt
 have htA:∀ F:List Nat,(∀ x∈F,w.heap.size≤x)→Apt A L F:=fun F hF=>Apt.fresh ht.cells hF
 unfold picV at hcp ⊢
 obtain ⟨wZ,hwZ⟩:∃ wZ,wZ=(w.alloc (.cells #[.int .i64 p.W,.int .i64 p.H,.int .i64 p.d,.slice (some ⟨g,o,none⟩) p.P.length cap] 25)).alloc (.cells #[.int .i64 0,.int .i64 0,.int .i64 0,.slice none 0 0] 25):=⟨_,rfl⟩
 have chZ:Chg [] w wZ:=by rw [hwZ];exact ((Chg.refl [] w).alloc _).alloc _
 have hbxk:Blk wZ w.heap.size 25 #[.int .i64 p.W,.int .i64 p.H,.int .i64 p.d,.slice (some ⟨g,o,none⟩) p.P.length cap]:=by rw [hwZ];exact (Blk.new w _ _).alloc _
 have hrbk:Blk wZ (w.heap.size+1) 25 #[.int .i64 0,.int .i64 0,.int .i64 0,.slice none 0 0]:=by rw [hwZ];exact Blk.new2 w _ _ _
 have hsZ:wZ.heap.size=w.heap.size+1+1:=by rw [hwZ,alloc_size,alloc_size]
 have htZ:=ht.fresh chZ
 have k0:=hbxk.cell 0
 have k1:=hbxk.cell 1
 have k2:=hbxk.cell 2
 have k3:=hbxk.cell 3
 simp at k0 k1 k2 k3
 rw [hwZ] at k0 k1 k2 k3
 have HWZ:=hid hwZ
 have HCZ:=hid chZ
 have HBX:=hid hbxk
 have HRB:=hid hrbk
 have HSZ:=hid hsZ
 have HTZ:=hid htZ
 have HPC:=hid hpc
 have HFIT:=hid hfit
 have HWR:=hid hwr
 have HTA:=hid htA
 have HNN:=hid hN
 have HOK:=hid hok
 have HCP:=hid (hcp wZ chZ)
 clear hwZ chZ hbxk hrbk hsZ htZ hpc hfit hwr htA hok hcp h ht hN hbG
 go_enter Tryz.func22,Tryz.ntmps22
 go_wp2_with fail
 rw [←HWZ.out]
 refine HCP.out.mono ?_
 rintro e w1 ⟨gP,cP,xs,gs,rfl,hown,ch1,hgn⟩
 obtain ⟨nb,hnb⟩:∃ nb,nb=w1.heap.size:=⟨_,rfl⟩
 obtain ⟨w2,hw2⟩:∃ w2,w2=w1.alloc (.cells #[.int .i64 p.W,.int .i64 p.H,.int .i64 p.d,.slice (some ⟨gP,0,none⟩) p.P.length cP] 25):=⟨_,rfl⟩
 have ch2:Chg [] w1 w2:=by rw [hw2];exact (Chg.refl [] w1).alloc _
 have hst:AlSt w p g o cap b capT A L w.heap.size nb (w.heap.size+1) gP cP w2 p xs gs at_:=by
  have c2:=ch1.trans_same ch2
  have hs:=HSZ.out
  have hs1:=ch1.size
  refine ⟨hown.same ch2,⟨rfl,rfl,rfl,rfl⟩,HTZ.out.fresh c2,(HCZ.out.trans_same c2).mono (by simp),HBX.out.chg c2 (by simp),by rw [hw2,hnb];exact Blk.new w1 _ _,HRB.out.chg c2 (by simp),fun x hx => ?_,⟨Nat.le_refl _,by omega,by omega⟩,hbw,HTA.out⟩
  have h1:=hgn x hx
  have h2:x<w1.heap.size:=by
   rcases List.mem_cons.1 hx with rfl | h1
   ·exact hown.ltP
   ·exact hown.pl.lt x h1
  exact ⟨by omega,by omega,by omega,by omega⟩
 have HST:=hid hst
 have HW2:=hid hw2
 have HNB:=hid hnb
 have hn6:=next_tp w2 b capT at_ 6 A L hst.tp (by omega) (by omega)
 clear hown ch1 hgn hnb hw2 ch2 hst k0 k1 k2 k3
 go_wp2_with fail
 rw [←HW2.out,←HNB.out]
 refine hn6.mono ?_
 rintro e w3 ⟨way,a3,rfl,hway,tp3,ch3⟩
 have HS3:=hid (HST.out.tape ch3 tp3)
 have hn7:=next_tp w3 b capT a3 7 A L tp3 (by omega) (by omega)
 clear hn6 tp3 ch3
 go_wp2_with fail
 refine hn7.mono ?_
 rintro e w4 ⟨n4,a4,rfl,hn4,tp4,ch4⟩
 have HS4:=hid (HS3.out.tape ch4 tp4)
 have hn7:=next_tp w4 b capT a4 7 A L tp4 (by omega) (by omega)
 obtain ⟨dx,hdx⟩:∃ dx:Int,(n4:Int)-3=dx:=⟨_,rfl⟩
 have dx0 : -3≤dx:=by omega
 have dx1:dx≤3:=by omega
 clear tp4 ch4
 go_wp2_with fail
 refine hn7.mono ?_
 rintro e w5 ⟨n5,a5,rfl,hn5,tp5,ch5⟩
 have HS5:=hid (HS4.out.tape ch5 tp5)
 obtain ⟨dy,hdy⟩:∃ dy:Int,(n5:Int)-3=dy:=⟨_,rfl⟩
 have dy0 : -3≤dy:=by omega
 have dy1:dy≤3:=by omega
 clear hn7 tp5 ch5
 go_wp2_with fail
 clear hdx hdy hn4 hn5
 go_loopg [9,10,11,12,13,14] p.P.length (fun j v9 v10 v11 v12 v13 v14 wr=>∃ (i:Nat) (q:PicD) (xs:List Value) (gs:List Nat) (at':Nat),v9=.int .i64 i∧i+j=p.P.length∧Hid (AlSt w p g o cap b capT A L w.heap.size nb (w.heap.size+1) gP cP wr q xs gs at'))
 case atStart=>exact ⟨0,p,xs,gs,a5,rfl,by omega,HS5⟩
 case round =>
  obtain ⟨i,q,xs,gs,at1,rfl,hij,HS⟩:=hrel
  have n0:=HS.out.nbB.cell 0
  have n1:=HS.out.nbB.cell 1
  have n2:=HS.out.nbB.cell 2
  have n3:=HS.out.nbB.cell 3
  simp at n0 n1 n2 n3
  rcases gk with _ | j
  ·have hi:i=p.P.length:=by omega
   have t1:decide (i<p.P.length)=false:=zA (by omega)
   have r0:=HS.out.rbB.cell 0
   have r1:=HS.out.rbB.cell 1
   have r2:=HS.out.rbB.cell 2
   have r3:=HS.out.rbB.cell 3
   simp at r0 r1 r2 r3
   have z0:=HS.out.rbB.frozen 0
   have z1:=HS.out.rbB.frozen 1
   have z2:=HS.out.rbB.frozen 2
   have z3:=HS.out.rbB.frozen 3
   have hHI:=hid hi
   have hnr:nb≠w.heap.size+1:=fun e=>by
    have h1:=HS.out.nbB.cell 0
    have h2:=HS.out.rbB.cell 0
    rw [e,h2] at h1
    simp at h1
    omega
   clear hi
   go_wp2_with fail
   obtain ⟨rb,hrb⟩:∃ rb,rb=w.heap.size+1:=⟨_,rfl⟩
   have hrk:=HS.out.rbB
   rw [←hrb] at hrk ⊢
   obtain ⟨wE,hwE⟩:∃ wE,wE=(((wr.setCell ⟨rb,0,none⟩ (.int .i64 p.W)).setCell ⟨rb,1,none⟩ (.int .i64 p.H)).setCell ⟨rb,2,none⟩ (.int .i64 p.d)).setCell ⟨rb,3,none⟩ (.slice (some ⟨gP,0,none⟩) p.P.length cP):=⟨_,rfl⟩
   have hk9:Blk wE rb 25 #[.int .i64 p.W,.int .i64 p.H,.int .i64 p.d,.slice (some ⟨gP,0,none⟩) p.P.length cP]:=by
    rw [hwE]
    have:=(((hrk.set_ 0 (.int .i64 p.W)).set_ 1 (.int .i64 p.H)).set_ 2 (.int .i64 p.d)).set_ 3 (.slice (some ⟨gP,0,none⟩) p.P.length cP)
    simpa using this
   have chE:Chg [rb] wr wE:=by
    rw [hwE]
    exact ((((Chg.refl [rb] wr).setCell (p:=⟨rb,0,none⟩) (.inl (by simp)) _).setCell (p:=⟨rb,1,none⟩) (.inl (by simp)) _).setCell (p:=⟨rb,2,none⟩) (.inl (by simp)) _).setCell (p:=⟨rb,3,none⟩) (.inl (by simp)) _
   have g0:=hk9.cell 0
   have g1:=hk9.cell 1
   have g2:=hk9.cell 2
   have g3:=hk9.cell 3
   simp at g0 g1 g2 g3
   rw [←hwE]
   refine bodyPost_ret (v:=.agg #[.int .i64 p.W,.int .i64 p.H,.int .i64 p.d,.slice (some ⟨gP,0,none⟩) p.P.length cP]) (by simp [results,Tryz.results22,go_sem,g0,g1,g2,g3]) rfl ?_
   have hfar:=HS.out.far
   refine ⟨q,gP,cP,xs,gs,at1,?_,HS.out.own.chg chE ?_ ?_,HS.out.al,HS.out.tp.same chE ?_ (HS.out.tpA _ ?_),HS.out.chg.trans chE ?_,fun x hx=>(hfar x hx).1⟩
   ·rw [HS.out.al.W,HS.out.al.H,HS.out.al.d,HS.out.al.n]
   ·have:=(hfar gP (by simp)).2.2.2
    simp
    omega
   ·intro x hx
    have:=(hfar x (by simp [hx])).2.2.2
    simp
    omega
   ·simp
    omega
   ·intro x hx
    simp at hx
    omega
   ·intro x hx
    simp at hx
    right
    omega
  ·have hi:i<p.P.length:=by omega
   have t1:decide (i<p.P.length)=true:=zB hi
   by_cases hw5:way=5
   ·have t2:((way:Int)==5)=true:=by rw [beq_iff_eq];omega
    obtain ⟨gi,ci,hgi,hgm,hcell,hfroz,-,-⟩:=HS.out.at_ (N:=N) hi HNN.out
    have x0:=HS.out.bxB.cell 0
    have x1:=HS.out.bxB.cell 1
    have x2:=HS.out.bxB.cell 2
    simp at x0 x1 x2
    have hkeep:∀ wz,Chg [b] wr wz→wz.cell? ⟨gP,i,none⟩=some (.slice (some ⟨gi,0,none⟩) N ci)∧wz.frozen? ⟨gP,i,none⟩=false:=fun wz hz=>by
     have ho:=HS.out.old
     have hP:=(HS.out.far gP (by simp)).1
     have hr:=HS.out.own.row.chg hz (by simp;omega)
     obtain ⟨_,_,_,_,_,hfr⟩:=hr.open_
     exact ⟨(World.cell?_of_block (w:=wr) (hz.block gP HS.out.own.ltP (by simp;omega))).trans hcell,hfr i⟩
    have hkp2:∀ wz,Chg [b,gP] wr wz→wz.cell? ⟨nb,3,none⟩=some (.slice (some ⟨gP,0,none⟩) p.P.length cP)∧wz.cell? ⟨w.heap.size,0,none⟩=some (.int .i64 p.W)∧wz.cell? ⟨w.heap.size,1,none⟩=some (.int .i64 p.H)∧wz.cell? ⟨w.heap.size,2,none⟩=some (.int .i64 p.d):=fun wz hz=>by
     have ho:=HS.out.old
     obtain ⟨b1,b2,b3⟩:=HS.out.big
     obtain ⟨f1,f2,f3,f4⟩:=HS.out.far gP (by simp)
     have hb:=HS.out.nbB.chg hz (by simp;omega)
     have hx:=HS.out.bxB.chg hz (by simp;omega)
     exact ⟨hb.cell 3,hx.cell 0,hx.cell 1,hx.cell 2⟩
    have HKP2:=hid hkp2
    have hpl:=fun wz (hz:Chg [] wr wz)=>plane_tp wz b capT at1 p.W p.H p.d A L (HS.out.tp.fresh hz) hW1 hW64 hH1 hH64 hd0 hd1
    have HKEEP:=hid hkeep
    have HPL:=hid hpl
    have HI:=hid hi
    clear hkeep hkp2 hpl hgi hgm hw5
    go_wp2_with fail
    go_region_held3 (fun w'=>w'.cell? ⟨nb,3,none⟩=some (.slice (some ⟨gP,0,none⟩) p.P.length cP)∧w'.cell? ⟨w.heap.size,0,none⟩=some (.int .i64 p.W)∧w'.cell? ⟨w.heap.size,1,none⟩=some (.int .i64 p.H)∧w'.cell? ⟨w.heap.size,2,none⟩=some (.int .i64 p.d))
     (first | (go_keep;done) | exact HKP2.out _ (((Chg.refl [b,gP] wr).drew).trans_same (ch6.mono (by simp))) | exact HKP2.out _ ((((Chg.refl [b,gP] wr).drew).trans_same (ch6.mono (by simp))).setCell (.inl (by simp)) _) | trivial)
     (first | (go_at_call 41;refine (HPL.out _ ((Chg.refl [] wr).drew)).mono ?_;rintro e w6 ⟨v6,g6,l6,a6,rfl,hrow6,hl6,hs6,tp6,ch6,hg6⟩;obtain ⟨c6,rfl,-,-,-,-⟩:=hrow6.open_map;rw [hl6] at hrow6;have hc6:=(HKEEP.out _ (((Chg.refl [b] wr).drew).trans_same ch6)).1;have hf6:=(HKEEP.out _ (((Chg.refl [b] wr).drew).trans_same ch6)).2))
    have hnx:Hid (∃ q',AlSt w p g o cap b capT A L w.heap.size nb (w.heap.size+1) gP cP (w6.setCell ⟨gP,i,none⟩ (.slice (some ⟨g6,0,none⟩) (p.W*p.H) c6)) q' (xs.set i (.slice (some ⟨g6,0,none⟩) (p.W*p.H) c6)) (gs.set i g6) a6):=hid ((HS.out.same ((Chg.refl [] wr).drew)).plane (by rw [←HS.out.al.n];exact HI.out) ch6 tp6 hrow6 hg6 (by rw [hl6,HS.out.al.W,HS.out.al.H]) (by rw [←HS.out.al.d];exact hs6))
    clear hrow6 hl6 hs6 tp6 ch6 hg6 n0 n1 n2 n3 x0 x1 x2 hcell hfroz
    go_wp2_with fail
    go_roundg j
    case measure=>omega
    case rel =>
     obtain ⟨q',hq'⟩:=hnx.out
     exact ⟨i+1,q',_,_,a6,by go_num,by omega,hid hq'⟩
   ·have t2:((way:Int)==5)=false:=by rw [beq_eq_false_iff_ne];omega
    have HI:=hid hi
    clear hi hw5
    go_wp2_with fail
    obtain ⟨wr0,rfl⟩:∃ wr0,wr0=wr:=⟨_,rfl⟩
    go_loopg [10,11,12] N (fun j v10 v11 v12 wr=>∃ (k:Nat) (q:PicD) (xs:List Value) (gs:List Nat),v10=.int .i64 k∧k+j=N∧Hid (AlSt w p g o cap b capT A L w.heap.size nb (w.heap.size+1) gP cP wr q xs gs at1))
    case atStart=>exact ⟨0,q,xs,gs,rfl,by omega,HS⟩
    case round =>
     clear n0 n1 n2 n3
     obtain ⟨k,q,xs,gs,rfl,hkj,HK⟩:=hrel
     have n3:=HK.out.nbB.cell 3
     have x0:=HK.out.bxB.cell 0
     have x1:=HK.out.bxB.cell 1
     have x2:=HK.out.bxB.cell 2
     have x3:=HK.out.bxB.cell 3
     simp at n3 x0 x1 x2 x3
     have hcase:(decide (k<N)=false∨(decide (k<N)=true∧decide ((0:Int)<(way:Int))=false∧decide (0<way)=false))∨(decide (k<N)=true∧decide ((0:Int)<(way:Int))=true∧decide (0<way)=true∧∃ j2,gk=j2+1):=by
      by_cases hk:k<N
      ·by_cases hw0:way=0
       ·exact .inl (.inr ⟨zB hk,zA (by omega),zA (by omega)⟩)
       ·exact .inr ⟨zB hk,zB (by omega),zB (by omega),gk-1,by omega⟩
      ·exact .inl (.inl (zA hk))
     rcases hcase with (t3 | ⟨t3,t4,t4'⟩) | ⟨t3,t4,t4',j2,rfl⟩
     rotate_left 2
     ·have hk:k<N:=by omega
      obtain ⟨xm,hxm⟩:∃ xm,xm=k%p.W:=⟨_,rfl⟩
      obtain ⟨ym,hym⟩:∃ ym,ym=k / p.W:=⟨_,rfl⟩
      have hxm64:xm<64:=by have:=Nat.mod_lt k (show p.W>0 by omega);omega
      have hym64:ym<64:=by rw [hym];exact Nat.div_lt_of_lt_mul (by rw [Nat.mul_comm];omega)
      have ex1:(k:Int)%(p.W:Int)=(xm:Int):=by rw [hxm];simp
      have ey1:(k:Int) / (p.W:Int)=(ym:Int):=by rw [hym];simp
      have ex2:(k:Int).tmod (p.W:Int)=(xm:Int):=by rw [Int.tmod_eq_emod_of_nonneg (by omega)];exact ex1
      have ey2:(k:Int).tdiv (p.W:Int)=(ym:Int):=by rw [Int.tdiv_eq_ediv_of_nonneg (by omega)];exact ey1
      have hWne:(p.W:Int)≠0:=by omega
      obtain ⟨X,hX⟩:∃ X:Int,(xm:Int)+dx=X:=⟨_,rfl⟩
      obtain ⟨Y,hY⟩:∃ Y:Int,(ym:Int)+dy=Y:=⟨_,rfl⟩
      have hX0 : -10≤X:=by omega
      have hX1:X≤100:=by omega
      have hY0 : -10≤Y:=by omega
      have hY1:Y≤100:=by omega
      clear hxm hym
      go_wp2
      go_quiet (fail)
      clear hX hY ex1 ey1 ex2 ey2 hWne hxm64 hym64
      have hin:(decide ((0:Int)≤X)=false∨(decide ((0:Int)≤X)=true∧decide (X<(p.W:Int))=false)∨(decide ((0:Int)≤X)=true∧decide (X<(p.W:Int))=true∧decide ((0:Int)≤Y)=false)∨(decide ((0:Int)≤X)=true∧decide (X<(p.W:Int))=true∧decide ((0:Int)≤Y)=true∧decide (Y<(p.H:Int))=false))∨(0≤X∧X<(p.W:Int)∧0≤Y∧Y<(p.H:Int)):=by
       by_cases c1:0≤X
       ·by_cases c2:X<(p.W:Int)
        ·by_cases c3:0≤Y
         ·by_cases c4:Y<(p.H:Int)
          ·exact .inr ⟨c1,c2,c3,c4⟩
          ·exact .inl (.inr (.inr (.inr ⟨zB c1,zB c2,zB c3,zA c4⟩)))
         ·exact .inl (.inr (.inr (.inl ⟨zB c1,zB c2,zA c3⟩)))
        ·exact .inl (.inr (.inl ⟨zB c1,zA c2⟩))
       ·exact .inl (.inl (zA c1))
      obtain ⟨wy,hwy⟩:∃ wy,wy=wr.drewN nq:=⟨_,rfl⟩
      have HKy:Hid (AlSt w p g o cap b capT A L w.heap.size nb (w.heap.size+1) gP cP wy q xs gs at1):=hid (by rw [hwy];exact HK.out.same ((Chg.refl [] wr).drewN nq))
      rw [←hwy]
      clear hwy n3 x0 x1 x2 x3
      have n3:=HKy.out.nbB.cell 3
      have x0:=HKy.out.bxB.cell 0
      have x1:=HKy.out.bxB.cell 1
      have x3:=HKy.out.bxB.cell 3
      simp at n3 x0 x1 x3
      rcases hin with (t6 | ⟨t6,t7⟩ | ⟨t6,t7,t8⟩ | ⟨t6,t7,t8,t9⟩) | ⟨c1,c2,c3,c4⟩
      rotate_left 4
      ·obtain ⟨Xn,rfl⟩:∃ Xn:Nat,X=(Xn:Int):=⟨X.toNat,by omega⟩
       obtain ⟨Yn,rfl⟩:∃ Yn:Nat,Y=(Yn:Int):=⟨Y.toNat,by omega⟩
       have t7:decide (Xn<p.W)=true:=zB (by omega)
       have t9:decide (Yn<p.H)=true:=zB (by omega)
       obtain ⟨P0,hP0⟩:∃ P0,P0=Yn*p.W:=⟨_,rfl⟩
       have eP:(Yn:Int)*(p.W:Int)=(P0:Int):=by rw [hP0];simp
       have hf:=HFIT.out Xn Yn (by omega) (by omega)
       rw [←hP0] at hf
       obtain ⟨at2,hat⟩:∃ at2,at2=P0+Xn:=⟨_,rfl⟩
       have eQ:(P0:Int)+(Xn:Int)=(at2:Int):=by omega
       rw [←hat] at hf
       obtain ⟨bi,qi,hpi,hpv⟩:=HPC.out wy HKy.out.chg i HI.out
       obtain ⟨v,hv,hv0,hv1⟩:=hpv at2 hf
       obtain ⟨gi,ci,hgi,hgm,hcell,hfroz,hval,hfr⟩:=HKy.out.at_ (N:=N) HI.out HNN.out
       obtain ⟨v9,hv9,-,-⟩:=hval k hk
       have hfk:=hfr k
       have hii:=HI.out
       have hP4:P0≤4096:=by omega
       have hnx:Hid (∀ nq,∃ q',AlSt w p g o cap b capT A L w.heap.size nb (w.heap.size+1) gP cP ((wy.drewN nq).setCell ⟨gi,k,none⟩ (.int .i64 v)) q' xs gs at1):=hid (fun nq=>(HKy.out.same ((Chg.refl [] wy).drewN nq)).store (by rw [←HKy.out.al.n];exact HI.out) hgi (by rw [←HKy.out.al.W,←HKy.out.al.H,←HNN.out];exact hk) hv0 (by rw [←HKy.out.al.d];exact hv1))
       clear hP0 hat hpv hval hfr hgi hgm hv0 hv1 c1 c2 c3 c4
       go_wp2_with fail
       refine wp_region_quiet_tail 20 (by kernel_rfl) (by kernel_rfl) ?_
       simp only [List.take_succ_cons,List.take_zero,List.drop_succ_cons,List.drop_zero]
       repeat (go_big_quiet_step (fail))
       refine wpQuiet_nil ?_
       intro _ hw'
       obtain ⟨nq2,rfl⟩:=hw'
       go_wp2_with fail
       go_roundg j2
       case measure=>omega
       case rel =>
        obtain ⟨q',hq'⟩:=hnx.out nq2
        exact ⟨k+1,q',xs,gs,by go_num,by omega,hid hq'⟩
      all_goals
       go_wp2_with fail
       go_roundg j2
       case measure=>omega
       case rel=>exact ⟨k+1,q,xs,gs,by go_num,by omega,HKy⟩
     all_goals
      have hnn:=next_tp wr b capT at1 (way+1) A L HK.out.tp (by omega) (by omega)
      obtain ⟨way1,hw1⟩:∃ way1,way1=way+1:=⟨_,rfl⟩
      have ew1:(way:Int)+1=(way1:Int):=by omega
      rw [←hw1] at hnn
      have hway1:way1≤7:=by omega
      clear hw1
      go_wp2_with fail
      refine hnn.mono ?_
      rintro e w6 ⟨nn,a6,rfl,hn6,tp6,ch6⟩
      have HS6:=hid (HK.out.tape ch6 tp6)
      clear hnn tp6 ch6 n3 x0 x1 x2 x3
      go_wp2_with fail
      obtain ⟨wr1,rfl⟩:∃ wr1,wr1=wr:=⟨_,rfl⟩
      go_loopg [13,14] nn (fun j v13 v14 wr=>∃ (q:PicD) (xs:List Value) (gs:List Nat) (at':Nat),v13=.int .i64 j∧j≤nn∧Hid (AlSt w p g o cap b capT A L w.heap.size nb (w.heap.size+1) gP cP wr q xs gs at'))
      case atStart=>exact ⟨_,_,_,_,rfl,Nat.le_refl _,HS6⟩
      case round =>
       obtain ⟨q,xs,gs,a7,rfl,hjn,HJ⟩:=hrel
       have n3:=HJ.out.nbB.cell 3
       have x0:=HJ.out.bxB.cell 0
       have x1:=HJ.out.bxB.cell 1
       have x2:=HJ.out.bxB.cell 2
       simp at n3 x0 x1 x2
       rcases gk with _ | j3
       ·have t5:decide ((0:Int)<((0:Nat):Int))=false:=by decide
        go_wp2_with fail
        go_roundg j
        case measure=>omega
        case rel=>exact ⟨i+1,q,xs,gs,a7,by go_num,by omega,HJ⟩
       ·obtain ⟨m3,hm3⟩:∃ m3,m3=j3+1:=⟨_,rfl⟩
        rw [←hm3]
        have t5:decide ((0:Int)<(m3:Int))=true:=zB (by omega)
        have t5':decide (0<m3)=true:=zB (by omega)
        have em3:(m3:Int)-1=(j3:Int):=by omega
        have hnN:=next_tp wr b capT a7 N A L HJ.out.tp hN0 (by omega)
        have HM3:=hid hm3
        clear hm3
        go_wp2_with fail
        refine hnN.mono ?_
        rintro e w8 ⟨k,a8,rfl,hk8,tp8,ch8⟩
        have HS8:=hid (HJ.out.tape ch8 tp8)
        obtain ⟨gi,ci,hgi,hgm,hcell,hfroz,hval,hfr⟩:=HS8.out.at_ (N:=N) HI.out HNN.out
        obtain ⟨v,hv,hv0,hv1⟩:=hval k hk8
        have hfk:=hfr k
        obtain ⟨hpw0,hpw1⟩:=pow_d hd0 hd1
        have hv2:v<65536:=by omega
        have n3:=HS8.out.nbB.cell 3
        have x2:=HS8.out.bxB.cell 2
        simp at n3 x2
        have hkeep:∀ wz,Chg [b,gi] w8 wz→wz.cell? ⟨nb,3,none⟩=some (.slice (some ⟨gP,0,none⟩) p.P.length cP)∧wz.cell? ⟨w.heap.size,2,none⟩=some (.int .i64 p.d)∧wz.cell? ⟨gP,i,none⟩=some (.slice (some ⟨gi,0,none⟩) N ci):=fun wz hz=>by
         have ho:=HS8.out.old
         obtain ⟨b1,b2,b3⟩:=HS8.out.big
         obtain ⟨f1,f2,f3,f4⟩:=HS8.out.far gi (by simp [hgm])
         have hP:=(HS8.out.far gP (by simp)).1
         have hne:=HS8.out.own.neP (by rw [←HS8.out.al.n];exact HI.out) hgi
         have hb:=HS8.out.nbB.chg hz (by simp;omega)
         have hx:=HS8.out.bxB.chg hz (by simp;omega)
         exact ⟨hb.cell 3,hx.cell 2,(World.cell?_of_block (w:=w8) (hz.block gP HS8.out.own.ltP (by simp;exact ⟨by omega,hne⟩))).trans hcell⟩
        have hkp2:∀ wz,Chg [b] w8 wz→wz.cell? ⟨gi,k,none⟩=some (.int .i64 v)∧wz.frozen? ⟨gi,k,none⟩=false:=fun wz hz=>by
         have h9:=HS8.out.own.pl.lt gi hgm
         have ho:=HS8.out.old
         have hP:=(HS8.out.far gi (by simp [hgm])).1
         have hbl:=hz.block gi h9 (by simp;omega)
         exact ⟨(World.cell?_of_block (w:=w8) hbl).trans hv,(World.frozen?_of_block (w:=w8) hbl).trans hfk⟩
        have hn9:=fun wz (hz:Chg [] w8 wz)=>next_tp wz b capT a8 9 A L (HS8.out.tp.fresh hz) (by omega) (by omega)
        have hwv:∀ n9:Nat,n9<9→IntKind.i64.wrap (v+1+(n9:Int))=v+1+(n9:Int):=fun n9 h=>IntWalk.i64_in _ (by omega)
        have hwv1:IntKind.i64.wrap (v+1)=v+1:=IntWalk.i64_in _ (by omega)
        have HKEEP:=hid hkeep
        have HKP2:=hid hkp2
        have HN9:=hid hn9
        have HGI:=hid hgi
        have HK8:=hid hk8
        have hI0:(0:Int)≤(i:Int):=by omega
        have hI1:(i:Int)<(p.P.length:Int):=by have:=HI.out;omega
        have hI2:(i:Int)≤(p.P.length:Int):=by omega
        have hK0:(0:Int)≤(k:Int):=by omega
        have hK1:(k:Int)<(N:Int):=by omega
        have hK2:(k:Int)≤(N:Int):=by omega
        clear hkeep hkp2 hn9 hgi hgm hfr hval hk8 tp8 ch8 hnN x0 x1 hv0 hv1 hpw0 hpw1
        go_wp2_with fail
        have hS8:AlS nb gP cP p.P.length i gi N ci k p.d w.heap.size v w8.drew:=⟨n3,x2,hcell,hv⟩
        refine wp_region_headH 21 (by kernel_rfl) (by decide) hS8 ?_
        refine hT (i:=0) (v:=?_) (by decide +kernel) rfl (fun _ _ _ h=>h) (by rfl) (by assumption) ?_ ?_
        rotate_left
        ·(rintro _ ⟨_,_,_,_⟩;go_simp;try with_reducible rfl)
        try simp only [Act.put,List.setIfInBounds_toArray,List.set_cons_zero,List.set_cons_succ]
        refine hT (i:=1) (v:=?_) (by decide +kernel) rfl (fun _ _ _ h=>h) (by rfl) (by assumption) ?_ ?_
        rotate_left
        ·(rintro _ ⟨_,_,_,_⟩;go_simp;try with_reducible rfl)
        try simp only [Act.put,List.setIfInBounds_toArray,List.set_cons_zero,List.set_cons_succ]
        refine hT (i:=2) (v:=?_) (by decide +kernel) rfl (fun _ _ _ h=>h) (by rfl) (by assumption) ?_ ?_
        rotate_left
        ·(rintro _ ⟨_,_,_,_⟩;go_simp;try with_reducible rfl)
        try simp only [Act.put,List.setIfInBounds_toArray,List.set_cons_zero,List.set_cons_succ]
        refine hT (i:=3) (v:=?_) (by decide +kernel) rfl (fun _ _ _ h=>h) (by rfl) (by assumption) ?_ ?_
        rotate_left
        ·(rintro _ ⟨_,_,_,_⟩;go_simp;try with_reducible rfl)
        try simp only [Act.put,List.setIfInBounds_toArray,List.set_cons_zero,List.set_cons_succ]
        refine hT (i:=4) (v:=?_) (by decide +kernel) rfl (fun _ _ _ h=>h) (by rfl) (by assumption) ?_ ?_
        rotate_left
        ·(rintro _ ⟨_,_,_,_⟩;go_simp;try with_reducible rfl)
        try simp only [Act.put,List.setIfInBounds_toArray,List.set_cons_zero,List.set_cons_succ]
        refine hT (i:=5) (v:=?_) (by decide +kernel) rfl (fun _ _ _ h=>h) (by rfl) (by assumption) ?_ ?_
        rotate_left
        ·(rintro _ ⟨_,_,_,_⟩;go_simp;try with_reducible rfl)
        try simp only [Act.put,List.setIfInBounds_toArray,List.set_cons_zero,List.set_cons_succ]
        refine hT (i:=6) (v:=?_) (by decide +kernel) rfl (fun _ _ _ h=>h) (by rfl) (by assumption) ?_ ?_
        rotate_left
        ·(rintro _ ⟨_,_,_,_⟩;go_simp;try with_reducible rfl)
        try simp only [Act.put,List.setIfInBounds_toArray,List.set_cons_zero,List.set_cons_succ]
        refine hT (i:=7) (v:=?_) (by decide +kernel) rfl (fun _ _ _ h=>h) (by rfl) (by assumption) ?_ ?_
        rotate_left
        ·(rintro _ ⟨_,_,_,_⟩;go_simp;try with_reducible rfl)
        try simp only [Act.put,List.setIfInBounds_toArray,List.set_cons_zero,List.set_cons_succ]
        refine hT (i:=8) (v:=?_) (by decide +kernel) rfl (fun _ _ _ h=>h) (by rfl) (by assumption) ?_ ?_
        rotate_left
        ·(rintro _ ⟨_,_,_,_⟩;go_simp;try with_reducible rfl)
        try simp only [Act.put,List.setIfInBounds_toArray,List.set_cons_zero,List.set_cons_succ]
        refine hT (i:=9) (v:=?_) (by decide +kernel) rfl (fun _ _ _ h=>h) (by rfl) (by assumption) ?_ ?_
        rotate_left
        ·(rintro _ ⟨_,_,_,_⟩;go_simp;try with_reducible rfl)
        try simp only [Act.put,List.setIfInBounds_toArray,List.set_cons_zero,List.set_cons_succ]
        refine hT (i:=10) (v:=?_) (by decide +kernel) rfl (fun _ _ _ h=>h) (by rfl) (by assumption) ?_ ?_
        rotate_left
        ·(rintro _ ⟨_,_,_,_⟩;go_simp;try with_reducible rfl)
        try simp only [Act.put,List.setIfInBounds_toArray,List.set_cons_zero,List.set_cons_succ]
        refine hT (i:=11) (v:=?_) (by decide +kernel) rfl (fun _ _ _ h=>h) (by rfl) (by assumption) ?_ ?_
        rotate_left
        ·(rintro _ ⟨_,_,_,_⟩;go_simp;try with_reducible rfl)
        try simp only [Act.put,List.setIfInBounds_toArray,List.set_cons_zero,List.set_cons_succ]
        refine hT (i:=12) (v:=?_) (by decide +kernel) rfl (fun _ _ _ h=>h) (by rfl) (by assumption) ?_ ?_
        rotate_left
        ·(rintro _ ⟨_,_,_,_⟩;go_simp;try with_reducible rfl)
        try simp only [Act.put,List.setIfInBounds_toArray,List.set_cons_zero,List.set_cons_succ]
        refine hT (i:=13) (v:=?_) (by decide +kernel) rfl (fun _ _ _ h=>h) (by rfl) (by assumption) ?_ ?_
        rotate_left
        ·(rintro _ ⟨_,_,_,_⟩;go_simp;try with_reducible rfl)
        try simp only [Act.put,List.setIfInBounds_toArray,List.set_cons_zero,List.set_cons_succ]
        refine hT (i:=14) (v:=?_) (by decide +kernel) rfl (fun _ _ _ h=>h) (by rfl) (by assumption) ?_ ?_
        rotate_left
        ·(rintro _ ⟨_,_,_,_⟩;go_simp;try with_reducible rfl)
        try simp only [Act.put,List.setIfInBounds_toArray,List.set_cons_zero,List.set_cons_succ]
        refine hT (i:=15) (v:=?_) (by decide +kernel) rfl (fun _ _ _ h=>h) (by rfl) (by assumption) ?_ ?_
        rotate_left
        ·(rintro _ ⟨_,_,_,_⟩;go_simp;try with_reducible rfl)
        try simp only [Act.put,List.setIfInBounds_toArray,List.set_cons_zero,List.set_cons_succ]
        refine hT (i:=18) (v:=?_) (by decide +kernel) rfl (fun _ _ _ h=>h) (by rfl) (by assumption) ?_ ?_
        rotate_left
        ·(rintro _ ⟨_,_,_,_⟩;go_simp;try with_reducible rfl)
        try simp only [Act.put,List.setIfInBounds_toArray,List.set_cons_zero,List.set_cons_succ]
        refine hT (i:=19) (v:=?_) (by decide +kernel) rfl (fun _ _ _ h=>h) (by rfl) (by assumption) ?_ ?_
        rotate_left
        ·(rintro _ ⟨_,_,_,_⟩;go_simp;try with_reducible rfl)
        try simp only [Act.put,List.setIfInBounds_toArray,List.set_cons_zero,List.set_cons_succ]
        refine hH_one (i:=16) rfl (by decide) (by decide +kernel) ?_
        intro K' hK'
        go_simp
        go_at_call 31
        refine (HN9.out _ ((Chg.refl [] w8).drew)).mono ?_
        rintro e w9 ⟨n9,a9,rfl,hn9,tp9,ch9⟩
        have hc9:=(HKP2.out _ (((Chg.refl [b] w8).drew).trans_same ch9)).1
        have hf9:=(HKP2.out _ (((Chg.refl [b] w8).drew).trans_same ch9)).2
        have hw9:=hwv n9 hn9
        obtain ⟨m9a,m9b,m9c⟩:=HKEEP.out _ (((Chg.refl [b,gi] w8).drew).trans_same (ch9.mono (by simp)))
        have hS9:AlS nb gP cP p.P.length i gi N ci k p.d w.heap.size v w9:=⟨m9a,m9b,m9c,hc9⟩
        refine hK'.out _ _ hS9 ?_
        clear hK' K'
        try simp only [Act.put,List.setIfInBounds_toArray,List.set_cons_zero,List.set_cons_succ]
        refine hT (i:=17) (v:=?_) (by decide +kernel) rfl (fun _ _ _ h=>h) (by rfl) (by assumption) ?_ ?_
        rotate_left
        ·(rintro _ ⟨_,_,_,_⟩;go_simp;try with_reducible rfl)
        try simp only [Act.put,List.setIfInBounds_toArray,List.set_cons_zero,List.set_cons_succ]
        refine hH_one (i:=20) rfl (by decide) (by decide +kernel) ?_
        intro K' hK'
        go_simp
        go_at_call 43
        refine (HWR.out _ _).mono ?_
        rintro e w' ⟨rfl,rfl⟩
        refine hK'.out _ _ hS9 ?_
        clear hK' K'
        try simp only [Act.put,List.setIfInBounds_toArray,List.set_cons_zero,List.set_cons_succ]
        refine hH_done (by decide +kernel) ?_
        simp only [List.drop_succ_cons,List.drop_zero,List.toList_toArray]
        have hnx:Hid (∃ q',AlSt w p g o cap b capT A L w.heap.size nb (w.heap.size+1) gP cP (w9.setCell ⟨gi,k,none⟩ (.int .i64 (wrapI (v+1+(n9:Int)) p.d))) q' xs gs a9):=hid (((HS8.out.same ((Chg.refl [] w8).drew)).tape ch9 tp9).store (by rw [←HS8.out.al.n];exact HI.out) HGI.out (by rw [←HS8.out.al.W,←HS8.out.al.H,←HNN.out];exact HK8.out) (wrapI_lo _ _) (by rw [←HS8.out.al.d];exact wrapI_hi _ _))
        clear ch9 tp9 hw9 hv hfk n3 x2 hcell hfroz hwv hwv1
        go_wp2_with fail
        go_roundg j3
        case measure=>omega
        case rel =>
         obtain ⟨q',hq'⟩:=hnx.out
         have:=HM3.out
         exact ⟨q',xs,gs,a9,by go_num,by omega,hid hq'⟩
def TwoPost (w:World) (A:Option Addr) (cap:Nat) (L:List Int) (side:Nat) (e:Ending) (w':World):Prop :=
 ∃ (p q:PicD) (gP cP gQ cQ b at':Nat) (xs xq:List Value) (gs gq:List Nat),e=.returned (.tuple #[picV p gP 0 cP,picV q gQ 0 cQ,.pointer (some ⟨b,0,none⟩)])∧PicOwn w' p gP cP xs gs∧PicOwn w' q gQ cQ xq gq∧AlikeD p q∧p.W≤side∧p.H≤side ∧
  IsTp w' b A cap L at'∧Chg [] w w'∧w.heap.size≤b∧(∀ x∈gP::gs,b<x)∧∀ x∈gQ::gq,b<x
theorem two_ok (w:World) (A:Option Addr) (cap:Nat) (L:List Int) (side:Nat) (hc:Cells vi w A L) (hin:∀ x∈L,In64 x) (hlen:L.length≤9223372036854775807) (hs0:1≤side) (hs1:side≤64) :
  Calls Tryz.prog 6 #[.slice A L.length cap,.int .i64 side] w (TwoPost w A cap L side):=by
 unfold TwoPost
 obtain ⟨wA,hwA⟩:∃ wA,wA=(w.alloc (.cells #[.int .i64 0,.int .i64 0,.int .i64 0,.slice none 0 0] 25)).alloc (.cells #[.int .i64 0,.int .i64 0,.int .i64 0,.slice none 0 0] 25):=⟨_,rfl⟩
 have chA:Chg [] w wA:=by rw [hwA];exact ((Chg.refl [] w).alloc _).alloc _
 have hr4:Blk wA w.heap.size 25 #[.int .i64 0,.int .i64 0,.int .i64 0,.slice none 0 0]:=by rw [hwA];exact (Blk.new w _ _).alloc _
 have hr5:Blk wA (w.heap.size+1) 25 #[.int .i64 0,.int .i64 0,.int .i64 0,.slice none 0 0]:=by rw [hwA];exact Blk.new2 w _ _ _
 have hsA:wA.heap.size=w.heap.size+1+1:=by rw [hwA,alloc_size,alloc_size]
 have hnew:=tape_new wA A cap L (hc.same chA) hin hlen
 have HWA:=hid hwA
 have HCA:=hid chA
 have HR4:=hid hr4
 have HR5:=hid hr5
 have HSA:=hid hsA
 have hap:∀ F:List Nat,(∀ x∈F,w.heap.size≤x)→Apt A L F:=fun F hF=>Apt.fresh hc hF
 have HAP:=hid hap
 clear hwA chA hr4 hr5 hsA hc hin hlen hap
 go_enter Tryz.func6,Tryz.ntmps6
 go_wp2_with fail
 rw [←HWA.out]
 refine hnew.mono ?_
 rintro e w1 ⟨b,rfl,htp,ch1,hb⟩
 have hpc:=pic_tp w1 b cap 0 side A L htp hs0 hs1
 have HC1:=hid ch1
 have HBB:Hid (wA.heap.size≤b∧b<w1.heap.size):=hid ⟨hb,htp.blk.lt⟩
 clear hnew htp ch1 hb
 go_wp2_with fail
 refine hpc.mono ?_
 rintro e w2 ⟨p,gP,cP,xs,gs,at1,rfl,hWs,hHs,hown,htp2,ch2,hgn⟩
 have hat:=hown.at_
 have hbG:b∉gP::gs:=fun hm=>by have:=hgn b hm;have:=HBB.out;omega
 have htl:=fun wz (hz:Chg [] w2 wz) (tp:IsTp wz b A cap L at1)=>talike_tp cP (hat.same hz) b cap at1 A L tp hbG
 unfold TapeAlikePost at htl
 unfold picV at htl ⊢
 obtain ⟨nb,hnb⟩:∃ nb,nb=w2.heap.size:=⟨_,rfl⟩
 obtain ⟨w3,hw3⟩:∃ w3,w3=w2.alloc (.cells #[.int .i64 p.W,.int .i64 p.H,.int .i64 p.d,.slice (some ⟨gP,0,none⟩) p.P.length cP] 25):=⟨_,rfl⟩
 have ch3:Chg [] w2 w3:=by rw [hw3];exact (Chg.refl [] w2).alloc _
 have hbk:Blk w3 nb 25 #[.int .i64 p.W,.int .i64 p.H,.int .i64 p.d,.slice (some ⟨gP,0,none⟩) p.P.length cP]:=by rw [hw3,hnb];exact Blk.new w2 _ _
 have hC13:Chg [b] wA w3:=((HC1.out.mono (by simp)).trans_same ch2).trans_same (ch3.mono (by simp))
 have hlt4:=HR4.out.lt
 have hlt5:=HR5.out.lt
 have hs1:=HC1.out.size
 have hs2:=ch2.size
 have hbk4:∀ wz,Chg [b] w3 wz→Blk wz w.heap.size 25 #[.int .i64 0,.int .i64 0,.int .i64 0,.slice none 0 0]∧Blk wz (w.heap.size+1) 25 #[.int .i64 0,.int .i64 0,.int .i64 0,.slice none 0 0]:=fun wz hz=>by
  have h1:=HBB.out
  exact ⟨(HR4.out.chg hC13 (by simp;omega)).chg hz (by simp;omega),(HR5.out.chg hC13 (by simp;omega)).chg hz (by simp;omega)⟩
 have hk:∀ (F:List Nat) wz,Chg F w3 wz→nb∉F→wz.cell? ⟨nb,0,none⟩=some (.int .i64 p.W)∧wz.cell? ⟨nb,1,none⟩=some (.int .i64 p.H)∧wz.cell? ⟨nb,2,none⟩=some (.int .i64 p.d)∧wz.cell? ⟨nb,3,none⟩=some (.slice (some ⟨gP,0,none⟩) p.P.length cP):=fun F wz hz hF=>⟨(hbk.chg hz hF).cell 0,(hbk.chg hz hF).cell 1,(hbk.chg hz hF).cell 2,(hbk.chg hz hF).cell 3⟩
 have hn4:nb≠w.heap.size:=by omega
 have hn5:nb≠w.heap.size+1:=by omega
 have hbn:nb≠b:=by have:=HBB.out;omega
 have HTL:=hid (htl w3.drew (ch3.drew) ((htp2.fresh ch3).fresh (Chg.refl [] w3).drew))
 have HOWN:=hid (hown.same ch3)
 have HGN:Hid (∀ x∈gP::gs,b<x∧w.heap.size+1<x∧x<nb):=hid (fun x hx=>by
  have h1:=hgn x hx
  have h2:=HBB.out
  have h3:=HSA.out
  refine ⟨by omega,by omega,?_⟩
  rw [hnb]
  rcases List.mem_cons.1 hx with rfl | h4
  ·exact hown.ltP
  ·exact hown.pl.lt x h4)
 have HBK4:=hid hbk4
 have HK:=hid hk
 have HC13:=hid hC13
 have HW3:=hid hw3
 have HNB:=hid hnb
 have HZ3:Hid (nb<w3.heap.size):=hid hbk.lt
 clear htl hown hat htp2 ch2 hgn hbG hnb hw3 ch3 hbk hC13 hlt4 hlt5 hs1 hs2 hbk4 hk hpc
 go_wp2_with fail
 rw [←HW3.out,←HNB.out]
 obtain ⟨n0,n1,n2,n3⟩:=HK.out [] w3 (Chg.refl _ _) (by simp)
 go_region_law (first | (go_simp;go_at_call 22;refine HTL.out.mono ?_;rintro e w6 ⟨q,gQ,cQ,xq,gq,a6,rfl,hown6,hal6,tp6,ch6,hg6⟩;have hbb4:=(HBK4.out _ (((Chg.refl [b] w3).drew).trans_same ch6)).1;have hbb5:=(HBK4.out _ (((Chg.refl [b] w3).drew).trans_same ch6)).2;have z0:=hbb4.frozen 0;have z1:=hbb4.frozen 1;have z2:=hbb4.frozen 2;have z3:=hbb4.frozen 3;have y0:=hbb5.frozen 0;have y1:=hbb5.frozen 1;have y2:=hbb5.frozen 2;have y3:=hbb5.frozen 3;have r0:=hbb4.cell 0;have r1:=hbb4.cell 1;have r2:=hbb4.cell 2;have r3:=hbb4.cell 3;have q0:=hbb5.cell 0;have q1:=hbb5.cell 1;have q2:=hbb5.cell 2;have q3:=hbb5.cell 3;obtain ⟨m0,m1,m2,m3⟩:=HK.out [b] w6 (((Chg.refl [b] w3).drew).trans_same ch6) (by simpa using hbn);simp at r0 r1 r2 r3 q0 q1 q2 q3))
 all_goals
  have HB4:=hid hbb4
  have HB5:=hid hbb5
  have HO6:=hid hown6
  have HA6:=hid hal6
  have HT6:=hid tp6
  have HC6:=hid (((Chg.refl [b] w3).drew).trans_same ch6)
  have HG6:=hid hg6
  clear hbb4 hbb5 hown6 hal6 tp6 ch6 hg6 z0 z1 z2 z3 y0 y1 y2 y3 r0 r1 r2 r3 q0 q1 q2 q3 m0 m1 m2 m3 n0 n1 n2 n3
  go_wp2_with fail
  obtain ⟨ra,hra⟩:∃ ra,ra=w.heap.size:=⟨_,rfl⟩
  obtain ⟨rb,hrb⟩:∃ rb,rb=w.heap.size+1:=⟨_,rfl⟩
  have h4:=HB4.out
  have h5:=HB5.out
  rw [←hra] at h4
  rw [←hrb] at h5
  rw [←hra,show ra+1=rb by omega]
  obtain ⟨wE,hwE⟩:∃ wE,wE=(((((((w6.setCell ⟨ra,0,none⟩ (.int .i64 p.W)).setCell ⟨ra,1,none⟩ (.int .i64 p.H)).setCell ⟨ra,2,none⟩ (.int .i64 p.d)).setCell ⟨ra,3,none⟩ (.slice (some ⟨gP,0,none⟩) p.P.length cP)).setCell ⟨rb,0,none⟩ (.int .i64 q.W)).setCell ⟨rb,1,none⟩ (.int .i64 q.H)).setCell ⟨rb,2,none⟩ (.int .i64 q.d)).setCell ⟨rb,3,none⟩ (.slice (some ⟨gQ,0,none⟩) q.P.length cQ):=⟨_,rfl⟩
  have hne:ra≠rb:=by omega
  have hk4:Blk wE ra 25 #[.int .i64 p.W,.int .i64 p.H,.int .i64 p.d,.slice (some ⟨gP,0,none⟩) p.P.length cP]:=by
   rw [hwE]
   have:=((((((((h4.set_ 0 (.int .i64 p.W)).set_ 1 (.int .i64 p.H)).set_ 2 (.int .i64 p.d)).set_ 3 (.slice (some ⟨gP,0,none⟩) p.P.length cP)).far (p:=⟨rb,0,none⟩) hne (.int .i64 q.W)).far (p:=⟨rb,1,none⟩) hne (.int .i64 q.H)).far (p:=⟨rb,2,none⟩) hne (.int .i64 q.d)).far (p:=⟨rb,3,none⟩) hne (.slice (some ⟨gQ,0,none⟩) q.P.length cQ))
   simpa using this
  have hk5:Blk wE rb 25 #[.int .i64 q.W,.int .i64 q.H,.int .i64 q.d,.slice (some ⟨gQ,0,none⟩) q.P.length cQ]:=by
   rw [hwE]
   have:=((((((((h5.far (p:=⟨ra,0,none⟩) hne.symm (.int .i64 p.W)).far (p:=⟨ra,1,none⟩) hne.symm (.int .i64 p.H)).far (p:=⟨ra,2,none⟩) hne.symm (.int .i64 p.d)).far (p:=⟨ra,3,none⟩) hne.symm (.slice (some ⟨gP,0,none⟩) p.P.length cP)).set_ 0 (.int .i64 q.W)).set_ 1 (.int .i64 q.H)).set_ 2 (.int .i64 q.d)).set_ 3 (.slice (some ⟨gQ,0,none⟩) q.P.length cQ))
   simpa using this
  have chE:Chg [ra,rb] w6 wE:=by
   rw [hwE]
   exact ((((((((Chg.refl [ra,rb] w6).setCell (p:=⟨ra,0,none⟩) (.inl (by simp)) _).setCell (p:=⟨ra,1,none⟩) (.inl (by simp)) _).setCell (p:=⟨ra,2,none⟩) (.inl (by simp)) _).setCell (p:=⟨ra,3,none⟩) (.inl (by simp)) _).setCell (p:=⟨rb,0,none⟩) (.inl (by simp)) _).setCell (p:=⟨rb,1,none⟩) (.inl (by simp)) _).setCell (p:=⟨rb,2,none⟩) (.inl (by simp)) _).setCell (p:=⟨rb,3,none⟩) (.inl (by simp)) _
  have g0:=hk4.cell 0
  have g1:=hk4.cell 1
  have g2:=hk4.cell 2
  have g3:=hk4.cell 3
  have l0:=hk5.cell 0
  have l1:=hk5.cell 1
  have l2:=hk5.cell 2
  have l3:=hk5.cell 3
  simp at g0 g1 g2 g3 l0 l1 l2 l3
  rw [←hwE]
  refine bodyPost_ret (v:=.tuple #[.agg #[.int .i64 p.W,.int .i64 p.H,.int .i64 p.d,.slice (some ⟨gP,0,none⟩) p.P.length cP],.agg #[.int .i64 q.W,.int .i64 q.H,.int .i64 q.d,.slice (some ⟨gQ,0,none⟩) q.P.length cQ],.pointer (some ⟨b,0,none⟩)]) (by simp [results,Tryz.results6,go_sem,g0,g1,g2,g3,l0,l1,l2,l3]) rfl ?_
  have hbb:=HBB.out
  have hsA:=HSA.out
  have hz3:=HZ3.out
  have hgn:=HGN.out
  have hgg:=hgn gP (by simp)
  have hd3:w3.drew.heap.size=w3.heap.size:=rfl
  have hg6:=HG6.out
  rw [hd3] at hg6
  have hfar:∀ x,w.heap.size+1<x→x∉[ra,rb]:=fun x hx=>by simp;omega
  have hp6:PicOwn w6 p gP cP xs gs:=HOWN.out.chg HC6.out (by have:=(hgn gP (by simp)).1;simp;omega) (fun x hx=>by have:=(hgn x (by simp [hx])).1;simp;omega)
  refine ⟨p,q,gP,cP,gQ,cQ,b,a6,xs,xq,gs,gq,rfl,hp6.chg chE (hfar _ (hgn gP (by simp)).2.1) (fun x hx=>hfar _ (hgn x (by simp [hx])).2.1),HO6.out.chg chE (hfar _ (by have:=hg6 gQ (by simp);omega)) (fun x hx=>hfar _ (by have:=hg6 x (by simp [hx]);omega)),HA6.out,hWs,hHs,?_,?_,by omega,fun x hx=>(hgn x hx).1,fun x hx => ?_⟩
  ·refine HT6.out.same chE (hfar _ (by omega)) (HAP.out _ ?_)
   intro x hx
   simp at hx
   omega
  ·refine ((HCA.out.trans_same ?_)).trans chE ?_
   ·exact (Chg.refl [] wA).trans (HC13.out.trans_same HC6.out) (fun x hx=>by simp at hx;right;omega)
   ·intro x hx
    simp at hx
    right
    omega
  ·have:=hg6 x hx
   omega
theorem mback_ok (w:World) (A:Option Addr) (cap:Nat) (L:List Int) (hc:Cells vi w A L) (hin:∀ x∈L,In64 x) (hlen:L.length≤9223372036854775807) (hp:Pts w) :
  Calls Tryz.prog 3 #[.slice A L.length cap] w fun e w'=>e=.returned (.bool true)∧Chg [] w w':=by
 have htw:=two_ok w A cap L 24 hc hin hlen (by omega) (by omega)
 have HP:=hid hp
 clear hc hin hlen hp
 go_enter Tryz.func3,Tryz.ntmps3
 go_wp2_with fail
 refine htw.mono ?_
 rintro e wA ⟨p,q,gP,cP,gQ,cQ,b,at1,xs,xq,gs,gq,rfl,ownP,ownQ,hal,-,-,htp,chA,hbw,hbP,hbQ⟩
 have hbP':b∉gP::gs:=fun hm=>by have:=hbP b hm;omega
 have hbQ':b∉gQ::gq:=fun hm=>by have:=hbQ b hm;omega
 have hdj:∀ G:List Nat,b∉G→∀ x∈G,x∉[b]:=fun G hG x hx hm=>by simp at hm;subst hm;exact hG hx
 have hqok:=ownQ.ok
 have hpok:=ownP.ok
 have hpts:∀ wz,Chg [b] wA wz→Pts wz:=fun wz hz=>(HP.out.same chA).chg hz (by have:=HP.out.lt;simp;omega)
 have atP:=fun wz (hz:Chg [b] wA wz)=>ownP.at_.chg hz (hdj _ hbP')
 have atQ:=fun wz (hz:Chg [b] wA wz)=>ownQ.at_.chg hz (hdj _ hbQ')
 have hgr:gridL p.W p.H 8=gridL q.W q.H 8:=by rw [hal.W,hal.H]
 have hen:=fun wz (hz:Chg [b] wA wz)=>encode_ok cP (atP wz hz) cQ (atQ wz hz) hal (hpts wz hz)
 have hmv:=fun wz (tp:IsTp wz b A cap L at1)=>moves_ok hpok gP 0 cP b cap at1 A L tp
 have hby:=fun wz (hz:Chg [b] wA wz) AM capM ms h1 h2 h3=>by_ok cP (atP wz hz) cQ (atQ wz hz) hal (hpts wz hz) AM capM ms h1 h2 h3
 have hde:=fun wz (hz:Chg [b] wA wz) (A':Option Addr) (capA:Nat) (ms:List (Int × Int)) h1 h2 h3 h4 h5 h6=>decode_ok cP (atP wz hz) hqok hal (hpts wz hz) A' capA ms h1 h2 h3 h4 h5 h6
 have hsm:=fun wz (hz:Chg [b] wA wz) gR capR xr gr (ho:PicOwn wz q gR capR xr gr)=>picSame_ok capR ho.at_ cQ (atQ wz hz) rfl rfl rfl rfl
 have hkn:=fun wz (hz:Chg [b] wA wz)=>mknown_ok wz (hpts wz hz)
 unfold DecPost at hde
 unfold picV at hen hmv hby hde hsm ⊢
 obtain ⟨ra,hra⟩:∃ ra,ra=wA.heap.size:=⟨_,rfl⟩
 obtain ⟨w1,hw1⟩:∃ w1,w1=((wA.alloc (.cells #[.int .i64 p.W,.int .i64 p.H,.int .i64 p.d,.slice (some ⟨gP,0,none⟩) p.P.length cP] 25)).alloc (.cells #[.int .i64 q.W,.int .i64 q.H,.int .i64 q.d,.slice (some ⟨gQ,0,none⟩) q.P.length cQ] 25)):=⟨_,rfl⟩
 have ch1:Chg [] wA w1:=by rw [hw1];exact ((Chg.refl [] wA).alloc _).alloc _
 have hb1:Blk w1 ra 25 #[.int .i64 p.W,.int .i64 p.H,.int .i64 p.d,.slice (some ⟨gP,0,none⟩) p.P.length cP]:=by rw [hw1,hra];exact (Blk.new wA _ _).alloc _
 have hb2:Blk w1 (ra+1) 25 #[.int .i64 q.W,.int .i64 q.H,.int .i64 q.d,.slice (some ⟨gQ,0,none⟩) q.P.length cQ]:=by rw [hw1,hra];exact Blk.new2 wA _ _ _
 have hbr:b<ra:=by rw [hra];exact htp.blk.lt
 have hbox:∀ wz,Chg [b] w1 wz→wz.cell? ⟨ra,0,none⟩=some (.int .i64 p.W)∧wz.cell? ⟨ra,1,none⟩=some (.int .i64 p.H)∧wz.cell? ⟨ra,2,none⟩=some (.int .i64 p.d)∧wz.cell? ⟨ra,3,none⟩=some (.slice (some ⟨gP,0,none⟩) p.P.length cP) ∧
   wz.cell? ⟨ra+1,0,none⟩=some (.int .i64 q.W)∧wz.cell? ⟨ra+1,1,none⟩=some (.int .i64 q.H)∧wz.cell? ⟨ra+1,2,none⟩=some (.int .i64 q.d)∧wz.cell? ⟨ra+1,3,none⟩=some (.slice (some ⟨gQ,0,none⟩) q.P.length cQ):=fun wz hz =>
  ⟨(hb1.chg hz (by simp;omega)).cell 0,(hb1.chg hz (by simp;omega)).cell 1,(hb1.chg hz (by simp;omega)).cell 2,(hb1.chg hz (by simp;omega)).cell 3,(hb2.chg hz (by simp;omega)).cell 0,(hb2.chg hz (by simp;omega)).cell 1,(hb2.chg hz (by simp;omega)).cell 2,(hb2.chg hz (by simp;omega)).cell 3⟩
 have HEN:=hid hen
 have HMV:=hid hmv
 have HBY:=hid hby
 have HDE:=hid hde
 have HSM:=hid hsm
 have HKN:=hid hkn
 have HGR:=hid hgr
 have HCA:Hid (∀ wz,Chg [b] wA wz→Chg [] w wz):=hid (fun wz hz=>chA.trans hz (fun x hx=>by simp at hx;right;omega))
 have HC1:=hid ch1
 have HBOX:=hid hbox
 have HW1:=hid hw1
 have HRA:=hid hra
 have HTP:=hid (htp.fresh ch1)
 clear htw ownP ownQ hal htp chA hbw hbP hbQ hbP' hbQ' hdj hqok hpok hpts atP atQ hgr hen hmv hby hde hsm hkn hra hw1 ch1 hb1 hb2 hbox
 go_wp2_with fail
 rw [←HW1.out,←HRA.out]
 refine (HEN.out w1 (HC1.out.mono (by simp))).mono ?_
 rintro e w2 ⟨v2,G2,ms2,rfl,own2,hl2,hb2,ch2,hG2,hm2⟩
 have hbG2:∀ x∈G2,x∉[b]:=fun x hx hm=>by
  have h1:=hG2 x hx
  have h2:=HC1.out.size
  have h3:=HRA.out
  simp at hm
  omega
 obtain ⟨A2,c2,rfl,h21,h22,-⟩:=own2.open_map
 have HD2:=hid (fun wz (hz:Chg [b] w2 wz)=>HDE.out wz ((HC1.out.trans_same ch2).mono (by simp) |>.trans_same hz) A2 c2 ms2 hl2 (best_ok hl2 hb2) hm2 ((own2.chg hz hbG2).cells) h21 h22)
 have HC2:Hid (Chg [b] wA w2):=hid ((HC1.out.trans_same ch2).mono (by simp))
 have HCH2:Hid (Chg [b] w1 w2):=hid (ch2.mono (by simp))
 obtain ⟨a0,a1,a2,a3,d0,d1,d2,d3⟩:=HBOX.out w2 HCH2.out
 obtain ⟨N2,hN2⟩:∃ N2,N2=(mvBytes p q ms2).length:=⟨_,rfl⟩
 rw [←hN2] at HD2 ⊢
 have htp2:=HTP.out.fresh ch2
 have HMVV:=hid (HMV.out w2.drew (htp2.fresh (Chg.refl [] w2).drew))
 have D2:Chg [b] wA w2.drew:=HC2.out.drew
 have E2:Chg [b] w1 w2.drew:=HCH2.out.drew
 clear own2 hl2 hb2 ch2 hG2 hm2 h21 h22 hN2 htp2 hbG2
 go_wp2_with fail
 go_region_held3 (fun wz=>wz.cell? ⟨ra,0,none⟩=some (.int .i64 p.W)∧wz.cell? ⟨ra,1,none⟩=some (.int .i64 p.H)∧wz.cell? ⟨ra,2,none⟩=some (.int .i64 p.d)∧wz.cell? ⟨ra,3,none⟩=some (.slice (some ⟨gP,0,none⟩) p.P.length cP) ∧
   wz.cell? ⟨ra+1,0,none⟩=some (.int .i64 q.W)∧wz.cell? ⟨ra+1,1,none⟩=some (.int .i64 q.H)∧wz.cell? ⟨ra+1,2,none⟩=some (.int .i64 q.d)∧wz.cell? ⟨ra+1,3,none⟩=some (.slice (some ⟨gQ,0,none⟩) q.P.length cQ))
  (first | (go_keep;done) | exact HBOX.out _ E2 | exact HBOX.out _ (E2.trans_same ch5) | exact HBOX.out _ ((E2.trans_same ch5).trans_same (ch6.mono (by simp))) | trivial)
  (first
   | (go_at_call 9;refine HMVV.out.mono ?_;rintro e w5 ⟨v5,F5,ms5,rfl,own5,hl5,hmo5,⟨at5,tp5⟩,ch5,hF5⟩;obtain ⟨A5,c5,rfl,h51,h52,hc5,-⟩ := OwnK.open_ own5;have HL5 := hid hl5;clear hl5;have HMO5 := hid hmo5;clear hmo5)
   | (go_at_call 8;refine (HBY.out _ (D2.trans_same ch5) A5 c5 ms5 hc5 (by rw [←HGR.out];exact HL5.out) (by rw [←HGR.out];exact HMO5.out)).mono ?_;rintro e w6 ⟨v6,G6,rfl,own6,ch6,hG6,hm6⟩))
 have HC6:Hid (Chg [b] wA w6):=hid ((D2.trans_same ch5).trans_same (ch6.mono (by simp)))
 have HCH6:Hid (Chg [b] w2 w6):=hid ((((Chg.refl [b] w2).drew).trans_same ch5).trans_same (ch6.mono (by simp)))
 have HCE6:Hid (Chg [b] w1 w6):=hid ((E2.trans_same ch5).trans_same (ch6.mono (by simp)))
 obtain ⟨A6,c6,rfl,h61,h62,-⟩:=own6.open_map
 have HD6:=hid (fun wz (hz:Chg [] w6 wz)=>HDE.out wz (HC6.out.trans_same (hz.mono (by simp))) A6 c6 ms5 (by rw [←HGR.out];exact HL5.out) (by rw [←HGR.out];exact HMO5.out) hm6 ((own6.same hz).cells) h61 h62)
 obtain ⟨N6,hN6⟩:∃ N6,N6=(mvBytes p q ms5).length:=⟨_,rfl⟩
 rw [←hN6] at HD6
 have HN6:=hid hN6
 obtain ⟨a0,a1,a2,a3,d0,d1,d2,d3⟩:=HBOX.out w6 HCE6.out
 have hd2:=HD2.out w6 HCH6.out
 clear own5 tp5 ch5 hF5 own6 ch6 hG6 hm6 h51 h52 hc5 h61 h62 D2 E2 hN6
 rw [←HN6.out]
 go_wp2_with fail
 refine hd2.mono ?_
 rintro e w7 ⟨gR,cR,xr,gr,rfl,own7,ch7,-⟩
 obtain ⟨rx,hrx⟩:∃ rx,rx=w7.heap.size:=⟨_,rfl⟩
 obtain ⟨w8,hw8⟩:∃ w8,w8=w7.alloc (.cells #[.int .i64 q.W,.int .i64 q.H,.int .i64 q.d,.slice (some ⟨gR,0,none⟩) q.P.length cR] 25):=⟨_,rfl⟩
 have ch8:Chg [] w6 w8:=by rw [hw8];exact ch7.alloc _
 have hbx:Blk w8 rx 25 #[.int .i64 q.W,.int .i64 q.H,.int .i64 q.d,.slice (some ⟨gR,0,none⟩) q.P.length cR]:=by rw [hw8,hrx];exact Blk.new w7 _ _
 have HO8:=hid (own7.same (show Chg [] w7 w8 by rw [hw8];exact (Chg.refl [] w7).alloc _))
 obtain ⟨a0,a1,a2,a3,d0,d1,d2,d3⟩:=HBOX.out w8 (HCE6.out.trans_same (ch8.mono (by simp)))
 have hd6:=HD6.out w8 ch8
 have HBX:=hid hbx
 have HC8:=hid ch8
 rw [hw8] at a0 a1 a2 a3 d0 d1 d2 d3
 have HW8:=hid hw8
 have HRX:=hid hrx
 clear own7 ch7 hrx hw8 ch8 hbx hd2
 go_wp2_with fail
 rw [←HW8.out,←HRX.out]
 refine hd6.mono ?_
 rintro e w9 ⟨gS,cS,xS,gS',rfl,own9,ch9,-⟩
 obtain ⟨ry,hry⟩:∃ ry,ry=w9.heap.size:=⟨_,rfl⟩
 obtain ⟨wB,hwB⟩:∃ wB,wB=w9.alloc (.cells #[.int .i64 q.W,.int .i64 q.H,.int .i64 q.d,.slice (some ⟨gS,0,none⟩) q.P.length cS] 25):=⟨_,rfl⟩
 have chB:Chg [] w8 wB:=by rw [hwB];exact ch9.alloc _
 have hby2:Blk wB ry 25 #[.int .i64 q.W,.int .i64 q.H,.int .i64 q.d,.slice (some ⟨gS,0,none⟩) q.P.length cS]:=by rw [hwB,hry];exact Blk.new w9 _ _
 have HOB:=hid (own9.same (show Chg [] w9 wB by rw [hwB];exact (Chg.refl [] w9).alloc _))
 have HO8B:=hid (HO8.out.same chB)
 have HCB:Hid (Chg [b] wA wB):=hid (HC6.out.trans_same ((HC8.out.trans_same chB).mono (by simp)))
 have HCEB:Hid (Chg [b] w1 wB):=hid (HCE6.out.trans_same ((HC8.out.trans_same chB).mono (by simp)))
 obtain ⟨a0,a1,a2,a3,d0,d1,d2,d3⟩:=HBOX.out wB HCEB.out
 have hbxB:=HBX.out.chg chB (by simp)
 have x0:=hbxB.cell 0
 have x1:=hbxB.cell 1
 have x2:=hbxB.cell 2
 have x3:=hbxB.cell 3
 simp at x0 x1 x2 x3
 have hss:=HSM.out wB HCB.out gR cR xr gr HO8B.out
 have HBY2:=hid hby2
 have HBXB:=hid hbxB
 have HRY:=hid hry
 rw [hwB] at a0 a1 a2 a3 d0 d1 d2 d3 x0 x1 x2 x3
 have HWB:=hid hwB
 clear own9 ch9 hry hwB chB hby2 hbxB hd6
 go_wp2_with fail
 rw [←HWB.out,←HRY.out]
 refine hss.mono ?_
 rintro e wC ⟨rfl,chC⟩
 have HCC:Hid (Chg [b] wA wC):=hid (HCB.out.trans_same (chC.mono (by simp)))
 obtain ⟨a0,a1,a2,a3,d0,d1,d2,d3⟩:=HBOX.out wC (HCEB.out.trans_same (chC.mono (by simp)))
 have hbyC:=HBY2.out.chg chC (by simp)
 have y0:=hbyC.cell 0
 have y1:=hbyC.cell 1
 have y2:=hbyC.cell 2
 have y3:=hbyC.cell 3
 simp at y0 y1 y2 y3
 have hs2:=HSM.out wC HCC.out gS cS xS gS' (HOB.out.same chC)
 clear hss chC hbyC x0 x1 x2 x3
 go_wp2_with fail
 refine hs2.mono ?_
 rintro e wD ⟨rfl,chD⟩
 have HCD:Hid (Chg [b] wA wD):=hid (HCC.out.trans_same (chD.mono (by simp)))
 have hkk:=HKN.out wD HCD.out
 clear hs2 chD
 go_wp2_with fail
 refine hkk.mono ?_
 rintro e wE ⟨rfl,chE⟩
 go_wp2_with fail
 go_ret
 exact ⟨rfl,HCA.out _ (HCD.out.trans_same (chE.mono (by simp)))⟩
end Go.Proofs.YtijpbkakncglgaaGreatDoor
