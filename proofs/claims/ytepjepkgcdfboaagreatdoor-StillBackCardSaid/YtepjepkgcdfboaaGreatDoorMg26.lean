/- package tile by its contracts, the eighth part: putRanged. -/
import Derived.Test.YtepjepkgcdfboaaGreatDoorMg22
import Derived.Test.YtepjepkgcdfboaaGreatDoorMg25
set_option linter.unusedVariables false
set_option linter.unusedSimpArgs false
set_option maxHeartbeats 2000000
set_option maxRecDepth 100000
namespace Go.Proofs.YtepjepkgcdfboaaGreatDoor
open Go.RowKit
def d2y (l:List Int) (W d i:Nat):Nat:=(b3h (a8a l W i) d).toNat
theorem c0g (l:List Int) (W d i:Nat):d2y l W d i<=12:=by
 have:=c9r (a8a l W i) d
 unfold d2y
 omega
theorem c9s (l:List Int) (W d i:Nat):((d2y l W d i:Nat):Int)=b3h (a8a l W i) d:=by
 have:=c9r (a8a l W i) d
 unfold d2y
 omega
def c0h (l:List Int) (W d:Nat):Nat->Cod
 | 0=>a6r 429
 | i+1=>c8x (c0h l W d i) (33*d2y l W d i) (a3c l W d i)
theorem b0f (l:List Int) (W:Nat) {d:Nat} (h0:1<=d) (h1:d<=16):∀ i,a2d (c0h l W d i)/\(c0h l W d i).odds.length=429/\(c0h l W d i).low.length<=4+65*i
 | 0=>⟨e4c _,zV,by show ([0,0,0,0]:List Nat).length<=4+65*0;decide⟩
 | i+1=>by
  obtain ⟨k1,k2,k3⟩:=b0f l W h0 h1 i
  have hc:=c0g l W d i
  have hf:=a9o l W h0 i
  have hf2:a3c l W d i<4294967296:=Nat.lt_of_lt_of_le hf (Nat.le_trans (Nat.pow_le_pow_right (n:=2) (by decide) h1) (by decide))
  have h5:=e8z (c0h l W d i) (33*d2y l W d i) hf2
  exact ⟨f1y k1 hf2 (by omega),by unfold c0h;rw [c7n,k2],by unfold c0h;omega⟩
def a5w (l:List Int) (W d:Nat):List Nat:=(c0h l W d l.length).low
def a3w (l:List Int) (W d:Nat):List Nat:=a0b (a5w l W d).length 16++(a5w l W d).flatMap fun x=>a0b x 8
theorem b4i (l:List Int) (W:Nat) {d:Nat} (h0:1<=d) (h1:d<=16):(a5w l W d).length<=4+65*l.length:=(b0f l W h0 h1 l.length).2.2
theorem c5q (l:List Int) (W:Nat) {d:Nat} (h0:1<=d) (h1:d<=16):∀ x∈a5w l W d,x<256:=(b0f l W h0 h1 l.length).1.dig
theorem d1o (w:World) (b:Nat) (F bs:List Nat) (l:List Int) (A:Option Addr) (cap W d:Nat) (h:a2n w b F bs) (hw0:1<=W) (hw1:W<=16) (h0:1<=d) (h1:d<=16) (hl:l.length<=256) (hlW:l.length<=64*W) (hs:a1u d l) (hc:a0d vi w A l) (hA:Apt A l F) (hbs:bs.length<68719476736) :
  Calls Tryz.prog 119 #[.pointer (some ⟨b,0,none⟩),.slice A l.length cap,.int .i64 W,.int .i64 d] w fun e w'=>e=.returned (.tuple #[])/\∃ F',a2n w' b F' (bs++a3w l W d)/\a0u F F' w w':=by
 have aF:=fun w hc=>c0t l A cap W d w h0 h1 hw0 (by omega) hlW hs hc (by omega)
 have ae:=fun i (hi:i<l.length) w hc=>b9q l A cap W d i w h0 h1 hw0 (by omega) (by omega) (by omega) hs hc (by omega)
 have a7:a3w l W d=a0b (a5w l W d).length 16++(a5w l W d).flatMap fun x=>a0b x 8:=rfl
 have aJ:=b4i l W h0 h1
 have aP:=c5q l W h0 h1
 have aK:a5w l W d=(c0h l W d l.length).low:=rfl
 rw [a7]
 obtain ⟨R,hR⟩:=zX (a5w l W d)
 rw [<-hR] at aJ aP aK ⊢
 have aH:=d3i l W d
 have aE:∀ i,i<l.length->(a8v l W d)[i]?=some (a3c l W d i:Int):=fun i hi=>by simp [a8v,a1w,hi]
 have ac:=fun i=>a9o l W h0 i
 have av:=fun i=>b0f l W h0 h1 i
 obtain ⟨f,hf⟩:=zX (a8v l W d)
 rw [<-hf] at aF aH aE
 obtain ⟨n,hn⟩:=zX (l.length)
 rw [<-hn] at aF ae aJ aK aH aE hl ⊢
 have a9:=h.lt
 have bd:=hid aF
 have HN:=hid ae
 have bn:=hid aP
 have a6:=hid aK
 have bj:=hid aJ
 have aQ:=hid aH
 have bc:=hid aE
 have aU:=hid ac
 have aM:=hid av
 have bE:=hid hn
 have HA:=hid hA
 have bf:=hid a9
 clear aF ae aP aK aJ aH aE ac av hn hA a9 a7 hR hf hs hlW
 go_enter Tryz.func119,Tryz.ntmps119
 go_wp2_with fail
 have a4:=d3y 429 w (by omega) (by omega)
 refine a4.mono ?_
 rintro e w1 ⟨cb,cg,ch,rfl,aa,aC,bv,bb,bI⟩
 have a8:=bd.out w1 (hc.same aC)
 clear a4
 go_wp2_with fail
 refine a8.mono ?_
 rintro e w2 ⟨fv,fg,rfl,ai,aW,bq⟩
 obtain ⟨fc,rfl,bo,bC,_,_⟩:=ai.oq
 rw [aQ.out] at bo ⊢
 have ap:a0d vi w2 (some ⟨fg,0,none⟩) f:=ai.toOwn.cells
 have ag:=aa.same aW
 have bA:=aC.size
 have bg:=aa.lt
 have au:=aC.tq aW
 clear a8 ai aC aW aa
 go_wp2_with fail
 go_loopg [28] n (fun j iv wr=>∃ (i g':Nat),iv=.int .i64 i/\i+j=n/\a7p 247 wr cb g' ch (c0h l W d i)/\a0d vi wr (some ⟨fg,0,none⟩) f/\w.heap.size<=g'/\g'≠fg/\Chg [] w wr)
 case atStart=>exact ⟨0,cg,rfl,by omega,ag,ap,bb,by omega,au⟩
 case round =>
  clear ag ap au
  obtain ⟨i,g',rfl,br,aa,ap,bw,bu,ao⟩:=hrel
  have aj:=aM.out i
  rcases gk with _ | j
  ·obtain rfl:i=n:=by omega
   have aD:=e6x wr cb g' ch _ aa aj.1 (by have:=aj.2.2;omega)
   rw [<-a6.out] at aD
   clear aj aa
   have bi:=a6
   have aV:R.length<2^16:=by have:=bj.out;omega
   obtain ⟨r,hr⟩:=zX (R.length)
   rw [<-hr] at aD aV
   have HR:=hid hr
   clear hr
   go_wp2_with fail
   refine aD.mono ?_
   rintro e w3 ⟨g3,c3,rfl,ah,ak,bH⟩
   have aw:=h.same (ao.tq ak)
   have an:a0d b8 w3 (some ⟨g3,0,none⟩) R:=ah.toOwn.cells
   have bk:=ao.size
   have aq:Apt (some ⟨g3,0,none⟩) R F:=fun _ ad e hm=>by
    injection e with e
    subst e
    have:=bf.out _ hm
    simp at this
    omega
   have aR:=ao.tq ak
   clear aD ah ap h
   go_wp2_with fail
   have bF:r<65536:=aV
   refine (a0t w3 b F bs r 16 aw (by omega) aV (by omega)).mono ?_
   rintro e w4 ⟨rfl,F4,ax,af⟩
   have aB:=an.keep aq af.chg
   have aA:=aq.grow an af
   have ar:=a0u.pre aR af
   clear aw an aq af
   go_wp2_with fail
   go_loopg [57] r (fun j iv wr=>∃ (q:Nat) (F' az:List Nat),iv=.int .i64 q/\q+j=r/\a2n wr b F' az/\Hid (az=bs++a0b r 16++(R.take q).flatMap fun x=>a0b x 8)/\az.length<=bs.length+16+8*q/\a0d b8 wr (some ⟨g3,0,none⟩) R/\Apt (some ⟨g3,0,none⟩) R F'/\a0u F F' w wr)
   case atStart=>exact ⟨0,F4,_,rfl,by omega,ax,hid (by simp),by rw [zC,a0a];omega,aB,aA,ar⟩
   case round =>
    clear ax aB aA ar
    obtain ⟨q,F',az,rfl,bD,aY,Hb,bG,an,aq,ar⟩:=hrel
    rcases gk with _ | j
    ·obtain rfl:q=r:=by omega
     go_wp2
     go_end0
     refine ⟨rfl,F',?_,ar⟩
     have e:R.take q=R:=by rw [HR.out,zN]
     have h5:=Hb.out
     rw [e,zH] at h5
     rw [<-HR.out,<-h5]
     exact aY
    ·have bp:q<r:=by omega
     have aG:q<R.length:=by rw [<-HR.out];exact bp
     obtain ⟨g5,o5,e5,cl⟩:=an.at_ aG
     injection e5 with e5
     injection e5 with e5 e6 _
     subst e5
     subst e6
     have a0:=bn.out R[q] (zG aG)
     have aX:(R.take (q+1)).flatMap (fun x=>a0b x 8)=(R.take q).flatMap (fun x=>a0b x 8)++a0b R[q] 8:=by rw [a0o R aG,List.flatMap_append,List.flatMap_cons,List.flatMap_nil,List.append_nil]
     obtain ⟨x,hx⟩:=zX (R[q])
     rw [<-hx] at cl a0 aX
     have aN:wr.cell? ⟨g3,0+q,none⟩=some (.int .u8 x):=cl
     rw [Nat.zero_add] at aN
     have ba:x<2^8:=a0
     have bl:=hid aX
     clear aX hx cl aG
     go_wp2_with fail
     refine (a0t wr b F' az x 8 aY (by omega) ba (by omega)).mono ?_
     rintro e w5 ⟨rfl,F5,aT,al⟩
     go_wp2_with fail
     go_roundg j
     case measure=>omega
     case rel =>
      refine ⟨q+1,F5,_,by go_num,by omega,aT,hid ?_,?_,an.keep aq al.chg,aq.grow an al,ar.trans al⟩
      ·rw [bl.out,Hb.out];simp only [zH]
      ·rw [zC,a0a];omega
  ·have aS:i<n:=by omega
   have aZ:=bc.out i aS
   have be:i<f.length:=by rw [aQ.out];exact aS
   obtain ⟨g5,o5,e5,_,a5⟩:=ap.ex (by omega)
   injection e5 with e5
   injection e5 with e5 e6 _
   subst e5
   subst e6
   have cl:=a5 i _ aZ
   rw [Nat.zero_add] at cl
   have aN:wr.cell? ⟨fg,i,none⟩=some (.int .i64 (a3c l W d i:Int)):=cl
   have aI:=HN.out i aS wr (hc.same ao)
   rw [<-c9s] at aI
   have bh:=c0g l W d i
   have ab:c0h l W d (i+1)=c8x (c0h l W d i) (33*d2y l W d i) (a3c l W d i):=rfl
   have ac:=aU.out i
   have aO:a3c l W d i<65536:=Nat.lt_of_lt_of_le ac (Nat.pow_le_pow_right (n:=2) (by decide) h1)
   obtain ⟨v,hv⟩:=zX (a3c l W d i)
   rw [<-hv] at aN ab aO
   obtain ⟨k,hk⟩:=zX (d2y l W d i)
   rw [<-hk] at aI bh ab
   have am:=fun w hc=>f3v w cb g' ch (c0h l W d i) (33*k) v hc aj.1 (by rw [aj.2.1];omega) (by omega) (by have:=aj.2.2;omega)
   rw [<-ab] at am
   generalize a3d 7 (a8a l W i) d=gs at *
   have bJ:=aa.lt
   have aL:=hid am
   have a2:=hid ap
   clear ab hk hv ac am cl a5 aZ be aj
   go_wp2_with fail
   refine aI.mono ?_
   rintro e w3 ⟨rfl,ak⟩
   have a1:=aL.out w3 (aa.same ak)
   have bm:((33*k:Nat):Int)=33*(k:Int):=by simp
   rw [bm] at a1
   clear aI
   go_wp2_with fail
   refine a1.mono ?_
   rintro e w4 ⟨rfl,g4,ay,a3,bB⟩
   go_wp2_with fail
   go_roundg j
   case measure=>omega
   case rel =>
    have bk:=ak.size
    have bz:=ao.size
    refine ⟨i+1,g4,by go_num,by omega,ay,?_,?_,?_,?_⟩
    ·exact (a2.out.same ak).chg a3 (fun ad e hm=>by
      injection e with e
      subst e
      simp at hm
      omega)
    ·omega
    ·obtain ⟨b9,o9,e9,bx,_⟩:=a2.out.ex (by rw [aQ.out];omega)
     injection e9 with e9
     injection e9 with e9 _ _
     omega
    ·exact (ao.tq ak).trans a3 (fun x hx=>by
      simp at hx
      omega)
end Go.Proofs.YtepjepkgcdfboaaGreatDoor
