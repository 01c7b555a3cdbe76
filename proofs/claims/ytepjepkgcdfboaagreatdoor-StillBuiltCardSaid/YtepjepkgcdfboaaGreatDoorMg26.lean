/- package tile by its contracts, the eighth part: putRanged. -/
import Derived.Test.YtepjepkgcdfboaaGreatDoorMg22
import Derived.Test.YtepjepkgcdfboaaGreatDoorMg25
set_option linter.unusedVariables false
set_option linter.unusedSimpArgs false
set_option maxHeartbeats 2000000
set_option maxRecDepth 100000
namespace Go.Proofs.YtepjepkgcdfboaaGreatDoor
open Go.RowKit
def d2y (l:List Int) (W d i:Nat):Nat:=(b3h (a8a l W i) d).toNat
theorem c0g (l:List Int) (W d i:Nat):d2y l W d i<=12:=by
 have:=c9r (a8a l W i) d
 unfold d2y
 omega
theorem c9s (l:List Int) (W d i:Nat):((d2y l W d i:Nat):Int)=b3h (a8a l W i) d:=by
 have:=c9r (a8a l W i) d
 unfold d2y
 omega
def c0h (l:List Int) (W d:Nat):Nat->Cod
 | 0=>a6r 429
 | i+1=>c8x (c0h l W d i) (33*d2y l W d i) (a3c l W d i)
theorem b0f (l:List Int) (W:Nat) {d:Nat} (h0:1<=d) (h1:d<=16):∀ i,a2d (c0h l W d i)/\(c0h l W d i).odds.length=429/\(c0h l W d i).low.length<=4+65*i
 | 0=>⟨e4c _,zV,by show ([0,0,0,0]:List Nat).length<=4+65*0;decide⟩
 | i+1=>by
  obtain ⟨k1,k2,k3⟩:=b0f l W h0 h1 i
  have hc:=c0g l W d i
  have hf:=a9o l W h0 i
  have hf2:a3c l W d i<4294967296:=Nat.lt_of_lt_of_le hf (Nat.le_trans (Nat.pow_le_pow_right (n:=2) (by decide) h1) (by decide))
  have h5:=e8z (c0h l W d i) (33*d2y l W d i) hf2
  exact ⟨f1y k1 hf2 (by omega),by unfold c0h;rw [c7n,k2],by unfold c0h;omega⟩
def a5w (l:List Int) (W d:Nat):List Nat:=(c0h l W d l.length).low
def a3w (l:List Int) (W d:Nat):List Nat:=a0b (a5w l W d).length 16++(a5w l W d).flatMap fun x=>a0b x 8
theorem b4i (l:List Int) (W:Nat) {d:Nat} (h0:1<=d) (h1:d<=16):(a5w l W d).length<=4+65*l.length:=(b0f l W h0 h1 l.length).2.2
theorem c5q (l:List Int) (W:Nat) {d:Nat} (h0:1<=d) (h1:d<=16):∀ x∈a5w l W d,x<256:=(b0f l W h0 h1 l.length).1.dig
theorem d1o (w:World) (b:Nat) (F bs:List Nat) (l:List Int) (A:Option Addr) (cap W d:Nat) (h:a2n w b F bs) (hw0:1<=W) (hw1:W<=16) (h0:1<=d) (h1:d<=16) (hl:l.length<=256) (hlW:l.length<=64*W) (hs:a1u d l) (hc:a0d vi w A l) (hA:Apt A l F) (hbs:bs.length<68719476736) :
  Calls Tryz.prog 119 #[.pointer (some ⟨b,0,none⟩),.slice A l.length cap,.int .i64 W,.int .i64 d] w fun e w'=>e=.returned (.tuple #[])/\∃ F',a2n w' b F' (bs++a3w l W d)/\a0u F F' w w':=by
 have aF:=fun w hc=>c0t l A cap W d w h0 h1 hw0 (by omega) hlW hs hc (by omega)
 have ae:=fun i (hi:i<l.length) w hc=>b9q l A cap W d i w h0 h1 hw0 (by omega) (by omega) (by omega) hs hc (by omega)
 have a7:a3w l W d=a0b (a5w l W d).length 16++(a5w l W d).flatMap fun x=>a0b x 8:=rfl
 have aG:=b4i l W h0 h1
 have aW:=c5q l W h0 h1
 have aD:a5w l W d=(c0h l W d l.length).low:=rfl
 rw [a7]
 obtain ⟨R,hR⟩:=zX (a5w l W d)
 rw [<-hR] at aG aW aD ⊢
 have aC:=d3i l W d
 have aJ:∀ i,i<l.length->(a8v l W d)[i]?=some (a3c l W d i:Int):=fun i hi=>by simp [a8v,a1w,hi]
 have ac:=fun i=>a9o l W h0 i
 have ax:=fun i=>b0f l W h0 h1 i
 obtain ⟨f,hf⟩:=zX (a8v l W d)
 rw [<-hf] at aF aC aJ
 obtain ⟨n,hn⟩:=zX (l.length)
 rw [<-hn] at aF ae aG aD aC aJ hl ⊢
 have a5:=h.lt
 have bh:=hid aF
 have HN:=hid ae
 have bg:=hid aW
 have a1:=hid aD
 have bm:=hid aG
 have aP:=hid aC
 have bf:=hid aJ
 have aS:=hid ac
 have aX:=hid ax
 have bw:=hid hn
 have HA:=hid hA
 have be:=hid a5
 clear aF ae aW aD aG aC aJ ac ax hn hA a5 a7 hR hf hs hlW
 go_enter Tryz.func119,Tryz.ntmps119
 go_wp2_with fail
 have a9:=d3y 429 w (by omega) (by omega)
 refine a9.mono ?_
 rintro e w1 ⟨cb,cg,ch,rfl,aa,aH,br,bd,bH⟩
 have a3:=bh.out w1 (hc.same aH)
 clear a9
 go_wp2_with fail
 refine a3.mono ?_
 rintro e w2 ⟨fv,fg,rfl,am,aQ,bo⟩
 obtain ⟨fc,rfl,bc,bG,_,_⟩:=am.oq
 rw [aP.out] at bc ⊢
 have aq:a0d vi w2 (some ⟨fg,0,none⟩) f:=am.toOwn.cells
 have ah:=aa.same aQ
 have bz:=aH.size
 have bq:=aa.lt
 have ar:=aH.tq aQ
 clear a3 am aH aQ aa
 go_wp2_with fail
 go_loopg [28] n (fun j iv wr=>∃ (i g':Nat),iv=.int .i64 i/\i+j=n/\a7p 247 wr cb g' ch (c0h l W d i)/\a0d vi wr (some ⟨fg,0,none⟩) f/\w.heap.size<=g'/\g'≠fg/\Chg [] w wr)
 case atStart=>exact ⟨0,cg,rfl,by omega,ah,aq,bd,by omega,ar⟩
 case round =>
  clear ah aq ar
  obtain ⟨i,g',rfl,bC,aa,aq,bu,bx,ao⟩:=hrel
  have aj:=aX.out i
  rcases gk with _ | j
  ·obtain rfl:i=n:=by omega
   have aI:=e6x wr cb g' ch _ aa aj.1 (by have:=aj.2.2;omega)
   rw [<-a1.out] at aI
   clear aj aa
   have bp:=a1
   have aN:R.length<2^16:=by have:=bm.out;omega
   obtain ⟨r,hr⟩:=zX (R.length)
   rw [<-hr] at aI aN
   have HR:=hid hr
   clear hr
   go_wp2_with fail
   refine aI.mono ?_
   rintro e w3 ⟨g3,c3,rfl,ag,al,bF⟩
   have az:=h.same (ao.tq al)
   have ak:a0d b8 w3 (some ⟨g3,0,none⟩) R:=ag.toOwn.cells
   have bn:=ao.size
   have ap:Apt (some ⟨g3,0,none⟩) R F:=fun _ ad e hm=>by
    injection e with e
    subst e
    have:=be.out _ hm
    simp at this
    omega
   have aM:=ao.tq al
   clear aI ag aq h
   go_wp2_with fail
   have bJ:r<65536:=aN
   refine (a0t w3 b F bs r 16 az (by omega) aN (by omega)).mono ?_
   rintro e w4 ⟨rfl,F4,aB,af⟩
   have aw:=ak.keep ap af.chg
   have au:=ap.grow ak af
   have ay:=a0u.pre aM af
   clear az ak ap af
   go_wp2_with fail
   go_loopg [57] r (fun j iv wr=>∃ (q:Nat) (F' aA:List Nat),iv=.int .i64 q/\q+j=r/\a2n wr b F' aA/\Hid (aA=bs++a0b r 16++(R.take q).flatMap fun x=>a0b x 8)/\aA.length<=bs.length+16+8*q/\a0d b8 wr (some ⟨g3,0,none⟩) R/\Apt (some ⟨g3,0,none⟩) R F'/\a0u F F' w wr)
   case atStart=>exact ⟨0,F4,_,rfl,by omega,aB,hid (by simp),by rw [zC,a0a];omega,aw,au,ay⟩
   case round =>
    clear aB aw au ay
    obtain ⟨q,F',aA,rfl,bv,a8,Hb,bD,ak,ap,ay⟩:=hrel
    rcases gk with _ | j
    ·obtain rfl:q=r:=by omega
     go_wp2
     go_end0
     refine ⟨rfl,F',?_,ay⟩
     have e:R.take q=R:=by rw [HR.out,zN]
     have h5:=Hb.out
     rw [e,zH] at h5
     rw [<-HR.out,<-h5]
     exact a8
    ·have bk:q<r:=by omega
     have aE:q<R.length:=by rw [<-HR.out];exact bk
     obtain ⟨g5,o5,e5,cl⟩:=ak.at_ aE
     injection e5 with e5
     injection e5 with e5 e6 _
     subst e5
     subst e6
     have a0:=bg.out R[q] (zG aE)
     have aU:(R.take (q+1)).flatMap (fun x=>a0b x 8)=(R.take q).flatMap (fun x=>a0b x 8)++a0b R[q] 8:=by rw [a0o R aE,List.flatMap_append,List.flatMap_cons,List.flatMap_nil,List.append_nil]
     obtain ⟨x,hx⟩:=zX (R[q])
     rw [<-hx] at cl a0 aU
     have aR:wr.cell? ⟨g3,0+q,none⟩=some (.int .u8 x):=cl
     rw [Nat.zero_add] at aR
     have bi:x<2^8:=a0
     have ba:=hid aU
     clear aU hx cl aE
     go_wp2_with fail
     refine (a0t wr b F' aA x 8 a8 (by omega) bi (by omega)).mono ?_
     rintro e w5 ⟨rfl,F5,aO,an⟩
     go_wp2_with fail
     go_roundg j
     case measure=>omega
     case rel =>
      refine ⟨q+1,F5,_,by go_num,by omega,aO,hid ?_,?_,ak.keep ap an.chg,ap.grow ak an,ay.trans an⟩
      ·rw [ba.out,Hb.out];simp only [zH]
      ·rw [zC,a0a];omega
  ·have aL:i<n:=by omega
   have aZ:=bf.out i aL
   have bl:i<f.length:=by rw [aP.out];exact aL
   obtain ⟨g5,o5,e5,_,aY⟩:=aq.ex (by omega)
   injection e5 with e5
   injection e5 with e5 e6 _
   subst e5
   subst e6
   have cl:=aY i _ aZ
   rw [Nat.zero_add] at cl
   have aR:wr.cell? ⟨fg,i,none⟩=some (.int .i64 (a3c l W d i:Int)):=cl
   have aK:=HN.out i aL wr (hc.same ao)
   rw [<-c9s] at aK
   have bb:=c0g l W d i
   have ab:c0h l W d (i+1)=c8x (c0h l W d i) (33*d2y l W d i) (a3c l W d i):=rfl
   have ac:=aS.out i
   have aT:a3c l W d i<65536:=Nat.lt_of_lt_of_le ac (Nat.pow_le_pow_right (n:=2) (by decide) h1)
   obtain ⟨v,hv⟩:=zX (a3c l W d i)
   rw [<-hv] at aR ab aT
   obtain ⟨k,hk⟩:=zX (d2y l W d i)
   rw [<-hk] at aK bb ab
   have ai:=fun w hc=>f3v w cb g' ch (c0h l W d i) (33*k) v hc aj.1 (by rw [aj.2.1];omega) (by omega) (by have:=aj.2.2;omega)
   rw [<-ab] at ai
   generalize a3d 7 (a8a l W i) d=gs at *
   have bE:=aa.lt
   have aV:=hid ai
   have a2:=hid aq
   clear ab hk hv ac ai cl aY aZ bl aj
   go_wp2_with fail
   refine aK.mono ?_
   rintro e w3 ⟨rfl,al⟩
   have a4:=aV.out w3 (aa.same al)
   have bj:((33*k:Nat):Int)=33*(k:Int):=by simp
   rw [bj] at a4
   clear aK
   go_wp2_with fail
   refine a4.mono ?_
   rintro e w4 ⟨rfl,g4,av,a6,bI⟩
   go_wp2_with fail
   go_roundg j
   case measure=>omega
   case rel =>
    have bn:=al.size
    have bB:=ao.size
    refine ⟨i+1,g4,by go_num,by omega,av,?_,?_,?_,?_⟩
    ·exact (a2.out.same al).chg a6 (fun ad e hm=>by
      injection e with e
      subst e
      simp at hm
      omega)
    ·omega
    ·obtain ⟨b9,o9,e9,bA,_⟩:=a2.out.ex (by rw [aP.out];omega)
     injection e9 with e9
     injection e9 with e9 _ _
     omega
    ·exact (ao.tq al).trans a6 (fun x hx=>by
      simp at hx
      omega)
end Go.Proofs.YtepjepkgcdfboaaGreatDoor
