/- package tile by its contracts, the eighth part: putRanged. -/
import Derived.Test.YtepjepkgcdfboaaGreatDoorMg22
import Derived.Test.YtepjepkgcdfboaaGreatDoorMg25
set_option linter.unusedVariables false
set_option linter.unusedSimpArgs false
set_option maxHeartbeats 2000000
set_option maxRecDepth 100000
namespace Go.Proofs.YtepjepkgcdfboaaGreatDoor
open Go.RowKit
def d2y (l:List Int) (W d i:Nat):Nat:=(b3h (a8a l W i) d).toNat
theorem c0g (l:List Int) (W d i:Nat):d2y l W d i<=12:=by
 have:=c9r (a8a l W i) d
 unfold d2y
 omega
theorem c9s (l:List Int) (W d i:Nat):((d2y l W d i:Nat):Int)=b3h (a8a l W i) d:=by
 have:=c9r (a8a l W i) d
 unfold d2y
 omega
def c0h (l:List Int) (W d:Nat):Nat->Cod
 | 0=>a6r 429
 | i+1=>c8x (c0h l W d i) (33*d2y l W d i) (a3c l W d i)
theorem b0f (l:List Int) (W:Nat) {d:Nat} (h0:1<=d) (h1:d<=16):∀ i,a2d (c0h l W d i)/\(c0h l W d i).odds.length=429/\(c0h l W d i).low.length<=4+65*i
 | 0=>⟨e4c _,zV,by show ([0,0,0,0]:List Nat).length<=4+65*0;decide⟩
 | i+1=>by
  obtain ⟨k1,k2,k3⟩:=b0f l W h0 h1 i
  have hc:=c0g l W d i
  have hf:=a9o l W h0 i
  have hf2:a3c l W d i<4294967296:=Nat.lt_of_lt_of_le hf (Nat.le_trans (Nat.pow_le_pow_right (n:=2) (by decide) h1) (by decide))
  have h5:=e8z (c0h l W d i) (33*d2y l W d i) hf2
  exact ⟨f1y k1 hf2 (by omega),by unfold c0h;rw [c7n,k2],by unfold c0h;omega⟩
def a5w (l:List Int) (W d:Nat):List Nat:=(c0h l W d l.length).low
def a3w (l:List Int) (W d:Nat):List Nat:=a0b (a5w l W d).length 16++(a5w l W d).flatMap fun x=>a0b x 8
theorem b4i (l:List Int) (W:Nat) {d:Nat} (h0:1<=d) (h1:d<=16):(a5w l W d).length<=4+65*l.length:=(b0f l W h0 h1 l.length).2.2
theorem c5q (l:List Int) (W:Nat) {d:Nat} (h0:1<=d) (h1:d<=16):∀ x∈a5w l W d,x<256:=(b0f l W h0 h1 l.length).1.dig
theorem d1o (w:World) (b:Nat) (F bs:List Nat) (l:List Int) (A:Option Addr) (cap W d:Nat) (h:a2n w b F bs) (hw0:1<=W) (hw1:W<=16) (h0:1<=d) (h1:d<=16) (hl:l.length<=256) (hlW:l.length<=64*W) (hs:a1u d l) (hc:a0d vi w A l) (hA:Apt A l F) (hbs:bs.length<68719476736) :
  Calls Tryz.prog 119 #[.pointer (some ⟨b,0,none⟩),.slice A l.length cap,.int .i64 W,.int .i64 d] w fun e w'=>e=.returned (.tuple #[])/\∃ F',a2n w' b F' (bs++a3w l W d)/\a0u F F' w w':=by
 have aD:=fun w hc=>c0t l A cap W d w h0 h1 hw0 (by omega) hlW hs hc (by omega)
 have ac:=fun i (hi:i<l.length) w hc=>b9q l A cap W d i w h0 h1 hw0 (by omega) (by omega) (by omega) hs hc (by omega)
 have aZ:a3w l W d=a0b (a5w l W d).length 16++(a5w l W d).flatMap fun x=>a0b x 8:=rfl
 have aJ:=b4i l W h0 h1
 have aO:=c5q l W h0 h1
 have aG:a5w l W d=(c0h l W d l.length).low:=rfl
 rw [aZ]
 obtain ⟨R,hR⟩:=zX (a5w l W d)
 rw [<-hR] at aJ aO aG ⊢
 have aE:=d3i l W d
 have aH:∀ i,i<l.length->(a8v l W d)[i]?=some (a3c l W d i:Int):=fun i hi=>by simp [a8v,a1w,hi]
 have ae:=fun i=>a9o l W h0 i
 have aB:=fun i=>b0f l W h0 h1 i
 obtain ⟨f,hf⟩:=zX (a8v l W d)
 rw [<-hf] at aD aE aH
 obtain ⟨n,hn⟩:=zX (l.length)
 rw [<-hn] at aD ac aJ aG aE aH hl ⊢
 have a4:=h.lt
 have bb:=hid aD
 have HN:=hid ac
 have ba:=hid aO
 have a7:=hid aG
 have bc:=hid aJ
 have aW:=hid aE
 have bq:=hid aH
 have aM:=hid ae
 have aR:=hid aB
 have bz:=hid hn
 have HA:=hid hA
 have bi:=hid a4
 clear aD ac aO aG aJ aE aH ae aB hn hA a4 aZ hR hf hs hlW
 go_enter Tryz.func119,Tryz.ntmps119
 go_wp2_with fail
 have a5:=d3y 429 w (by omega) (by omega)
 refine a5.mono ?_
 rintro e w1 ⟨cb,cg,ch,rfl,aa,aC,bF,be,bu⟩
 have a0:=bb.out w1 (hc.same aC)
 clear a5
 go_wp2_with fail
 refine a0.mono ?_
 rintro e w2 ⟨fv,fg,rfl,ai,aX,bh⟩
 obtain ⟨fc,rfl,bo,bD,_,_⟩:=ai.oq
 rw [aW.out] at bo ⊢
 have ao:a0d vi w2 (some ⟨fg,0,none⟩) f:=ai.toOwn.cells
 have ah:=aa.same aX
 have bG:=aC.size
 have bj:=aa.lt
 have aA:=aC.tq aX
 clear a0 ai aC aX aa
 go_wp2_with fail
 go_loopg [28] n (fun j iv wr=>∃ (i g':Nat),iv=.int .i64 i/\i+j=n/\a7p 247 wr cb g' ch (c0h l W d i)/\a0d vi wr (some ⟨fg,0,none⟩) f/\w.heap.size<=g'/\g'≠fg/\Chg [] w wr)
 case atStart=>exact ⟨0,cg,rfl,by omega,ah,ao,be,by omega,aA⟩
 case round =>
  clear ah ao aA
  obtain ⟨i,g',rfl,bJ,aa,ao,bC,bE,aq⟩:=hrel
  have am:=aR.out i
  rcases gk with _ | j
  ·obtain rfl:i=n:=by omega
   have aF:=e6x wr cb g' ch _ aa am.1 (by have:=am.2.2;omega)
   rw [<-a7.out] at aF
   clear am aa
   have bp:=a7
   have aN:R.length<2^16:=by have:=bc.out;omega
   obtain ⟨r,hr⟩:=zX (R.length)
   rw [<-hr] at aF aN
   have HR:=hid hr
   clear hr
   go_wp2_with fail
   refine aF.mono ?_
   rintro e w3 ⟨g3,c3,rfl,ag,al,bw⟩
   have az:=h.same (aq.tq al)
   have aj:a0d b8 w3 (some ⟨g3,0,none⟩) R:=ag.toOwn.cells
   have bf:=aq.size
   have ap:Apt (some ⟨g3,0,none⟩) R F:=fun _ ad e hm=>by
    injection e with e
    subst e
    have:=bi.out _ hm
    simp at this
    omega
   have aV:=aq.tq al
   clear aF ag ao h
   go_wp2_with fail
   have br:r<65536:=aN
   refine (a0t w3 b F bs r 16 az (by omega) aN (by omega)).mono ?_
   rintro e w4 ⟨rfl,F4,av,af⟩
   have ay:=aj.keep ap af.chg
   have ax:=ap.grow aj af
   have ar:=a0u.pre aV af
   clear az aj ap af
   go_wp2_with fail
   go_loopg [57] r (fun j iv wr=>∃ (q:Nat) (F' aw:List Nat),iv=.int .i64 q/\q+j=r/\a2n wr b F' aw/\Hid (aw=bs++a0b r 16++(R.take q).flatMap fun x=>a0b x 8)/\aw.length<=bs.length+16+8*q/\a0d b8 wr (some ⟨g3,0,none⟩) R/\Apt (some ⟨g3,0,none⟩) R F'/\a0u F F' w wr)
   case atStart=>exact ⟨0,F4,_,rfl,by omega,av,hid (by simp),by rw [zC,a0a];omega,ay,ax,ar⟩
   case round =>
    clear av ay ax ar
    obtain ⟨q,F',aw,rfl,bv,a9,Hb,bH,aj,ap,ar⟩:=hrel
    rcases gk with _ | j
    ·obtain rfl:q=r:=by omega
     go_wp2
     go_end0
     refine ⟨rfl,F',?_,ar⟩
     have e:R.take q=R:=by rw [HR.out,zN]
     have h5:=Hb.out
     rw [e,zH] at h5
     rw [<-HR.out,<-h5]
     exact a9
    ·have bm:q<r:=by omega
     have aI:q<R.length:=by rw [<-HR.out];exact bm
     obtain ⟨g5,o5,e5,cl⟩:=aj.at_ aI
     injection e5 with e5
     injection e5 with e5 e6 _
     subst e5
     subst e6
     have a3:=ba.out R[q] (zG aI)
     have aS:(R.take (q+1)).flatMap (fun x=>a0b x 8)=(R.take q).flatMap (fun x=>a0b x 8)++a0b R[q] 8:=by rw [a0o R aI,List.flatMap_append,List.flatMap_cons,List.flatMap_nil,List.append_nil]
     obtain ⟨x,hx⟩:=zX (R[q])
     rw [<-hx] at cl a3 aS
     have aU:wr.cell? ⟨g3,0+q,none⟩=some (.int .u8 x):=cl
     rw [Nat.zero_add] at aU
     have bd:x<2^8:=a3
     have bn:=hid aS
     clear aS hx cl aI
     go_wp2_with fail
     refine (a0t wr b F' aw x 8 a9 (by omega) bd (by omega)).mono ?_
     rintro e w5 ⟨rfl,F5,aL,ak⟩
     go_wp2_with fail
     go_roundg j
     case measure=>omega
     case rel =>
      refine ⟨q+1,F5,_,by go_num,by omega,aL,hid ?_,?_,aj.keep ap ak.chg,ap.grow aj ak,ar.trans ak⟩
      ·rw [bn.out,Hb.out];simp only [zH]
      ·rw [zC,a0a];omega
  ·have aT:i<n:=by omega
   have aY:=bq.out i aT
   have bk:i<f.length:=by rw [aW.out];exact aT
   obtain ⟨g5,o5,e5,_,a6⟩:=ao.ex (by omega)
   injection e5 with e5
   injection e5 with e5 e6 _
   subst e5
   subst e6
   have cl:=a6 i _ aY
   rw [Nat.zero_add] at cl
   have aU:wr.cell? ⟨fg,i,none⟩=some (.int .i64 (a3c l W d i:Int)):=cl
   have aK:=HN.out i aT wr (hc.same aq)
   rw [<-c9s] at aK
   have bl:=c0g l W d i
   have ab:c0h l W d (i+1)=c8x (c0h l W d i) (33*d2y l W d i) (a3c l W d i):=rfl
   have ae:=aM.out i
   have aP:a3c l W d i<65536:=Nat.lt_of_lt_of_le ae (Nat.pow_le_pow_right (n:=2) (by decide) h1)
   obtain ⟨v,hv⟩:=zX (a3c l W d i)
   rw [<-hv] at aU ab aP
   obtain ⟨k,hk⟩:=zX (d2y l W d i)
   rw [<-hk] at aK bl ab
   have an:=fun w hc=>f3v w cb g' ch (c0h l W d i) (33*k) v hc am.1 (by rw [am.2.1];omega) (by omega) (by have:=am.2.2;omega)
   rw [<-ab] at an
   generalize a3d 7 (a8a l W i) d=gs at *
   have bB:=aa.lt
   have aQ:=hid an
   have a8:=hid ao
   clear ab hk hv ae an cl a6 aY bk am
   go_wp2_with fail
   refine aK.mono ?_
   rintro e w3 ⟨rfl,al⟩
   have a1:=aQ.out w3 (aa.same al)
   have bg:((33*k:Nat):Int)=33*(k:Int):=by simp
   rw [bg] at a1
   clear aK
   go_wp2_with fail
   refine a1.mono ?_
   rintro e w4 ⟨rfl,g4,au,a2,bx⟩
   go_wp2_with fail
   go_roundg j
   case measure=>omega
   case rel =>
    have bf:=al.size
    have bI:=aq.size
    refine ⟨i+1,g4,by go_num,by omega,au,?_,?_,?_,?_⟩
    ·exact (a8.out.same al).chg a2 (fun ad e hm=>by
      injection e with e
      subst e
      simp at hm
      omega)
    ·omega
    ·obtain ⟨b9,o9,e9,bA,_⟩:=a8.out.ex (by rw [aW.out];omega)
     injection e9 with e9
     injection e9 with e9 _ _
     omega
    ·exact (aq.tq al).trans a2 (fun x hx=>by
      simp at hx
      omega)
end Go.Proofs.YtepjepkgcdfboaaGreatDoor
