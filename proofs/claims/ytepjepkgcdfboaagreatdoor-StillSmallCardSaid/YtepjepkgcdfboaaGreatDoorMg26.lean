/- package tile by its contracts, the eighth part: putRanged. -/
import Derived.Test.YtepjepkgcdfboaaGreatDoorMg22
import Derived.Test.YtepjepkgcdfboaaGreatDoorMg25
set_option linter.unusedVariables false
set_option linter.unusedSimpArgs false
set_option maxHeartbeats 2000000
set_option maxRecDepth 100000
namespace Go.Proofs.YtepjepkgcdfboaaGreatDoor
open Go.RowKit
def clsN (l:List Int) (W d i:Nat):Nat:=(classI (nbrAt l W i) d).toNat
theorem clsN_le (l:List Int) (W d i:Nat):clsN l W d i<=12:=by
 have:=classI_ok (nbrAt l W i) d
 unfold clsN
 omega
theorem clsN_cast (l:List Int) (W d i:Nat):((clsN l W d i:Nat):Int)=classI (nbrAt l W i) d:=by
 have:=classI_ok (nbrAt l W i) d
 unfold clsN
 omega
def codR (l:List Int) (W d:Nat):Nat->Cod
 | 0=>newCod 429
 | i+1=>numL (codR l W d i) (33*clsN l W d i) (foldOf l W d i)
theorem codR_ok (l:List Int) (W:Nat) {d:Nat} (h0:1<=d) (h1:d<=16):∀ i,CodOk (codR l W d i)/\(codR l W d i).odds.length=429/\(codR l W d i).low.length<=4+65*i
 | 0=>⟨newCod_ok _,zV,by show ([0,0,0,0]:List Nat).length<=4+65*0;decide⟩
 | i+1=>by
  obtain ⟨k1,k2,k3⟩:=codR_ok l W h0 h1 i
  have hc:=clsN_le l W d i
  have hf:=foldOf_lt l W h0 i
  have hf2:foldOf l W d i<4294967296:=Nat.lt_of_lt_of_le hf (Nat.le_trans (Nat.pow_le_pow_right (n:=2) (by decide) h1) (by decide))
  have h5:=numL_len (codR l W d i) (33*clsN l W d i) hf2
  exact ⟨numL_ok k1 hf2 (by omega),by unfold codR;rw [numL_odds_len,k2],by unfold codR;omega⟩
def rangedL (l:List Int) (W d:Nat):List Nat:=(codR l W d l.length).low
def rangedBits (l:List Int) (W d:Nat):List Nat:=bitsOf (rangedL l W d).length 16++(rangedL l W d).flatMap fun x=>bitsOf x 8
theorem rangedL_len (l:List Int) (W:Nat) {d:Nat} (h0:1<=d) (h1:d<=16):(rangedL l W d).length<=4+65*l.length:=(codR_ok l W h0 h1 l.length).2.2
theorem rangedL_lt (l:List Int) (W:Nat) {d:Nat} (h0:1<=d) (h1:d<=16):∀ x∈rangedL l W d,x<256:=(codR_ok l W h0 h1 l.length).1.dig
theorem putRanged_ok (w:World) (b:Nat) (F bs:List Nat) (l:List Int) (A:Option Addr) (cap W d:Nat) (h:IsWr w b F bs) (hw0:1<=W) (hw1:W<=16) (h0:1<=d) (h1:d<=16) (hl:l.length<=256) (hlW:l.length<=64*W) (hs:SmpOk d l) (hc:Cells vi w A l) (hA:Apt A l F) (hbs:bs.length<68719476736) :
  Calls Tryz.prog 119 #[.pointer (some ⟨b,0,none⟩),.slice A l.length cap,.int .i64 W,.int .i64 d] w fun e w'=>e=.returned (.tuple #[])/\∃ F',IsWr w' b F' (bs++rangedBits l W d)/\Grow F F' w w':=by
 have aF:=fun w hc=>folded_ok l A cap W d w h0 h1 hw0 (by omega) hlW hs hc (by omega)
 have ac:=fun i (hi:i<l.length) w hc=>tnear_ok l A cap W d i w h0 h1 hw0 (by omega) (by omega) (by omega) hs hc (by omega)
 have a4:rangedBits l W d=bitsOf (rangedL l W d).length 16++(rangedL l W d).flatMap fun x=>bitsOf x 8:=rfl
 have aJ:=rangedL_len l W h0 h1
 have aQ:=rangedL_lt l W h0 h1
 have aH:rangedL l W d=(codR l W d l.length).low:=rfl
 rw [a4]
 obtain ⟨R,hR⟩:=zX (rangedL l W d)
 rw [<-hR] at aJ aQ aH ⊢
 have aI:=foldedL_len l W d
 have aE:∀ i,i<l.length->(foldedL l W d)[i]?=some (foldOf l W d i:Int):=fun i hi=>by simp [foldedL,foldedN,hi]
 have ae:=fun i=>foldOf_lt l W h0 i
 have au:=fun i=>codR_ok l W h0 h1 i
 obtain ⟨f,hf⟩:=zX (foldedL l W d)
 rw [<-hf] at aF aI aE
 obtain ⟨n,hn⟩:=zX (l.length)
 rw [<-hn] at aF ac aJ aH aI aE hl ⊢
 have aY:=h.lt
 have be:=hid aF
 have HN:=hid ac
 have bc:=hid aQ
 have aZ:=hid aH
 have bg:=hid aJ
 have aT:=hid aI
 have bj:=hid aE
 have aX:=hid ae
 have aU:=hid au
 have bu:=hid hn
 have HA:=hid hA
 have bi:=hid aY
 clear aF ac aQ aH aJ aI aE ae au hn hA aY a4 hR hf hs hlW
 go_enter Tryz.func119,Tryz.ntmps119
 go_wp2_with fail
 have a5:=newCoder_ok 429 w (by omega) (by omega)
 refine a5.mono ?_
 rintro e w1 ⟨cb,cg,ch,rfl,aa,aD,br,ba,bD⟩
 have a1:=be.out w1 (hc.same aD)
 clear a5
 go_wp2_with fail
 refine a1.mono ?_
 rintro e w2 ⟨fv,fg,rfl,an,aP,bh⟩
 obtain ⟨fc,rfl,bf,bH,_,_⟩:=an.open_map
 rw [aT.out] at bf ⊢
 have ao:Cells vi w2 (some ⟨fg,0,none⟩) f:=an.toOwn.cells
 have ag:=aa.same aP
 have bE:=aD.size
 have bk:=aa.lt
 have aA:=aD.trans_same aP
 clear a1 an aD aP aa
 go_wp2_with fail
 go_loopg [28] n (fun j iv wr=>∃ (i g':Nat),iv=.int .i64 i/\i+j=n/\IsCod 247 wr cb g' ch (codR l W d i)/\Cells vi wr (some ⟨fg,0,none⟩) f/\w.heap.size<=g'/\g'≠fg/\Chg [] w wr)
 case atStart=>exact ⟨0,cg,rfl,by omega,ag,ao,ba,by omega,aA⟩
 case round =>
  clear ag ao aA
  obtain ⟨i,g',rfl,bJ,aa,ao,bB,bF,aq⟩:=hrel
  have al:=aU.out i
  rcases gk with _ | j
  ·obtain rfl:i=n:=by omega
   have aG:=bytes_ok wr cb g' ch _ aa al.1 (by have:=al.2.2;omega)
   rw [<-aZ.out] at aG
   clear al aa
   have bn:=aZ
   have aR:R.length<2^16:=by have:=bg.out;omega
   obtain ⟨r,hr⟩:=zX (R.length)
   rw [<-hr] at aG aR
   have HR:=hid hr
   clear hr
   go_wp2_with fail
   refine aG.mono ?_
   rintro e w3 ⟨g3,c3,rfl,ah,am,bz⟩
   have az:=h.same (aq.trans_same am)
   have ai:Cells b8 w3 (some ⟨g3,0,none⟩) R:=ah.toOwn.cells
   have bd:=aq.size
   have ap:Apt (some ⟨g3,0,none⟩) R F:=fun _ ad e hm=>by
    injection e with e
    subst e
    have:=bi.out _ hm
    simp at this
    omega
   have aS:=aq.trans_same am
   clear aG ah ao h
   go_wp2_with fail
   have bI:r<65536:=aR
   refine (wput_ok w3 b F bs r 16 az (by omega) aR (by omega)).mono ?_
   rintro e w4 ⟨rfl,F4,ay,af⟩
   have ar:=ai.keep ap af.chg
   have aw:=ap.grow ai af
   have ax:=Grow.pre aS af
   clear az ai ap af
   go_wp2_with fail
   go_loopg [57] r (fun j iv wr=>∃ (q:Nat) (F' aB:List Nat),iv=.int .i64 q/\q+j=r/\IsWr wr b F' aB/\Hid (aB=bs++bitsOf r 16++(R.take q).flatMap fun x=>bitsOf x 8)/\aB.length<=bs.length+16+8*q/\Cells b8 wr (some ⟨g3,0,none⟩) R/\Apt (some ⟨g3,0,none⟩) R F'/\Grow F F' w wr)
   case atStart=>exact ⟨0,F4,_,rfl,by omega,ay,hid (by simp),by rw [zC,bitsOf_len];omega,ar,aw,ax⟩
   case round =>
    clear ay ar aw ax
    obtain ⟨q,F',aB,rfl,bA,a6,Hb,bv,ai,ap,ax⟩:=hrel
    rcases gk with _ | j
    ·obtain rfl:q=r:=by omega
     go_wp2
     go_end0
     refine ⟨rfl,F',?_,ax⟩
     have e:R.take q=R:=by rw [HR.out,zN]
     have h5:=Hb.out
     rw [e,zH] at h5
     rw [<-HR.out,<-h5]
     exact a6
    ·have bp:q<r:=by omega
     have aC:q<R.length:=by rw [<-HR.out];exact bp
     obtain ⟨g5,o5,e5,cl⟩:=ai.at_ aC
     injection e5 with e5
     injection e5 with e5 e6 _
     subst e5
     subst e6
     have a3:=bc.out R[q] (zG aC)
     have aN:(R.take (q+1)).flatMap (fun x=>bitsOf x 8)=(R.take q).flatMap (fun x=>bitsOf x 8)++bitsOf R[q] 8:=by rw [take_snoc' R aC,List.flatMap_append,List.flatMap_cons,List.flatMap_nil,List.append_nil]
     obtain ⟨x,hx⟩:=zX (R[q])
     rw [<-hx] at cl a3 aN
     have aO:wr.cell? ⟨g3,0+q,none⟩=some (.int .u8 x):=cl
     rw [Nat.zero_add] at aO
     have bq:x<2^8:=a3
     have bo:=hid aN
     clear aN hx cl aC
     go_wp2_with fail
     refine (wput_ok wr b F' aB x 8 a6 (by omega) bq (by omega)).mono ?_
     rintro e w5 ⟨rfl,F5,aM,ak⟩
     go_wp2_with fail
     go_roundg j
     case measure=>omega
     case rel =>
      refine ⟨q+1,F5,_,by go_num,by omega,aM,hid ?_,?_,ai.keep ap ak.chg,ap.grow ai ak,ax.trans ak⟩
      ·rw [bo.out,Hb.out];simp only [zH]
      ·rw [zC,bitsOf_len];omega
  ·have aW:i<n:=by omega
   have a8:=bj.out i aW
   have bl:i<f.length:=by rw [aT.out];exact aW
   obtain ⟨g5,o5,e5,_,a0⟩:=ao.ex (by omega)
   injection e5 with e5
   injection e5 with e5 e6 _
   subst e5
   subst e6
   have cl:=a0 i _ a8
   rw [Nat.zero_add] at cl
   have aO:wr.cell? ⟨fg,i,none⟩=some (.int .i64 (foldOf l W d i:Int)):=cl
   have aK:=HN.out i aW wr (hc.same aq)
   rw [<-clsN_cast] at aK
   have bm:=clsN_le l W d i
   have ab:codR l W d (i+1)=numL (codR l W d i) (33*clsN l W d i) (foldOf l W d i):=rfl
   have ae:=aX.out i
   have aL:foldOf l W d i<65536:=Nat.lt_of_lt_of_le ae (Nat.pow_le_pow_right (n:=2) (by decide) h1)
   obtain ⟨v,hv⟩:=zX (foldOf l W d i)
   rw [<-hv] at aO ab aL
   obtain ⟨k,hk⟩:=zX (clsN l W d i)
   rw [<-hk] at aK bm ab
   have aj:=fun w hc=>num_ok w cb g' ch (codR l W d i) (33*k) v hc al.1 (by rw [al.2.1];omega) (by omega) (by have:=al.2.2;omega)
   rw [<-ab] at aj
   generalize guessI 7 (nbrAt l W i) d=gs at *
   have bx:=aa.lt
   have aV:=hid aj
   have a9:=hid ao
   clear ab hk hv ae aj cl a0 a8 bl al
   go_wp2_with fail
   refine aK.mono ?_
   rintro e w3 ⟨rfl,am⟩
   have a2:=aV.out w3 (aa.same am)
   have bb:((33*k:Nat):Int)=33*(k:Int):=by simp
   rw [bb] at a2
   clear aK
   go_wp2_with fail
   refine a2.mono ?_
   rintro e w4 ⟨rfl,g4,av,a7,bw⟩
   go_wp2_with fail
   go_roundg j
   case measure=>omega
   case rel =>
    have bd:=am.size
    have bC:=aq.size
    refine ⟨i+1,g4,by go_num,by omega,av,?_,?_,?_,?_⟩
    ·exact (a9.out.same am).chg a7 (fun ad e hm=>by
      injection e with e
      subst e
      simp at hm
      omega)
    ·omega
    ·obtain ⟨b9,o9,e9,bG,_⟩:=a9.out.ex (by rw [aT.out];omega)
     injection e9 with e9
     injection e9 with e9 _ _
     omega
    ·exact (aq.trans_same am).trans a7 (fun x hx=>by
      simp at hx
      omega)
end Go.Proofs.YtepjepkgcdfboaaGreatDoor
