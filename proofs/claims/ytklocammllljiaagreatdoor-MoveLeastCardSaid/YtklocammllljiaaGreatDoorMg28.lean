/- package tile by its contracts, the eighth part: putRanged. -/
import Derived.Test.YtklocammllljiaaGreatDoorMg24
import Derived.Test.YtklocammllljiaaGreatDoorMg27
set_option linter.unusedVariables false
set_option linter.unusedSimpArgs false
set_option maxHeartbeats 2000000
set_option maxRecDepth 100000
namespace Go.Proofs.YtklocammllljiaaGreatDoor
open Go.RowKit
def clsN (l:List Int) (W d i:Nat):Nat:=(classI (nbrAt l W i) d).toNat
theorem clsN_le (l:List Int) (W d i:Nat):clsN l W d i<=12:=by
 have:=classI_ok (nbrAt l W i) d
 unfold clsN
 omega
theorem clsN_cast (l:List Int) (W d i:Nat):((clsN l W d i:Nat):Int)=classI (nbrAt l W i) d:=by
 have:=classI_ok (nbrAt l W i) d
 unfold clsN
 omega
def codR (l:List Int) (W d:Nat):Nat->Cod
 | 0=>newCod 429
 | i+1=>numL (codR l W d i) (33*clsN l W d i) (foldOf l W d i)
theorem codR_ok (l:List Int) (W:Nat) {d:Nat} (h0:1<=d) (h1:d<=16):∀ i,CodOk (codR l W d i)/\(codR l W d i).odds.length=429/\(codR l W d i).low.length<=4+65*i
 | 0=>⟨newCod_ok _,zV,by show ([0,0,0,0]:List Nat).length<=4+65*0;decide⟩
 | i+1=>by
  obtain ⟨k1,k2,k3⟩:=codR_ok l W h0 h1 i
  have hc:=clsN_le l W d i
  have hf:=foldOf_lt l W h0 i
  have hf2:foldOf l W d i<4294967296:=Nat.lt_of_lt_of_le hf (Nat.le_trans (Nat.pow_le_pow_right (n:=2) (by decide) h1) (by decide))
  have h5:=numL_len (codR l W d i) (33*clsN l W d i) hf2
  exact ⟨numL_ok k1 hf2 (by omega),by unfold codR;rw [numL_odds_len,k2],by unfold codR;omega⟩
def rangedL (l:List Int) (W d:Nat):List Nat:=(codR l W d l.length).low
def rangedBits (l:List Int) (W d:Nat):List Nat:=bitsOf (rangedL l W d).length 16++(rangedL l W d).flatMap fun x=>bitsOf x 8
theorem rangedL_len (l:List Int) (W:Nat) {d:Nat} (h0:1<=d) (h1:d<=16):(rangedL l W d).length<=4+65*l.length:=(codR_ok l W h0 h1 l.length).2.2
theorem rangedL_lt (l:List Int) (W:Nat) {d:Nat} (h0:1<=d) (h1:d<=16):∀ x∈rangedL l W d,x<256:=(codR_ok l W h0 h1 l.length).1.dig
theorem putRanged_ok (w:World) (b:Nat) (F bs:List Nat) (l:List Int) (A:Option Addr) (cap W d:Nat) (h:IsWr w b F bs) (hw0:1<=W) (hw1:W<=16) (h0:1<=d) (h1:d<=16) (hl:l.length<=256) (hlW:l.length<=64*W) (hs:SmpOk d l) (hc:Cells vi w A l) (hA:Apt A l F) (hbs:bs.length<68719476736) :
  Calls Tryz.prog 140 #[.pointer (some ⟨b,0,none⟩),.slice A l.length cap,.int .i64 W,.int .i64 d] w fun e w'=>e=.returned (.tuple #[])/\∃ F',IsWr w' b F' (bs++rangedBits l W d)/\Grow F F' w w':=by
 have aK:=fun w hc=>folded_ok l A cap W d w h0 h1 hw0 (by omega) hlW hs hc (by omega)
 have ac:=fun i (hi:i<l.length) w hc=>tnear_ok l A cap W d i w h0 h1 hw0 (by omega) (by omega) (by omega) hs hc (by omega)
 have a4:rangedBits l W d=bitsOf (rangedL l W d).length 16++(rangedL l W d).flatMap fun x=>bitsOf x 8:=rfl
 have aC:=rangedL_len l W h0 h1
 have aL:=rangedL_lt l W h0 h1
 have aJ:rangedL l W d=(codR l W d l.length).low:=rfl
 rw [a4]
 obtain ⟨R,hR⟩:=zX (rangedL l W d)
 rw [<-hR] at aC aL aJ ⊢
 have aD:=foldedL_len l W d
 have aI:∀ i,i<l.length->(foldedL l W d)[i]?=some (foldOf l W d i:Int):=fun i hi=>by simp [foldedL,foldedN,hi]
 have ae:=fun i=>foldOf_lt l W h0 i
 have av:=fun i=>codR_ok l W h0 h1 i
 obtain ⟨f,hf⟩:=zX (foldedL l W d)
 rw [<-hf] at aK aD aI
 obtain ⟨n,hn⟩:=zX (l.length)
 rw [<-hn] at aK ac aC aJ aD aI hl ⊢
 have a0:=h.lt
 have bo:=hid aK
 have HN:=hid ac
 have bc:=hid aL
 have a1:=hid aJ
 have bk:=hid aC
 have aM:=hid aD
 have bd:=hid aI
 have aR:=hid ae
 have aN:=hid av
 have bB:=hid hn
 have HA:=hid hA
 have bg:=hid a0
 clear aK ac aL aJ aC aD aI ae av hn hA a0 a4 hR hf hs hlW
 go_enter Tryz.func140,Tryz.ntmps140
 go_wp2_with fail
 have aY:=newCoder_ok 429 w (by omega) (by omega)
 refine aY.mono ?_
 rintro e w1 ⟨cb,cg,ch,rfl,aa,aG,bF,bp,bI⟩
 have a2:=bo.out w1 (hc.same aG)
 clear aY
 go_wp2_with fail
 refine a2.mono ?_
 rintro e w2 ⟨fv,fg,rfl,an,aQ,ba⟩
 obtain ⟨fc,rfl,bj,bG,_,_⟩:=an.open_map
 rw [aM.out] at bj ⊢
 have ao:Cells vi w2 (some ⟨fg,0,none⟩) f:=an.toOwn.cells
 have ag:=aa.same aQ
 have br:=aG.size
 have bi:=aa.lt
 have aA:=aG.trans_same aQ
 clear a2 an aG aQ aa
 go_wp2_with fail
 go_loopg [28] n (fun j iv wr=>∃ (i g':Nat),iv=.int .i64 i/\i+j=n/\IsCod 264 wr cb g' ch (codR l W d i)/\Cells vi wr (some ⟨fg,0,none⟩) f/\w.heap.size<=g'/\g'≠fg/\Chg [] w wr)
 case atStart=>exact ⟨0,cg,rfl,by omega,ag,ao,bp,by omega,aA⟩
 case round =>
  clear ag ao aA
  obtain ⟨i,g',rfl,bu,aa,ao,bz,bH,aq⟩:=hrel
  have ai:=aN.out i
  rcases gk with _ | j
  ·obtain rfl:i=n:=by omega
   have aE:=bytes_ok wr cb g' ch _ aa ai.1 (by have:=ai.2.2;omega)
   rw [<-a1.out] at aE
   clear ai aa
   have bm:=a1
   have aV:R.length<2^16:=by have:=bk.out;omega
   obtain ⟨r,hr⟩:=zX (R.length)
   rw [<-hr] at aE aV
   have HR:=hid hr
   clear hr
   go_wp2_with fail
   refine aE.mono ?_
   rintro e w3 ⟨g3,c3,rfl,ah,am,bv⟩
   have az:=h.same (aq.trans_same am)
   have ak:Cells b8 w3 (some ⟨g3,0,none⟩) R:=ah.toOwn.cells
   have bq:=aq.size
   have ap:Apt (some ⟨g3,0,none⟩) R F:=fun _ ad e hm=>by
    injection e with e
    subst e
    have:=bg.out _ hm
    simp at this
    omega
   have aS:=aq.trans_same am
   clear aE ah ao h
   go_wp2_with fail
   have bJ:r<65536:=aV
   refine (wput_ok w3 b F bs r 16 az (by omega) aV (by omega)).mono ?_
   rintro e w4 ⟨rfl,F4,aw,af⟩
   have au:=ak.keep ap af.chg
   have aB:=ap.grow ak af
   have ay:=Grow.pre aS af
   clear az ak ap af
   go_wp2_with fail
   go_loopg [57] r (fun j iv wr=>∃ (q:Nat) (F' ax:List Nat),iv=.int .i64 q/\q+j=r/\IsWr wr b F' ax/\Hid (ax=bs++bitsOf r 16++(R.take q).flatMap fun x=>bitsOf x 8)/\ax.length<=bs.length+16+8*q/\Cells b8 wr (some ⟨g3,0,none⟩) R/\Apt (some ⟨g3,0,none⟩) R F'/\Grow F F' w wr)
   case atStart=>exact ⟨0,F4,_,rfl,by omega,aw,hid (by simp),by rw [zC,bitsOf_len];omega,au,aB,ay⟩
   case round =>
    clear aw au aB ay
    obtain ⟨q,F',ax,rfl,bA,a3,Hb,bw,ak,ap,ay⟩:=hrel
    rcases gk with _ | j
    ·obtain rfl:q=r:=by omega
     go_wp2
     go_end0
     refine ⟨rfl,F',?_,ay⟩
     have e:R.take q=R:=by rw [HR.out,zN]
     have h5:=Hb.out
     rw [e,zH] at h5
     rw [<-HR.out,<-h5]
     exact a3
    ·have bl:q<r:=by omega
     have aH:q<R.length:=by rw [<-HR.out];exact bl
     obtain ⟨g5,o5,e5,cl⟩:=ak.at_ aH
     injection e5 with e5
     injection e5 with e5 e6 _
     subst e5
     subst e6
     have a9:=bc.out R[q] (zG aH)
     have aO:(R.take (q+1)).flatMap (fun x=>bitsOf x 8)=(R.take q).flatMap (fun x=>bitsOf x 8)++bitsOf R[q] 8:=by rw [take_snoc' R aH,List.flatMap_append,List.flatMap_cons,List.flatMap_nil,List.append_nil]
     obtain ⟨x,hx⟩:=zX (R[q])
     rw [<-hx] at cl a9 aO
     have aT:wr.cell? ⟨g3,0+q,none⟩=some (.int .u8 x):=cl
     rw [Nat.zero_add] at aT
     have be:x<2^8:=a9
     have bh:=hid aO
     clear aO hx cl aH
     go_wp2_with fail
     refine (wput_ok wr b F' ax x 8 a3 (by omega) be (by omega)).mono ?_
     rintro e w5 ⟨rfl,F5,aP,aj⟩
     go_wp2_with fail
     go_roundg j
     case measure=>omega
     case rel =>
      refine ⟨q+1,F5,_,by go_num,by omega,aP,hid ?_,?_,ak.keep ap aj.chg,ap.grow ak aj,ay.trans aj⟩
      ·rw [bh.out,Hb.out];simp only [zH]
      ·rw [zC,bitsOf_len];omega
  ·have aX:i<n:=by omega
   have a8:=bd.out i aX
   have bb:i<f.length:=by rw [aM.out];exact aX
   obtain ⟨g5,o5,e5,_,a6⟩:=ao.ex (by omega)
   injection e5 with e5
   injection e5 with e5 e6 _
   subst e5
   subst e6
   have cl:=a6 i _ a8
   rw [Nat.zero_add] at cl
   have aT:wr.cell? ⟨fg,i,none⟩=some (.int .i64 (foldOf l W d i:Int)):=cl
   have aF:=HN.out i aX wr (hc.same aq)
   rw [<-clsN_cast] at aF
   have bn:=clsN_le l W d i
   have ab:codR l W d (i+1)=numL (codR l W d i) (33*clsN l W d i) (foldOf l W d i):=rfl
   have ae:=aR.out i
   have aU:foldOf l W d i<65536:=Nat.lt_of_lt_of_le ae (Nat.pow_le_pow_right (n:=2) (by decide) h1)
   obtain ⟨v,hv⟩:=zX (foldOf l W d i)
   rw [<-hv] at aT ab aU
   obtain ⟨k,hk⟩:=zX (clsN l W d i)
   rw [<-hk] at aF bn ab
   have al:=fun w hc=>num_ok w cb g' ch (codR l W d i) (33*k) v hc ai.1 (by rw [ai.2.1];omega) (by omega) (by have:=ai.2.2;omega)
   rw [<-ab] at al
   generalize guessI 7 (nbrAt l W i) d=gs at *
   have bD:=aa.lt
   have aW:=hid al
   have a7:=hid ao
   clear ab hk hv ae al cl a6 a8 bb ai
   go_wp2_with fail
   refine aF.mono ?_
   rintro e w3 ⟨rfl,am⟩
   have a5:=aW.out w3 (aa.same am)
   have bf:((33*k:Nat):Int)=33*(k:Int):=by simp
   rw [bf] at a5
   clear aF
   go_wp2_with fail
   refine a5.mono ?_
   rintro e w4 ⟨rfl,g4,ar,aZ,bE⟩
   go_wp2_with fail
   go_roundg j
   case measure=>omega
   case rel =>
    have bq:=am.size
    have bC:=aq.size
    refine ⟨i+1,g4,by go_num,by omega,ar,?_,?_,?_,?_⟩
    ·exact (a7.out.same am).chg aZ (fun ad e hm=>by
      injection e with e
      subst e
      simp at hm
      omega)
    ·omega
    ·obtain ⟨b9,o9,e9,bx,_⟩:=a7.out.ex (by rw [aM.out];omega)
     injection e9 with e9
     injection e9 with e9 _ _
     omega
    ·exact (aq.trans_same am).trans aZ (fun x hx=>by
      simp at hx
      omega)
end Go.Proofs.YtklocammllljiaaGreatDoor
