/- package tile by its contracts, the fifth part: putGuessed. -/
import Derived.Test.YtepjepkgcdfboaaGreatDoorMg17
import Derived.Test.YtepjepkgcdfboaaGreatDoorMg19
set_option linter.unusedVariables false
set_option linter.unusedSimpArgs false
set_option maxHeartbeats 4000000
set_option maxRecDepth 100000
namespace Go.Proofs.YtepjepkgcdfboaaGreatDoor
open Go.RowKit
def d6w (f:Int->Int) (E:List Int) (i:Nat):List Int:=(E.take i).map f++E.drop i
theorem c7h (f:Int->Int) (E:List Int) (i:Nat):(d6w f E i).length=E.length:=by simp [d6w];omega
theorem c1r (f:Int->Int) (E:List Int):d6w f E 0=E:=by simp [d6w]
theorem c1q (f:Int->Int) (E:List Int):d6w f E E.length=E.map f:=by simp [d6w]
theorem d3x (f:Int->Int) (E:List Int) {i:Nat} (h:i<E.length):(d6w f E i)[i]?=some (E.getD i 0):=by
 unfold d6w
 rw [zS (by simp;omega)]
 rw [zE,zI,Nat.min_eq_left (by omega),Nat.sub_self,List.getElem?_drop,Nat.add_zero,zF h,zD,zF h]
 rfl
theorem c7i (f:Int->Int) (E:List Int) {i:Nat} (h:i<E.length):(d6w f E i).set i (f (E.getD i 0))=d6w f E (i+1):=by
 unfold d6w
 have hl:((E.take i).map f).length=i:=by simp;omega
 rw [List.set_append_right _ _ (by omega),hl,Nat.sub_self,List.drop_eq_getElem_cons h,List.set_cons_zero,a0o E h,zM,zH]
 congr 2
 rw [zD,zF h]
 rfl
def a8w (l:List Int) (W H d:Nat):List Int:=(b3y l W H d (a0s l W H d)).map fun v=>a1b v d
theorem c0u (l:List Int) (W H d:Nat):(a8w l W H d).length=W*H:=by simp [a8w,c0v]
def a7j (e:List Int) (n:Nat):List Nat :=
 b3t (a1f n 0 4 e).order (a1f n 0 4 e).ks (a1k (a1q (a1f n 0 4 e).order n 0) e)
def a6p (l:List Int) (W H d:Nat):List Int:=(a0s l W H d).map Int.ofNat
def a2z (l:List Int) (W H d:Nat):List Nat:=a1v (a6p l W H d) 4++a7j (a8w l W H d) (W*H)
theorem b7a (l:List Int) (W H d:Nat):(a6p l W H d).length=H:=by simp [a6p,a4m]
theorem d0t (l:List Int) (W H d:Nat):a1u 4 (a6p l W H d):=by
 intro s hs
 obtain ⟨k,hk,rfl⟩:=List.mem_map.1 hs
 have:=a8l l W H d k hk
 show (0:Int)<=(k:Int)/\(k:Int)<2^4
 omega
theorem d0u (l:List Int) (W H d:Nat):(a0s l W H d).map i64=(a6p l W H d).map vi:=by
 unfold a6p
 rw [List.map_map]
 rfl
theorem b6v (l:List Int) (W H d:Nat) (h0:1<=d) (h1:d<=16):∀ x∈a8w l W H d,a2e x:=by
 intro x hx
 obtain ⟨v,_,rfl⟩:=List.mem_map.1 hx
 have:=a7k h1 (a2s v h0)
 unfold a2e
 omega
theorem c1e {n:Nat} (e:List Int):f1c (a1f n 0 4 e).ks:=by
 have h:=a7u (n:=n) (warm:=0) (most:=4) (by omega) e
 rw [h.1.2.1]
 intro k hk
 obtain ⟨p,_,rfl⟩:=List.mem_map.1 hk
 exact c4w p
theorem c1f {n:Nat} (e:List Int):(a1f n 0 4 e).ks.length=(a1q (a1f n 0 4 e).order n 0).length:=by
 have h:=a7u (n:=n) (warm:=0) (most:=4) (by omega) e
 have h2:=congrArg List.length h.1.2.1
 unfold a6s at h2
 rw [zE,a5h] at h2
 exact h2
theorem c7w (w:World) (b:Nat) (F bs:List Nat) (l:List Int) (A:Option Addr) (cap W H d:Nat) (h:a2n w b F bs) (hw0:1<=W) (hw1:W<=16) (hh0:1<=H) (hh1:H<=16) (h0:1<=d) (h1:d<=16) (hl:l.length=W*H) (hs:a1u d l) (hc:a0d vi w A l) (hA:Apt A l F) (hbs:bs.length<68719476736) :
  Calls Tryz.prog 115 #[.pointer (some ⟨b,0,none⟩),.slice A l.length cap,.int .i64 W,.int .i64 H,.int .i64 d] w fun e w'=>e=.returned (.tuple #[])/\∃ F',a2n w' b F' (bs++a2z l W H d)/\a0u F F' w w':=by
 have aK:l.length<=256:=by rw [hl];exact zL hw1 hh1
 have aZ:1<=l.length:=by rw [hl];exact zL hw0 hh0
 have aD:=e7s l A cap W H d w hw0 (by omega) hh0 (by omega) h0 h1 hl hs hc
 have ax:=fun Ak capk w hc hck=>e7u l A cap W H d (a0s l W H d) Ak capk w hw0 (by omega) hh0 (by omega) h0 h1 hl hs hc (a4m l W H d) (a8l l W H d) hck
 have aw:=c0v l W H d (a0s l W H d)
 have aH:=c0u l W H d
 have a8:=b6v l W H d h0 h1
 have aa:a2z l W H d=a1v (a6p l W H d) 4++a7j (a8w l W H d) (W*H):=rfl
 rw [<-hl] at aw aH aa
 have bd:=d0u l W H d
 have aT:=b7a l W H d
 have a5:=d0t l W H d
 have ba:a8w l W H d=(b3y l W H d (a0s l W H d)).map fun v=>a1b v d:=rfl
 rw [bd] at aD
 rw [a4m] at ax
 have ar:∀ Ak w,a0d vi w Ak (a6p l W H d)->a0d i64 w Ak (a0s l W H d):=fun Ak w h=>a0d.map (f:=vi) (k:=Int.ofNat) h
 generalize b3y l W H d (a0s l W H d)=E at *
 obtain ⟨EF,bl⟩:=zX (a8w l W H d)
 rw [<-bl] at aH a8 aa ba
 obtain ⟨K,hK⟩:=zX (a6p l W H d)
 rw [<-hK] at aD aT a5 aa ar
 rw [aa]
 have bj:∀ x∈F,x<w.heap.size:=h.lt
 obtain ⟨m,hm⟩:=zX (l.length)
 rw [<-hm] at aD ax aw aH aK aZ ⊢
 have ad:=c1e (n:=m) EF
 have ac:=c1f (n:=m) EF
 have aj:=a7u (n:=m) (warm:=0) (most:=4) (by omega) EF
 have bh:a7j EF m=b3t (a1f m 0 4 EF).order (a1f m 0 4 EF).ks (a1k (a1q (a1f m 0 4 EF).order m 0) EF):=rfl
 rw [bh]
 have ay:=aj.1.1
 have aQ:=aj.2.1
 have ag:=hid aT
 have bG:=hid ax
 have bC:=hid ar
 have bD:=hid bj
 have be:=hid a8
 have bq:=hid ba
 have bx:=hid a5
 have aS:=hid ad
 have aO:=hid ac
 have bI:=hid ay
 have HM:=hid hm
 have HA:=hid hA
 clear ax ar bj a8 ba a5 ad ac ay hm hl hs aa bl hK bd aj bh hA aT
 go_enter Tryz.func115,Tryz.ntmps115
 go_wp2_with fail
 refine aD.mono ?_
 rintro e w1 ⟨v1,G1,rfl,au,bg,bE⟩
 obtain ⟨A1,c1,rfl,bF,bA,a3⟩:=au.oq
 have ao:Apt A1 K F:=au.apt (fun x hx hm=>by have:=bD.out x hm;have:=bE x hx;omega)
 clear aD au
 go_wp2_with fail
 refine (c2i w1 b F bs K A1 c1 4 (h.same bg) (by omega) (by have:=ag.out;omega) bx.out a3 ao (by omega)).mono ?_
 rintro e w2 ⟨rfl,F2,av,aq⟩
 have ae:=a0u.pre bg aq
 have bm:=hc.keep HA.out ae.chg
 have aL:=a3.keep ao aq.chg
 clear aq ao a3 h
 have ax:=bG.out A1 c1 w2 bm (bC.out _ _ aL)
 rw [ag.out]
 clear aL
 go_wp2_with fail
 refine ax.mono ?_
 rintro e w3 ⟨v3,G3,rfl,aA,bi,bn⟩
 have bN:=ae.size
 have aM:=aA.cases
 rcases aM with ⟨_,aR,_⟩ | ⟨g3,ai,rfl⟩
 ·exfalso
  have:=congrArg List.length aR
  rw [zE,aw] at this
  simp at this
  omega
 obtain ⟨al,rfl,aW,aE,_,_⟩:=ai.oq
 have bv:w2.heap.size<=g3:=bn g3 (by simp)
 have aB:=av.same bi
 have aG:g3∉F2:=fun hm=>by have:=av.lt _ hm;omega
 clear ax aA bn av
 rw [aw] at aW ai ⊢
 go_wp2_with fail
 go_loopg [35] m (fun j iv wr=>∃ (i:Nat),iv=.int .i64 i/\i+j=m/\Row wr 3 (.slice (some ⟨g3,0,none⟩) m al) g3 ((d6w (fun v=>a1b v d) E i).map vi)/\Chg [g3] w3 wr)
 case atStart=>exact ⟨0,rfl,by omega,by rw [c1r];exact ai,zR _ _⟩
 case round =>
  clear ai
  obtain ⟨i,rfl,bO,ab,bb⟩:=hrel
  rcases gk with _ | j
  ·obtain rfl:i=m:=by omega
   rw [<-aw,c1q,<-bq.out,aw] at ab
   have a4:a0d vi wr (some ⟨g3,0,none⟩) EF:=by
    have:=ab.toOwn.cells
    exact this
   have a6:Apt (some ⟨g3,0,none⟩) EF F2:=ab.toOwn.apt (fun x hx=>by rw [zU.1 hx];exact aG)
   have am:=aB.chg bb (fun x hx hm=>by rw [zU.1 hm] at hx;exact aG hx)
   have ap:a0u F F2 w wr:=⟨ae.chg.trans (bi.trans bb (fun x hx=>by rw [zU.1 hx];exact .inr bv)) (by simp),ae.new⟩
   have af:=e9j i 0 4 EF (some ⟨g3,0,none⟩) al wr aZ (by omega) (by omega) (by omega) (by omega) be.out a4 (by omega) aE
   rw [aH] at af
   clear aB ae ab bm
   go_wp2_with fail
   refine af.mono ?_
   rintro e w5 ⟨v5,G5,rfl,an,a9,bo⟩
   obtain ⟨A5,c5,rfl,aY,bK,bf⟩:=an.oq
   have bB:=ap.size
   have az:=am.lt
   have aJ:Apt A5 (a1f i 0 4 EF).ks F2:=an.apt (fun x hx hm=>by have:=az x hm;have:=bo x hx;omega)
   have aV:=am.same a9
   have aP:=a4.same a9
   have aX:=ap.same a9
   clear af an am a4 ap bo az
   have bu:=hid (b4t K 4)
   obtain ⟨ks,aN⟩:=zX ((a1f i 0 4 EF).ks)
   obtain ⟨po,aj⟩:=zX ((a1f i 0 4 EF).order)
   have ac:=aO.out
   have ay:=bI.out
   have ad:=aS.out
   rw [<-aN,<-aj] at ac
   rw [<-aj] at ay aQ
   rw [<-aN] at ad bf aJ aY
   rw [<-aN,<-aj]
   have bw:=hid aN
   have bJ:=hid aj
   have bc:=hid ac
   have a2:=hid ay
   have a1:=hid ad
   clear aN aj ac ay ad
   have aF:=fun o=>f2h _ b F2 _ po i 0 ks A5 c5 EF (some ⟨g3,0,none⟩) al (aV.same ((zR [] w5).alloc o)) (by omega) aZ (by omega) (by omega) a2.out bc.out a1.out (bf.same ((zR [] w5).alloc _)) (by omega) be.out (aP.same ((zR [] w5).alloc _)) (by omega) aE aJ a6 (by rw [zC,bu.out];have:=ag.out;omega)
   rw [aH] at aF
   go_wp2_with fail
   refine (aF _).mono ?_
   rintro e w6 ⟨rfl,F6,a0,a7⟩
   go_wp2_with fail
   go_end0
   refine ⟨rfl,F6,?_,aX.trans (a0u.pre ((zR [] w5).alloc _) a7)⟩
   rw [<-zH,<-bw.out,<-bJ.out]
   exact a0
  ·have bH:i<m:=by omega
   have aU:i<E.length:=by rw [aw];exact bH
   obtain ⟨bz,br,_,_,ak,aI⟩:=ab.oq
   have bp:=ak i _ (d3x (fun v=>a1b v d) E aU)
   have bM:=aI i
   have ah:=ab.set_ (i:=i) (by rw [zE,c7h];exact aU) (vi (a1b (E.getD i 0) d))
   rw [<-List.map_set,c7i (fun v=>a1b v d) E aU] at ah
   have bk:=fun w=>a7x (E.getD i 0) d w h0 h1
   generalize E.getD i 0=x at *
   obtain ⟨y,hy⟩:=zX (a1b x d)
   rw [<-hy] at ah bk
   have bL:wr.cell? ⟨g3,i,none⟩=some (.int .i64 x):=bp
   have aC:Row (wr.setCell ⟨g3,i,none⟩ (.int .i64 y)) _ _ _ _:=ah
   clear br ak aI bp ah hy ab
   go_wp2_with (go_at_call 84;refine (bk _).mono ?_;rintro e w' ⟨rfl,rfl⟩)
   go_roundg j
   case measure=>omega
   case rel =>
    exact ⟨i+1,by go_num,by omega,aC,bb.setCell (.inl (by simp)) _⟩
end Go.Proofs.YtepjepkgcdfboaaGreatDoor
