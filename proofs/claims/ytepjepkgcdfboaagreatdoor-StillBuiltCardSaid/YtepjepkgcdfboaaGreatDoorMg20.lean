/- package tile by its contracts, the fifth part: putGuessed. -/
import Derived.Test.YtepjepkgcdfboaaGreatDoorMg17
import Derived.Test.YtepjepkgcdfboaaGreatDoorMg19
set_option linter.unusedVariables false
set_option linter.unusedSimpArgs false
set_option maxHeartbeats 4000000
set_option maxRecDepth 100000
namespace Go.Proofs.YtepjepkgcdfboaaGreatDoor
open Go.RowKit
def d6w (f:Int->Int) (E:List Int) (i:Nat):List Int:=(E.take i).map f++E.drop i
theorem c7h (f:Int->Int) (E:List Int) (i:Nat):(d6w f E i).length=E.length:=by simp [d6w];omega
theorem c1r (f:Int->Int) (E:List Int):d6w f E 0=E:=by simp [d6w]
theorem c1q (f:Int->Int) (E:List Int):d6w f E E.length=E.map f:=by simp [d6w]
theorem d3x (f:Int->Int) (E:List Int) {i:Nat} (h:i<E.length):(d6w f E i)[i]?=some (E.getD i 0):=by
 unfold d6w
 rw [zS (by simp;omega)]
 rw [zE,zI,Nat.min_eq_left (by omega),Nat.sub_self,List.getElem?_drop,Nat.add_zero,zF h,zD,zF h]
 rfl
theorem c7i (f:Int->Int) (E:List Int) {i:Nat} (h:i<E.length):(d6w f E i).set i (f (E.getD i 0))=d6w f E (i+1):=by
 unfold d6w
 have hl:((E.take i).map f).length=i:=by simp;omega
 rw [List.set_append_right _ _ (by omega),hl,Nat.sub_self,List.drop_eq_getElem_cons h,List.set_cons_zero,a0o E h,zM,zH]
 congr 2
 rw [zD,zF h]
 rfl
def a8w (l:List Int) (W H d:Nat):List Int:=(b3y l W H d (a0s l W H d)).map fun v=>a1b v d
theorem c0u (l:List Int) (W H d:Nat):(a8w l W H d).length=W*H:=by simp [a8w,c0v]
def a7j (e:List Int) (n:Nat):List Nat :=
 b3t (a1f n 0 4 e).order (a1f n 0 4 e).ks (a1k (a1q (a1f n 0 4 e).order n 0) e)
def a6p (l:List Int) (W H d:Nat):List Int:=(a0s l W H d).map Int.ofNat
def a2z (l:List Int) (W H d:Nat):List Nat:=a1v (a6p l W H d) 4++a7j (a8w l W H d) (W*H)
theorem b7a (l:List Int) (W H d:Nat):(a6p l W H d).length=H:=by simp [a6p,a4m]
theorem d0t (l:List Int) (W H d:Nat):a1u 4 (a6p l W H d):=by
 intro s hs
 obtain ⟨k,hk,rfl⟩:=List.mem_map.1 hs
 have:=a8l l W H d k hk
 show (0:Int)<=(k:Int)/\(k:Int)<2^4
 omega
theorem d0u (l:List Int) (W H d:Nat):(a0s l W H d).map i64=(a6p l W H d).map vi:=by
 unfold a6p
 rw [List.map_map]
 rfl
theorem b6v (l:List Int) (W H d:Nat) (h0:1<=d) (h1:d<=16):∀ x∈a8w l W H d,a2e x:=by
 intro x hx
 obtain ⟨v,_,rfl⟩:=List.mem_map.1 hx
 have:=a7k h1 (a2s v h0)
 unfold a2e
 omega
theorem c1e {n:Nat} (e:List Int):f1c (a1f n 0 4 e).ks:=by
 have h:=a7u (n:=n) (warm:=0) (most:=4) (by omega) e
 rw [h.1.2.1]
 intro k hk
 obtain ⟨p,_,rfl⟩:=List.mem_map.1 hk
 exact c4w p
theorem c1f {n:Nat} (e:List Int):(a1f n 0 4 e).ks.length=(a1q (a1f n 0 4 e).order n 0).length:=by
 have h:=a7u (n:=n) (warm:=0) (most:=4) (by omega) e
 have h2:=congrArg List.length h.1.2.1
 unfold a6s at h2
 rw [zE,a5h] at h2
 exact h2
theorem c7w (w:World) (b:Nat) (F bs:List Nat) (l:List Int) (A:Option Addr) (cap W H d:Nat) (h:a2n w b F bs) (hw0:1<=W) (hw1:W<=16) (hh0:1<=H) (hh1:H<=16) (h0:1<=d) (h1:d<=16) (hl:l.length=W*H) (hs:a1u d l) (hc:a0d vi w A l) (hA:Apt A l F) (hbs:bs.length<68719476736) :
  Calls Tryz.prog 115 #[.pointer (some ⟨b,0,none⟩),.slice A l.length cap,.int .i64 W,.int .i64 H,.int .i64 d] w fun e w'=>e=.returned (.tuple #[])/\∃ F',a2n w' b F' (bs++a2z l W H d)/\a0u F F' w w':=by
 have aD:l.length<=256:=by rw [hl];exact zL hw1 hh1
 have a1:1<=l.length:=by rw [hl];exact zL hw0 hh0
 have aK:=e7s l A cap W H d w hw0 (by omega) hh0 (by omega) h0 h1 hl hs hc
 have am:=fun Ak capk w hc hck=>e7u l A cap W H d (a0s l W H d) Ak capk w hw0 (by omega) hh0 (by omega) h0 h1 hl hs hc (a4m l W H d) (a8l l W H d) hck
 have ap:=c0v l W H d (a0s l W H d)
 have aA:=c0u l W H d
 have aS:=b6v l W H d h0 h1
 have aa:a2z l W H d=a1v (a6p l W H d) 4++a7j (a8w l W H d) (W*H):=rfl
 rw [<-hl] at ap aA aa
 have bo:=d0u l W H d
 have aV:=b7a l W H d
 have a4:=d0t l W H d
 have a6:a8w l W H d=(b3y l W H d (a0s l W H d)).map fun v=>a1b v d:=rfl
 rw [bo] at aK
 rw [a4m] at am
 have ar:∀ Ak w,a0d vi w Ak (a6p l W H d)->a0d i64 w Ak (a0s l W H d):=fun Ak w h=>a0d.map (f:=vi) (k:=Int.ofNat) h
 generalize b3y l W H d (a0s l W H d)=E at *
 obtain ⟨EF,bh⟩:=zX (a8w l W H d)
 rw [<-bh] at aA aS aa a6
 obtain ⟨K,hK⟩:=zX (a6p l W H d)
 rw [<-hK] at aK aV a4 aa ar
 rw [aa]
 have bk:∀ x∈F,x<w.heap.size:=h.lt
 obtain ⟨m,hm⟩:=zX (l.length)
 rw [<-hm] at aK am ap aA aD a1 ⊢
 have ac:=c1e (n:=m) EF
 have ad:=c1f (n:=m) EF
 have ah:=a7u (n:=m) (warm:=0) (most:=4) (by omega) EF
 have bi:a7j EF m=b3t (a1f m 0 4 EF).order (a1f m 0 4 EF).ks (a1k (a1q (a1f m 0 4 EF).order m 0) EF):=rfl
 rw [bi]
 have ay:=ah.1.1
 have aQ:=ah.2.1
 have af:=hid aV
 have bH:=hid am
 have bE:=hid ar
 have bz:=hid bk
 have bg:=hid aS
 have bD:=hid a6
 have bw:=hid a4
 have aU:=hid ac
 have bb:=hid ad
 have bA:=hid ay
 have HM:=hid hm
 have HA:=hid hA
 clear am ar bk aS a6 a4 ac ad ay hm hl hs aa bh hK bo ah bi hA aV
 go_enter Tryz.func115,Tryz.ntmps115
 go_wp2_with fail
 refine aK.mono ?_
 rintro e w1 ⟨v1,G1,rfl,au,bl,bG⟩
 obtain ⟨A1,c1,rfl,bu,bq,aT⟩:=au.oq
 have ao:Apt A1 K F:=au.apt (fun x hx hm=>by have:=bz.out x hm;have:=bG x hx;omega)
 clear aK au
 go_wp2_with fail
 refine (c2i w1 b F bs K A1 c1 4 (h.same bl) (by omega) (by have:=af.out;omega) bw.out aT ao (by omega)).mono ?_
 rintro e w2 ⟨rfl,F2,av,al⟩
 have ae:=a0u.pre bl al
 have be:=hc.keep HA.out ae.chg
 have aC:=aT.keep ao al.chg
 clear al ao aT h
 have am:=bH.out A1 c1 w2 be (bE.out _ _ aC)
 rw [af.out]
 clear aC
 go_wp2_with fail
 refine am.mono ?_
 rintro e w3 ⟨v3,G3,rfl,aL,bj,bd⟩
 have bO:=ae.size
 have aH:=aL.cases
 rcases aH with ⟨_,aY,_⟩ | ⟨g3,aj,rfl⟩
 ·exfalso
  have:=congrArg List.length aY
  rw [zE,ap] at this
  simp at this
  omega
 obtain ⟨an,rfl,aZ,aG,_,_⟩:=aj.oq
 have bI:w2.heap.size<=g3:=bd g3 (by simp)
 have aJ:=av.same bj
 have aB:g3∉F2:=fun hm=>by have:=av.lt _ hm;omega
 clear am aL bd av
 rw [ap] at aZ aj ⊢
 go_wp2_with fail
 go_loopg [35] m (fun j iv wr=>∃ (i:Nat),iv=.int .i64 i/\i+j=m/\Row wr 3 (.slice (some ⟨g3,0,none⟩) m an) g3 ((d6w (fun v=>a1b v d) E i).map vi)/\Chg [g3] w3 wr)
 case atStart=>exact ⟨0,rfl,by omega,by rw [c1r];exact aj,zR _ _⟩
 case round =>
  clear aj
  obtain ⟨i,rfl,bN,ab,aR⟩:=hrel
  rcases gk with _ | j
  ·obtain rfl:i=m:=by omega
   rw [<-ap,c1q,<-bD.out,ap] at ab
   have a8:a0d vi wr (some ⟨g3,0,none⟩) EF:=by
    have:=ab.toOwn.cells
    exact this
   have a3:Apt (some ⟨g3,0,none⟩) EF F2:=ab.toOwn.apt (fun x hx=>by rw [zU.1 hx];exact aB)
   have ax:=aJ.chg aR (fun x hx hm=>by rw [zU.1 hm] at hx;exact aB hx)
   have aq:a0u F F2 w wr:=⟨ae.chg.trans (bj.trans aR (fun x hx=>by rw [zU.1 hx];exact .inr bI)) (by simp),ae.new⟩
   have ag:=e9j i 0 4 EF (some ⟨g3,0,none⟩) an wr a1 (by omega) (by omega) (by omega) (by omega) bg.out a8 (by omega) aG
   rw [aA] at ag
   clear aJ ae ab be
   go_wp2_with fail
   refine ag.mono ?_
   rintro e w5 ⟨v5,G5,rfl,aw,bc,bp⟩
   obtain ⟨A5,c5,rfl,a0,bx,bn⟩:=aw.oq
   have bJ:=aq.size
   have aN:=ax.lt
   have aE:Apt A5 (a1f i 0 4 EF).ks F2:=aw.apt (fun x hx hm=>by have:=aN x hm;have:=bp x hx;omega)
   have aX:=ax.same bc
   have a2:=a8.same bc
   have a7:=aq.same bc
   clear ag aw ax a8 aq bp aN
   have bL:=hid (b4t K 4)
   obtain ⟨ks,aI⟩:=zX ((a1f i 0 4 EF).ks)
   obtain ⟨po,ah⟩:=zX ((a1f i 0 4 EF).order)
   have ad:=bb.out
   have ay:=bA.out
   have ac:=aU.out
   rw [<-aI,<-ah] at ad
   rw [<-ah] at ay aQ
   rw [<-aI] at ac bn aE a0
   rw [<-aI,<-ah]
   have bK:=hid aI
   have bF:=hid ah
   have ba:=hid ad
   have a9:=hid ay
   have aP:=hid ac
   clear aI ah ad ay ac
   have aF:=fun o=>f2h _ b F2 _ po i 0 ks A5 c5 EF (some ⟨g3,0,none⟩) an (aX.same ((zR [] w5).alloc o)) (by omega) a1 (by omega) (by omega) a9.out ba.out aP.out (bn.same ((zR [] w5).alloc _)) (by omega) bg.out (a2.same ((zR [] w5).alloc _)) (by omega) aG aE a3 (by rw [zC,bL.out];have:=af.out;omega)
   rw [aA] at aF
   go_wp2_with fail
   refine (aF _).mono ?_
   rintro e w6 ⟨rfl,F6,a5,aW⟩
   go_wp2_with fail
   go_end0
   refine ⟨rfl,F6,?_,a7.trans (a0u.pre ((zR [] w5).alloc _) aW)⟩
   rw [<-zH,<-bK.out,<-bF.out]
   exact a5
  ·have bv:i<m:=by omega
   have aO:i<E.length:=by rw [ap];exact bv
   obtain ⟨bB,br,_,_,ak,az⟩:=ab.oq
   have bf:=ak i _ (d3x (fun v=>a1b v d) E aO)
   have bM:=az i
   have ai:=ab.set_ (i:=i) (by rw [zE,c7h];exact aO) (vi (a1b (E.getD i 0) d))
   rw [<-List.map_set,c7i (fun v=>a1b v d) E aO] at ai
   have bm:=fun w=>a7x (E.getD i 0) d w h0 h1
   generalize E.getD i 0=x at *
   obtain ⟨y,hy⟩:=zX (a1b x d)
   rw [<-hy] at ai bm
   have bC:wr.cell? ⟨g3,i,none⟩=some (.int .i64 x):=bf
   have aM:Row (wr.setCell ⟨g3,i,none⟩ (.int .i64 y)) _ _ _ _:=ai
   clear br ak az bf ai hy ab
   go_wp2_with (go_at_call 84;refine (bm _).mono ?_;rintro e w' ⟨rfl,rfl⟩)
   go_roundg j
   case measure=>omega
   case rel =>
    exact ⟨i+1,by go_num,by omega,aM,aR.setCell (.inl (by simp)) _⟩
end Go.Proofs.YtepjepkgcdfboaaGreatDoor
