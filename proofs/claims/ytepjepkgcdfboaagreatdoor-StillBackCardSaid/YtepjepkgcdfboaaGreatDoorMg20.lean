/- package tile by its contracts, the fifth part: putGuessed. -/
import Derived.Test.YtepjepkgcdfboaaGreatDoorMg17
import Derived.Test.YtepjepkgcdfboaaGreatDoorMg19
set_option linter.unusedVariables false
set_option linter.unusedSimpArgs false
set_option maxHeartbeats 4000000
set_option maxRecDepth 100000
namespace Go.Proofs.YtepjepkgcdfboaaGreatDoor
open Go.RowKit
def d6w (f:Int->Int) (E:List Int) (i:Nat):List Int:=(E.take i).map f++E.drop i
theorem c7h (f:Int->Int) (E:List Int) (i:Nat):(d6w f E i).length=E.length:=by simp [d6w];omega
theorem c1r (f:Int->Int) (E:List Int):d6w f E 0=E:=by simp [d6w]
theorem c1q (f:Int->Int) (E:List Int):d6w f E E.length=E.map f:=by simp [d6w]
theorem d3x (f:Int->Int) (E:List Int) {i:Nat} (h:i<E.length):(d6w f E i)[i]?=some (E.getD i 0):=by
 unfold d6w
 rw [zS (by simp;omega)]
 rw [zE,zI,Nat.min_eq_left (by omega),Nat.sub_self,List.getElem?_drop,Nat.add_zero,zF h,zD,zF h]
 rfl
theorem c7i (f:Int->Int) (E:List Int) {i:Nat} (h:i<E.length):(d6w f E i).set i (f (E.getD i 0))=d6w f E (i+1):=by
 unfold d6w
 have hl:((E.take i).map f).length=i:=by simp;omega
 rw [List.set_append_right _ _ (by omega),hl,Nat.sub_self,List.drop_eq_getElem_cons h,List.set_cons_zero,a0o E h,zM,zH]
 congr 2
 rw [zD,zF h]
 rfl
def a8w (l:List Int) (W H d:Nat):List Int:=(b3y l W H d (a0s l W H d)).map fun v=>a1b v d
theorem c0u (l:List Int) (W H d:Nat):(a8w l W H d).length=W*H:=by simp [a8w,c0v]
def a7j (e:List Int) (n:Nat):List Nat :=
 b3t (a1f n 0 4 e).order (a1f n 0 4 e).ks (a1k (a1q (a1f n 0 4 e).order n 0) e)
def a6p (l:List Int) (W H d:Nat):List Int:=(a0s l W H d).map Int.ofNat
def a2z (l:List Int) (W H d:Nat):List Nat:=a1v (a6p l W H d) 4++a7j (a8w l W H d) (W*H)
theorem b7a (l:List Int) (W H d:Nat):(a6p l W H d).length=H:=by simp [a6p,a4m]
theorem d0t (l:List Int) (W H d:Nat):a1u 4 (a6p l W H d):=by
 intro s hs
 obtain ⟨k,hk,rfl⟩:=List.mem_map.1 hs
 have:=a8l l W H d k hk
 show (0:Int)<=(k:Int)/\(k:Int)<2^4
 omega
theorem d0u (l:List Int) (W H d:Nat):(a0s l W H d).map i64=(a6p l W H d).map vi:=by
 unfold a6p
 rw [List.map_map]
 rfl
theorem b6v (l:List Int) (W H d:Nat) (h0:1<=d) (h1:d<=16):∀ x∈a8w l W H d,a2e x:=by
 intro x hx
 obtain ⟨v,_,rfl⟩:=List.mem_map.1 hx
 have:=a7k h1 (a2s v h0)
 unfold a2e
 omega
theorem c1e {n:Nat} (e:List Int):f1c (a1f n 0 4 e).ks:=by
 have h:=a7u (n:=n) (warm:=0) (most:=4) (by omega) e
 rw [h.1.2.1]
 intro k hk
 obtain ⟨p,_,rfl⟩:=List.mem_map.1 hk
 exact c4w p
theorem c1f {n:Nat} (e:List Int):(a1f n 0 4 e).ks.length=(a1q (a1f n 0 4 e).order n 0).length:=by
 have h:=a7u (n:=n) (warm:=0) (most:=4) (by omega) e
 have h2:=congrArg List.length h.1.2.1
 unfold a6s at h2
 rw [zE,a5h] at h2
 exact h2
theorem c7w (w:World) (b:Nat) (F bs:List Nat) (l:List Int) (A:Option Addr) (cap W H d:Nat) (h:a2n w b F bs) (hw0:1<=W) (hw1:W<=16) (hh0:1<=H) (hh1:H<=16) (h0:1<=d) (h1:d<=16) (hl:l.length=W*H) (hs:a1u d l) (hc:a0d vi w A l) (hA:Apt A l F) (hbs:bs.length<68719476736) :
  Calls Tryz.prog 115 #[.pointer (some ⟨b,0,none⟩),.slice A l.length cap,.int .i64 W,.int .i64 H,.int .i64 d] w fun e w'=>e=.returned (.tuple #[])/\∃ F',a2n w' b F' (bs++a2z l W H d)/\a0u F F' w w':=by
 have aA:l.length<=256:=by rw [hl];exact zL hw1 hh1
 have a0:1<=l.length:=by rw [hl];exact zL hw0 hh0
 have aD:=e7s l A cap W H d w hw0 (by omega) hh0 (by omega) h0 h1 hl hs hc
 have al:=fun Ak capk w hc hck=>e7u l A cap W H d (a0s l W H d) Ak capk w hw0 (by omega) hh0 (by omega) h0 h1 hl hs hc (a4m l W H d) (a8l l W H d) hck
 have am:=c0v l W H d (a0s l W H d)
 have aH:=c0u l W H d
 have aW:=b6v l W H d h0 h1
 have aa:a2z l W H d=a1v (a6p l W H d) 4++a7j (a8w l W H d) (W*H):=rfl
 rw [<-hl] at am aH aa
 have bl:=d0u l W H d
 have a3:=b7a l W H d
 have aZ:=d0t l W H d
 have a2:a8w l W H d=(b3y l W H d (a0s l W H d)).map fun v=>a1b v d:=rfl
 rw [bl] at aD
 rw [a4m] at al
 have aw:∀ Ak w,a0d vi w Ak (a6p l W H d)->a0d i64 w Ak (a0s l W H d):=fun Ak w h=>a0d.map (f:=vi) (k:=Int.ofNat) h
 generalize b3y l W H d (a0s l W H d)=E at *
 obtain ⟨EF,bp⟩:=zX (a8w l W H d)
 rw [<-bp] at aH aW aa a2
 obtain ⟨K,hK⟩:=zX (a6p l W H d)
 rw [<-hK] at aD a3 aZ aa aw
 rw [aa]
 have bo:∀ x∈F,x<w.heap.size:=h.lt
 obtain ⟨m,hm⟩:=zX (l.length)
 rw [<-hm] at aD al am aH aA a0 ⊢
 have ac:=c1e (n:=m) EF
 have ad:=c1f (n:=m) EF
 have ah:=a7u (n:=m) (warm:=0) (most:=4) (by omega) EF
 have bf:a7j EF m=b3t (a1f m 0 4 EF).order (a1f m 0 4 EF).ks (a1k (a1q (a1f m 0 4 EF).order m 0) EF):=rfl
 rw [bf]
 have ay:=ah.1.1
 have a6:=ah.2.1
 have ae:=hid a3
 have br:=hid al
 have bF:=hid aw
 have bA:=hid bo
 have bg:=hid aW
 have bu:=hid a2
 have bK:=hid aZ
 have aX:=hid ac
 have a8:=hid ad
 have bG:=hid ay
 have HM:=hid hm
 have HA:=hid hA
 clear al aw bo aW a2 aZ ac ad ay hm hl hs aa bp hK bl ah bf hA a3
 go_enter Tryz.func115,Tryz.ntmps115
 go_wp2_with fail
 refine aD.mono ?_
 rintro e w1 ⟨v1,G1,rfl,ar,bd,bv⟩
 obtain ⟨A1,c1,rfl,bI,bC,a1⟩:=ar.oq
 have au:Apt A1 K F:=ar.apt (fun x hx hm=>by have:=bA.out x hm;have:=bv x hx;omega)
 clear aD ar
 go_wp2_with fail
 refine (c2i w1 b F bs K A1 c1 4 (h.same bd) (by omega) (by have:=ae.out;omega) bK.out a1 au (by omega)).mono ?_
 rintro e w2 ⟨rfl,F2,aq,av⟩
 have ag:=a0u.pre bd av
 have bn:=hc.keep HA.out ag.chg
 have aG:=a1.keep au av.chg
 clear av au a1 h
 have al:=br.out A1 c1 w2 bn (bF.out _ _ aG)
 rw [ae.out]
 clear aG
 go_wp2_with fail
 refine al.mono ?_
 rintro e w3 ⟨v3,G3,rfl,aJ,bh,bk⟩
 have bN:=ag.size
 have aC:=aJ.cases
 rcases aC with ⟨_,aS,_⟩ | ⟨g3,aj,rfl⟩
 ·exfalso
  have:=congrArg List.length aS
  rw [zE,am] at this
  simp at this
  omega
 obtain ⟨ao,rfl,bb,aB,_,_⟩:=aj.oq
 have bJ:w2.heap.size<=g3:=bk g3 (by simp)
 have aE:=aq.same bh
 have aN:g3∉F2:=fun hm=>by have:=aq.lt _ hm;omega
 clear al aJ bk aq
 rw [am] at bb aj ⊢
 go_wp2_with fail
 go_loopg [35] m (fun j iv wr=>∃ (i:Nat),iv=.int .i64 i/\i+j=m/\Row wr 3 (.slice (some ⟨g3,0,none⟩) m ao) g3 ((d6w (fun v=>a1b v d) E i).map vi)/\Chg [g3] w3 wr)
 case atStart=>exact ⟨0,rfl,by omega,by rw [c1r];exact aj,zR _ _⟩
 case round =>
  clear aj
  obtain ⟨i,rfl,bM,ab,aU⟩:=hrel
  rcases gk with _ | j
  ·obtain rfl:i=m:=by omega
   rw [<-am,c1q,<-bu.out,am] at ab
   have a7:a0d vi wr (some ⟨g3,0,none⟩) EF:=by
    have:=ab.toOwn.cells
    exact this
   have aQ:Apt (some ⟨g3,0,none⟩) EF F2:=ab.toOwn.apt (fun x hx=>by rw [zU.1 hx];exact aN)
   have ap:=aE.chg aU (fun x hx hm=>by rw [zU.1 hm] at hx;exact aN hx)
   have ax:a0u F F2 w wr:=⟨ag.chg.trans (bh.trans aU (fun x hx=>by rw [zU.1 hx];exact .inr bJ)) (by simp),ag.new⟩
   have af:=e9j i 0 4 EF (some ⟨g3,0,none⟩) ao wr a0 (by omega) (by omega) (by omega) (by omega) bg.out a7 (by omega) aB
   rw [aH] at af
   clear aE ag ab bn
   go_wp2_with fail
   refine af.mono ?_
   rintro e w5 ⟨v5,G5,rfl,an,aR,bm⟩
   obtain ⟨A5,c5,rfl,aT,bD,bi⟩:=an.oq
   have bz:=ax.size
   have aM:=ap.lt
   have aL:Apt A5 (a1f i 0 4 EF).ks F2:=an.apt (fun x hx hm=>by have:=aM x hm;have:=bm x hx;omega)
   have a9:=ap.same aR
   have a4:=a7.same aR
   have ba:=ax.same aR
   clear af an ap a7 ax bm aM
   have bw:=hid (b4t K 4)
   obtain ⟨ks,aK⟩:=zX ((a1f i 0 4 EF).ks)
   obtain ⟨po,ah⟩:=zX ((a1f i 0 4 EF).order)
   have ad:=a8.out
   have ay:=bG.out
   have ac:=aX.out
   rw [<-aK,<-ah] at ad
   rw [<-ah] at ay a6
   rw [<-aK] at ac bi aL aT
   rw [<-aK,<-ah]
   have bx:=hid aK
   have bB:=hid ah
   have a5:=hid ad
   have aP:=hid ay
   have aY:=hid ac
   clear aK ah ad ay ac
   have az:=fun o=>f2h _ b F2 _ po i 0 ks A5 c5 EF (some ⟨g3,0,none⟩) ao (a9.same ((zR [] w5).alloc o)) (by omega) a0 (by omega) (by omega) aP.out a5.out aY.out (bi.same ((zR [] w5).alloc _)) (by omega) bg.out (a4.same ((zR [] w5).alloc _)) (by omega) aB aL aQ (by rw [zC,bw.out];have:=ae.out;omega)
   rw [aH] at az
   go_wp2_with fail
   refine (az _).mono ?_
   rintro e w6 ⟨rfl,F6,aO,bc⟩
   go_wp2_with fail
   go_end0
   refine ⟨rfl,F6,?_,ba.trans (a0u.pre ((zR [] w5).alloc _) bc)⟩
   rw [<-zH,<-bx.out,<-bB.out]
   exact aO
  ·have bH:i<m:=by omega
   have aV:i<E.length:=by rw [am];exact bH
   obtain ⟨bL,bE,_,_,ak,aI⟩:=ab.oq
   have be:=ak i _ (d3x (fun v=>a1b v d) E aV)
   have bO:=aI i
   have ai:=ab.set_ (i:=i) (by rw [zE,c7h];exact aV) (vi (a1b (E.getD i 0) d))
   rw [<-List.map_set,c7i (fun v=>a1b v d) E aV] at ai
   have bj:=fun w=>a7x (E.getD i 0) d w h0 h1
   generalize E.getD i 0=x at *
   obtain ⟨y,hy⟩:=zX (a1b x d)
   rw [<-hy] at ai bj
   have bq:wr.cell? ⟨g3,i,none⟩=some (.int .i64 x):=be
   have aF:Row (wr.setCell ⟨g3,i,none⟩ (.int .i64 y)) _ _ _ _:=ai
   clear bE ak aI be ai hy ab
   go_wp2_with (go_at_call 84;refine (bj _).mono ?_;rintro e w' ⟨rfl,rfl⟩)
   go_roundg j
   case measure=>omega
   case rel =>
    exact ⟨i+1,by go_num,by omega,aF,aU.setCell (.inl (by simp)) _⟩
end Go.Proofs.YtepjepkgcdfboaaGreatDoor
