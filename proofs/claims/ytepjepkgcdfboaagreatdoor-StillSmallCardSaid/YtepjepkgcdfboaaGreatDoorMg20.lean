/- package tile by its contracts, the fifth part: putGuessed. -/
import Derived.Test.YtepjepkgcdfboaaGreatDoorMg17
import Derived.Test.YtepjepkgcdfboaaGreatDoorMg19
set_option linter.unusedVariables false
set_option linter.unusedSimpArgs false
set_option maxHeartbeats 4000000
set_option maxRecDepth 100000
namespace Go.Proofs.YtepjepkgcdfboaaGreatDoor
open Go.RowKit
def mixL (f:Int->Int) (E:List Int) (i:Nat):List Int:=(E.take i).map f++E.drop i
theorem mixL_len (f:Int->Int) (E:List Int) (i:Nat):(mixL f E i).length=E.length:=by simp [mixL];omega
theorem mixL_zero (f:Int->Int) (E:List Int):mixL f E 0=E:=by simp [mixL]
theorem mixL_full (f:Int->Int) (E:List Int):mixL f E E.length=E.map f:=by simp [mixL]
theorem mixL_at (f:Int->Int) (E:List Int) {i:Nat} (h:i<E.length):(mixL f E i)[i]?=some (E.getD i 0):=by
 unfold mixL
 rw [zS (by simp;omega)]
 rw [zE,zI,Nat.min_eq_left (by omega),Nat.sub_self,List.getElem?_drop,Nat.add_zero,zF h,zD,zF h]
 rfl
theorem mixL_set (f:Int->Int) (E:List Int) {i:Nat} (h:i<E.length):(mixL f E i).set i (f (E.getD i 0))=mixL f E (i+1):=by
 unfold mixL
 have hl:((E.take i).map f).length=i:=by simp;omega
 rw [List.set_append_right _ _ (by omega),hl,Nat.sub_self,List.drop_eq_getElem_cons h,List.set_cons_zero,take_snoc' E h,zM,zH]
 congr 2
 rw [zD,zF h]
 rfl
def foreF (l:List Int) (W H d:Nat):List Int:=(foreL l W H d (bestKinds l W H d)).map fun v=>foldI v d
theorem foreF_len (l:List Int) (W H d:Nat):(foreF l W H d).length=W*H:=by simp [foreF,foreL_len]
def planBits (e:List Int) (n:Nat):List Nat :=
 bitsP (bestPlan n 0 4 e).order (bestPlan n 0 4 e).ks (splitL (sizesL (bestPlan n 0 4 e).order n 0) e)
def kindsI (l:List Int) (W H d:Nat):List Int:=(bestKinds l W H d).map Int.ofNat
def guessedBits (l:List Int) (W H d:Nat):List Nat:=allOf (kindsI l W H d) 4++planBits (foreF l W H d) (W*H)
theorem kindsI_len (l:List Int) (W H d:Nat):(kindsI l W H d).length=H:=by simp [kindsI,bestKinds_len]
theorem kindsI_ok (l:List Int) (W H d:Nat):SmpOk 4 (kindsI l W H d):=by
 intro s hs
 obtain ⟨k,hk,rfl⟩:=List.mem_map.1 hs
 have:=bestKinds_ok l W H d k hk
 show (0:Int)<=(k:Int)/\(k:Int)<2^4
 omega
theorem kindsI_vi (l:List Int) (W H d:Nat):(bestKinds l W H d).map i64=(kindsI l W H d).map vi:=by
 unfold kindsI
 rw [List.map_map]
 rfl
theorem foreF_wide (l:List Int) (W H d:Nat) (h0:1<=d) (h1:d<=16):∀ x∈foreF l W H d,wideP x:=by
 intro x hx
 obtain ⟨v,_,rfl⟩:=List.mem_map.1 hx
 have:=errRange16 h1 (foldI_range v h0)
 unfold wideP
 omega
theorem ksOk_best {n:Nat} (e:List Int):KsOk (bestPlan n 0 4 e).ks:=by
 have h:=bestPlan_ok (n:=n) (warm:=0) (most:=4) (by omega) e
 rw [h.1.2.1]
 intro k hk
 obtain ⟨p,_,rfl⟩:=List.mem_map.1 hk
 exact chooseK_ok p
theorem ks_len_best {n:Nat} (e:List Int):(bestPlan n 0 4 e).ks.length=(sizesL (bestPlan n 0 4 e).order n 0).length:=by
 have h:=bestPlan_ok (n:=n) (warm:=0) (most:=4) (by omega) e
 have h2:=congrArg List.length h.1.2.1
 unfold planOf at h2
 rw [zE,splitL_len] at h2
 exact h2
theorem putGuessed_ok (w:World) (b:Nat) (F bs:List Nat) (l:List Int) (A:Option Addr) (cap W H d:Nat) (h:IsWr w b F bs) (hw0:1<=W) (hw1:W<=16) (hh0:1<=H) (hh1:H<=16) (h0:1<=d) (h1:d<=16) (hl:l.length=W*H) (hs:SmpOk d l) (hc:Cells vi w A l) (hA:Apt A l F) (hbs:bs.length<68719476736) :
  Calls Tryz.prog 115 #[.pointer (some ⟨b,0,none⟩),.slice A l.length cap,.int .i64 W,.int .i64 H,.int .i64 d] w fun e w'=>e=.returned (.tuple #[])/\∃ F',IsWr w' b F' (bs++guessedBits l W H d)/\Grow F F' w w':=by
 have aI:l.length<=256:=by rw [hl];exact zL hw1 hh1
 have aV:1<=l.length:=by rw [hl];exact zL hw0 hh0
 have aA:=gbest_ok l A cap W H d w hw0 (by omega) hh0 (by omega) h0 h1 hl hs hc
 have ao:=fun Ak capk w hc hck=>gfore_ok l A cap W H d (bestKinds l W H d) Ak capk w hw0 (by omega) hh0 (by omega) h0 h1 hl hs hc (bestKinds_len l W H d) (bestKinds_ok l W H d) hck
 have ap:=foreL_len l W H d (bestKinds l W H d)
 have aG:=foreF_len l W H d
 have a8:=foreF_wide l W H d h0 h1
 have aa:guessedBits l W H d=allOf (kindsI l W H d) 4++planBits (foreF l W H d) (W*H):=rfl
 rw [<-hl] at ap aG aa
 have bg:=kindsI_vi l W H d
 have aZ:=kindsI_len l W H d
 have a5:=kindsI_ok l W H d
 have bc:foreF l W H d=(foreL l W H d (bestKinds l W H d)).map fun v=>foldI v d:=rfl
 rw [bg] at aA
 rw [bestKinds_len] at ao
 have av:∀ Ak w,Cells vi w Ak (kindsI l W H d)->Cells i64 w Ak (bestKinds l W H d):=fun Ak w h=>Cells.map (f:=vi) (k:=Int.ofNat) h
 generalize foreL l W H d (bestKinds l W H d)=E at *
 obtain ⟨EF,bi⟩:=zX (foreF l W H d)
 rw [<-bi] at aG a8 aa bc
 obtain ⟨K,hK⟩:=zX (kindsI l W H d)
 rw [<-hK] at aA aZ a5 aa av
 rw [aa]
 have bd:∀ x∈F,x<w.heap.size:=h.lt
 obtain ⟨m,hm⟩:=zX (l.length)
 rw [<-hm] at aA ao ap aG aI aV ⊢
 have ad:=ksOk_best (n:=m) EF
 have ac:=ks_len_best (n:=m) EF
 have ah:=bestPlan_ok (n:=m) (warm:=0) (most:=4) (by omega) EF
 have bp:planBits EF m=bitsP (bestPlan m 0 4 EF).order (bestPlan m 0 4 EF).ks (splitL (sizesL (bestPlan m 0 4 EF).order m 0) EF):=rfl
 rw [bp]
 have ay:=ah.1.1
 have aU:=ah.2.1
 have ag:=hid aZ
 have bE:=hid ao
 have bz:=hid av
 have bF:=hid bd
 have bn:=hid a8
 have bI:=hid bc
 have bC:=hid a5
 have aX:=hid ad
 have a9:=hid ac
 have bG:=hid ay
 have HM:=hid hm
 have HA:=hid hA
 clear ao av bd a8 bc a5 ad ac ay hm hl hs aa bi hK bg ah bp hA aZ
 go_enter Tryz.func115,Tryz.ntmps115
 go_wp2_with fail
 refine aA.mono ?_
 rintro e w1 ⟨v1,G1,rfl,am,bf,bB⟩
 obtain ⟨A1,c1,rfl,bw,bu,aW⟩:=am.open_map
 have aw:Apt A1 K F:=am.apt (fun x hx hm=>by have:=bF.out x hm;have:=bB x hx;omega)
 clear aA am
 go_wp2_with fail
 refine (putAll_ok w1 b F bs K A1 c1 4 (h.same bf) (by omega) (by have:=ag.out;omega) bC.out aW aw (by omega)).mono ?_
 rintro e w2 ⟨rfl,F2,ar,an⟩
 have ae:=Grow.pre bf an
 have bh:=hc.keep HA.out ae.chg
 have aM:=aW.keep aw an.chg
 clear an aw aW h
 have ao:=bE.out A1 c1 w2 bh (bz.out _ _ aM)
 rw [ag.out]
 clear aM
 go_wp2_with fail
 refine ao.mono ?_
 rintro e w3 ⟨v3,G3,rfl,az,bm,bo⟩
 have bN:=ae.size
 have aJ:=az.cases
 rcases aJ with ⟨_,bb,_⟩ | ⟨g3,ai,rfl⟩
 ·exfalso
  have:=congrArg List.length bb
  rw [zE,ap] at this
  simp at this
  omega
 obtain ⟨ax,rfl,aR,aK,_,_⟩:=ai.open_map
 have bv:w2.heap.size<=g3:=bo g3 (by simp)
 have aH:=ar.same bm
 have aB:g3∉F2:=fun hm=>by have:=ar.lt _ hm;omega
 clear ao az bo ar
 rw [ap] at aR ai ⊢
 go_wp2_with fail
 go_loopg [35] m (fun j iv wr=>∃ (i:Nat),iv=.int .i64 i/\i+j=m/\Row wr 3 (.slice (some ⟨g3,0,none⟩) m ax) g3 ((mixL (fun v=>foldI v d) E i).map vi)/\Chg [g3] w3 wr)
 case atStart=>exact ⟨0,rfl,by omega,by rw [mixL_zero];exact ai,zR _ _⟩
 case round =>
  clear ai
  obtain ⟨i,rfl,bO,ab,a3⟩:=hrel
  rcases gk with _ | j
  ·obtain rfl:i=m:=by omega
   rw [<-ap,mixL_full,<-bI.out,ap] at ab
   have a0:Cells vi wr (some ⟨g3,0,none⟩) EF:=by
    have:=ab.toOwn.cells
    exact this
   have aS:Apt (some ⟨g3,0,none⟩) EF F2:=ab.toOwn.apt (fun x hx=>by rw [zU.1 hx];exact aB)
   have au:=aH.chg a3 (fun x hx hm=>by rw [zU.1 hm] at hx;exact aB hx)
   have aq:Grow F F2 w wr:=⟨ae.chg.trans (bm.trans a3 (fun x hx=>by rw [zU.1 hx];exact .inr bv)) (by simp),ae.new⟩
   have af:=pbest_ok i 0 4 EF (some ⟨g3,0,none⟩) ax wr aV (by omega) (by omega) (by omega) (by omega) bn.out a0 (by omega) aK
   rw [aG] at af
   clear aH ae ab bh
   go_wp2_with fail
   refine af.mono ?_
   rintro e w5 ⟨v5,G5,rfl,al,ba,bl⟩
   obtain ⟨A5,c5,rfl,a6,bH,bj⟩:=al.open_map
   have br:=aq.size
   have aL:=au.lt
   have aN:Apt A5 (bestPlan i 0 4 EF).ks F2:=al.apt (fun x hx hm=>by have:=aL x hm;have:=bl x hx;omega)
   have aQ:=au.same ba
   have aO:=a0.same ba
   have aY:=aq.same ba
   clear af al au a0 aq bl aL
   have bq:=hid (allOf_len K 4)
   obtain ⟨ks,aE⟩:=zX ((bestPlan i 0 4 EF).ks)
   obtain ⟨po,ah⟩:=zX ((bestPlan i 0 4 EF).order)
   have ac:=a9.out
   have ay:=bG.out
   have ad:=aX.out
   rw [<-aE,<-ah] at ac
   rw [<-ah] at ay aU
   rw [<-aE] at ad bj aN a6
   rw [<-aE,<-ah]
   have bL:=hid aE
   have bA:=hid ah
   have a2:=hid ac
   have aP:=hid ay
   have a7:=hid ad
   clear aE ah ac ay ad
   have aD:=fun o=>pput_ok _ b F2 _ po i 0 ks A5 c5 EF (some ⟨g3,0,none⟩) ax (aQ.same ((zR [] w5).alloc o)) (by omega) aV (by omega) (by omega) aP.out a2.out a7.out (bj.same ((zR [] w5).alloc _)) (by omega) bn.out (aO.same ((zR [] w5).alloc _)) (by omega) aK aN aS (by rw [zC,bq.out];have:=ag.out;omega)
   rw [aG] at aD
   go_wp2_with fail
   refine (aD _).mono ?_
   rintro e w6 ⟨rfl,F6,aT,a1⟩
   go_wp2_with fail
   go_end0
   refine ⟨rfl,F6,?_,aY.trans (Grow.pre ((zR [] w5).alloc _) a1)⟩
   rw [<-zH,<-bL.out,<-bA.out]
   exact aT
  ·have bK:i<m:=by omega
   have a4:i<E.length:=by rw [ap];exact bK
   obtain ⟨bJ,bx,_,_,ak,aC⟩:=ab.open_map
   have bk:=ak i _ (mixL_at (fun v=>foldI v d) E a4)
   have bM:=aC i
   have aj:=ab.set_ (i:=i) (by rw [zE,mixL_len];exact a4) (vi (foldI (E.getD i 0) d))
   rw [<-List.map_set,mixL_set (fun v=>foldI v d) E a4] at aj
   have be:=fun w=>fold_ok (E.getD i 0) d w h0 h1
   generalize E.getD i 0=x at *
   obtain ⟨y,hy⟩:=zX (foldI x d)
   rw [<-hy] at aj be
   have bD:wr.cell? ⟨g3,i,none⟩=some (.int .i64 x):=bk
   have aF:Row (wr.setCell ⟨g3,i,none⟩ (.int .i64 y)) _ _ _ _:=aj
   clear bx ak aC bk aj hy ab
   go_wp2_with (go_at_call 84;refine (be _).mono ?_;rintro e w' ⟨rfl,rfl⟩)
   go_roundg j
   case measure=>omega
   case rel =>
    exact ⟨i+1,by go_num,by omega,aF,a3.setCell (.inl (by simp)) _⟩
end Go.Proofs.YtepjepkgcdfboaaGreatDoor
