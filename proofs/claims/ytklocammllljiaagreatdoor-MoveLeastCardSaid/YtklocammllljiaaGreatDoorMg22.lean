/- package tile by its contracts, the fifth part: putGuessed. -/
import Derived.Test.YtklocammllljiaaGreatDoorMg18
import Derived.Test.YtklocammllljiaaGreatDoorMg21
set_option linter.unusedVariables false
set_option linter.unusedSimpArgs false
set_option maxHeartbeats 4000000
set_option maxRecDepth 100000
namespace Go.Proofs.YtklocammllljiaaGreatDoor
open Go.RowKit
def mixL (f:Int->Int) (E:List Int) (i:Nat):List Int:=(E.take i).map f++E.drop i
theorem mixL_len (f:Int->Int) (E:List Int) (i:Nat):(mixL f E i).length=E.length:=by simp [mixL];omega
theorem mixL_zero (f:Int->Int) (E:List Int):mixL f E 0=E:=by simp [mixL]
theorem mixL_full (f:Int->Int) (E:List Int):mixL f E E.length=E.map f:=by simp [mixL]
theorem mixL_at (f:Int->Int) (E:List Int) {i:Nat} (h:i<E.length):(mixL f E i)[i]?=some (E.getD i 0):=by
 unfold mixL
 rw [zS (by simp;omega)]
 rw [zE,zI,Nat.min_eq_left (by omega),Nat.sub_self,List.getElem?_drop,Nat.add_zero,zF h,zD,zF h]
 rfl
theorem mixL_set (f:Int->Int) (E:List Int) {i:Nat} (h:i<E.length):(mixL f E i).set i (f (E.getD i 0))=mixL f E (i+1):=by
 unfold mixL
 have hl:((E.take i).map f).length=i:=by simp;omega
 rw [List.set_append_right _ _ (by omega),hl,Nat.sub_self,List.drop_eq_getElem_cons h,List.set_cons_zero,take_snoc' E h,zM,zH]
 congr 2
 rw [zD,zF h]
 rfl
def foreF (l:List Int) (W H d:Nat):List Int:=(foreL l W H d (bestKinds l W H d)).map fun v=>foldI v d
theorem foreF_len (l:List Int) (W H d:Nat):(foreF l W H d).length=W*H:=by simp [foreF,foreL_len]
def planBits (e:List Int) (n:Nat):List Nat :=
 bitsP (bestPlan n 0 4 e).order (bestPlan n 0 4 e).ks (splitL (sizesL (bestPlan n 0 4 e).order n 0) e)
def kindsI (l:List Int) (W H d:Nat):List Int:=(bestKinds l W H d).map Int.ofNat
def guessedBits (l:List Int) (W H d:Nat):List Nat:=allOf (kindsI l W H d) 4++planBits (foreF l W H d) (W*H)
theorem kindsI_len (l:List Int) (W H d:Nat):(kindsI l W H d).length=H:=by simp [kindsI,bestKinds_len]
theorem kindsI_ok (l:List Int) (W H d:Nat):SmpOk 4 (kindsI l W H d):=by
 intro s hs
 obtain ⟨k,hk,rfl⟩:=List.mem_map.1 hs
 have:=bestKinds_ok l W H d k hk
 show (0:Int)<=(k:Int)/\(k:Int)<2^4
 omega
theorem kindsI_vi (l:List Int) (W H d:Nat):(bestKinds l W H d).map i64=(kindsI l W H d).map vi:=by
 unfold kindsI
 rw [List.map_map]
 rfl
theorem foreF_wide (l:List Int) (W H d:Nat) (h0:1<=d) (h1:d<=16):∀ x∈foreF l W H d,wideP x:=by
 intro x hx
 obtain ⟨v,_,rfl⟩:=List.mem_map.1 hx
 have:=errRange16 h1 (foldI_range v h0)
 unfold wideP
 omega
theorem ksOk_best {n:Nat} (e:List Int):KsOk (bestPlan n 0 4 e).ks:=by
 have h:=bestPlan_ok (n:=n) (warm:=0) (most:=4) (by omega) e
 rw [h.1.2.1]
 intro k hk
 obtain ⟨p,_,rfl⟩:=List.mem_map.1 hk
 exact chooseK_ok p
theorem ks_len_best {n:Nat} (e:List Int):(bestPlan n 0 4 e).ks.length=(sizesL (bestPlan n 0 4 e).order n 0).length:=by
 have h:=bestPlan_ok (n:=n) (warm:=0) (most:=4) (by omega) e
 have h2:=congrArg List.length h.1.2.1
 unfold planOf at h2
 rw [zE,splitL_len] at h2
 exact h2
theorem putGuessed_ok (w:World) (b:Nat) (F bs:List Nat) (l:List Int) (A:Option Addr) (cap W H d:Nat) (h:IsWr w b F bs) (hw0:1<=W) (hw1:W<=16) (hh0:1<=H) (hh1:H<=16) (h0:1<=d) (h1:d<=16) (hl:l.length=W*H) (hs:SmpOk d l) (hc:Cells vi w A l) (hA:Apt A l F) (hbs:bs.length<68719476736) :
  Calls Tryz.prog 136 #[.pointer (some ⟨b,0,none⟩),.slice A l.length cap,.int .i64 W,.int .i64 H,.int .i64 d] w fun e w'=>e=.returned (.tuple #[])/\∃ F',IsWr w' b F' (bs++guessedBits l W H d)/\Grow F F' w w':=by
 have aH:l.length<=256:=by rw [hl];exact zL hw1 hh1
 have aT:1<=l.length:=by rw [hl];exact zL hw0 hh0
 have aA:=gbest_ok l A cap W H d w hw0 (by omega) hh0 (by omega) h0 h1 hl hs hc
 have aw:=fun Ak capk w hc hck=>gfore_ok l A cap W H d (bestKinds l W H d) Ak capk w hw0 (by omega) hh0 (by omega) h0 h1 hl hs hc (bestKinds_len l W H d) (bestKinds_ok l W H d) hck
 have ar:=foreL_len l W H d (bestKinds l W H d)
 have az:=foreF_len l W H d
 have a0:=foreF_wide l W H d h0 h1
 have aa:guessedBits l W H d=allOf (kindsI l W H d) 4++planBits (foreF l W H d) (W*H):=rfl
 rw [<-hl] at ar az aa
 have bh:=kindsI_vi l W H d
 have aW:=kindsI_len l W H d
 have ba:=kindsI_ok l W H d
 have aU:foreF l W H d=(foreL l W H d (bestKinds l W H d)).map fun v=>foldI v d:=rfl
 rw [bh] at aA
 rw [bestKinds_len] at aw
 have ax:∀ Ak w,Cells vi w Ak (kindsI l W H d)->Cells i64 w Ak (bestKinds l W H d):=fun Ak w h=>Cells.map (f:=vi) (k:=Int.ofNat) h
 generalize foreL l W H d (bestKinds l W H d)=E at *
 obtain ⟨EF,bn⟩:=zX (foreF l W H d)
 rw [<-bn] at az a0 aa aU
 obtain ⟨K,hK⟩:=zX (kindsI l W H d)
 rw [<-hK] at aA aW ba aa ax
 rw [aa]
 have be:∀ x∈F,x<w.heap.size:=h.lt
 obtain ⟨m,hm⟩:=zX (l.length)
 rw [<-hm] at aA aw ar az aH aT ⊢
 have ad:=ksOk_best (n:=m) EF
 have ac:=ks_len_best (n:=m) EF
 have ai:=bestPlan_ok (n:=m) (warm:=0) (most:=4) (by omega) EF
 have bo:planBits EF m=bitsP (bestPlan m 0 4 EF).order (bestPlan m 0 4 EF).ks (splitL (sizesL (bestPlan m 0 4 EF).order m 0) EF):=rfl
 rw [bo]
 have ay:=ai.1.1
 have a7:=ai.2.1
 have ae:=hid aW
 have bx:=hid aw
 have br:=hid ax
 have bD:=hid be
 have bp:=hid a0
 have bv:=hid aU
 have bz:=hid ba
 have aO:=hid ad
 have bb:=hid ac
 have bA:=hid ay
 have HM:=hid hm
 have HA:=hid hA
 clear aw ax be a0 aU ba ad ac ay hm hl hs aa bn hK bh ai bo hA aW
 go_enter Tryz.func136,Tryz.ntmps136
 go_wp2_with fail
 refine aA.mono ?_
 rintro e w1 ⟨v1,G1,rfl,au,bg,bG⟩
 obtain ⟨A1,c1,rfl,bE,bH,a1⟩:=au.open_map
 have av:Apt A1 K F:=au.apt (fun x hx hm=>by have:=bD.out x hm;have:=bG x hx;omega)
 clear aA au
 go_wp2_with fail
 refine (putAll_ok w1 b F bs K A1 c1 4 (h.same bg) (by omega) (by have:=ae.out;omega) bz.out a1 av (by omega)).mono ?_
 rintro e w2 ⟨rfl,F2,al,am⟩
 have af:=Grow.pre bg am
 have bk:=hc.keep HA.out af.chg
 have aG:=a1.keep av am.chg
 clear am av a1 h
 have aw:=bx.out A1 c1 w2 bk (br.out _ _ aG)
 rw [ae.out]
 clear aG
 go_wp2_with fail
 refine aw.mono ?_
 rintro e w3 ⟨v3,G3,rfl,aL,bm,bi⟩
 have bM:=af.size
 have aB:=aL.cases
 rcases aB with ⟨_,aR,_⟩ | ⟨g3,ah,rfl⟩
 ·exfalso
  have:=congrArg List.length aR
  rw [zE,ar] at this
  simp at this
  omega
 obtain ⟨an,rfl,bc,aJ,_,_⟩:=ah.open_map
 have bC:w2.heap.size<=g3:=bi g3 (by simp)
 have aM:=al.same bm
 have aI:g3∉F2:=fun hm=>by have:=al.lt _ hm;omega
 clear aw aL bi al
 rw [ar] at bc ah ⊢
 go_wp2_with fail
 go_loopg [35] m (fun j iv wr=>∃ (i:Nat),iv=.int .i64 i/\i+j=m/\Row wr 3 (.slice (some ⟨g3,0,none⟩) m an) g3 ((mixL (fun v=>foldI v d) E i).map vi)/\Chg [g3] w3 wr)
 case atStart=>exact ⟨0,rfl,by omega,by rw [mixL_zero];exact ah,zR _ _⟩
 case round =>
  clear ah
  obtain ⟨i,rfl,bN,ab,a9⟩:=hrel
  rcases gk with _ | j
  ·obtain rfl:i=m:=by omega
   rw [<-ar,mixL_full,<-bv.out,ar] at ab
   have aP:Cells vi wr (some ⟨g3,0,none⟩) EF:=by
    have:=ab.toOwn.cells
    exact this
   have a6:Apt (some ⟨g3,0,none⟩) EF F2:=ab.toOwn.apt (fun x hx=>by rw [zU.1 hx];exact aI)
   have ap:=aM.chg a9 (fun x hx hm=>by rw [zU.1 hm] at hx;exact aI hx)
   have aq:Grow F F2 w wr:=⟨af.chg.trans (bm.trans a9 (fun x hx=>by rw [zU.1 hx];exact .inr bC)) (by simp),af.new⟩
   have ag:=pbest_ok i 0 4 EF (some ⟨g3,0,none⟩) an wr aT (by omega) (by omega) (by omega) (by omega) bp.out aP (by omega) aJ
   rw [az] at ag
   clear aM af ab bk
   go_wp2_with fail
   refine ag.mono ?_
   rintro e w5 ⟨v5,G5,rfl,ao,a4,bd⟩
   obtain ⟨A5,c5,rfl,aS,bu,bl⟩:=ao.open_map
   have bL:=aq.size
   have aD:=ap.lt
   have aE:Apt A5 (bestPlan i 0 4 EF).ks F2:=ao.apt (fun x hx hm=>by have:=aD x hm;have:=bd x hx;omega)
   have aX:=ap.same a4
   have a5:=aP.same a4
   have aV:=aq.same a4
   clear ag ao ap aP aq bd aD
   have bJ:=hid (allOf_len K 4)
   obtain ⟨ks,aN⟩:=zX ((bestPlan i 0 4 EF).ks)
   obtain ⟨po,ai⟩:=zX ((bestPlan i 0 4 EF).order)
   have ac:=bb.out
   have ay:=bA.out
   have ad:=aO.out
   rw [<-aN,<-ai] at ac
   rw [<-ai] at ay a7
   rw [<-aN] at ad bl aE aS
   rw [<-aN,<-ai]
   have bF:=hid aN
   have bq:=hid ai
   have aZ:=hid ac
   have a8:=hid ay
   have a3:=hid ad
   clear aN ai ac ay ad
   have aC:=fun o=>pput_ok _ b F2 _ po i 0 ks A5 c5 EF (some ⟨g3,0,none⟩) an (aX.same ((zR [] w5).alloc o)) (by omega) aT (by omega) (by omega) a8.out aZ.out a3.out (bl.same ((zR [] w5).alloc _)) (by omega) bp.out (a5.same ((zR [] w5).alloc _)) (by omega) aJ aE a6 (by rw [zC,bJ.out];have:=ae.out;omega)
   rw [az] at aC
   go_wp2_with fail
   refine (aC _).mono ?_
   rintro e w6 ⟨rfl,F6,aY,a2⟩
   go_wp2_with fail
   go_end0
   refine ⟨rfl,F6,?_,aV.trans (Grow.pre ((zR [] w5).alloc _) a2)⟩
   rw [<-zH,<-bF.out,<-bq.out]
   exact aY
  ·have bK:i<m:=by omega
   have aQ:i<E.length:=by rw [ar];exact bK
   obtain ⟨bB,bw,_,_,ak,aF⟩:=ab.open_map
   have bj:=ak i _ (mixL_at (fun v=>foldI v d) E aQ)
   have bO:=aF i
   have aj:=ab.set_ (i:=i) (by rw [zE,mixL_len];exact aQ) (vi (foldI (E.getD i 0) d))
   rw [<-List.map_set,mixL_set (fun v=>foldI v d) E aQ] at aj
   have bf:=fun w=>fold_ok (E.getD i 0) d w h0 h1
   generalize E.getD i 0=x at *
   obtain ⟨y,hy⟩:=zX (foldI x d)
   rw [<-hy] at aj bf
   have bI:wr.cell? ⟨g3,i,none⟩=some (.int .i64 x):=bj
   have aK:Row (wr.setCell ⟨g3,i,none⟩ (.int .i64 y)) _ _ _ _:=aj
   clear bw ak aF bj aj hy ab
   go_wp2_with (go_at_call 103;refine (bf _).mono ?_;rintro e w' ⟨rfl,rfl⟩)
   go_roundg j
   case measure=>omega
   case rel =>
    exact ⟨i+1,by go_num,by omega,aK,a9.setCell (.inl (by simp)) _⟩
end Go.Proofs.YtklocammllljiaaGreatDoor
