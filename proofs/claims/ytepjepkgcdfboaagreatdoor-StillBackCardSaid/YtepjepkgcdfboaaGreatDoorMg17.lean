/- package match by its contracts, the second part: distances. -/
import Derived.Test.YtepjepkgcdfboaaGreatDoorMg04
import Derived.Test.YtepjepkgcdfboaaGreatDoorMg16
import Derived.Test.YtepjepkgcdfboaaGreatDoorMg18
import Derived.Test.YtepjepkgcdfboaaGreatDoorMg34
set_option linter.unusedVariables false
set_option linter.unusedSimpArgs false
set_option maxHeartbeats 4000000
set_option maxRecDepth 100000
namespace Go.Proofs.YtepjepkgcdfboaaGreatDoor
open Go.RowKit
theorem e6l:Tryz.zeroCells204=((List.replicate 65 0).map i64).toArray:=by kernel_rfl
theorem f4r:Tryz.zeroCells203=((List.replicate 1025 0).map i64).toArray:=by kernel_rfl
theorem e8q (l:List Int) (A:Option Addr) (cap at_ br:Nat) (rs:List Nat) (w:World) (hat:at_<l.length) (hll:l.length<=4096) (hc:a0d vi w A l) (hr:Vec w br 203 rs) (hro:b7u rs) (hA:Apt A l [br]) :
  Calls Tryz.prog 163 #[.slice A l.length cap,.int .i64 at_,.pointer (some ⟨br,0,none⟩)] w fun e w' =>
   e=.returned (.agg ((b5f l at_ rs).dists.map i64).toArray)/\Vec w' br 203 (b5f l at_ rs).runs/\Chg [br] w w':=by
 have bx:=Blk.lt hr
 obtain ⟨n,hn⟩:=zX (l.length)
 rw [<-hn] at hat hll ⊢
 obtain ⟨M,hM⟩:=zX (min at_ 1024)
 have a9:b5f l at_ rs=dGo l at_ M 1 (c5a rs):=by rw [hM];rfl
 rw [a9]
 have aE:=c0p hro
 obtain ⟨S,hS⟩:=zX (dGo l at_ M 1 (c5a rs))
 have aL:S.Ok:=by rw [hS];exact e1w _ _ _ aE (by omega)
 rw [<-hS]
 have HN:=hid hn
 have HS:=hid hS
 have HA:=hid hA
 have aY:=hid aE
 have a2:=hid aL
 have bq:M<=at_:=by omega
 have bw:M<=1024:=by omega
 have bj:at_<=M\/1024<=M:=by omega
 have bb:Vec (w.alloc (.cells Tryz.zeroCells204 204)) w.heap.size 204 (List.replicate 65 0):=by have:=Blk.new w 204 Tryz.zeroCells204;rw [e6l] at this;rw [e6l];exact this
 have bd:Vec ((w.alloc (.cells Tryz.zeroCells204 204)).alloc (.cells Tryz.zeroCells204 204)) (w.heap.size+1) 204 (List.replicate 65 0):=by
  have:=Blk.new (w.alloc (.cells Tryz.zeroCells204 204)) 204 Tryz.zeroCells204
  rw [show (w.alloc (.cells Tryz.zeroCells204 204)).heap.size=w.heap.size+1 by simp] at this
  rw [e6l] at this ⊢
  exact this
 have bh:Chg [br] w ((w.alloc (.cells Tryz.zeroCells204 204)).alloc (.cells Tryz.zeroCells204 204)):=((zR [br] w).alloc _).alloc _
 have aS:Vec ((w.alloc (.cells Tryz.zeroCells204 204)).alloc (.cells Tryz.zeroCells204 204)) w.heap.size 204 (List.replicate 65 0):=Blk.alloc bb _
 have be:Vec ((w.alloc (.cells Tryz.zeroCells204 204)).alloc (.cells Tryz.zeroCells204 204)) br 203 rs:=Blk.alloc (Blk.alloc hr _) _
 have bi:(if (1024:Int)<(at_:Int) then (1024:Int) else (at_:Int))=(M:Int):=by split<;>omega
 clear hn a9 hS hA aE aL hro hM hr bb bj
 go_enter Tryz.func163,Tryz.ntmps163
 go_wp2_with fail
 go_loopg [8,9] M (fun j m iv wr=>∃ (d:Nat) (s:DSt),iv=.int .i64 d/\m=.int .i64 s.longest/\d+j=M+1/\1<=d/\Hid (S=dGo l at_ j d s)/\Hid s.Ok/\Vec wr br 203 s.runs/\Vec wr (w.heap.size+1) 204 s.dists/\Vec wr w.heap.size 204 (List.replicate 65 0)/\Chg [br] w wr)
 case atStart=>exact ⟨1,c5a rs,rfl,rfl,by omega,zQ _,HS,aY,be,bd,aS,bh⟩
 case round =>
  obtain ⟨d,s,rfl,rfl,hj,bu,HG,ah,ag,aG,ar,ao⟩:=hrel
  rcases gk with _ | j
  ·have bk:S=s:=HG.out
   have bc:d=M+1:=by omega
   clear HG
   have t1:decide ((d:Int)<=(M:Int))=false:=zA (by omega)
   have aB:(Tryz.prog.info? 204).map (·.size)=some 65:=by kernel_rfl
   subst bk
   have aP:(S.dists.map i64).length=65:=by rw [zE];exact a2.out.dl
   have aQ:(S.dists.map i64).toArray.size=65:=by simpa using aP
   have aM:(List.replicate 65 0 |>.map i64).toArray.size=65:=by simp
   have aX:Blk (wr.setCells w.heap.size 0 (S.dists.map i64)) w.heap.size 204 (S.dists.map i64).toArray:=Blk.setCells ar _ (by rw [aM,aP])
   have aV:Chg [br] w (wr.setCells w.heap.size 0 (S.dists.map i64)):=Chg.setCells (.inr (zQ _)) _ _ _ ao
   have ae:Vec (wr.setCells w.heap.size 0 (S.dists.map i64)) br 203 S.runs:=Blk.chg ag (Chg.setCells (F:=[w.heap.size]) (.inl (by simp)) _ _ _ (zR _ _)) (by simp;omega)
   have HE:(S.dists.map i64).toArray.toList=S.dists.map i64:=rfl
   go_wp2_with (first
    | refine wpList_load_row rfl 204 (.tmp 7) rfl (w.heap.size+1) rfl _ _ _ _ aG Tryz.underlying204 rfl (by rw [aQ];exact aB) ?_
    | refine wpList_store_mid rfl 204 (.tmp 6) (.tmp 54) rfl w.heap.size 0 (S.dists.map i64).toArray rfl rfl (Blk.there ar (by rw [aQ,aM];exact zQ _)) (by rw [aQ];exact aB) (f3c _) ?_)
   all_goals exact bodyPost_ret (v:=.agg (S.dists.map i64).toArray) (results_cell_row rfl _ _ w.heap.size _ _ (0,0) _ rfl aX Tryz.underlying204 rfl (by rw [aQ];exact aB)) rfl ⟨rfl,ae,aV⟩
  ·have bc:d<=M:=by omega
   have aJ:=ah.out
   have aR:d<s.runs.length:=by rw [aJ.rl];omega
   have aT:a0d vi wr A l:=hc.keep HA.out ao
   have aW:at_<l.length:=by rw [<-HN.out];exact hat
   have ai:at_-d<l.length:=by omega
   obtain ⟨g,o,rfl,ca⟩:=aT.at_ aW
   obtain ⟨g',o',e',cb⟩:=aT.at_ ai
   injection e' with e'
   injection e' with e1 e2 _
   subst e1
   subst e2
   have ga:l[at_]=l.getD at_ 0:=by rw [zD,zF aW];rfl
   have gb:l[at_-d]=l.getD (at_-d) 0:=by rw [zD,zF ai];rfl
   rw [ga] at ca
   rw [gb] at cb
   have a5:dGo l at_ (j+1) d s=dGo l at_ j (d+1) (b5d l at_ s d):=rfl
   rw [a5] at HG
   have aO:=c6r (l:=l) (at_:=at_) aJ (show d<=1024 by omega)
   have aN:a8k l at_ s.runs d=if l.getD at_ 0=l.getD (at_-d) 0 then min (s.runs.getD d 0+1) 64 else 0:=rfl
   have bf:=d7o l at_ s.runs d
   have am:b5d l at_ s d=⟨s.runs.set d (a8k l at_ s.runs d),a6z (a8k l at_ s.runs d-s.longest) s.dists s.longest d,max s.longest (a8k l at_ s.runs d)⟩:=rfl
   have bs:=aJ.l64
   have bm:s.runs.getD d 0<=64:=by rw [zD,zF aR];exact aJ.r64 _ (zG aR)
   have aD:=ag.cell aR
   have aC:=Blk.frozen ag d
   generalize a8k l at_ s.runs d=r at *
   generalize l.getD at_ 0=xa at *
   generalize l.getD (at_-d) 0=xb at *
   generalize s.runs.getD d 0=ro at *
   have bo:wr.cell? ⟨g,o+at_,none⟩=some (.int .i64 xa):=ca
   have bg:wr.cell? ⟨g,o+(at_-d),none⟩=some (.int .i64 xb):=cb
   have bl:(at_:Int)-(d:Int)=((at_-d:Nat):Int):=by omega
   obtain ⟨ad,aH⟩:=zX (at_-d)
   rw [<-aH] at bg bl ai
   have bn:ad<n:=by rw [HN.out];exact ai
   have t1:decide ((d:Int)<=(M:Int))=true:=zB (by omega)
   have al:=hid am
   have a1:=hid aN
   have a3:=hid aO
   clear ca cb ga gb a5 aO am aJ aW aR ai aT aN aH
   have a4:Hid (xa≠xb->r=0):=hid fun hq=>by rw [a1.out,if_neg hq]
   have ba:Hid (xa=xb->r=min (ro+1) 64):=hid fun hq=>by rw [a1.out,if_pos hq]
   clear a1
   have aA:(xa=xb/\r=ro+1/\ro<64)\/(xa=xb/\r=64/\ro=64)\/(xa≠xb/\r=0):=by
    by_cases hq:xa=xb
    ·have:=ba.out hq
     omega
    ·exact .inr (.inr ⟨hq,a4.out hq⟩)
   clear a4 ba
   rcases aA with ⟨hq,aF,a0⟩ | ⟨hq,aF,a0⟩ | ⟨hq,aF⟩
   ·have t3:(xa==xb)=true:=by simpa using hq
    have t4:decide ((64:Int)<(ro:Int)+1)=false:=zA (by omega)
    have er:(ro:Int)+1=(r:Int):=by omega
    clear aF hq
    go_upto_region 6 with (fail)
    go_quiet (fail)
    go_upto_region 7 with (fail)
    have ac:=ag.chg ((zR [] wr).drewN nq) (by simp)
    have aa:=ac.cell (i:=d) (by rw [ah.out.rl];omega)
    have ab:=Blk.frozen ac d
    refine a0c 11 (by kernel_rfl) (by kernel_rfl) ?_
    simp only [List.take_succ_cons,List.take_zero,List.drop_succ_cons,List.drop_zero]
    repeat (go_big_quiet_step (fail))
    refine wpQuiet_nil ?_
    intro _ aZ
    obtain ⟨ak,rfl⟩:=aZ
    go_wp2_with fail
    have ae:=ag.chg ((zR [] wr).drewN (nq+ak)) (by simp)
    have aw:=ae.set_ d r
    have au:=Blk.far (aG.chg ((zR [] wr).drewN (nq+ak)) (by simp)) (p:=⟨br,d,none⟩) (by simp;omega) (.int .i64 r)
    have av:=Blk.far (ar.chg ((zR [] wr).drewN (nq+ak)) (by simp)) (p:=⟨br,d,none⟩) (by simp;omega) (.int .i64 r)
    have an:=(ao.drewN (nq+ak)).setCell (p:=⟨br,d,none⟩) (.inl (by simp)) (.int .i64 r)
    have aq:(s.runs.set d r).length=1025:=by rw [List.length_set];exact ah.out.rl
    have az:(s.runs.set d r).getD d 0=r:=by rw [zD,List.getElem?_set_self (by rw [ah.out.rl];omega)];rfl
    have aI:=hid aq
    have aK:=hid az
    clear aq az aD aC aa ab ag ac aG ar ao
    go_loopg [8] (r-s.longest) (fun j2 iv wr2=>∃ (m:Nat) (D:List Nat),iv=.int .i64 m/\Hid (a6z (r-s.longest) s.dists s.longest d=a6z j2 D m d)/\m+j2=max s.longest r/\s.longest<=m/\Hid (D.length=65)/\Vec wr2 br 203 (s.runs.set d r)/\Vec wr2 (w.heap.size+1) 204 D/\Vec wr2 w.heap.size 204 (List.replicate 65 0)/\Chg [br] w wr2)
    case atStart=>exact ⟨s.longest,s.dists,rfl,hid rfl,by omega,zQ _,hid ah.out.dl,aw,au,av,an⟩
    case round =>
     obtain ⟨m,D,rfl,HF,a8,a6,ax,aj,af,ay,ap⟩:=hrel
     clear aw au av an
     have yc:=aj.cell (i:=d) (by rw [aI.out];omega)
     rw [aK.out] at yc
     rcases gk with _ | j2
     ·have t5:decide ((m:Int)<(r:Int))=false:=zA (by omega)
      go_wp2_with fail
      go_roundg j
      case measure=>omega
      case rel =>
       have hD:a6z (r-s.longest) s.dists s.longest d=D:=HF.out
       refine ⟨d+1,b5d l at_ s d,by go_num,?_,by omega,by omega,HG,a3,?_,?_,ay,ap⟩
       ·rw [al.out];exact congrArg (fun z:Nat=>Value.int .i64 z) (show m=max s.longest r by omega)
       ·rw [al.out];exact aj
       ·rw [al.out];show Vec _ _ _ (a6z (r-s.longest) s.dists s.longest d);rw [hD];exact af
     ·have a7:m<r:=by omega
      have t5:decide ((m:Int)<(r:Int))=true:=zB (by omega)
      have cD:=af.cell (i:=m+1) (by rw [ax.out];omega)
      have fD:=Blk.frozen af (m+1)
      go_wp2_with fail
      go_roundg j2
      case measure=>omega
      case rel =>
       refine ⟨m+1,D.set (m+1) d,by go_num,HF,by omega,by omega,hid (by rw [List.length_set];exact ax.out),Blk.far aj (by simp;omega) _,af.set_ _ _,Blk.far ay (by simp) _,ap.setCell (.inr (by simp)) _⟩
   ·have t3:(xa==xb)=true:=by simpa using hq
    have t4:decide ((64:Int)<(ro:Int)+1)=true:=zB (by omega)
    have bp:(64:Int)<(ro:Int)+1:=by omega
    have aU:=hid aF
    have bv:=hid a0
    clear aF a0 hq
    go_upto_region 6 with (fail)
    go_quiet (fail)
    go_upto_region 7 with (fail)
    have ac:=ag.chg ((zR [] wr).drewN nq) (by simp)
    have aa:=ac.cell (i:=d) (by rw [ah.out.rl];omega)
    have ab:=Blk.frozen ac d
    refine a0c 11 (by kernel_rfl) (by kernel_rfl) ?_
    simp only [List.take_succ_cons,List.take_zero,List.drop_succ_cons,List.drop_zero]
    repeat (go_big_quiet_step (fail))
    refine wpQuiet_nil ?_
    intro _ aZ
    obtain ⟨ak,rfl⟩:=aZ
    go_wp2_with fail
    have ae:=ag.chg ((zR [] wr).drewN (nq+ak)) (by simp)
    have aw:Vec (((wr.drewN (nq+ak))).setCell ⟨br,d,none⟩ (.int .i64 64)) br 203 (s.runs.set d r):=by rw [aU.out];exact ae.set_ d 64
    have au:=Blk.far (aG.chg ((zR [] wr).drewN (nq+ak)) (by simp)) (p:=⟨br,d,none⟩) (by simp;omega) (.int .i64 64)
    have av:=Blk.far (ar.chg ((zR [] wr).drewN (nq+ak)) (by simp)) (p:=⟨br,d,none⟩) (by simp;omega) (.int .i64 64)
    have an:=(ao.drewN (nq+ak)).setCell (p:=⟨br,d,none⟩) (.inl (by simp)) (.int .i64 64)
    have aq:(s.runs.set d r).length=1025:=by rw [List.length_set];exact ah.out.rl
    have az:(s.runs.set d r).getD d 0=r:=by rw [zD,List.getElem?_set_self (by rw [ah.out.rl];omega)];rfl
    have aI:=hid aq
    have aK:=hid az
    clear aq az aD aC aa ab ag ac aG ar ao
    go_loopg [8] (r-s.longest) (fun j2 iv wr2=>∃ (m:Nat) (D:List Nat),iv=.int .i64 m/\Hid (a6z (r-s.longest) s.dists s.longest d=a6z j2 D m d)/\m+j2=max s.longest r/\s.longest<=m/\Hid (D.length=65)/\Vec wr2 br 203 (s.runs.set d r)/\Vec wr2 (w.heap.size+1) 204 D/\Vec wr2 w.heap.size 204 (List.replicate 65 0)/\Chg [br] w wr2)
    case atStart=>exact ⟨s.longest,s.dists,rfl,hid rfl,by omega,zQ _,hid ah.out.dl,aw,au,av,an⟩
    case round =>
     obtain ⟨m,D,rfl,HF,a8,a6,ax,aj,af,ay,ap⟩:=hrel
     clear aw au av an
     have yc:=aj.cell (i:=d) (by rw [aI.out];omega)
     rw [aK.out] at yc
     rcases gk with _ | j2
     ·have t5:decide ((m:Int)<(r:Int))=false:=zA (by omega)
      go_wp2_with fail
      go_roundg j
      case measure=>omega
      case rel =>
       have hD:a6z (r-s.longest) s.dists s.longest d=D:=HF.out
       refine ⟨d+1,b5d l at_ s d,by go_num,?_,by omega,by omega,HG,a3,?_,?_,ay,ap⟩
       ·rw [al.out];exact congrArg (fun z:Nat=>Value.int .i64 z) (show m=max s.longest r by omega)
       ·rw [al.out];exact aj
       ·rw [al.out];show Vec _ _ _ (a6z (r-s.longest) s.dists s.longest d);rw [hD];exact af
     ·have a7:m<r:=by omega
      have t5:decide ((m:Int)<(r:Int))=true:=zB (by omega)
      have cD:=af.cell (i:=m+1) (by rw [ax.out];omega)
      have fD:=Blk.frozen af (m+1)
      go_wp2_with fail
      go_roundg j2
      case measure=>omega
      case rel =>
       refine ⟨m+1,D.set (m+1) d,by go_num,HF,by omega,by omega,hid (by rw [List.length_set];exact ax.out),Blk.far aj (by simp;omega) _,af.set_ _ _,Blk.far ay (by simp) _,ap.setCell (.inr (by simp)) _⟩
   ·have t3:(xa==xb)=false:=by simpa using hq
    have aU:=hid aF
    clear aF hq
    go_upto_region 6 with (fail)
    go_quiet (fail)
    have aa:=(ag.chg ((zR [] wr).drewN nq) (by simp)).cell (i:=d) (by rw [ah.out.rl];omega)
    have ab:=Blk.frozen (ag.chg ((zR [] wr).drewN nq) (by simp)) d
    go_wp2_with fail
    have ae:=ag.chg ((zR [] wr).drewN nq) (by simp)
    have aw:Vec (((wr.drewN nq)).setCell ⟨br,d,none⟩ (.int .i64 0)) br 203 (s.runs.set d r):=by rw [aU.out];exact ae.set_ d 0
    have au:=Blk.far (aG.chg ((zR [] wr).drewN nq) (by simp)) (p:=⟨br,d,none⟩) (by simp;omega) (.int .i64 0)
    have av:=Blk.far (ar.chg ((zR [] wr).drewN nq) (by simp)) (p:=⟨br,d,none⟩) (by simp;omega) (.int .i64 0)
    have an:=(ao.drewN nq).setCell (p:=⟨br,d,none⟩) (.inl (by simp)) (.int .i64 0)
    have aq:(s.runs.set d r).length=1025:=by rw [List.length_set];exact ah.out.rl
    have az:(s.runs.set d r).getD d 0=r:=by rw [zD,List.getElem?_set_self (by rw [ah.out.rl];omega)];rfl
    have aI:=hid aq
    have aK:=hid az
    clear aq az aD aC aa ab ag aG ar ao
    go_loopg [8] (r-s.longest) (fun j2 iv wr2=>∃ (m:Nat) (D:List Nat),iv=.int .i64 m/\Hid (a6z (r-s.longest) s.dists s.longest d=a6z j2 D m d)/\m+j2=max s.longest r/\s.longest<=m/\Hid (D.length=65)/\Vec wr2 br 203 (s.runs.set d r)/\Vec wr2 (w.heap.size+1) 204 D/\Vec wr2 w.heap.size 204 (List.replicate 65 0)/\Chg [br] w wr2)
    case atStart=>exact ⟨s.longest,s.dists,rfl,hid rfl,by omega,zQ _,hid ah.out.dl,aw,au,av,an⟩
    case round =>
     obtain ⟨m,D,rfl,HF,a8,a6,ax,aj,af,ay,ap⟩:=hrel
     clear aw au av an
     have yc:=aj.cell (i:=d) (by rw [aI.out];omega)
     rw [aK.out] at yc
     rcases gk with _ | j2
     ·have t5:decide ((m:Int)<(r:Int))=false:=zA (by omega)
      go_wp2_with fail
      go_roundg j
      case measure=>omega
      case rel =>
       have hD:a6z (r-s.longest) s.dists s.longest d=D:=HF.out
       refine ⟨d+1,b5d l at_ s d,by go_num,?_,by omega,by omega,HG,a3,?_,?_,ay,ap⟩
       ·rw [al.out];exact congrArg (fun z:Nat=>Value.int .i64 z) (show m=max s.longest r by omega)
       ·rw [al.out];exact aj
       ·rw [al.out];show Vec _ _ _ (a6z (r-s.longest) s.dists s.longest d);rw [hD];exact af
     ·have a7:m<r:=by omega
      have t5:decide ((m:Int)<(r:Int))=true:=zB (by omega)
      have cD:=af.cell (i:=m+1) (by rw [ax.out];omega)
      have fD:=Blk.frozen af (m+1)
      go_wp2_with fail
      go_roundg j2
      case measure=>omega
      case rel =>
       refine ⟨m+1,D.set (m+1) d,by go_num,HF,by omega,by omega,hid (by rw [List.length_set];exact ax.out),Blk.far aj (by simp;omega) _,af.set_ _ _,Blk.far ay (by simp) _,ap.setCell (.inr (by simp)) _⟩
theorem c8q:b6m Tryz.prog 164 201 (.agg #[.int .i64 0,.int .i64 0,.int .i64 0]) 3 24:=.mk' Tryz.underlying164 (by kernel_rfl)
def d7z (w:World) (g:Nat) (l:List Tok):Prop:=Blk w g 201 (l.flatMap a2l).toArray
theorem d7z.cell {w:World} {g:Nat} {l:List Tok} (h:d7z w g l) {i:Nat} (hi:i<l.length) :
  w.cell? ⟨g,i*3,none⟩=some (.int .i64 (a4s l i).len)/\w.cell? ⟨g,i*3+1,none⟩=some (.int .i64 (a4s l i).dist)/\w.cell? ⟨g,i*3+2,none⟩=some (.int .i64 (a4s l i).lit):=by
 have hg:l[i]?=some (a4s l i):=by unfold a4s;rw [zD,zF hi];rfl
 obtain ⟨a,b,c⟩:=b8r hg
 refine ⟨?_,?_,?_⟩
 ·rw [Blk.cell h];simpa using a
 ·rw [Blk.cell h];simpa using b
 ·rw [Blk.cell h];simpa using c
theorem e7l (l:List Tok) (i:Nat) (t:Tok):(((l.flatMap a2l).set (i*3) (.int .i64 t.len)).set (i*3+1) (.int .i64 t.dist)).set (i*3+2) (.int .i64 t.lit)=(l.set i t).flatMap a2l:=by
 induction l generalizing i with
 | nil=>simp
 | cons s l ih =>
  cases i with
  | zero=>simp [a2l]
  | succ i =>
   rw [List.set_cons_succ,List.flatMap_cons,List.flatMap_cons,<-ih i]
   have e:a2l s=[.int .i64 s.len,.int .i64 s.dist,.int .i64 s.lit]:=rfl
   rw [e,show (i+1)*3=i*3+1+1+1 by omega,show i*3+1+1+1+1=(i*3+1)+1+1+1 by omega,show i*3+1+1+1+2=(i*3+2)+1+1+1 by omega]
   simp only [List.cons_append,List.nil_append,List.set_cons_succ]
theorem d7z.set_ {w:World} {g:Nat} {l:List Tok} (h:d7z w g l) (i:Nat) (t:Tok) :
  d7z (((w.setCell ⟨g,i*3,none⟩ (.int .i64 t.len)).setCell ⟨g,i*3+1,none⟩ (.int .i64 t.dist)).setCell ⟨g,i*3+2,none⟩ (.int .i64 t.lit)) g (l.set i t):=by
 have h1:=((Blk.set_ h (i*3) (.int .i64 t.len)).set_ (i*3+1) (.int .i64 t.dist)).set_ (i*3+2) (.int .i64 t.lit)
 unfold d7z
 rw [<-e7l]
 simpa using h1
theorem d9o (v:Value) (n:Nat):madeCells #[v,v,v] (n*3)=(List.replicate (n*3) v).toArray:=by
 apply Array.ext
 ·simp [size_madeCells]
 ·intro j h1 h2
  have h3:j%3<3:=Nat.mod_lt _ (by decide)
  have:∀ k,k<3->(#[v,v,v]:Array Value)[k]! = v:=fun k hk=>by
   match k,hk with
   | 0,_=>rfl
   | 1,_=>rfl
   | 2,_=>rfl
  simp only [madeCells,Array.getElem_map,Array.getElem_range,List.getElem_toArray,List.getElem_replicate]
  exact this _ h3
theorem e2l (n:Nat):(List.replicate n (⟨0,0,0⟩:Tok)).flatMap a2l=List.replicate (n*3) (.int .i64 0):=by
 induction n with
 | zero=>rfl
 | succ n ih =>
  rw [List.replicate_succ,List.flatMap_cons,ih,show (n+1)*3=n*3+1+1+1 by omega,List.replicate_succ,List.replicate_succ,List.replicate_succ]
  rfl
theorem e3p (kl kc:IntKind) (n:Nat) (hn:n<=1099511627776) (w:World) :
  (Instr.makeSlice 164 (.int kl (n:Int)) (.int kc (n:Int))).run Tryz.prog w=.ok (.slice (some ⟨w.heap.size,0,none⟩) n n) (w.alloc (.cells ((List.replicate n (⟨0,0,0⟩:Tok)).flatMap a2l).toArray 201)):=by
 obtain ⟨i,hi,hz,aa,ab⟩:=c8q.hi
 have hr:=run_make (P:=Tryz.prog) w 164 201 i _ c8q.ht hi hz kl kc n n (by omega) (Int.le_refl _) (by rw [ab];omega) (by omega)
 rw [hr,aa,e2l]
 simp only [Int.toNat_natCast]
 have e:(Value.agg #[.int .i64 0,.int .i64 0,.int .i64 0]).cells=#[.int .i64 0,.int .i64 0,.int .i64 0]:=rfl
 rw [e,d9o]
theorem f4w (D:List Nat) (hD:D.length=65) (m:Nat) (hm:m<65) (w:World) :
  (Instr.index 204 (.agg (D.map i64).toArray) (.int .i64 m)).run Tryz.prog w=.ok (.int .i64 (D.getD m 0:Nat)) w:=by
 have h5:D[m]?=some (D.getD m 0):=by
  have:m<D.length:=by omega
  simp [zD,zF this]
 generalize D.getD m 0=x at *
 have h6:(0:Int)<=(m:Int)/\(m:Int)<65:=by omega
 simp [Instr.index,run_underlying Tryz.underlying204,asIntOf,go_sem,h6,h5,hm,i64]
structure f3e (w:World) (b:Nat) (s:LSt):Prop where
 vr:Vec w b 203 s.runs
 vc:Vec w (b+1) 3 s.costs
 vf:d7z w (b+1+1) s.first
theorem f3r (w:World) (n:Nat):f3e (((w.alloc (.cells Tryz.zeroCells203 203)).alloc (.cells (List.replicate (n+1) (Value.int .i64 0)).toArray 3)).alloc (.cells ((List.replicate n (⟨0,0,0⟩:Tok)).flatMap a2l).toArray 201)) w.heap.size (c5f n):=by
 refine ⟨Blk.alloc (Blk.alloc ?_ _) _,Blk.alloc ?_ _,?_⟩
 ·have:=Blk.new w 203 Tryz.zeroCells203
  rw [f4r] at this ⊢
  exact this
 ·have:=Blk.new (w.alloc (.cells Tryz.zeroCells203 203)) 3 (List.replicate (n+1) (Value.int .i64 0)).toArray
  rw [show (w.alloc (.cells Tryz.zeroCells203 203)).heap.size=w.heap.size+1 by simp] at this
  have e:((c5f n).costs.map i64).toArray=(List.replicate (n+1) (Value.int .i64 0)).toArray:=by
   show ((List.replicate (n+1) 0).map i64).toArray=_
   rw [List.map_replicate]
   rfl
  rw [<-e] at this ⊢
  exact this
 ·have:=Blk.new ((w.alloc (.cells Tryz.zeroCells203 203)).alloc (.cells (List.replicate (n+1) (Value.int .i64 0)).toArray 3)) 201 ((List.replicate n (⟨0,0,0⟩:Tok)).flatMap a2l).toArray
  rw [show ((w.alloc (.cells Tryz.zeroCells203 203)).alloc (.cells (List.replicate (n+1) (Value.int .i64 0)).toArray 3)).heap.size=w.heap.size+1+1 by simp] at this
  exact this
theorem f3e.same {w w':World} {b:Nat} {s:LSt} (h:f3e w b s) (hc:Chg [] w w'):f3e w' b s:=⟨h.vr.chg hc (by simp),h.vc.chg hc (by simp),Blk.chg h.vf hc (by simp)⟩
theorem e8l (l:List Int) (A:Option Addr) (cap lit cp:Nat) (w:World) (hll:l.length<=4096) (hc:a0d vi w A l) (h0:1<=lit) (h1:lit<=1048576) (h2:1<=cp) (h3:cp<=1048576) :
  Calls Tryz.prog 118 #[.slice A l.length cap,.int .i64 lit,.int .i64 cp] w fun e w' =>
   ∃ (A':Option Addr) (cap':Nat),e=.returned (.slice A' (a5z l lit cp).length cap')/\d8b w' A' (a5z l lit cp)/\Chg [] w w'/\∀ ad,A'=some ad->w.heap.size<=ad.block:=by
 have ai:=b7c l lit cp
 have aI:a5z l lit cp=a9e (b4e l lit cp).first l.length l.length 0:=rfl
 have ay:b4e l lit cp=lGo l lit cp l.length (c5f l.length):=rfl
 have aU:=b2v l lit cp
 have au:=c1h l.length lit
 have ac:=fun k s (a:LSt.Ok l.length lit (k+1) s) (b:k<l.length)=>c7c (l:=l) (cp:=cp) a b
 have ap:=fun k s (a:LSt.Ok l.length lit (k+1) s) (b:k<l.length)=>e3a (l:=l) a b
 have ae:=fun at_ br rs w (a:at_<l.length) (b:a0d vi w A l) c d e=>e8q l A cap at_ br rs w a hll b c d e
 obtain ⟨T,hT⟩:=zX (a5z l lit cp)
 rw [<-hT] at aI ai ⊢
 obtain ⟨S,hS⟩:=zX (b4e l lit cp)
 rw [<-hS] at aI ay aU
 obtain ⟨n,hn⟩:=zX (l.length)
 rw [<-hn] at aI ay aU au ac ap ae hll ai ⊢
 have t1:decide ((lit:Int)<1)=false:=zA (by omega)
 have t2:decide ((1048576:Int)<(lit:Int))=false:=zA (by omega)
 have t3:decide ((cp:Int)<1)=false:=zA (by omega)
 have t4:decide ((1048576:Int)<(cp:Int))=false:=zA (by omega)
 have aS:=a1p (P:=Tryz.prog) a0p rfl .i64 .i64 (n+1) (by omega) (by omega)
 have e1:((n+1:Nat):Int)=(n:Int)+1:=by omega
 rw [e1] at aS
 have aW:=e3p .i64 .i64 n (by omega)
 have HT:=hid aI
 have HS:=hid ay
 have bq:=hid aU
 have a8:=hid au
 have bW:=hid ac
 have bT:=hid ap
 have b4:=hid ae
 have HN:=hid hn
 have b0:=hid ai
 clear aI ay aU au ac ap ae hn ai hT hS
 go_enter Tryz.func118,Tryz.ntmps118
 go_wp2_with fail
 have aa:=f3r w n
 have ab:Chg [] w (((w.alloc (.cells Tryz.zeroCells203 203)).alloc (.cells (List.replicate (n+1) (Value.int .i64 0)).toArray 3)).alloc (.cells ((List.replicate n (⟨0,0,0⟩:Tok)).flatMap a2l).toArray 201)):=(((zR [] w).alloc _).alloc _).alloc _
 have eR:(List.replicate (n+1) (Value.int .i64 0)).toArray=Array.replicate (n+1) (Value.int .i64 0):=by simp
 rw [eR] at aa ab
 clear aS aW eR
 go_loopg [10] n (fun k iv wr=>∃ (s:LSt) (a:Int),iv=.int .i64 a/\a=(k:Int)-1/\k<=n/\Hid (S=lGo l lit cp k s)/\Hid (s.Ok n lit k)/\f3e wr w.heap.size s/\Chg [] w wr)
 case atStart=>exact ⟨c5f n,_,rfl,rfl,zQ _,HS,a8,aa,ab⟩
 case round =>
  obtain ⟨s,a,rfl,ha,ce,HG,aJ,aa,ab⟩:=hrel
  rcases gk with _ | k
  ·have bO:a<0:=by omega
   clear ha
   have tn:decide ((0:Int)<=a)=false:=zA (by omega)
   have b6:S=s:=HG.out
   subst b6
   have bv:S.first.length=n:=bq.out.pair.fl
   have bo:∀ t∈S.first,t.ok:=bq.out.pair.fo
   have a7:=hid bv
   have bP:=hid bo
   have ax:=aa.vf
   clear bv bo aa hc
   go_wp2_with fail
   go_loopg [14,15] n (fun j v iv wr=>∃ (i:Nat) (done:List Tok) (F:List Nat),iv=.int .i64 i/\Hid (T=done++a9e S.first n j i)/\n<=i+j/\i<=n+64/\b7t wr 201 3 v F done.length (done.flatMap a2l)/\(∀ x∈F,w.heap.size+1+1<x)/\d7z wr (w.heap.size+1+1) S.first/\Chg [] w wr)
   case atStart=>exact ⟨0,[],[],rfl,HT,by omega,by omega,b7t.nil _ _ _,by simp,ax,ab⟩
   case round =>
    clear ax ab
    obtain ⟨i,done,F,rfl,az,cf,ch,aj,hF,ax,ab⟩:=hrel
    obtain ⟨A',cap',rfl,_,_,bY,bV⟩:=aj.open_
    by_cases hin:i<n
    ·have t5:decide ((i:Int)<(n:Int))=true:=zB (by omega)
     rcases gk with _ | j
     ·omega
     obtain ⟨c1,c2,c3⟩:=ax.cell (i:=i) (by rw [a7.out];exact hin)
     have aT:a9e S.first n (j+1) i=a4s S.first i::a9e S.first n j (i+max (a4s S.first i).len 1):=by rw [a9e,if_pos hin]
     rw [aT] at az
     clear aT
     have bD:done.length+1<=4096:=by
      have h6:=b0.out
      rw [az.out,zC,zK] at h6
      omega
     have bA:(a4s S.first i).ok:=by
      unfold a4s
      have bp:i<S.first.length:=by rw [a7.out];exact hin
      rw [zD,zF bp]
      exact bP.out _ (zG bp)
     have cj:(a4s S.first i).len<=64:=by
      rcases bA with h | h
      ·have:=(Tok.isLit_iff.1 h).1;omega
      ·exact (Tok.isCopy_iff.1 h).2.1
     have bx:(done++[a4s S.first i]).flatMap a2l=done.flatMap a2l++a2l (a4s S.first i):=by simp
     have bH:=hid bx
     have bw:a2l (a4s S.first i)=[.int .i64 (a4s S.first i).len,.int .i64 (a4s S.first i).dist,.int .i64 (a4s S.first i).lit]:=rfl
     obtain ⟨dn,aC⟩:=zX (done.length)
     have aA:=hid aC
     have bZ:max (a4s S.first i).len 1=(a4s S.first i).len/\1<=(a4s S.first i).len\/max (a4s S.first i).len 1=1/\(a4s S.first i).len<1:=by omega
     generalize ht:a4s S.first i=t at *
     rw [<-aC] at aj bD ⊢
     generalize hta:t.len=ta at *
     generalize htb:t.dist=tb at *
     generalize htd:t.lit=td at *
     have bz:=hid bw
     have bN:=hid (And.intro ht hta)
     have aY:=hid hF
     have af:=Blk.new wr 201 #[.int .i64 ta,.int .i64 tb,.int .i64 td]
     have ao:=aj.same ((zR [] wr).alloc (.cells #[.int .i64 ta,.int .i64 tb,.int .i64 td] 201))
     clear bw bA bx ht aC hta htb htd hF aj
     go_wp2_with (at_builtin;refine b0z rfl rfl c8q rfl (by decide) rfl ao [.int .i64 ta,.int .i64 tb,.int .i64 td] rfl rfl ?c1 ?c2 ?c3 ?c4 ?_)
     case c1 =>
      intro q u hq
      match q,hq with
      | 0,hq=>rw [<-hq];exact af.cell 0
      | 1,hq=>rw [<-hq];exact af.cell 1
      | 2,hq=>rw [<-hq];exact af.cell 2
      | q+3,hq=>simp at hq
     case c2=>intro u hu;simp at hu;rcases hu with rfl | rfl | rfl<;>rfl
     case c3=>omega
     case c4=>omega
     intro g' bU w3 al ag
     have ar:d7z w3 (w.heap.size+1+1) S.first:=Blk.chg (Blk.alloc ax _) ag.chg (fun hm=>by have:=aY.out _ hm;omega)
     have aE:Chg [] w w3:=(ab.alloc _).trans ag.chg (fun x hx => .inr (by have:=aY.out _ hx;omega))
     have bE:∀ x∈[g'],w.heap.size+1+1<x:=fun x hx=>by
      rcases ag.new x hx with h | h
      ·exact aY.out _ h
      ·have h7:=Blk.lt ax
       have h8:(wr.alloc (.cells #[.int .i64 ta,.int .i64 tb,.int .i64 td] 201)).heap.size=wr.heap.size+1:=by simp
       omega
     obtain ⟨d1,d2,d3⟩:=ar.cell (i:=i) (by rw [a7.out];exact hin)
     have HD:=hid bD
     obtain ⟨bF,aQ⟩:a4s S.first i=t/\t.len=ta:=bN.out
     rw [bF,aQ] at d1
     clear d2 d3 ax ab af ao ag c1 c2 c3 bF aQ
     have bk:=hid bE
     have bu:=hid ar
     have bm:=hid aE
     have bI:=hid al
     clear bE ar aE al
     rcases bZ with ⟨a0,bS⟩ | ⟨a0,bS⟩
     ·rw [a0] at az
      have tm:decide ((ta:Int)<1)=false:=zA (by omega)
      have b3:(1:Int)<=(ta:Int):=by omega
      go_wp2_with fail
      go_roundg j
      case measure=>omega
      case rel =>
       refine ⟨i+ta,done++[t],[g'],by go_num,hid (by rw [az.out,zH];rfl),by omega,by omega,?_,bk.out,bu.out,bm.out⟩
       have h9:=bI.out
       rw [aA.out,show done.length+1=(done++[t]).length by simp] at h9
       rw [bH.out,bz.out,aA.out,show done.length+1=(done++[t]).length by simp]
       exact h9
     ·rw [a0] at az
      have tm:decide ((ta:Int)<1)=true:=zB (by omega)
      have b3:(ta:Int)<1:=by omega
      go_wp2_with fail
      go_roundg j
      case measure=>omega
      case rel =>
       refine ⟨i+1,done++[t],[g'],by go_num,hid (by rw [az.out,zH];rfl),by omega,by omega,?_,bk.out,bu.out,bm.out⟩
       have h9:=bI.out
       rw [aA.out,show done.length+1=(done++[t]).length by simp] at h9
       rw [bH.out,bz.out,aA.out,show done.length+1=(done++[t]).length by simp]
       exact h9
    ·have t5:decide ((i:Int)<(n:Int))=false:=zA (by omega)
     have aT:a9e S.first n gk i=[]:=by
      cases gk with
      | zero=>rfl
      | succ f=>rw [a9e,if_neg hin]
     go_wp2_with fail
     go_ret
     have hT:T=done:=by rw [az.out,aT,List.append_nil]
     rw [hT]
     refine ⟨A',cap',rfl,bY,ab,fun ad e => ?_⟩
     obtain ⟨g,rfl,b5,_⟩:=bV ad e
     have:=hF g (by rw [b5];simp)
     show w.heap.size<=g
     omega
  ·obtain rfl:a=(k:Int):=by omega
   clear ha
   have hk:k<n:=by omega
   have aB:=aJ.out
   have bl:=hc.same ab
   have a5:k<l.length:=by rw [<-HN.out];exact hk
   obtain ⟨g,o,rfl,ca,_⟩:=hc.ex (by omega)
   obtain ⟨g',o',e',cl⟩:=bl.at_ a5
   injection e' with e'
   injection e' with e2 e3 _
   subst e2
   subst e3
   have n1:¬ g=w.heap.size+1:=by omega
   have n2:¬ g=w.heap.size+1+1:=by omega
   have n3:¬ w.heap.size+1=g:=by omega
   have n4:¬ w.heap.size+1+1=g:=by omega
   have gl:l[k]=l.getD k 0:=by rw [zD,zF a5];rfl
   rw [gl] at cl
   have bM:wr.cell? ⟨g,o+k,none⟩=some (.int .i64 (l.getD k 0)):=cl
   have bn:lGo l lit cp (k+1) s=lGo l lit cp k (d0w l lit cp k s):=rfl
   rw [bn] at HG
   have bh:=bT.out k s aB hk
   have c1:=aa.vc.cell (i:=k+1) (by rw [aB.pair.cl];omega)
   have cm:s.costs.getD (k+1) 0<=4294967296:=by
    have h4:=b6x aB.pair.cb (k+1)
    have h5:(n-(k+1))*lit<=4096*1048576:=zL (by omega) h1
    simp only at h4
    omega
   have f1:=Blk.frozen aa.vc k
   have f2:=Blk.frozen aa.vf (k*3)
   have f3:=Blk.frozen aa.vf (k*3+1)
   have f4:=Blk.frozen aa.vf (k*3+2)
   obtain ⟨c2,c3,c4⟩:=aa.vf.cell (i:=k) (by rw [aB.pair.fl];exact hk)
   have c0:=aa.vc.cell (i:=k) (by rw [aB.pair.cl];omega)
   have bs:d6m l lit k s=(s.costs.set k (s.costs.getD (k+1) 0+lit),s.first.set k ⟨0,0,l.getD k 0⟩):=rfl
   have aD:Vec (wr.setCell ⟨w.heap.size+1,k,none⟩ (.int .i64 ((s.costs.getD (k+1) 0+lit:Nat):Int))) (w.heap.size+1) 3 (s.costs.set k (s.costs.getD (k+1) 0+lit)):=aa.vc.set_ k _
   generalize aN:s.costs.getD (k+1) 0=sc at *
   generalize hlk:l.getD k 0=lk at *
   have b7:=hid aN
   have b9:=hid hlk
   have bR:=hid bh
   have bL:=hid bs
   have bX:=hid aD
   have bj:=hid aa
   clear cl gl bn bl a5 aB aN hlk bh bs aD aa
   go_wp2_with fail
   have hx:f3e ((((wr.setCell ⟨w.heap.size+1,k,none⟩ (.int .i64 ((sc:Int)+(lit:Int)))).setCell ⟨w.heap.size+1+1,k*3,none⟩ (.int .i64 0)).setCell ⟨w.heap.size+1+1,k*3+1,none⟩ (.int .i64 0)).setCell ⟨w.heap.size+1+1,k*3+2,none⟩ (.int .i64 lk)) w.heap.size ⟨(d6m l lit k s).1,(d6m l lit k s).2,s.runs⟩:=by
    have bC:=bX.out
    rw [Int.natCast_add] at bC
    rw [bL.out]
    exact ⟨Blk.far (Blk.far (Blk.far (Blk.far bj.out.vr (by simp) _) (by first | (simp;done) | (simp;omega)) _) (by first | (simp;done) | (simp;omega)) _) (by first | (simp;done) | (simp;omega)) _,
     Blk.far (Blk.far (Blk.far bC (by simp) _) (by simp) _) (by simp) _,
     d7z.set_ (Blk.far bj.out.vf (by simp) _) k ⟨0,0,lk⟩⟩
   have be:Chg [] w ((((wr.setCell ⟨w.heap.size+1,k,none⟩ (.int .i64 ((sc:Int)+(lit:Int)))).setCell ⟨w.heap.size+1+1,k*3,none⟩ (.int .i64 0)).setCell ⟨w.heap.size+1+1,k*3+1,none⟩ (.int .i64 0)).setCell ⟨w.heap.size+1+1,k*3+2,none⟩ (.int .i64 lk)):=(((ab.setCell (.inr (by first | (simp;done) | (simp;omega))) _).setCell (.inr (by first | (simp;done) | (simp;omega))) _).setCell (.inr (by first | (simp;done) | (simp;omega))) _).setCell (.inr (by first | (simp;done) | (simp;omega))) _
   have ba:b7u s.runs:=⟨aJ.out.rl,fun x hx=>(aJ.out.rb x hx).1⟩
   refine (b4.out k w.heap.size s.runs _ hk (hc.same be) hx.vr ba (fun _ ad e hm=>by injection e with e;subst e;simp at hm;omega)).mono ?_
   rintro e w2 ⟨rfl,aw,aV⟩
   have aO:=hx.vc.chg aV (by simp)
   have aM:d7z w2 (w.heap.size+1+1) (d6m l lit k s).2:=Blk.chg hx.vf aV (by simp;omega)
   have aL:Chg [] w w2:=be.trans aV (fun x hx=>by simp at hx;omega)
   have bc:=c6t (l:=l) (at_:=k) ba
   have a4:=c6s (l:=l) (at_:=k) (rs:=s.runs) (B:=n-(k+1)) (fun x hx=>(aJ.out.rb x hx).2)
   have ay:d0w l lit cp k s=⟨(b7b cp k (b5f l k s.runs).dists 65 0 (d6m l lit k s)).1,(b7b cp k (b5f l k s.runs).dists 65 0 (d6m l lit k s)).2,(b5f l k s.runs).runs⟩:=rfl
   have bB:=bW.out k s aJ.out hk
   generalize (b5f l k s.runs)=DS at *
   obtain ⟨R,D,Lg⟩:=DS
   have aF:D.length=65:=bc.dl
   have bg:∀ x∈D,x<=1024:=bc.d1024
   have bi:∀ m,D.getD m 0≠0->k+m<=n:=fun m hm=>by
    have h5:=a4.db m hm
    have h6:=a4.lb
    simp only at h5 h6
    omega
   simp only at aw
   have aZ:=hid ay
   have bJ:=hid bB
   have aX:=hid aF
   have bG:=hid bg
   have aA:=hid bi
   clear ay bB aF bg bi bc a4 hx be ba aV f1 f2 f3 f4 c0 c1 c2 c3 c4 bM ab
   go_wp2_with fail
   go_loopg [65] 65 (fun j iv wr=>∃ (m:Nat) (p:List Nat × List Tok),iv=.int .i64 m/\m+j=65/\Hid (b7b cp k D 65 0 (d6m l lit k s)=b7b cp k D j m p)/\Hid (b9s n ((n-k)*lit) p)/\Vec wr w.heap.size 203 R/\Vec wr (w.heap.size+1) 3 p.1/\d7z wr (w.heap.size+1+1) p.2/\Chg [] w wr)
   case atStart=>exact ⟨0,d6m l lit k s,rfl,rfl,hid rfl,bR,aw,aO,aM,aL⟩
   case round =>
    obtain ⟨m,p,rfl,cc,HP,an,a6,aq,av,aG⟩:=hrel
    clear aw aO aM aL
    rcases gk with _ | j
    ·obtain rfl:m=65:=by omega
     have hP:b7b cp k D 65 0 (d6m l lit k s)=p:=HP.out
     go_wp2_with fail
     go_roundg k
     case measure=>omega
     case rel =>
      refine ⟨d0w l lit cp k s,_,rfl,by omega,by omega,HG,bJ,?_,aG⟩
      rw [aZ.out,hP]
      exact ⟨a6,aq,av⟩
    ·have bb:m<65:=by omega
     have ty:decide ((m:Int)<65)=true:=zB (by omega)
     have ci:=f4w D aX.out m bb
     have cg:=b6x bG.out m
     have aC:=aA.out m
     have aH:b7b cp k D (j+1) m p=b7b cp k D j (m+1) (d9f cp k D m p):=rfl
     have am:d9f cp k D m p=if m<3\/D.getD m 0=0 then p else if p.1.getD (k+m) 0+cp<=p.1.getD k 0 then (p.1.set k (p.1.getD (k+m) 0+cp),p.2.set k ⟨m,D.getD m 0,0⟩) else p:=rfl
     have aK:=e3c (cp:=cp) (at_:=k) (m:=m) an.out (by omega) bG.out
     rw [aH] at HP
     have bf:k+m<=n->(p.1.getD (k+m) 0<=4294967296/\wr.cell? ⟨w.heap.size+1,k+m,none⟩=some (.int .i64 ((p.1.getD (k+m) 0:Nat):Int))):=fun h=>⟨by
      have h4:=b6x an.out.cb (k+m)
      have h5:(n-k)*lit<=4096*1048576:=zL (by omega) h1
      omega,aq.cell (by rw [an.out.cl];omega)⟩
     have c0:=aq.cell (i:=k) (by rw [an.out.cl];omega)
     have f1:=Blk.frozen aq k
     have f2:=Blk.frozen av (k*3)
     have f3:=Blk.frozen av (k*3+1)
     have f4:=Blk.frozen av (k*3+2)
     obtain ⟨c2,c3,c4⟩:=av.cell (i:=k) (by rw [an.out.fl];exact hk)
     have ak:=fun v=>aq.set_ k v
     generalize hx1:p.1.getD (k+m) 0=ckm at *
     generalize hx2:p.1.getD k 0=ck at *
     generalize hx3:D.getD m 0=dm at *
     have HX:=hid (And.intro hx1 (And.intro hx2 hx3))
     have bd:=hid ak
     have a9:=hid aK
     have ah:=hid am
     have bK:=hid bf
     have HV:=hid (And.intro a6 (And.intro aq av))
     have aR:=hid aC
     clear hx1 hx2 hx3 ak aH aK am bf a6 aq av aC
     by_cases q1:m<3
     ·have s1:decide ((m:Int)<3)=true:=zB (by omega)
      go_wp2_with fail
      go_roundg j
      case measure=>omega
      case rel =>
       have e:d9f cp k D m p=p:=by rw [ah.out,if_pos (.inl q1)]
       rw [e] at HP
       obtain ⟨a1,a2,a3⟩:=HV.out
       exact ⟨m+1,p,by go_num,by omega,HP,an,a1,a2,a3,aG⟩
     ·have s1:decide ((m:Int)<3)=false:=zA (by omega)
      by_cases q2:dm=0
      ·have s2:((dm:Int)==0)=true:=by simp [q2]
       have bQ:=hid q2
       clear q2
       go_wp2_with fail
       go_roundg j
       case measure=>omega
       case rel =>
        have e:d9f cp k D m p=p:=by rw [ah.out,if_pos (.inr bQ.out)]
        rw [e] at HP
        obtain ⟨a1,a2,a3⟩:=HV.out
        exact ⟨m+1,p,by go_num,by omega,HP,an,a1,a2,a3,aG⟩
      ·have s2:((dm:Int)==0)=false:=by simpa using q2
       obtain ⟨b1,b2⟩:=bK.out (aR.out q2)
       have cd:k+m<=n:=aR.out q2
       by_cases q3:ckm+cp<=ck
       ·have s3:decide ((ckm:Int)+(cp:Int)<=(ck:Int))=true:=zB (by omega)
        go_wp2_with fail
        go_roundg j
        case measure=>omega
        case rel =>
         have e:d9f cp k D m p=(p.1.set k (ckm+cp),p.2.set k ⟨m,dm,0⟩):=by rw [ah.out,if_neg (by omega),if_pos q3]
         have aP:=a9.out
         rw [e] at HP aP
         obtain ⟨a1,a2,a3⟩:=HV.out
         have aN:=bd.out (ckm+cp)
         rw [Int.natCast_add] at aN
         refine ⟨m+1,_,by go_num,by omega,HP,hid aP,?_,?_,?_,?_⟩
         ·exact Blk.far (Blk.far (Blk.far (Blk.far a1 (by first | (simp;done) | (simp;omega)) _) (by first | (simp;done) | (simp;omega)) _) (by first | (simp;done) | (simp;omega)) _) (by first | (simp;done) | (simp;omega)) _
         ·exact Blk.far (Blk.far (Blk.far aN (by simp) _) (by simp) _) (by simp) _
         ·exact d7z.set_ (Blk.far a3 (by simp) _) k ⟨m,dm,0⟩
         ·exact (((aG.setCell (.inr (by first | (simp;done) | (simp;omega))) _).setCell (.inr (by first | (simp;done) | (simp;omega))) _).setCell (.inr (by first | (simp;done) | (simp;omega))) _).setCell (.inr (by first | (simp;done) | (simp;omega))) _
       ·have s3:decide ((ckm:Int)+(cp:Int)<=(ck:Int))=false:=zA (by omega)
        go_wp2_with fail
        go_roundg j
        case measure=>omega
        case rel =>
         have e:d9f cp k D m p=p:=by rw [ah.out,if_neg (by omega),if_neg q3]
         rw [e] at HP
         obtain ⟨a1,a2,a3⟩:=HV.out
         exact ⟨m+1,p,by go_num,by omega,HP,an,a1,a2,a3,aG⟩
theorem a0d.one {α:Type} {f:α->Value} {w:World} {A:Option Addr} {l:List α} (h:a0d f w A l) {m:Nat} {x:α} (hm:l[m]?=some x) :
  ∃ g o,A=some ⟨g,o,none⟩/\a0d f w (some ⟨g,o+m,none⟩) [x]:=by
 have hl:=(List.getElem?_eq_some_iff.1 hm).1
 obtain ⟨g,o,e,hg,hc⟩:=h.ex (by omega)
 refine ⟨g,o,e,⟨fun _=>⟨g,o+m,rfl,hg,fun i a ha => ?_⟩⟩⟩
 match i,ha with
 | 0,ha=>simp at ha;subst ha;exact hc m _ hm
 | i+1,ha=>simp at ha
theorem e8v (w:World) (b:Nat) (F bs:List Nat) (T:List Tok) (A:Option Addr) (cap W d:Nat) (h:a2n w b F bs) (hp:Pts w) (h0F:0∉F) (hw0:1<=W) (hw1:W<=64) (h0:1<=d) (h1:d<=16) (hT:T.length<=4096) (hok:∀ t∈T,c3j d t)
  (hc:d8b w A T) (hA:∀ ad,A=some ad->ad.block∉F) (hbs:bs.length<137438953472) :
  Calls Tryz.prog 117 #[.pointer (some ⟨b,0,none⟩),.slice A T.length cap,.int .i64 W,.int .i64 d] w fun e w'=>e=.returned (.int .i64 0)/\∃ F',a2n w' b F' (bs++a3h T W d)/\a0u F F' w w':=by
 have aR:=fun w h=>f3t T A cap w (by omega) (fun t ht=>(hok t ht).ok) h
 have aS:a3h T W d=a0b (a6u (a0h T)) 5++a0b (a6u (a0l W T)) 5++T.flatMap (a2v (a6u (a0h T)) (a6u (a0l W T)) W d):=rfl
 have cy:=c6n hok
 have cj:=c3o (W:=W) hok
 obtain ⟨c6,cX⟩:=a9c h0 h1
 obtain ⟨n,hn⟩:=zX (T.length)
 rw [<-hn] at aR hT ⊢
 have t1:decide ((W:Int)<1)=false:=zA (by omega)
 have t2:decide ((64:Int)<(W:Int))=false:=zA (by omega)
 have t3:decide ((d:Int)<1)=false:=zA (by omega)
 have t4:decide ((16:Int)<(d:Int))=false:=zA (by omega)
 have cD:=hid aS
 have cC:=hid cy
 have cS:=hid cj
 have HN:=hid hn
 have cc:=hid hok
 have HA:=hid hA
 have cg:Hid (∀ x∈F,x<w.heap.size):=hid h.lt
 clear aS cy cj hn hok hA
 go_enter Tryz.func117,Tryz.ntmps117
 go_wp2_with fail
 refine (aR _ hc).mono ?_
 rintro e w1 ⟨rfl,af⟩
 go_wp2_with fail
 go_loopg [9,10,39] n (fun j v9 v10 iv wr=>∃ (i:Nat) (F9 F10:List Nat),iv=.int .i64 i/\i+j=n/\Own wr 3 v9 F9 ((a0h (T.take i)).map vi)/\Own wr 3 v10 F10 ((a0l W (T.take i)).map vi) /\
   (∀ x∈F9,w.heap.size<=x/\x∉F10)/\(∀ x∈F10,w.heap.size<=x)/\Chg [] w wr)
 case atStart=>exact ⟨0,[],[],rfl,by omega,Own.nil _ _,Own.nil _ _,by simp,by simp,af⟩
 case round =>
  clear af aR
  obtain ⟨i,F9,F10,rfl,cV,aE,ah,bc,aC,aJ⟩:=hrel
  rcases gk with _ | j
  ·obtain rfl:i=n:=by omega
   have b9:T.take i=T:=by rw [HN.out,zN]
   rw [b9] at aE ah
   have a1:=b8a T
   rw [<-HN.out] at a1
   have aL:=b0i W T
   obtain ⟨A9,b3,rfl,bS,cA,bH⟩:=aE.oq
   obtain ⟨bE,aU,rfl,bf,ct,aN⟩:=ah.oq
   have bq:Apt A9 (a0h T) F:=aE.apt (fun x hx hm=>by have:=cg.out x hm;have:=(bc x hx).1;omega)
   have aM:Apt bE (a0l W T) F:=ah.apt (fun x hx hm=>by have:=cg.out x hm;have:=aC x hx;omega)
   have bv:=c8b (a0h T) A9 b3 wr cC.out bH (by omega)
   have aG:=c8b (a0l W T) bE aU wr cS.out aN (by omega)
   have hk:=a8p (a0h T)
   have bK:=a8p (a0l W T)
   obtain ⟨kk,cr⟩:=zX (a6u (a0h T))
   obtain ⟨jk,b7⟩:=zX (a6u (a0l W T))
   have aS:=cD.out
   rw [<-cr] at bv hk aS
   rw [<-b7] at aG bK aS
   obtain ⟨n9,bR⟩:=zX ((a0h T).length)
   rw [<-bR] at aL bS bv a1 ⊢
   rw [aL] at aG bf ⊢
   have aF:=h.same aJ
   have a9:d8b wr A T:=hc.same aJ
   have bY:=hid aS
   have cB:=hid aL
   have ci:=hid bR
   clear aS aL bR cr b7 b9 aE ah bc aC h hp hc
   go_wp2_with fail
   refine bv.mono ?_
   rintro e w' ⟨rfl,rfl⟩
   go_wp2_with fail
   refine aG.mono ?_
   rintro e w' ⟨rfl,rfl⟩
   go_wp2_with fail
   refine (a0t _ b F bs kk 5 aF (by omega) (by omega) (by omega)).mono ?_
   rintro e w2 ⟨rfl,F2,bg,bm⟩
   go_wp2_with fail
   refine (a0t _ b F2 _ jk 5 bg (by omega) (by omega) (by rw [zC,a0a];omega)).mono ?_
   rintro e w3 ⟨rfl,F3,bb,ba⟩
   have ao:=bm.trans ba
   clear bv aG aF bg bm ba
   have bo:∀ x:Int,0<=x->x<2^d->x.toNat<2^d:=fun x a b=>by
    have e:((x.toNat:Nat):Int)=x:=Int.toNat_of_nonneg a
    have e2:((2^d:Nat):Int)=(2:Int)^d:=by simp
    omega
   have cF:=hid bo
   clear bo
   go_wp2_with fail
   go_loopg [15,88] i (fun j cv iv wr2=>∃ (q:Nat) (F' a3:List Nat),cv=.int .i64 ((a0h (T.take q)).length:Nat)/\iv=.int .i64 q/\q+j=i/\a2n wr2 b F' a3/\Hid (a3=bs++a0b kk 5++a0b jk 5++(T.take q).flatMap (a2v kk jk W d))/\a3.length<=bs.length+10+131*q/\a0u F F' wr wr2)
   case atStart=>exact ⟨0,F3,_,rfl,rfl,by omega,bb,hid (by simp),by rw [zC,zC,a0a,a0a];omega,ao⟩
   case round =>
    clear bb ao
    obtain ⟨q,F',a3,rfl,rfl,cZ,aF,Hb,c7,ao⟩:=hrel
    rcases gk with _ | j
    ·obtain rfl:q=i:=by omega
     go_wp2_with fail
     go_ret
     refine ⟨rfl,F',?_,a0u.pre aJ ao⟩
     have e:T.take q=T:=by rw [HN.out,zN]
     have h5:=Hb.out
     rw [e,zH,zH] at h5
     rw [bY.out,zH,<-h5]
     exact aF
    ·have bO:q<i:=by omega
     have aP:q<T.length:=by rw [<-HN.out];exact bO
     have br:=cc.out T[q] (zG aP)
     obtain ⟨t,ht⟩:=zX (T[q])
     have ai:T[q]?=some t:=by rw [ht];exact zF aP
     rw [<-ht] at br
     have aZ:d8b _ A T:=a0d.keep a9 (fun _ ad e=>HA.out ad e) ao.chg
     have aX:=bH.keep bq ao.chg
     have aw:=aN.keep aM ao.chg
     have av:=bq.grow bH ao
     have am:=aM.grow aN ao
     obtain ⟨g,o,rfl,c1,c2,c3⟩:=aZ.at_ ai
     have ab:T.take (q+1)=T.take q++[t]:=by rw [ht];exact a0o T aP
     have an:=b5b (T.take q) t
     rw [<-ab] at an
     have bx:(T.take (q+1)).flatMap (a2v kk jk W d)=(T.take q).flatMap (a2v kk jk W d)++a2v kk jk W d t:=by rw [ab];simp
     have aa:=fun w=>b9j t w
     have aQ:e1a t=.agg #[.int .i64 t.len,.int .i64 t.dist,.int .i64 t.lit]:=rfl
     rw [aQ] at aa
     rcases br with ⟨ak,az,bQ⟩ | ⟨ak,az⟩
     ·have ag:a0h (T.take (q+1))=a0h (T.take q):=by rw [an,ak];simp
      have a2:a2v kk jk W d t=a0b 0 1++a0b t.lit.toNat d:=by unfold a2v;rw [if_pos ak]
      have bC:=cF.out t.lit az bQ
      rw [ak] at aa
      have bX:t.lit=((t.lit.toNat:Nat):Int):=(Int.toNat_of_nonneg az).symm
      obtain ⟨ln,ce⟩:=zX (t.lit.toNat)
      rw [<-ce] at a2 bC bX
      rw [bX] at aa c3
      have cK:ln<65536:=Nat.lt_of_lt_of_le bC (by have:=Nat.pow_le_pow_right (n:=2) (by decide) h1;exact this)
      have hb:=Blk.new wr 201 #[.int .i64 t.len,.int .i64 t.dist,.int .i64 ln]
      have af:=(zR [] wr).alloc (.cells #[.int .i64 t.len,.int .i64 t.dist,.int .i64 ln] 201)
      have aW:=hid (And.intro ag (And.intro a2 bx))
      clear an ag a2 bx ab bX ce aQ ai ht ak az bQ aZ aX aw av am
      generalize t.len=ta at *
      generalize t.dist=tb at *
      have cE:=hid bC
      clear bC
      have bz:wr.heap.size∉F':=fun hm=>by have:=aF.lt _ hm;omega
      go_wp2_with fail
      refine (aa _).mono ?_
      rintro e w4 ⟨rfl,ae⟩
      have cb:=hb.chg ae (by simp)
      have ay:=aF.same (af.tq ae)
      have aY:=ao.same (af.tq ae)
      clear hb aF ao aa af ae c1 c2 c3
      go_wp2_with fail
      refine (a0t _ b F' a3 0 1 ay (by omega) (by omega) (by omega)).mono ?_
      rintro e w5 ⟨rfl,F5,aB,aj⟩
      have b5:=cb.chg aj.chg bz
      have b2:=b5.cell 2
      simp only [List.size_toArray,zK,List.length_nil,List.getElem?_toArray,List.getElem?_cons_zero,List.getElem?_cons_succ] at b2
      clear cb b5 ay bz
      go_wp2_with fail
      refine (a0t _ b F5 _ ln d aB (by omega) cE.out (by rw [zC,a0a];omega)).mono ?_
      rintro e w6 ⟨rfl,F6,aq,aD⟩
      clear aB b2
      go_wp2_with fail
      go_roundg j
      case measure=>omega
      case rel =>
       refine ⟨q+1,F6,_,?_,by go_num,by omega,aq,hid ?_,?_,(aY.trans aj).trans aD⟩
       ·rw [aW.out.1]
       ·rw [aW.out.2.2,aW.out.2.1,Hb.out];simp only [zH]
       ·rw [zC,zC,a0a,a0a];omega
     ·have au:(a0h (T.take (q+1))).length=(a0h (T.take q)).length+1:=by rw [an,ak];simp
      have a2:a2v kk jk W d t=a0b 1 1++a4d kk (lenOf t)++a4d jk (a7c W t):=by unfold a2v;rw [ak];rfl
      have bu:=d3a T ai ak
      have aO:=c9w W T ai ak
      have cO:=c5i az
      have bV:=c0k W az
      have bM:(a0h (T.take q)).length<n9:=by rw [ci.out];exact (List.getElem?_eq_some_iff.1 bu).1
      obtain ⟨c,cm⟩:=zX ((a0h (T.take q)).length)
      rw [<-cm] at bu aO bM au ⊢
      obtain ⟨g9,o9,rfl,aK⟩:=aX.one bu
      obtain ⟨cz,cT,rfl,aA⟩:=aw.one aO
      rw [ak] at aa
      have hb:=Blk.new wr 201 #[.int .i64 t.len,.int .i64 t.dist,.int .i64 t.lit]
      have af:=(zR [] wr).alloc (.cells #[.int .i64 t.len,.int .i64 t.dist,.int .i64 t.lit] 201)
      have bJ:Apt (some ⟨g9,o9+c,none⟩) [lenOf t] F':=av.to (by simp;have:=ci.out;omega) (fun ad e=>⟨_,rfl,by injection e with e;rw [<-e]⟩)
      have aV:Apt (some ⟨cz,cT+c,none⟩) [a7c W t] F':=am.to (by simp;have:=cB.out;omega) (fun ad e=>⟨_,rfl,by injection e with e;rw [<-e]⟩)
      have aW:=hid (And.intro au (And.intro a2 bx))
      clear an au a2 bx ab aQ ai ht ak az aZ aX aw av am bu aO cm
      generalize lenOf t=lo at *
      generalize a7c W t=co at *
      generalize t.len=ta at *
      generalize t.dist=tb at *
      generalize t.lit=tc at *
      go_wp2_with fail
      refine (aa _).mono ?_
      rintro e w4 ⟨rfl,ae⟩
      have ay:=aF.same (af.tq ae)
      have aY:=ao.same (af.tq ae)
      have q9:=aK.same (af.tq ae)
      have bT:=aA.same (af.tq ae)
      clear hb aF ao aa af ae c1 c2 c3 aK aA
      go_wp2_with fail
      refine (a0t _ b F' a3 1 1 ay (by omega) (by omega) (by omega)).mono ?_
      rintro e w5 ⟨rfl,F5,aB,aj⟩
      have r9:=q9.keep bJ aj.chg
      have bI:=bT.keep aV aj.chg
      have bp:=bJ.grow q9 aj
      have ar:=aV.grow bT aj
      go_wp2_with fail
      have bD:∀ x∈[lo],a2e x:=fun x hx=>by rw [zU.1 hx];exact cO
      have bN:∀ x∈[co],a2e x:=fun x hx=>by rw [zU.1 hx];exact bV
      refine (c8i _ b F5 _ kk [lo] _ (b3-c) aB hk bD r9 bp (by rw [zC,a0a];simp;omega)).mono ?_
      rintro e w6 ⟨rfl,F6,aq,aD⟩
      have cf:=bI.keep ar aD.chg
      have ax:=ar.grow bI aD
      have cx:a0r kk [lo]=a4d kk lo:=by simp [a0r]
      have cp:a0r jk [co]=a4d jk co:=by simp [a0r]
      have cU:=a5x kk lo
      have cR:=a5x jk co
      have c0:=a6j kk lo hk
      have cN:=a6j jk co bK
      rw [cx] at aq
      clear aB r9 bI bp ar ay q9 bT bJ aV
      go_wp2_with fail
      refine (c8i _ b F6 _ jk [co] _ (aU-c) aq bK bN cf ax (by rw [zC,zC,a0a];simp;omega)).mono ?_
      rintro e w7 ⟨rfl,F7,bi,bZ⟩
      rw [cp] at bi
      clear aq cf ax cx cp
      go_wp2_with fail
      go_roundg j
      case measure=>omega
      case rel =>
       refine ⟨q+1,F7,_,?_,by go_num,by omega,bi,hid ?_,?_,((aY.trans aj).trans aD).trans bZ⟩
       ·rw [aW.out.1];go_num
       ·rw [aW.out.2.2,aW.out.2.1,Hb.out];simp only [zH]
       ·rw [zC,zC,zC,a0a];omega
  ·have bO:i<n:=by omega
   have aP:i<T.length:=by rw [<-HN.out];exact bO
   have br:=cc.out T[i] (zG aP)
   obtain ⟨t,ht⟩:=zX (T[i])
   have ai:T[i]?=some t:=by rw [ht];exact zF aP
   rw [<-ht] at br
   have a9:=hc.same aJ
   obtain ⟨g,o,rfl,c1,c2,c3⟩:=a9.at_ ai
   have ab:T.take (i+1)=T.take i++[t]:=by rw [ht];exact a0o T aP
   have an:=b5b (T.take i) t
   have al:=c3n W (T.take i) t
   rw [<-ab] at an al
   have aa:=fun w=>b9j t w
   have aQ:e1a t=.agg #[.int .i64 t.len,.int .i64 t.dist,.int .i64 t.lit]:=rfl
   rw [aQ] at aa
   have hb:=Blk.new wr 201 #[.int .i64 t.len,.int .i64 t.dist,.int .i64 t.lit]
   have af:=(zR [] wr).alloc (.cells #[.int .i64 t.len,.int .i64 t.dist,.int .i64 t.lit] 201)
   have a1:=b8a (T.take i)
   have aL:=b0i W (T.take i)
   rw [zI] at a1
   rcases br with ⟨ak,az,bQ⟩ | ⟨ak,az⟩
   ·rw [ak] at aa an al
    have ag:a0h (T.take (i+1))=a0h (T.take i):=by rw [an];simp
    have ac:a0l W (T.take (i+1))=a0l W (T.take i):=by rw [al];simp
    have HS:=hid (And.intro ag ac)
    generalize t.len=ta at *
    generalize t.dist=tb at *
    generalize t.lit=tc at *
    have t5:decide (tc<0)=false:=zA (by omega)
    have t6:decide ((2:Int)^d<=tc)=false:=zA (by omega)
    clear an al ag ac ab ai ht aQ a1 aL ak
    go_wp2_with fail
    refine (aa _).mono ?_
    rintro e w2 ⟨rfl,ae⟩
    have aI:=hb.chg ae (by simp)
    have b2:=aI.cell 2
    simp only [List.size_toArray,zK,List.length_nil,List.getElem?_toArray,List.getElem?_cons_zero,List.getElem?_cons_succ] at b2
    have bw:=aJ.tq (af.tq ae)
    have k9:=aE.same (af.tq ae)
    have bh:=ah.same (af.tq ae)
    clear hb aI af ae aJ a9 c1 c2 c3 aE ah
    go_wp2_with fail
    go_quiet (fail)
    go_wp2_with fail
    go_roundg j
    case measure=>omega
    case rel =>
     refine ⟨i+1,F9,F10,by go_num,by omega,?_,?_,bc,aC,bw.drewN nq⟩
     ·rw [HS.out.1];exact k9.drewN nq
     ·rw [HS.out.2];exact bh.drewN nq
   ·rw [ak] at aa an al
    have ag:(a0h (T.take (i+1))).map vi=(a0h (T.take i)).map vi++[.int .i64 (lenOf t)]:=by rw [an];simp [vi]
    have ac:(a0l W (T.take (i+1))).map vi=(a0l W (T.take i)).map vi++[.int .i64 (a7c W t)]:=by rw [al];simp [vi]
    have cM:=Tok.isCopy_iff.1 az
    obtain ⟨p1,p2,p3,p4,p5⟩:=cM
    have b6:=(c6l (d:=t.dist) (W:=W) p3).1
    have b4:=fun w (hp:Pts w)=>e8p t.dist W w hp p3 p4 hw0 hw1
    have be:=fun w=>b2j (t.len-3) w (by omega)
    have ap:=fun w=>b2j (b4z t.dist W-1) w (by omega)
    have e1:a1l (t.len-3)=lenOf t:=rfl
    have e2:a1l (b4z t.dist W-1)=a7c W t:=rfl
    rw [e1] at be
    rw [e2] at ap
    clear e1 e2
    obtain ⟨lo,cl⟩:=zX (lenOf t)
    obtain ⟨co,cd⟩:=zX (a7c W t)
    rw [<-cl] at be ag
    rw [<-cd] at ap ac
    obtain ⟨cn,bn⟩:=zX (b4z t.dist W)
    rw [<-bn] at ap b6 b4
    obtain ⟨cq,aZ⟩:=zX (cn-1)
    rw [<-aZ] at ap
    obtain ⟨lq,ch⟩:=zX (t.len-3)
    rw [<-ch] at be
    have e3:(t.len:Int)-3=(lq:Int):=by omega
    have e4:(cn:Int)-1=(cq:Int):=by omega
    have cN:cq<=1100:=by omega
    have cR:lq<=64:=by omega
    have a4:((a0l W (T.take i)).map vi).length=((a0h (T.take i)).map vi).length:=by rw [zE,zE,aL]
    have ca:((a0h (T.take i)).map vi).length<=4096:=by rw [zE];omega
    obtain ⟨L9,cs⟩:=zX ((a0h (T.take i)).map vi)
    obtain ⟨cY,bl⟩:=zX ((a0l W (T.take i)).map vi)
    rw [<-cs] at aE ag a4 ca
    rw [<-bl] at ah ac a4
    clear cs bl
    obtain ⟨M9,bB⟩:=zX (L9.length)
    rw [<-bB] at a4 ca
    have HS:=hid (And.intro ag ac)
    clear cl cd bn aZ ch ag ac
    generalize t.len=ta at *
    generalize t.dist=tb at *
    generalize t.lit=tc at *
    subst p5
    have cL:=hid b4
    have cP:=hid ap
    have HU:=hid be
    clear an al ab ai ht aQ a1 aL ak b6 b4 be ap az
    go_wp2_with fail
    refine (aa _).mono ?_
    rintro e w2 ⟨rfl,ae⟩
    have aI:=hb.chg ae (by simp)
    have b0:=aI.cell 0
    have b1:=aI.cell 1
    simp only [List.size_toArray,zK,List.length_nil,List.getElem?_toArray,List.getElem?_cons_zero,List.getElem?_cons_succ] at b0 b1
    have bw:=aJ.tq (af.tq ae)
    have k9:=aE.same (af.tq ae)
    have bh:=ah.same (af.tq ae)
    obtain ⟨A9,b3,cu,_⟩:=k9.open_
    obtain ⟨bE,aU,bd,_⟩:=bh.open_
    rw [<-bB] at cu
    rw [a4] at bd
    subst cu
    subst bd
    have bG:=hid bh
    have bF:=hid bB
    have aT:=hid a4
    have HO:=hid (And.intro bc aC)
    have cG:=hid (And.intro aE.lt ah.lt)
    clear hb af ae aJ a9 c1 c2 c3 aE ah aa bB a4 bc aC
    have c8:=k9.lt
    have bL:=bh.lt
    have c9:wr.heap.size<w2.heap.size:=aI.lt
    have bz:wr.heap.size∉F9:=fun hm=>by have:=cG.out.1 _ hm;omega
    go_wp2_with fail
    refine (HU.out _).mono ?_
    rintro e w' ⟨rfl,rfl⟩
    have ck:=k9.same ((zR [] w2).alloc (.cells #[.int .i64 lo] 3))
    have bj:=Blk.new w2 3 #[.int .i64 lo]
    go_wp2_with (at_builtin;refine a0f rfl rfl a0p rfl rfl ck (.int .i64 lo) rfl ?c1 ?c2 ?c3 ?c4 ?_)
    case c1=>exact bj.cell 0
    case c2=>rfl
    case c3=>rw [<-bF.out];omega
    case c4=>rw [<-bF.out];omega
    intro g1 cH w3 bA a0
    rw [<-bF.out] at bA ⊢
    have cw:=(aI.alloc (.cells #[.int .i64 lo] 3)).chg a0.chg bz
    have d1:=cw.cell 1
    simp only [List.size_toArray,zK,List.length_nil,List.getElem?_toArray,List.getElem?_cons_zero,List.getElem?_cons_succ] at d1
    have bU:Chg [] w w3:=(bw.alloc _).trans a0.chg (fun x hx => .inr (HO.out.1 x hx).1)
    have bk:=(bG.out.same ((zR [] w2).alloc (.cells #[.int .i64 lo] 3))).chg a0.chg (fun x hx hm=>(HO.out.1 x hm).2 hx)
    have cJ:=hp.same bU
    clear bj ck b0 b1 aI
    have cW:g1<w3.heap.size:=bA.lt
    go_wp2_with fail
    refine (cL.out _ cJ).mono ?_
    rintro e w4 ⟨rfl,n4,rfl⟩
    go_wp2_with fail
    refine (cP.out _).mono ?_
    rintro e w' ⟨rfl,rfl⟩
    have a8:=(bk.drewN n4).same ((zR [] (w3.drewN n4)).alloc (.cells #[.int .i64 co] 3))
    have bj:=Blk.new (w3.drewN n4) 3 #[.int .i64 co]
    go_wp2_with (at_builtin;refine a0f rfl rfl a0p rfl rfl a8 (.int .i64 co) rfl ?c1 ?c2 ?c3 ?c4 ?_)
    case c1=>exact bj.cell 0
    case c2=>rfl
    case c3=>rw [aT.out];omega
    case c4=>rw [aT.out];omega
    intro g2 cI w5 a5 aH
    rw [aT.out] at a5 ⊢
    have a6:g1∉F10:=fun hm=>by
     rcases a0.new g1 (by simp) with h5 | h5
     ·exact (HO.out.1 _ h5).2 hm
     ·have:=bL _ hm
      have h8:(w2.alloc (.cells #[.int .i64 lo] 3)).heap.size=w2.heap.size+1:=by simp
      omega
    have bW:=(bA.chg ((((zR F10 w3).drewN n4).alloc (.cells #[.int .i64 co] 3)).tq aH.chg) a6)
    have cQ:Chg [] w w5:=((bU.drewN n4).alloc (.cells #[.int .i64 co] 3)).trans aH.chg (fun x hx => .inr (HO.out.2 x hx))
    have c5:((w3.drewN n4).alloc (.cells #[.int .i64 co] 3)).heap.size=w3.heap.size+1:=by simp
    have bP:w.heap.size<=g1:=by
     rcases a0.new g1 (by simp) with h5 | h5
     ·exact (HO.out.1 _ h5).1
     ·have h8:(w2.alloc (.cells #[.int .i64 lo] 3)).heap.size=w2.heap.size+1:=by simp
      have:=bw.size
      omega
    have a7:w.heap.size<=g2/\g1≠g2:=by
     rcases aH.new g2 (by simp) with h5 | h5
     ·exact ⟨HO.out.2 _ h5,fun e=>a6 (e ▸ h5)⟩
     ·have:=bU.size
      exact ⟨by omega,by omega⟩
    clear cw bj a8 bA a0 aH bk d1
    go_wp2_with fail
    go_roundg j
    case measure=>omega
    case rel =>
     refine ⟨i+1,[g1],[g2],by go_num,by omega,?_,?_,?_,?_,cQ⟩
     ·rw [HS.out.1];exact bW.toOwn
     ·rw [HS.out.2];exact a5.toOwn
     ·intro x hx;rw [zU.1 hx];exact ⟨bP,by simp;exact a7.2⟩
     ·intro x hx;rw [zU.1 hx];exact a7.1
def a1v (l:List Int) (n:Nat):List Nat:=l.flatMap fun v=>a0b v.toNat n
theorem b4t (l:List Int) (n:Nat):(a1v l n).length=n*l.length:=by
 induction l with
 | nil=>simp [a1v]
 | cons x l ih =>
  have e:a1v (x::l) n=a0b x.toNat n++a1v l n:=rfl
  rw [e,zC,a0a,ih,zK,Nat.mul_add,Nat.mul_one,Nat.add_comm]
theorem c4q (l:List Int) (x:Int) (n:Nat):a1v (l++[x]) n=a1v l n++a0b x.toNat n:=by simp [a1v]
theorem c2i (w:World) (b:Nat) (F bs:List Nat) (l:List Int) (A:Option Addr) (cap n:Nat) (h:a2n w b F bs) (hn:n<=16) (hl:l.length<=4096) (hs:a1u n l) (hc:a0d vi w A l) (hA:Apt A l F) (hbs:bs.length<137438953472) :
  Calls Tryz.prog 114 #[.pointer (some ⟨b,0,none⟩),.slice A l.length cap,.int .i64 n] w fun e w'=>e=.returned (.tuple #[])/\∃ F',a2n w' b F' (bs++a1v l n)/\a0u F F' w w':=by
 obtain ⟨m,hm⟩:=zX (l.length)
 rw [<-hm] at hl ⊢
 have HN:=hid hm
 have HS:=hid hs
 clear hm hs
 go_enter Tryz.func114,Tryz.ntmps114
 go_wp2_with fail
 go_loopg [10] m (fun j iv wr=>∃ (i:Nat) (F' aa:List Nat),iv=.int .i64 i/\i+j=m/\a2n wr b F' aa/\Hid (aa=bs++a1v (l.take i) n)/\aa.length<=bs.length+16*i/\a0u F F' w wr)
 case atStart=>exact ⟨0,F,bs,rfl,by omega,h,hid (by simp [a1v]),by omega,a0u.refl _ _⟩
 case round =>
  obtain ⟨i,F',aa,rfl,ao,ai,Hb,an,ag⟩:=hrel
  rcases gk with _ | j
  ·obtain rfl:i=m:=by omega
   go_wp2
   go_end0
   refine ⟨rfl,F',?_,ag⟩
   have e:l.take i=l:=by rw [HN.out,zN]
   have h5:=Hb.out
   rw [e] at h5
   rw [<-h5]
   exact ai
  ·have am:i<m:=by omega
   have ab:i<l.length:=by rw [<-HN.out];exact am
   obtain ⟨g,o,rfl,cl⟩:=(hc.keep hA ag.chg).at_ ab
   have af:=a0o l ab
   have ae:=HS.out l[i] (zG ab)
   obtain ⟨x,hx⟩:=zX (l[i])
   rw [<-hx] at cl af ae
   have ah:x=((x.toNat:Nat):Int):=(Int.toNat_of_nonneg ae.1).symm
   have ad:x.toNat<2^n:=by
    have e2:((2^n:Nat):Int)=(2:Int)^n:=by simp
    omega
   have ac:=c4q (l.take i) x n
   rw [<-af] at ac
   obtain ⟨k,hk⟩:=zX (x.toNat)
   rw [<-hk] at ah ad ac
   rw [ah] at cl
   have ap:_=some (Value.int .i64 k):=cl
   have al:k<65536:=Nat.lt_of_lt_of_le ad (by have:=Nat.pow_le_pow_right (n:=2) (by decide) hn;exact this)
   have aj:=hid ac
   have ak:=hid ad
   clear ac ad hk ah ae af hx cl ab
   go_wp2_with fail
   refine (a0t _ b F' aa k n ai (by omega) ak.out (by omega)).mono ?_
   rintro e w2 ⟨rfl,F2,h2,g2⟩
   go_wp2_with fail
   go_roundg j
   case measure=>omega
   case rel =>
    refine ⟨i+1,F2,_,by go_num,by omega,h2,hid ?_,?_,ag.trans g2⟩
    ·rw [aj.out,Hb.out,zH]
    ·rw [zC,a0a];omega
def a8a (l:List Int) (W i:Nat):Nbr:=nbr l W (i%W) (i / W)
theorem b9q (l:List Int) (A:Option Addr) (cap W d i:Nat) (w:World) (h0:1<=d) (h1:d<=16) (hW0:1<=W) (hW1:W<=64) (hi:i<=l.length) (hiW:i<64*W) (hs:a1u d l) (hc:a0d vi w A l) (hll:l.length<=4096) :
  Calls Tryz.prog 146 #[.slice A l.length cap,.int .i64 W,.int .i64 d,.int .i64 i] w fun e w'=>e=.returned (.tuple #[.int .i64 (a3d 7 (a8a l W i) d),.int .i64 (b3h (a8a l W i) d)])/\Chg [] w w':=by
 obtain ⟨x,hx⟩:=zX (i%W)
 obtain ⟨y,hy⟩:=zX (i / W)
 have ai:x<W:=by rw [hx];exact Nat.mod_lt _ (by omega)
 have ae:y<64:=by rw [hy];exact Nat.div_lt_of_lt_mul (by rw [zY];exact hiW)
 have aj:y*W+x=i:=by rw [hx,hy,zY];exact Nat.div_add_mod i W
 have e1:(i:Int)%(W:Int)=(x:Int):=by rw [hx];simp
 have e2:(i:Int) / (W:Int)=(y:Int):=by rw [hy];simp
 have aa:=fun w hc=>c7l l A cap W x y w hW0 hW1 ai ae (by omega) hc (by omega)
 have ad:=b5s hs W x y
 have ab:=fun w=>e6z (nbr l W x y) d w h0 h1 ad
 have ac:=fun w=>d6y 7 (nbr l W x y) d w (by omega) h0 h1 ad
 have d1:a8a l W i=nbr l W x y:=by unfold a8a;rw [<-hx,<-hy]
 rw [d1]
 obtain ⟨n,hn⟩:=zX (l.length)
 rw [<-hn] at aa ⊢
 generalize nbr l W x y=g at *
 generalize b3h g d=cl at *
 generalize a3d 7 g d=gs at *
 obtain ⟨ga,gb,gc,ge⟩:=g
 simp only at aa ab ac
 have HN:=hid aa
 have af:(1:Int)<=(W:Int):=by omega
 clear hx hy aj aa ad d1 hn hs hi
 go_enter Tryz.func146,Tryz.ntmps146
 go_wp2_with fail
 go_quiet ((go_at_call 190;exact c5p (HN.out _ (hc.same ((zR [] w).drewN _)))))
 go_wp2_with fail
 refine (ac _).mono ?_
 rintro e w1 ⟨rfl,ag⟩
 go_wp2_with fail
 refine (ab _).mono ?_
 rintro e w2 ⟨rfl,ah⟩
 go_wp2_with fail
 exact bodyPost_ret (v:=.tuple #[.int .i64 gs,.int .i64 cl]) (by simp [results,Tryz.results146,go_sem]) rfl ⟨rfl,(((zR [] w).drewN nq).tq ag).tq ah⟩
def a3c (l:List Int) (W d i:Nat):Nat:=a8f (a1b (l.getD i 0-a3d 7 (a8a l W i) d) d)
def a1w (l:List Int) (W d:Nat):List Nat:=(List.range l.length).map (a3c l W d)
def a8v (l:List Int) (W d:Nat):List Int:=(a1w l W d).map Int.ofNat
theorem a9o (l:List Int) (W:Nat) {d:Nat} (h0:1<=d) (i:Nat):a3c l W d i<2^d:=by
 obtain ⟨h1,h2⟩:=a2s (l.getD i 0-a3d 7 (a8a l W i) d) h0
 have h3:=a6w h0
 have h4:((2^d:Nat):Int)=(2:Int)^d:=by simp
 unfold a3c a8f
 split<;>omega
theorem a7y (l:List Int) (W d:Nat):(a1w l W d).length=l.length:=by simp [a1w]
theorem d3i (l:List Int) (W d:Nat):(a8v l W d).length=l.length:=by simp [a8v,a1w]
theorem c0t (l:List Int) (A:Option Addr) (cap W d:Nat) (w:World) (h0:1<=d) (h1:d<=16) (hW0:1<=W) (hW1:W<=64) (hlW:l.length<=64*W) (hs:a1u d l) (hc:a0d vi w A l) (hll:l.length<=4096) :
  Calls Tryz.prog 112 #[.slice A l.length cap,.int .i64 W,.int .i64 d] w fun e w'=>∃ v g,e=.returned v/\Row w' 3 v g ((a8v l W d).map vi)/\Chg [] w w'/\w.heap.size<=g:=by
 have ae:=fun i (hi:i<l.length) w hc=>b9q l A cap W d i w h0 h1 hW0 hW1 (by omega) (by omega) hs hc hll
 have ax:a8v l W d=(List.range l.length).map fun i=>(a3c l W d i:Int):=by simp [a8v,a1w,List.map_map]
 obtain ⟨m,hm⟩:=zX (l.length)
 rw [<-hm] at ae ax hll ⊢
 have aQ:=a1p (P:=Tryz.prog) a0p rfl .i64 .i64 m (by omega) (by omega)
 have HN:=hid ae
 have aP:=hid ax
 have HM:=hid hm
 have HS:=hid hs
 clear ae ax hm hs
 go_enter Tryz.func112,Tryz.ntmps112
 go_wp2_with fail
 have ad:=Row.zeros w m (by omega)
 obtain ⟨B,hB⟩:=zX (w.heap.size)
 rw [<-hB] at ad ⊢
 have HB:=hid hB
 have aD:Chg [] w (w.alloc (.cells (List.replicate m (Value.int .i64 0)).toArray 3)):=(zR [] w).alloc _
 clear hB
 go_loopg [17] m (fun j iv wr=>∃ (done:List Int),iv=.int .i64 done.length/\done.length+j=m/\Hid (done=(List.range done.length).map fun i=>(a3c l W d i:Int))/\Row wr 3 (.slice (some ⟨B,0,none⟩) m m) B ((a1a done m).map vi)/\Chg [] w wr)
 case atStart=>exact ⟨[],rfl,by simp,hid rfl,ad,aD⟩
 case round =>
  obtain ⟨done,rfl,aI,Hd,ai,az⟩:=hrel
  clear ad aD
  rcases gk with _ | j
  ·have ay:done.length=m:=by omega
   rw [ay]
   go_wp2
   go_ret
   refine ⟨_,B,rfl,?_,az,by have:=HB.out;omega⟩
   rw [a7l ay,Hd.out,ay] at ai
   rw [aP.out]
   exact ai
  ·obtain ⟨i,hi⟩:=zX (done.length)
   have aJ:i<m:=by omega
   have av:i<l.length:=by rw [<-HM.out];exact aJ
   have aa:done++[(a3c l W d i:Int)]=(List.range (i+1)).map fun i=>(a3c l W d i:Int):=by
    rw [List.range_succ,zM,hi,<-Hd.out];rfl
   have aq:=hc.same az
   obtain ⟨g,o,rfl,ab⟩:=aq.at_ av
   have aF:l[i]=l.getD i 0:=by rw [zD,zF av];rfl
   rw [aF] at ab
   have ac:wr.cell? ⟨g,o+i,none⟩=some (.int .i64 (l.getD i 0)):=ab
   have ap:=HN.out i aJ wr aq
   have am:=a9p (b5s HS.out W (i%W) (i / W)) 7
   have an:=a5d HS.out i
   have al:a3c l W d i=a8f (a1b (l.getD i 0-a3d 7 (a8a l W i) d) d):=rfl
   have aE:a8a l W i=nbr l W (i%W) (i / W):=rfl
   rw [<-aE] at am
   have aj:=a9o l W h0 i
   obtain ⟨aK,aL⟩:=a9c h0 h1
   obtain ⟨gs,aC⟩:=zX (a3d 7 (a8a l W i) d)
   rw [<-aC] at ap am al
   obtain ⟨v,hv⟩:=zX (l.getD i 0)
   rw [<-hv] at ac an al
   have aH:=fun w=>a7x (v-gs) d w h0 h1
   have aB:=a2s (v-gs) h0
   obtain ⟨fo,ak⟩:=zX (a1b (v-gs) d)
   rw [<-ak] at al aH aB
   have aA:=a7k h1 aB
   have af:a2e fo:=by unfold a2e;omega
   have ao:=fun w=>b9o fo w af
   rw [<-al] at ao
   obtain ⟨f,hf⟩:=zX (a3c l W d i)
   rw [<-hf] at ao aj aa
   have aN:f<65536:=by
    have h9:((2^d:Nat):Int)=(2:Int)^d:=by simp
    have aO:=Nat.pow_le_pow_right (n:=2) (by decide) h1
    exact Nat.lt_of_lt_of_le aj aO
   have aS : -65536<=v-gs:=by have:=an.1;have:=am.2;omega
   have aR:v-gs<=65536:=by have:=an.2;have:=am.1;omega
   have aM:=hid aa
   have au:=hid aI
   have HI:=hid hi
   rw [<-hi]
   clear aa aI hf ak hv aC am an al aE aj aK aL aB aA af ab aF av aq hi
   go_wp2_with fail
   refine ap.mono ?_
   rintro e w2 ⟨rfl,aG⟩
   have ah:=ai.chg aG (by simp)
   obtain ⟨aw,ar⟩:=ah.fill_cell (by have:=au.out;omega)
   rw [<-HI.out] at aw ar
   clear ap ac
   go_wp2_with (first | (go_at_call 84;refine (aH _).mono ?_;rintro e w' ⟨rfl,rfl⟩) | (go_at_call 147;refine (ao _).mono ?_;rintro e w' ⟨rfl,rfl⟩))
   go_roundg j
   case measure=>omega
   case rel =>
    have ag:=ah.fill (by have:=au.out;omega) (f:Int)
    refine ⟨done++[(f:Int)],?_,?_,hid ?_,?_,?_⟩
    ·rw [zC,List.length_singleton,<-HI.out];go_num
    ·rw [zC,List.length_singleton];have:=au.out;omega
    ·rw [zC,List.length_singleton,<-HI.out]
     exact aM.out
    ·rw [<-HI.out] at ag
     exact ag
    ·exact (az.tq aG).setCell (.inr (by have:=HB.out;simp;omega)) _
theorem a4o (W H d:Nat) (w:World) (hw0:1<=W) (hw1:W<=16) (hh0:1<=H) (hh1:H<=16) (h0:1<=d) (h1:d<=16) :
  Calls Tryz.prog 109 #[.int .i64 W,.int .i64 H,.int .i64 d] w fun e w'=>e=.returned (.bool true)/\w=w':=by
 have t1:decide ((1:Int)<=(W:Int))=true:=zB (by omega)
 have t2:decide ((W:Int)<=16)=true:=zB (by omega)
 have t3:decide ((1:Int)<=(H:Int))=true:=zB (by omega)
 have t4:decide ((H:Int)<=16)=true:=zB (by omega)
 have t5:decide ((1:Int)<=(d:Int))=true:=zB (by omega)
 have t6:decide ((d:Int)<=16)=true:=zB (by omega)
 go_enter Tryz.func109,Tryz.ntmps109
 go_wp2
 go_ret
 exact ⟨rfl,rfl⟩
theorem a9s (l:List Int) (A:Option Addr) (cap W H d:Nat) (w:World) (hw0:1<=W) (hw1:W<=16) (hh0:1<=H) (hh1:H<=16) (h0:1<=d) (h1:d<=16) (hl:l.length=W*H) (hs:a1u d l) (hc:a0d vi w A l) :
  Calls Tryz.prog 85 #[.slice A l.length cap,.int .i64 W,.int .i64 H,.int .i64 d] w fun e w'=>e=.returned (.bool true)/\w=w':=by
 obtain ⟨aj,al⟩:=a9c h0 h1
 obtain ⟨m,hm⟩:=zX (l.length)
 rw [<-hm] at hl ⊢
 have ah:(W:Int)*(H:Int)=(m:Int):=by rw [hl];simp
 have t7:((m:Int) != (m:Int))=false:=by simp
 have ak:m<=256:=by rw [hl];exact zL hw1 hh1
 have HN:=hid hm
 have HS:=hid hs
 clear hm hl hs
 go_enter Tryz.func85,Tryz.ntmps85
 go_wp2_with (go_at_call 109;refine (a4o _ _ _ _ hw0 hw1 hh0 hh1 h0 h1).mono ?_;rintro e w' ⟨rfl,rfl⟩)
 go_loopg [26] m (fun j i wr=>j<=m/\i=.int .i64 ((m-j:Nat):Int)/\w=wr)
 case atStart=>exact ⟨zQ _,by simp,rfl⟩
 case round =>
  obtain ⟨hj,rfl,rfl⟩:=hrel
  rcases gk with _ | j
  ·have t8:decide (((m-0:Nat):Int)<(m:Int))=false:=by simp
   go_wp2
   go_ret
   exact ⟨rfl,rfl⟩
  ·obtain ⟨i,ac⟩:=zX (m-(j+1))
   rw [<-ac]
   have ag:i<m:=by omega
   have ad:m-j=i+1:=by omega
   have HI:=hid ad
   clear ac ad
   have af:i<l.length:=by rw [<-HN.out];exact ag
   obtain ⟨g,o,rfl,aa⟩:=hc.at_ af
   have hx:=HS.out l[i] (zG _)
   obtain ⟨x,ae⟩:=zX (l[i])
   rw [<-ae] at aa hx
   have ab:w.cell? ⟨g,o+i,none⟩=some (.int .i64 x):=aa
   obtain ⟨ai,am⟩:=hx
   have t9:decide (x<0)=false:=zA (by omega)
   have an:decide ((2:Int)^d<=x)=false:=zA (by omega)
   clear aa ae af
   go_wp2
   go_roundg j
   case measure=>omega
   case rel =>
    rw [HI.out]
    exact ⟨by omega,by go_num,rfl⟩
theorem c5s (w:World) (b:Nat) (F ds:List Nat) (p k most u:Nat) (h:a1r w b F ds p) (hk:k<=25) (hu:u<=most) (hm:most<=65536) (ha:a0y ds p (a4d k (a1l u))) :
  Calls Tryz.prog 262 #[.pointer (some ⟨b,0,none⟩),.int .i64 k,.int .i64 most] w fun e w'=>e=.returned (.tuple #[.int .i64 u,.int .i64 0])/\a1r w' b F ds (p+(a4d k (a1l u)).length)/\Chg [b] w w':=by
 have ag:=b2i (u:=u) (by omega)
 have hg:=c8h w b F ds p k [a1l u] h hk (fun z hz=>by rw [zU.1 hz];exact ag) (by simp) (by simpa [a0r] using ha)
 rw [show (([a1l u]:List Int).length:Int)=1 from rfl] at hg
 have af:(a0r k [a1l u]).length=(a4d k (a1l u)).length:=by simp [a0r]
 rw [af] at hg
 have ae:=fun w'=>b9o (a1l u) w' ag
 rw [c8g] at ae
 have t1:decide ((u:Int)<=(most:Int))=true:=zB (by omega)
 have ak:decide (u<=most)=true:=zB (by omega)
 have al:IntKind.u64.wrap (most:Int)=(most:Int):=IntWalk.u64_in _ (by omega)
 have am:IntKind.i64.wrap (u:Int)=(u:Int):=IntWalk.i64_in _ (by omega)
 generalize a1l u=x at *
 generalize (a4d k x).length=q at *
 clear h ha af
 go_enter Tryz.func262,Tryz.ntmps262
 go_wp2_with fail
 refine hg.mono ?_
 rintro e w1 ⟨v,G,rfl,own,ai,ah,hG⟩
 rcases own.cases with ⟨_,ad,_⟩ | ⟨g4,ab,rfl⟩
 ·exfalso
  have:=congrArg List.length ad
  simp at this
 obtain ⟨c4,rfl,_,_,aa,_⟩:=ab.oq
 have e0:=aa 0 x rfl
 have aj:w1.cell? ⟨g4,0,none⟩=some (.int .i64 x):=e0
 rw [show (([x]:List Int).length)=1 from rfl]
 have ac:=ae w1
 clear hg own ab aa e0 ae
 go_wp2_with fail
 refine ac.mono ?_
 rintro e w' ⟨rfl,rfl⟩
 go_wp2
 go_ret2
 exact ⟨rfl,ai,ah⟩
theorem e5n (w:World) (b:Nat) (F ds:List Nat) (p k j W d:Nat) (t:Tok) (h:a1r w b F ds p) (hp:Pts w) (h0F:0∉F) (hk:k<=25) (hj:j<=25) (hw0:1<=W) (hw1:W<=64) (hd:d<=16) (ht:c3j d t) (ha:a0y ds p (a2v k j W d t)) :
  Calls Tryz.prog 228 #[.pointer (some ⟨b,0,none⟩),.int .i64 k,.int .i64 j,.int .i64 W,.int .i64 d] w fun e w'=>e=.returned (.tuple #[e1a t,.int .i64 0])/\a1r w' b F ds (p+(a2v k j W d t).length)/\Chg [b] w w':=by
 obtain ⟨br,aF⟩:=zX (w.heap.size)
 obtain ⟨w0,ag⟩:=zX (w.alloc (.cells #[.int .i64 0,.int .i64 0,.int .i64 0] 201))
 have aS:Blk w0 br 201 #[.int .i64 0,.int .i64 0,.int .i64 0]:=by rw [ag,aF];exact Blk.new w _ _
 have ar:Chg [] w w0:=by rw [ag];exact (zR [] w).alloc _
 have au:=h.same ar
 have aT:=hp.same ar
 have aO:br∉F:=fun hm=>by have:=h.lt _ hm;omega
 have ac:b≠br:=by have:=h.lt b h.mem;omega
 have aH:=h.mem
 have aP:=hid ag
 have aq:=hid aF
 clear ag aF h hp
 unfold a2v at ha ⊢
 rcases ht with ⟨hl,aL,aJ⟩ | ⟨hl,hc⟩
 ·rw [if_pos hl] at ha ⊢
  have a5:=Tok.isLit_iff.1 hl
  obtain ⟨a,c,x⟩:=t
  obtain ⟨rfl,rfl⟩:a=0/\c=0:=a5
  simp only at aL aJ ha ⊢
  have an:e1a ⟨0,0,x⟩=.agg #[.int .i64 0,.int .i64 0,.int .i64 x]:=rfl
  rw [an]
  obtain ⟨X,hX⟩:∃ X:Nat,X=x.toNat:=⟨_,rfl⟩
  have ay:x=(X:Int):=by omega
  have az:X<2^d:=by
   have e:(2:Int)^d=((2^d:Nat):Int):=by simp
   rw [e,ay] at aJ
   omega
  have a3:X<65536:=Nat.lt_of_lt_of_le az (show 2^d<=2^16 from Nat.pow_le_pow_right (by decide) hd)
  rw [<-hX] at ha ⊢
  rw [ay]
  have ap:=a0j w0 b F ds p 1 0 au (by omega) (by decide) ha.left
  have ah:=ha.right
  rw [a0a] at ah
  have aj:=fun w' (hr:a1r w' b F ds (p+1))=>a0j w' b F ds (p+1) d X hr (by omega) az ah
  rw [zC,a0a,a0a]
  have ba:IntKind.i64.wrap (X:Int)=(X:Int):=IntWalk.i64_in _ (by omega)
  have aG:=hid aj
  clear hX ay az aL aJ ha ah aj hl an
  go_enter Tryz.func228,Tryz.ntmps228
  go_wp2_with fail
  rw [<-aP.out,<-aq.out]
  refine ap.mono ?_
  rintro e w1 ⟨rfl,aA,al⟩
  have ao:=aS.chg al (by simpa using ac.symm)
  clear ap au
  go_wp2_with fail
  refine (aG.out w1 aA).mono ?_
  rintro e w2 ⟨rfl,aw,am⟩
  have ae:=ao.chg am (by simpa using ac.symm)
  have q0:=ae.cell 0
  have q1:=ae.cell 1
  have q2:=ae.cell 2
  have z0:=ae.frozen 0
  have z1:=ae.frozen 1
  have z2:=ae.frozen 2
  simp at q0 q1 q2
  obtain ⟨wF,af⟩:=zX (((w2.setCell ⟨br,0,none⟩ (.int .i64 0)).setCell ⟨br,1,none⟩ (.int .i64 0)).setCell ⟨br,2,none⟩ (.int .i64 X))
  have aa:Blk wF br 201 #[.int .i64 0,.int .i64 0,.int .i64 X]:=by
   rw [af]
   simpa using ((ae.set_ 0 (.int .i64 0)).set_ 1 (.int .i64 0)).set_ 2 (.int .i64 X)
  have ad:Chg [br] w2 wF:=by rw [af];exact (((zR [br] w2).setCell (.inl (by simp)) _).setCell (.inl (by simp)) _).setCell (.inl (by simp)) _
  have f0:=aa.cell 0
  have f1:=aa.cell 1
  have f2:=aa.cell 2
  simp at f0 f1 f2
  have aE:=hid af
  clear af aa ao
  go_wp2_with (go_at_call 69;refine (a2b _ b F ds _ aw).mono ?_;rintro e w' ⟨rfl,rfl⟩)
  rw [<-aE.out]
  refine bodyPost_ret (v:=.tuple #[.agg #[.int .i64 0,.int .i64 0,.int .i64 X],.int .i64 0]) (by simp [results,Tryz.results228,go_sem,f0,f1,f2]) rfl ?_
  exact ⟨rfl,(aw.cast (by omega)).chg ad (fun z hz hm=>by simp at hm;exact aO (hm ▸ hz)),(((ar.mono (by simp)).tq al).tq am).trans ad (fun z hz => .inr (by simp at hz;have:=aq.out;omega))⟩
 ·rw [if_neg (by simp [hl])] at ha ⊢
  have aW:=Tok.isCopy_iff.1 hc
  obtain ⟨n,c,x⟩:=t
  obtain ⟨bb,a2,a7,aD,rfl⟩:3<=n/\n<=64/\1<=c/\c<=1024/\x=0:=aW
  have an:e1a ⟨n,c,0⟩=.agg #[.int .i64 n,.int .i64 c,.int .i64 0]:=rfl
  rw [an]
  have av:=c6l (d:=c) (W:=W) a7
  have ap:=a0j w0 b F ds p 1 1 au (by omega) (by decide) ha.left.left
  have ah:=ha.left.right
  have ax:=ha.right
  have e2:lenOf ⟨n,c,0⟩=a1l (n-3):=rfl
  have e3:a7c W ⟨n,c,0⟩=a1l (b4z c W-1):=rfl
  rw [zC,a0a,e2] at ax
  rw [a0a,e2] at ah
  rw [e3] at ax
  have aj:=fun w' (hr:a1r w' b F ds (p+1))=>c5s w' b F ds (p+1) k 61 (n-3) hr hk (by omega) (by decide) ah
  have ak:=fun w' (hr:a1r w' b F ds (p+(1+(a4d k (a1l (n-3))).length)))=>c5s w' b F ds _ j 1047 (b4z c W-1) hr hj (by omega) (by decide) ax
  rw [zC,zC,a0a,e2,e3]
  have ab:=fun w' (hp:Pts w')=>d6x (b4z c W) W w' hp av.1.1 (by omega) hw0 hw1
  rw [av.2] at ab
  obtain ⟨cd,aN⟩:=zX (b4z c W)
  rw [<-aN] at ak ab av ⊢
  obtain ⟨c0,aK⟩:=zX (cd-1)
  have a8:(c0:Int)+1=(cd:Int):=by omega
  rw [<-aK] at ak ⊢
  obtain ⟨n0,aM⟩:=zX (n-3)
  have a9:(n0:Int)+3=(n:Int):=by omega
  rw [<-aM] at aj ak ⊢
  generalize (a4d k (a1l n0)).length=q1 at *
  generalize (a4d j (a1l c0)).length=q2 at *
  rw [show ((61:Nat):Int)=61 from rfl] at aj
  rw [show ((1047:Nat):Int)=1047 from rfl] at ak
  have t1:(((1:Nat):Int)==0)=false:=rfl
  have aQ:cd<=1048:=by omega
  have aG:=hid aj
  have a1:=hid ak
  have aV:=hid ab
  clear ha ah ax aj ak ab aN aK aM e2 e3 hl hc an av
  go_enter Tryz.func228,Tryz.ntmps228
  go_wp2_with fail
  rw [<-aP.out,<-aq.out]
  refine ap.mono ?_
  rintro e w1 ⟨rfl,aA,al⟩
  have ao:=aS.chg al (by simpa using ac.symm)
  have aU:=aT.chg al (fun hm=>by simp at hm;exact h0F (hm ▸ aH))
  clear ap au
  go_wp2_with fail
  refine (aG.out w1 aA).mono ?_
  rintro e w2 ⟨rfl,aw,am⟩
  have ae:=ao.chg am (by simpa using ac.symm)
  have a6:=aU.chg am (fun hm=>by simp at hm;exact h0F (hm ▸ aH))
  go_wp2_with fail
  refine (a1.out w2 (aw.cast (by omega))).mono ?_
  rintro e w3 ⟨rfl,aY,aB⟩
  have aR:=ae.chg aB (by simpa using ac.symm)
  have aX:=a6.chg aB (fun hm=>by simp at hm;exact h0F (hm ▸ aH))
  go_wp2_with fail
  refine (aV.out w3 aX).mono ?_
  rintro e bc ⟨rfl,n4,rfl⟩
  obtain ⟨w4,aI⟩:=zX (w3.drewN n4)
  have aC:Chg [] w3 w4:=by rw [aI];exact (zR [] w3).drewN n4
  rw [<-aI]
  have ai:=aR.chg aC (by simp)
  have q0:=ai.cell 0
  have a4:=ai.cell 1
  have aZ:=ai.cell 2
  have z0:=ai.frozen 0
  have z1:=ai.frozen 1
  have z2:=ai.frozen 2
  simp at q0 a4 aZ
  obtain ⟨wF,af⟩:=zX (((w4.setCell ⟨br,0,none⟩ (.int .i64 n)).setCell ⟨br,1,none⟩ (.int .i64 c)).setCell ⟨br,2,none⟩ (.int .i64 0))
  have aa:Blk wF br 201 #[.int .i64 n,.int .i64 c,.int .i64 0]:=by
   rw [af]
   simpa using ((ai.set_ 0 (.int .i64 n)).set_ 1 (.int .i64 c)).set_ 2 (.int .i64 0)
  have ad:Chg [br] w4 wF:=by rw [af];exact (((zR [br] w4).setCell (.inl (by simp)) _).setCell (.inl (by simp)) _).setCell (.inl (by simp)) _
  have f0:=aa.cell 0
  have f1:=aa.cell 1
  have f2:=aa.cell 2
  simp at f0 f1 f2
  have aE:=hid af
  have a0:=aY.same aC
  clear af aa ao ae aR aI
  go_wp2_with fail
  rw [<-aE.out]
  refine bodyPost_ret (v:=.tuple #[.agg #[.int .i64 n,.int .i64 c,.int .i64 0],.int .i64 0]) (by simp [results,Tryz.results228,go_sem,f0,f1,f2]) rfl ?_
  exact ⟨rfl,(a0.cast (by omega)).chg ad (fun z hz hm=>by simp at hm;exact aO (hm ▸ hz)),(((((ar.mono (by simp)).tq al).tq am).tq aB).trans aC (by simp)).trans ad (fun z hz => .inr (by simp at hz;have:=aq.out;omega))⟩
theorem f1m (w:World) (l:List Int) (v:Value) (F:List Nat) (i:Nat) (t:Tok) (ho:Own w 3 v F ((l.take i).map vi)) (hl:l.length<=4096) (hil:i<l.length) (ht:d8a l i t) (hok:t.ok) :
  Calls Tryz.prog 229 #[v,e1a t] w fun e w'=>∃ v' F',e=.returned v'/\Own w' 3 v' F' ((l.take (i+max t.len 1)).map vi)/\a0u F F' w w':=by
 obtain ⟨bt,am⟩:=zX (w.heap.size)
 have ai:=fun w'=>b9j t w'
 have aX:(l.take i).length=i:=by rw [zI];omega
 have aZ:=hid ho.lt
 rcases ht with ⟨h1,h2,h3⟩ | ⟨h1,h2,h3,h4,h5⟩
 ·have ac:t.isLit=true:=Tok.isLit_iff.2 ⟨h1,h2⟩
  rw [ac] at ai
  obtain ⟨a,c,x⟩:=t
  simp only at h1 h2 h3
  subst h1 h2
  have ar:e1a ⟨0,0,x⟩=.agg #[.int .i64 0,.int .i64 0,.int .i64 x]:=rfl
  rw [ar] at ai ⊢
  have aM:l.take (i+max 0 1)=l.take i++[x]:=by
   rw [show i+max 0 1=i+1 by omega,a0o l hil,h3,zD,zF hil]
   rfl
  simp only
  rw [aM]
  obtain ⟨xs,al⟩:=zX (l.take i)
  rw [<-al] at ho aX ⊢
  obtain ⟨w0,ah⟩:=zX (w.alloc (.cells #[.int .i64 0,.int .i64 0,.int .i64 x] 201))
  have af:Blk w0 bt 201 #[.int .i64 0,.int .i64 0,.int .i64 x]:=by rw [ah,am];exact Blk.new w _ _
  have ao:Chg [] w w0:=by rw [ah];exact (zR [] w).alloc _
  have au:=ho.same ao
  have q0:=af.cell 0
  have q1:=af.cell 1
  have q2:=af.cell 2
  simp at q0 q1 q2
  have aC:=hid ah
  have av:=hid am
  clear h3 aM al ac hok ar ah am ho
  go_enter Tryz.func229,Tryz.ntmps229
  go_wp2_with fail
  rw [<-aC.out]
  refine (ai w0).mono ?_
  rintro e w1 ⟨rfl,aj⟩
  have aJ:=(af.chg aj (by simp)).cell 2
  simp at aJ
  rw [av.out] at aJ
  have aw:=au.same aj
  clear ai q0 q1 q2 af au
  go_wp2_with (at_builtin;refine a0f rfl rfl a0p rfl rfl (aw.alloc _) (.int .i64 x) rfl ?c1 ?c2 ?c3 ?c4 ?_)
  case c1=>simp [go_sem]
  case c2=>rfl
  case c3=>rw [zE];omega
  case c4=>rw [zE];omega
  intro g2 aD w2 aB aq
  go_wp2_with fail
  go_ret
  exact ⟨_,[g2],rfl,by have:=aB.toOwn;simpa [vi] using this,a0u.pre ((ao.tq aj).alloc _) aq⟩
 ·have ac:t.isLit=false:=by
   cases hq:t.isLit with
   | false=>rfl
   | true=>have := Tok.isLit_iff.1 hq;omega
  rw [ac] at ai
  have aG:=Tok.isCopy_iff.1 (by rcases hok with h | h;rw [ac] at h;cases h;exact h)
  obtain ⟨n,c,x⟩:=t
  simp only at h1 h2 h3 h4 h5 aG
  obtain rfl:x=0:=aG.2.2.2.2
  have ar:e1a ⟨n,c,0⟩=.agg #[.int .i64 n,.int .i64 c,.int .i64 0]:=rfl
  rw [ar] at ai ⊢
  have aH:i+max n 1=i+n:=by omega
  simp only
  rw [aH]
  obtain ⟨w0,ah⟩:=zX (w.alloc (.cells #[.int .i64 n,.int .i64 c,.int .i64 0] 201))
  have af:Blk w0 bt 201 #[.int .i64 n,.int .i64 c,.int .i64 0]:=by rw [ah,am];exact Blk.new w _ _
  have ao:Chg [] w w0:=by rw [ah];exact (zR [] w).alloc _
  have au:=ho.same ao
  have q0:=af.cell 0
  have q1:=af.cell 1
  have q2:=af.cell 2
  simp at q0 q1 q2
  have aC:=hid ah
  have av:=hid am
  have H5:=hid h5
  clear aH ac hok ar ah am ho h5
  go_enter Tryz.func229,Tryz.ntmps229
  go_wp2_with fail
  rw [<-aC.out]
  refine (ai w0).mono ?_
  rintro e w1 ⟨rfl,aj⟩
  have aA:=af.chg aj (by simp)
  have az:=aA.cell 0
  simp at az
  rw [av.out] at az
  have aw:=au.same aj
  have aF:a0u F F w w1:=(a0u.refl F w).same (ao.tq aj)
  have an:bt∉F:=fun hm=>by have:=aZ.out _ hm;have:=av.out;omega
  clear ai q0 q1 q2 af au
  go_wp2_with fail
  go_loopg [0,14] n (fun k vl iv wr=>∃ (m:Nat) (F':List Nat),iv=.int .i64 m/\m+k=n/\Own wr 3 vl F' ((l.take (i+m)).map vi)/\Blk wr bt 201 #[.int .i64 n,.int .i64 c,.int .i64 0]/\bt∉F'/\a0u F F' w wr)
  case atStart=>exact ⟨0,F,rfl,by omega,aw,aA,an,aF⟩
  case round =>
   clear aw aA an aF az
   obtain ⟨m,F',rfl,a3,ab,ak,aN,aK⟩:=hrel
   rcases gk with _ | k
   ·obtain rfl:n=m:=by omega
    have t5:decide ((n:Int)<(n:Int))=false:=by simp
    have aR:decide (n<n)=false:=by simp
    obtain ⟨A,aU,rfl,_,_,_⟩:=ab.oq
    go_wp2_with fail
    go_ret
    exact ⟨_,F',rfl,ab,aK⟩
   ·have aL:m<n:=by omega
    have t5:decide ((m:Int)<(n:Int))=true:=zB (by omega)
    have aR:decide (m<n)=true:=zB aL
    have ap:(l.take (i+m)).length=i+m:=by rw [zI];omega
    obtain ⟨q,hq⟩:=zX (i+m-c)
    have aP:q<i+m:=by omega
    obtain ⟨A,aU,rfl,ax,a0,aa⟩:=ab.oq
    obtain ⟨ga,oa,rfl,ad⟩:=aa.at_ (m:=q) (by rw [ap];exact aP)
    have aI:(l.take (i+m))[q]=l.getD (i+m) 0:=by
     rw [H5.out m aL,<-hq,List.getElem_take,zD,zF (by omega)]
     rfl
    rw [aI] at ad
    have aE:i+m<l.length:=by omega
    have ae:=a0o l aE
    have aO:l[i+m]=l.getD (i+m) 0:=by rw [zD,zF aE];rfl
    rw [aO] at ae
    generalize l.getD (i+m) 0=y at *
    have ay:wr.cell? ⟨ga,oa+q,none⟩=some (.int .i64 y):=ad
    obtain ⟨im,ag⟩:=zX (i+m)
    rw [<-ag] at ap ab ae aP aa ax
    obtain ⟨xs,al⟩:=zX (l.take im)
    rw [<-al] at ap ab ae ax aa
    have a2:(im:Int)-(c:Int)=(q:Int):=by omega
    have aQ:=ak.cell 1
    simp at aQ
    rw [av.out] at aQ
    rw [ap] at ab ax
    have aT:=ab.alloc (.cells #[.int .i64 y] 3)
    have aW:=hid ae
    have aS:=hid ag
    have aY:im<=4096:=by omega
    rw [<-ag,<-al,ap]
    clear ad aI aO ae ag al aa hq aE
    go_wp2_with (at_builtin;refine a0f rfl rfl a0p rfl rfl aT (.int .i64 y) rfl ?c1 ?c2 ?c3 ?c4 ?_)
    case c1=>simp [go_sem]
    case c2=>rfl
    case c3=>rw [zE];omega
    case c4=>rw [zE];omega
    intro g2 aD w2 aB aq
    go_wp2_with fail
    go_roundg k
    case measure=>omega
    case rel =>
     have a1:g2∉F'\/g2∈F':=by by_cases hh:g2∈F'<;>simp [hh]
     have aV:bt∉[g2]:=fun hm=>by
      simp at hm
      rcases aq.new g2 (by simp) with h9 | h9
      ·exact aN (hm ▸ h9)
      ·have:=ak.lt;simp at h9;omega
     have e1:i+(m+1)=im+1:=by have:=aS.out;omega
     refine ⟨m+1,[g2],by go_num,by omega,?_,(Blk.alloc ak _).chg aq.chg aN,aV,(aK.alloc _).trans aq⟩
     rw [e1,aW.out,zM]
     have:=aB.toOwn
     exact this
theorem e8u (w:World) (b:Nat) (F ds:List Nat) (p:Nat) (l:List Int) (W d:Nat) (T:List Tok) (h:a1r w b F ds p) (hp:Pts w) (h0F:0∉F) (hw0:1<=W) (hw1:W<=64) (h0:1<=d) (h1:d<=16) (hl:l.length<=4096) (hT:b2p l 0 T) (hok:∀ t∈T,c3j d t) (ha:a0y ds p (a3h T W d)) :
  Calls Tryz.prog 180 #[.pointer (some ⟨b,0,none⟩),.int .i64 l.length,.int .i64 W,.int .i64 d] w fun e w'=>∃ v G,e=.returned (.tuple #[v,.int .i64 0])/\Own w' 3 v G (l.map vi)/\a1r w' b F ds (p+(a3h T W d).length)/\Chg [b] w w'/\∀ x∈G,w.heap.size<=x:=by
 have a0:a3h T W d=a0b (a6u (a0h T)) 5++a0b (a6u (a0l W T)) 5++T.flatMap (a2v (a6u (a0h T)) (a6u (a0l W T)) W d):=rfl
 rw [a0] at ha ⊢
 rw [zC,zC,a0a,a0a]
 have hk:=a8p (a0h T)
 have hj:=a8p (a0l W T)
 generalize a6u (a0h T)=k at *
 generalize a6u (a0l W T)=j at *
 have aX:=a0j w b F ds p 5 k h (by omega) (by omega) ha.left.left
 have aB:=ha.left.right
 have aL:=ha.right
 rw [a0a] at aB
 rw [zC,a0a,a0a] at aL
 have aZ:=fun w' (hr:a1r w' b F ds (p+5))=>a0j w' b F ds (p+5) 5 j hr (by omega) (by omega) aB
 obtain ⟨n,hn⟩:=zX (l.length)
 rw [<-hn] at hl ⊢
 have t1:decide ((W:Int)<1)=false:=zA (by omega)
 have t2:decide ((64:Int)<(W:Int))=false:=zA (by omega)
 have t3:decide ((d:Int)<1)=false:=zA (by omega)
 have t4:decide ((16:Int)<(d:Int))=false:=zA (by omega)
 have t5:decide ((n:Int)<0)=false:=zA (by omega)
 have t6:decide ((4096:Int)<(n:Int))=false:=zA (by omega)
 have t7:decide ((25:Int)<(k:Int))=false:=zA (by omega)
 have t8:decide ((25:Int)<(j:Int))=false:=zA (by omega)
 have bh:=b0q (P:=Tryz.prog) a0p rfl .i64 .i64 n (by omega) (by omega)
 have be:=h.lt b h.mem
 have HN:=hid hn
 have HA:=hid aL
 have HT:=hid hT
 have a8:=hid hok
 have bc:=hid aZ
 have bd:=hid h.lt
 have HP:=hid hp
 have bb:Hid (0∉[b]):=hid (by simp;intro e;exact h0F (e ▸ h.mem))
 clear hn aL hT hok aZ ha aB a0 hp h
 go_enter Tryz.func180,Tryz.ntmps180
 go_wp2_with fail
 refine aX.mono ?_
 rintro e w1 ⟨rfl,aR,aC⟩
 clear aX
 go_wp2_with fail
 refine (bc.out w1 aR).mono ?_
 rintro e w2 ⟨rfl,aI,aE⟩
 have ab:=Row.room w2 n (by omega)
 obtain ⟨B,hB⟩:=zX (w2.heap.size)
 have aD:Chg [] w2 (w2.alloc (.cells (List.replicate n (Value.int .i64 0)).toArray 3)):=(zR [] w2).alloc _
 have aS:=aI.same aD
 have ak:=(aC.tq aE).trans aD (by simp)
 have aT:w.heap.size<=B:=by rw [hB];exact (aC.tq aE).size
 rw [<-hB] at ab
 have HB:=hid hB
 clear aR aC aE aD hB
 go_wp2_with (go_at_call 69;refine (a2b _ b F ds _ aI).mono ?_;rintro e w' ⟨rfl,rfl⟩)
 rw [<-HB.out]
 go_loopg [13,14,15] T.length (fun q vl va vb wr=>∃ (i p':Nat) (R:List Tok) (F':List Nat),R.length=q/\i<=n/\Own wr 3 vl F' ((l.take i).map vi)/\Hid (b2p l i R)/\Hid (∀ t∈R,c3j d t)/\a1r wr b F ds p'/\Hid (a0y ds p' (R.flatMap (a2v k j W d)))/\Hid (p'+(R.flatMap (a2v k j W d)).length=p+(5+5)+(T.flatMap (a2v k j W d)).length)/\Hid (Chg [b] w wr)/\Hid (∀ x∈F',w.heap.size<=x))
 case atStart=>exact ⟨0,p+(5+5),T,[B],rfl,by omega,by simpa using ab.toOwn,HT,a8,aS.cast (by omega),HA,hid rfl,hid ak,hid (by simpa using aT)⟩
 case round =>
  clear ab aI aS ak aT
  obtain ⟨i,p',R,F',aN,bg,aa,aQ,aW,aH,a6,aY,aw,ap⟩:=hrel
  obtain ⟨A,bj,rfl,aO,bm,ac⟩:=aa.oq
  have ao:(l.take i).length=i:=by rw [zI,<-HN.out];omega
  cases R with
  | nil =>
   have aP:n<=i:=by have:=aQ.out;rw [HN.out];exact this
   obtain rfl:n=i:=by omega
   have u1:decide (n<n)=false:=by simp
   have e1:l.take n=l:=by rw [HN.out,zN]
   have aU:=aY.out
   rw [ao]
   rw [ao,e1] at aa
   have aJ:Hid (p'=p+(5+5+(T.flatMap (a2v k j W d)).length)):=hid (by
    rw [show (([]:List Tok).flatMap (a2v k j W d))=[] from rfl,List.length_nil] at aU
    omega)
   clear aU e1 ac aO ao
   go_wp2_with fail
   go_ret2
   exact ⟨_,F',rfl,aa,aH.cast aJ.out,aw.out,ap.out⟩
  | cons t R =>
   obtain ⟨aM,an,aV⟩:=aQ.out
   rcases gk with _ | q
   ·simp at aN
   have a7:i<n:=by rw [HN.out];exact aM
   have u1:decide (i<n)=true:=zB a7
   have av:=a6.out
   rw [List.flatMap_cons] at av
   have ad:=aW.out t (by simp)
   have az:=e5n wr b F ds p' k j W d t aH (HP.out.chg aw.out bb.out) h0F hk hj hw0 hw1 h1 ad av.left
   have a9:=hid av.right
   have bi:=hid an
   have aA:=hid aV
   have bk:=hid ad
   have ar:=fun w' v F0 (ho:Own w' 3 v F0 ((l.take i).map vi))=>f1m w' l v F0 i t ho (by rw [<-HN.out];exact hl) aM an ad.ok
   have ae:i+max t.len 1<=n:=by
    rcases an with ⟨a1,_,_⟩ | ⟨a1,a2,_⟩
    ·rw [a1];omega
    ·rw [<-HN.out] at a2;omega
   have ba:t.dist<=i:=by
    rcases an with ⟨_,a1,_⟩ | ⟨_,_,_,a1,_⟩
    ·omega
    ·exact a1
   have a3:t.len<=n-i:=by omega
   have a5:=hid ar
   have ay:=hid ae
   obtain ⟨tl,ai⟩:=zX (t.len)
   obtain ⟨td,aj⟩:=zX (t.dist)
   obtain ⟨tx,al⟩:=zX (t.lit)
   have aF:e1a t=.agg #[.int .i64 tl,.int .i64 td,.int .i64 tx]:=by rw [ai,aj,al];rfl
   rw [<-aj] at ba
   rw [<-ai] at a3
   have u2:decide ((i:Int)<(td:Int))=false:=zA (by omega)
   have bf:decide (i<td)=false:=zA (by omega)
   obtain ⟨ni,aP⟩:=zX (n-i)
   have bl:(n:Int)-(i:Int)=(ni:Int):=by omega
   have u3:decide (ni<tl)=false:=zA (by omega)
   have a4:=hid aF
   rw [ao]
   rw [ao] at aa aO
   rw [aF] at az
   clear av aM an aV ar ae ai aj al aF aP ac ad
   go_wp2_with fail
   refine az.mono ?_
   rintro e w3 ⟨rfl,au,ak⟩
   have af:=aa.chg ak (fun x hx hm=>by simp at hm;have:=ap.out x hx;omega)
   clear az aH aa
   have ax:=Blk.new w3 201 #[.int .i64 tl,.int .i64 td,.int .i64 tx]
   have k0:=ax.cell 0
   have k1:=ax.cell 1
   have k2:=ax.cell 2
   simp at k0 k1 k2
   have ag:=af.alloc (.cells #[.int .i64 tl,.int .i64 td,.int .i64 tx] 201)
   have ah:=a5.out _ _ _ ag
   rw [a4.out] at ah
   have aG:=hid au
   have am:=hid ak
   clear af ag au ak ax
   go_wp2_with fail
   refine ah.mono ?_
   rintro e w5 ⟨v5,F5,rfl,aq,aK⟩
   clear ah k0 k1 k2
   go_wp2_with fail
   go_roundg q
   case measure=>omega
   case rel =>
    refine ⟨i+max t.len 1,p'+(a2v k j W d t).length,R,F5,by simpa using aN,ay.out,aq,aA,hid (fun t' ht'=>aW.out t' (by simp [ht'])),(aG.out.same ((zR [] w3).alloc _)).chg aK.chg (fun x hx hm=>by have:=bd.out x hx;have:=ap.out x hm;omega),a9,hid ?_,hid ?_,hid ?_⟩
    ·have:=aY.out
     rw [List.flatMap_cons,zC] at this
     omega
    ·exact ((aw.out.tq am.out).alloc _).trans aK.chg (fun x hx => .inr (ap.out x hx))
    ·intro x hx
     rcases aK.new x hx with h9 | h9
     ·exact ap.out x h9
     ·have:=aw.out.size;have:=am.out.size;simp at h9;omega
end Go.Proofs.YtepjepkgcdfboaaGreatDoor
