/- package match by its contracts, the second part: distances. -/
import Derived.Test.YtepjepkgcdfboaaGreatDoorMg04
import Derived.Test.YtepjepkgcdfboaaGreatDoorMg16
import Derived.Test.YtepjepkgcdfboaaGreatDoorMg18
import Derived.Test.YtepjepkgcdfboaaGreatDoorMg34
set_option linter.unusedVariables false
set_option linter.unusedSimpArgs false
set_option maxHeartbeats 4000000
set_option maxRecDepth 100000
namespace Go.Proofs.YtepjepkgcdfboaaGreatDoor
open Go.RowKit
theorem e6l:Tryz.zeroCells204=((List.replicate 65 0).map i64).toArray:=by kernel_rfl
theorem f4r:Tryz.zeroCells203=((List.replicate 1025 0).map i64).toArray:=by kernel_rfl
theorem e8q (l:List Int) (A:Option Addr) (cap at_ br:Nat) (rs:List Nat) (w:World) (hat:at_<l.length) (hll:l.length<=4096) (hc:a0d vi w A l) (hr:Vec w br 203 rs) (hro:b7u rs) (hA:Apt A l [br]) :
  Calls Tryz.prog 163 #[.slice A l.length cap,.int .i64 at_,.pointer (some ⟨br,0,none⟩)] w fun e w' =>
   e=.returned (.agg ((b5f l at_ rs).dists.map i64).toArray)/\Vec w' br 203 (b5f l at_ rs).runs/\Chg [br] w w':=by
 have bq:=Blk.lt hr
 obtain ⟨n,hn⟩:=zX (l.length)
 rw [<-hn] at hat hll ⊢
 obtain ⟨M,hM⟩:=zX (min at_ 1024)
 have ba:b5f l at_ rs=dGo l at_ M 1 (c5a rs):=by rw [hM];rfl
 rw [ba]
 have aB:=c0p hro
 obtain ⟨S,hS⟩:=zX (dGo l at_ M 1 (c5a rs))
 have aM:S.Ok:=by rw [hS];exact e1w _ _ _ aB (by omega)
 rw [<-hS]
 have HN:=hid hn
 have HS:=hid hS
 have HA:=hid hA
 have a2:=hid aB
 have aT:=hid aM
 have bs:M<=at_:=by omega
 have bx:M<=1024:=by omega
 have bd:at_<=M\/1024<=M:=by omega
 have a8:Vec (w.alloc (.cells Tryz.zeroCells204 204)) w.heap.size 204 (List.replicate 65 0):=by have:=Blk.new w 204 Tryz.zeroCells204;rw [e6l] at this;rw [e6l];exact this
 have bk:Vec ((w.alloc (.cells Tryz.zeroCells204 204)).alloc (.cells Tryz.zeroCells204 204)) (w.heap.size+1) 204 (List.replicate 65 0):=by
  have:=Blk.new (w.alloc (.cells Tryz.zeroCells204 204)) 204 Tryz.zeroCells204
  rw [show (w.alloc (.cells Tryz.zeroCells204 204)).heap.size=w.heap.size+1 by simp] at this
  rw [e6l] at this ⊢
  exact this
 have bf:Chg [br] w ((w.alloc (.cells Tryz.zeroCells204 204)).alloc (.cells Tryz.zeroCells204 204)):=((zR [br] w).alloc _).alloc _
 have aY:Vec ((w.alloc (.cells Tryz.zeroCells204 204)).alloc (.cells Tryz.zeroCells204 204)) w.heap.size 204 (List.replicate 65 0):=Blk.alloc a8 _
 have be:Vec ((w.alloc (.cells Tryz.zeroCells204 204)).alloc (.cells Tryz.zeroCells204 204)) br 203 rs:=Blk.alloc (Blk.alloc hr _) _
 have bh:(if (1024:Int)<(at_:Int) then (1024:Int) else (at_:Int))=(M:Int):=by split<;>omega
 clear hn ba hS hA aB aM hro hM hr a8 bd
 go_enter Tryz.func163,Tryz.ntmps163
 go_wp2_with fail
 go_loopg [8,9] M (fun j m iv wr=>∃ (d:Nat) (s:DSt),iv=.int .i64 d/\m=.int .i64 s.longest/\d+j=M+1/\1<=d/\Hid (S=dGo l at_ j d s)/\Hid s.Ok/\Vec wr br 203 s.runs/\Vec wr (w.heap.size+1) 204 s.dists/\Vec wr w.heap.size 204 (List.replicate 65 0)/\Chg [br] w wr)
 case atStart=>exact ⟨1,c5a rs,rfl,rfl,by omega,zQ _,HS,a2,be,bk,aY,bf⟩
 case round =>
  obtain ⟨d,s,rfl,rfl,hj,bp,HG,ah,ag,aF,an,am⟩:=hrel
  rcases gk with _ | j
  ·have bc:S=s:=HG.out
   have bg:d=M+1:=by omega
   clear HG
   have t1:decide ((d:Int)<=(M:Int))=false:=zA (by omega)
   have aD:(Tryz.prog.info? 204).map (·.size)=some 65:=by kernel_rfl
   subst bc
   have aN:(S.dists.map i64).length=65:=by rw [zE];exact aT.out.dl
   have aR:(S.dists.map i64).toArray.size=65:=by simpa using aN
   have aH:(List.replicate 65 0 |>.map i64).toArray.size=65:=by simp
   have aU:Blk (wr.setCells w.heap.size 0 (S.dists.map i64)) w.heap.size 204 (S.dists.map i64).toArray:=Blk.setCells an _ (by rw [aH,aN])
   have aZ:Chg [br] w (wr.setCells w.heap.size 0 (S.dists.map i64)):=Chg.setCells (.inr (zQ _)) _ _ _ am
   have ac:Vec (wr.setCells w.heap.size 0 (S.dists.map i64)) br 203 S.runs:=Blk.chg ag (Chg.setCells (F:=[w.heap.size]) (.inl (by simp)) _ _ _ (zR _ _)) (by simp;omega)
   have HE:(S.dists.map i64).toArray.toList=S.dists.map i64:=rfl
   go_wp2_with (first
    | refine wpList_load_row rfl 204 (.tmp 7) rfl (w.heap.size+1) rfl _ _ _ _ aF Tryz.underlying204 rfl (by rw [aR];exact aD) ?_
    | refine wpList_store_mid rfl 204 (.tmp 6) (.tmp 54) rfl w.heap.size 0 (S.dists.map i64).toArray rfl rfl (Blk.there an (by rw [aR,aH];exact zQ _)) (by rw [aR];exact aD) (f3c _) ?_)
   all_goals exact bodyPost_ret (v:=.agg (S.dists.map i64).toArray) (results_cell_row rfl _ _ w.heap.size _ _ (0,0) _ rfl aU Tryz.underlying204 rfl (by rw [aR];exact aD)) rfl ⟨rfl,ac,aZ⟩
  ·have bg:d<=M:=by omega
   have aI:=ah.out
   have aQ:d<s.runs.length:=by rw [aI.rl];omega
   have aX:a0d vi wr A l:=hc.keep HA.out am
   have a3:at_<l.length:=by rw [<-HN.out];exact hat
   have ai:at_-d<l.length:=by omega
   obtain ⟨g,o,rfl,ca⟩:=aX.at_ a3
   obtain ⟨g',o',e',cb⟩:=aX.at_ ai
   injection e' with e'
   injection e' with e1 e2 _
   subst e1
   subst e2
   have ga:l[at_]=l.getD at_ 0:=by rw [zD,zF a3];rfl
   have gb:l[at_-d]=l.getD (at_-d) 0:=by rw [zD,zF ai];rfl
   rw [ga] at ca
   rw [gb] at cb
   have a6:dGo l at_ (j+1) d s=dGo l at_ j (d+1) (b5d l at_ s d):=rfl
   rw [a6] at HG
   have aK:=c6r (l:=l) (at_:=at_) aI (show d<=1024 by omega)
   have aO:a8k l at_ s.runs d=if l.getD at_ 0=l.getD (at_-d) 0 then min (s.runs.getD d 0+1) 64 else 0:=rfl
   have bj:=d7o l at_ s.runs d
   have ap:b5d l at_ s d=⟨s.runs.set d (a8k l at_ s.runs d),a6z (a8k l at_ s.runs d-s.longest) s.dists s.longest d,max s.longest (a8k l at_ s.runs d)⟩:=rfl
   have bv:=aI.l64
   have bn:s.runs.getD d 0<=64:=by rw [zD,zF aQ];exact aI.r64 _ (zG aQ)
   have aG:=ag.cell aQ
   have aC:=Blk.frozen ag d
   generalize a8k l at_ s.runs d=r at *
   generalize l.getD at_ 0=xa at *
   generalize l.getD (at_-d) 0=xb at *
   generalize s.runs.getD d 0=ro at *
   have bu:wr.cell? ⟨g,o+at_,none⟩=some (.int .i64 xa):=ca
   have bm:wr.cell? ⟨g,o+(at_-d),none⟩=some (.int .i64 xb):=cb
   have bl:(at_:Int)-(d:Int)=((at_-d:Nat):Int):=by omega
   obtain ⟨ad,aJ⟩:=zX (at_-d)
   rw [<-aJ] at bm bl ai
   have bi:ad<n:=by rw [HN.out];exact ai
   have t1:decide ((d:Int)<=(M:Int))=true:=zB (by omega)
   have al:=hid ap
   have aW:=hid aO
   have aV:=hid aK
   clear ca cb ga gb a6 aK ap aI a3 aQ ai aX aO aJ
   have bb:Hid (xa≠xb->r=0):=hid fun hq=>by rw [aW.out,if_neg hq]
   have a4:Hid (xa=xb->r=min (ro+1) 64):=hid fun hq=>by rw [aW.out,if_pos hq]
   clear aW
   have aE:(xa=xb/\r=ro+1/\ro<64)\/(xa=xb/\r=64/\ro=64)\/(xa≠xb/\r=0):=by
    by_cases hq:xa=xb
    ·have:=a4.out hq
     omega
    ·exact .inr (.inr ⟨hq,bb.out hq⟩)
   clear bb a4
   rcases aE with ⟨hq,aA,a0⟩ | ⟨hq,aA,a0⟩ | ⟨hq,aA⟩
   ·have t3:(xa==xb)=true:=by simpa using hq
    have t4:decide ((64:Int)<(ro:Int)+1)=false:=zA (by omega)
    have er:(ro:Int)+1=(r:Int):=by omega
    clear aA hq
    go_upto_region 6 with (fail)
    go_quiet (fail)
    go_upto_region 7 with (fail)
    have ae:=ag.chg ((zR [] wr).drewN nq) (by simp)
    have aa:=ae.cell (i:=d) (by rw [ah.out.rl];omega)
    have ab:=Blk.frozen ae d
    refine a0c 11 (by kernel_rfl) (by kernel_rfl) ?_
    simp only [List.take_succ_cons,List.take_zero,List.drop_succ_cons,List.drop_zero]
    repeat (go_big_quiet_step (fail))
    refine wpQuiet_nil ?_
    intro _ aS
    obtain ⟨ak,rfl⟩:=aS
    go_wp2_with fail
    have ac:=ag.chg ((zR [] wr).drewN (nq+ak)) (by simp)
    have aw:=ac.set_ d r
    have ar:=Blk.far (aF.chg ((zR [] wr).drewN (nq+ak)) (by simp)) (p:=⟨br,d,none⟩) (by simp;omega) (.int .i64 r)
    have au:=Blk.far (an.chg ((zR [] wr).drewN (nq+ak)) (by simp)) (p:=⟨br,d,none⟩) (by simp;omega) (.int .i64 r)
    have ax:=(am.drewN (nq+ak)).setCell (p:=⟨br,d,none⟩) (.inl (by simp)) (.int .i64 r)
    have ao:(s.runs.set d r).length=1025:=by rw [List.length_set];exact ah.out.rl
    have av:(s.runs.set d r).getD d 0=r:=by rw [zD,List.getElem?_set_self (by rw [ah.out.rl];omega)];rfl
    have aP:=hid ao
    have aL:=hid av
    clear ao av aG aC aa ab ag ae aF an am
    go_loopg [8] (r-s.longest) (fun j2 iv wr2=>∃ (m:Nat) (D:List Nat),iv=.int .i64 m/\Hid (a6z (r-s.longest) s.dists s.longest d=a6z j2 D m d)/\m+j2=max s.longest r/\s.longest<=m/\Hid (D.length=65)/\Vec wr2 br 203 (s.runs.set d r)/\Vec wr2 (w.heap.size+1) 204 D/\Vec wr2 w.heap.size 204 (List.replicate 65 0)/\Chg [br] w wr2)
    case atStart=>exact ⟨s.longest,s.dists,rfl,hid rfl,by omega,zQ _,hid ah.out.dl,aw,ar,au,ax⟩
    case round =>
     obtain ⟨m,D,rfl,HF,a9,a7,ay,aj,af,aq,az⟩:=hrel
     clear aw ar au ax
     have yc:=aj.cell (i:=d) (by rw [aP.out];omega)
     rw [aL.out] at yc
     rcases gk with _ | j2
     ·have t5:decide ((m:Int)<(r:Int))=false:=zA (by omega)
      go_wp2_with fail
      go_roundg j
      case measure=>omega
      case rel =>
       have hD:a6z (r-s.longest) s.dists s.longest d=D:=HF.out
       refine ⟨d+1,b5d l at_ s d,by go_num,?_,by omega,by omega,HG,aV,?_,?_,aq,az⟩
       ·rw [al.out];exact congrArg (fun z:Nat=>Value.int .i64 z) (show m=max s.longest r by omega)
       ·rw [al.out];exact aj
       ·rw [al.out];show Vec _ _ _ (a6z (r-s.longest) s.dists s.longest d);rw [hD];exact af
     ·have a5:m<r:=by omega
      have t5:decide ((m:Int)<(r:Int))=true:=zB (by omega)
      have cD:=af.cell (i:=m+1) (by rw [ay.out];omega)
      have fD:=Blk.frozen af (m+1)
      go_wp2_with fail
      go_roundg j2
      case measure=>omega
      case rel =>
       refine ⟨m+1,D.set (m+1) d,by go_num,HF,by omega,by omega,hid (by rw [List.length_set];exact ay.out),Blk.far aj (by simp;omega) _,af.set_ _ _,Blk.far aq (by simp) _,az.setCell (.inr (by simp)) _⟩
   ·have t3:(xa==xb)=true:=by simpa using hq
    have t4:decide ((64:Int)<(ro:Int)+1)=true:=zB (by omega)
    have bo:(64:Int)<(ro:Int)+1:=by omega
    have a1:=hid aA
    have bw:=hid a0
    clear aA a0 hq
    go_upto_region 6 with (fail)
    go_quiet (fail)
    go_upto_region 7 with (fail)
    have ae:=ag.chg ((zR [] wr).drewN nq) (by simp)
    have aa:=ae.cell (i:=d) (by rw [ah.out.rl];omega)
    have ab:=Blk.frozen ae d
    refine a0c 11 (by kernel_rfl) (by kernel_rfl) ?_
    simp only [List.take_succ_cons,List.take_zero,List.drop_succ_cons,List.drop_zero]
    repeat (go_big_quiet_step (fail))
    refine wpQuiet_nil ?_
    intro _ aS
    obtain ⟨ak,rfl⟩:=aS
    go_wp2_with fail
    have ac:=ag.chg ((zR [] wr).drewN (nq+ak)) (by simp)
    have aw:Vec (((wr.drewN (nq+ak))).setCell ⟨br,d,none⟩ (.int .i64 64)) br 203 (s.runs.set d r):=by rw [a1.out];exact ac.set_ d 64
    have ar:=Blk.far (aF.chg ((zR [] wr).drewN (nq+ak)) (by simp)) (p:=⟨br,d,none⟩) (by simp;omega) (.int .i64 64)
    have au:=Blk.far (an.chg ((zR [] wr).drewN (nq+ak)) (by simp)) (p:=⟨br,d,none⟩) (by simp;omega) (.int .i64 64)
    have ax:=(am.drewN (nq+ak)).setCell (p:=⟨br,d,none⟩) (.inl (by simp)) (.int .i64 64)
    have ao:(s.runs.set d r).length=1025:=by rw [List.length_set];exact ah.out.rl
    have av:(s.runs.set d r).getD d 0=r:=by rw [zD,List.getElem?_set_self (by rw [ah.out.rl];omega)];rfl
    have aP:=hid ao
    have aL:=hid av
    clear ao av aG aC aa ab ag ae aF an am
    go_loopg [8] (r-s.longest) (fun j2 iv wr2=>∃ (m:Nat) (D:List Nat),iv=.int .i64 m/\Hid (a6z (r-s.longest) s.dists s.longest d=a6z j2 D m d)/\m+j2=max s.longest r/\s.longest<=m/\Hid (D.length=65)/\Vec wr2 br 203 (s.runs.set d r)/\Vec wr2 (w.heap.size+1) 204 D/\Vec wr2 w.heap.size 204 (List.replicate 65 0)/\Chg [br] w wr2)
    case atStart=>exact ⟨s.longest,s.dists,rfl,hid rfl,by omega,zQ _,hid ah.out.dl,aw,ar,au,ax⟩
    case round =>
     obtain ⟨m,D,rfl,HF,a9,a7,ay,aj,af,aq,az⟩:=hrel
     clear aw ar au ax
     have yc:=aj.cell (i:=d) (by rw [aP.out];omega)
     rw [aL.out] at yc
     rcases gk with _ | j2
     ·have t5:decide ((m:Int)<(r:Int))=false:=zA (by omega)
      go_wp2_with fail
      go_roundg j
      case measure=>omega
      case rel =>
       have hD:a6z (r-s.longest) s.dists s.longest d=D:=HF.out
       refine ⟨d+1,b5d l at_ s d,by go_num,?_,by omega,by omega,HG,aV,?_,?_,aq,az⟩
       ·rw [al.out];exact congrArg (fun z:Nat=>Value.int .i64 z) (show m=max s.longest r by omega)
       ·rw [al.out];exact aj
       ·rw [al.out];show Vec _ _ _ (a6z (r-s.longest) s.dists s.longest d);rw [hD];exact af
     ·have a5:m<r:=by omega
      have t5:decide ((m:Int)<(r:Int))=true:=zB (by omega)
      have cD:=af.cell (i:=m+1) (by rw [ay.out];omega)
      have fD:=Blk.frozen af (m+1)
      go_wp2_with fail
      go_roundg j2
      case measure=>omega
      case rel =>
       refine ⟨m+1,D.set (m+1) d,by go_num,HF,by omega,by omega,hid (by rw [List.length_set];exact ay.out),Blk.far aj (by simp;omega) _,af.set_ _ _,Blk.far aq (by simp) _,az.setCell (.inr (by simp)) _⟩
   ·have t3:(xa==xb)=false:=by simpa using hq
    have a1:=hid aA
    clear aA hq
    go_upto_region 6 with (fail)
    go_quiet (fail)
    have aa:=(ag.chg ((zR [] wr).drewN nq) (by simp)).cell (i:=d) (by rw [ah.out.rl];omega)
    have ab:=Blk.frozen (ag.chg ((zR [] wr).drewN nq) (by simp)) d
    go_wp2_with fail
    have ac:=ag.chg ((zR [] wr).drewN nq) (by simp)
    have aw:Vec (((wr.drewN nq)).setCell ⟨br,d,none⟩ (.int .i64 0)) br 203 (s.runs.set d r):=by rw [a1.out];exact ac.set_ d 0
    have ar:=Blk.far (aF.chg ((zR [] wr).drewN nq) (by simp)) (p:=⟨br,d,none⟩) (by simp;omega) (.int .i64 0)
    have au:=Blk.far (an.chg ((zR [] wr).drewN nq) (by simp)) (p:=⟨br,d,none⟩) (by simp;omega) (.int .i64 0)
    have ax:=(am.drewN nq).setCell (p:=⟨br,d,none⟩) (.inl (by simp)) (.int .i64 0)
    have ao:(s.runs.set d r).length=1025:=by rw [List.length_set];exact ah.out.rl
    have av:(s.runs.set d r).getD d 0=r:=by rw [zD,List.getElem?_set_self (by rw [ah.out.rl];omega)];rfl
    have aP:=hid ao
    have aL:=hid av
    clear ao av aG aC aa ab ag aF an am
    go_loopg [8] (r-s.longest) (fun j2 iv wr2=>∃ (m:Nat) (D:List Nat),iv=.int .i64 m/\Hid (a6z (r-s.longest) s.dists s.longest d=a6z j2 D m d)/\m+j2=max s.longest r/\s.longest<=m/\Hid (D.length=65)/\Vec wr2 br 203 (s.runs.set d r)/\Vec wr2 (w.heap.size+1) 204 D/\Vec wr2 w.heap.size 204 (List.replicate 65 0)/\Chg [br] w wr2)
    case atStart=>exact ⟨s.longest,s.dists,rfl,hid rfl,by omega,zQ _,hid ah.out.dl,aw,ar,au,ax⟩
    case round =>
     obtain ⟨m,D,rfl,HF,a9,a7,ay,aj,af,aq,az⟩:=hrel
     clear aw ar au ax
     have yc:=aj.cell (i:=d) (by rw [aP.out];omega)
     rw [aL.out] at yc
     rcases gk with _ | j2
     ·have t5:decide ((m:Int)<(r:Int))=false:=zA (by omega)
      go_wp2_with fail
      go_roundg j
      case measure=>omega
      case rel =>
       have hD:a6z (r-s.longest) s.dists s.longest d=D:=HF.out
       refine ⟨d+1,b5d l at_ s d,by go_num,?_,by omega,by omega,HG,aV,?_,?_,aq,az⟩
       ·rw [al.out];exact congrArg (fun z:Nat=>Value.int .i64 z) (show m=max s.longest r by omega)
       ·rw [al.out];exact aj
       ·rw [al.out];show Vec _ _ _ (a6z (r-s.longest) s.dists s.longest d);rw [hD];exact af
     ·have a5:m<r:=by omega
      have t5:decide ((m:Int)<(r:Int))=true:=zB (by omega)
      have cD:=af.cell (i:=m+1) (by rw [ay.out];omega)
      have fD:=Blk.frozen af (m+1)
      go_wp2_with fail
      go_roundg j2
      case measure=>omega
      case rel =>
       refine ⟨m+1,D.set (m+1) d,by go_num,HF,by omega,by omega,hid (by rw [List.length_set];exact ay.out),Blk.far aj (by simp;omega) _,af.set_ _ _,Blk.far aq (by simp) _,az.setCell (.inr (by simp)) _⟩
theorem c8q:b6m Tryz.prog 164 201 (.agg #[.int .i64 0,.int .i64 0,.int .i64 0]) 3 24:=.mk' Tryz.underlying164 (by kernel_rfl)
def d7z (w:World) (g:Nat) (l:List Tok):Prop:=Blk w g 201 (l.flatMap a2l).toArray
theorem d7z.cell {w:World} {g:Nat} {l:List Tok} (h:d7z w g l) {i:Nat} (hi:i<l.length) :
  w.cell? ⟨g,i*3,none⟩=some (.int .i64 (a4s l i).len)/\w.cell? ⟨g,i*3+1,none⟩=some (.int .i64 (a4s l i).dist)/\w.cell? ⟨g,i*3+2,none⟩=some (.int .i64 (a4s l i).lit):=by
 have hg:l[i]?=some (a4s l i):=by unfold a4s;rw [zD,zF hi];rfl
 obtain ⟨a,b,c⟩:=b8r hg
 refine ⟨?_,?_,?_⟩
 ·rw [Blk.cell h];simpa using a
 ·rw [Blk.cell h];simpa using b
 ·rw [Blk.cell h];simpa using c
theorem e7l (l:List Tok) (i:Nat) (t:Tok):(((l.flatMap a2l).set (i*3) (.int .i64 t.len)).set (i*3+1) (.int .i64 t.dist)).set (i*3+2) (.int .i64 t.lit)=(l.set i t).flatMap a2l:=by
 induction l generalizing i with
 | nil=>simp
 | cons s l ih =>
  cases i with
  | zero=>simp [a2l]
  | succ i =>
   rw [List.set_cons_succ,List.flatMap_cons,List.flatMap_cons,<-ih i]
   have e:a2l s=[.int .i64 s.len,.int .i64 s.dist,.int .i64 s.lit]:=rfl
   rw [e,show (i+1)*3=i*3+1+1+1 by omega,show i*3+1+1+1+1=(i*3+1)+1+1+1 by omega,show i*3+1+1+1+2=(i*3+2)+1+1+1 by omega]
   simp only [List.cons_append,List.nil_append,List.set_cons_succ]
theorem d7z.set_ {w:World} {g:Nat} {l:List Tok} (h:d7z w g l) (i:Nat) (t:Tok) :
  d7z (((w.setCell ⟨g,i*3,none⟩ (.int .i64 t.len)).setCell ⟨g,i*3+1,none⟩ (.int .i64 t.dist)).setCell ⟨g,i*3+2,none⟩ (.int .i64 t.lit)) g (l.set i t):=by
 have h1:=((Blk.set_ h (i*3) (.int .i64 t.len)).set_ (i*3+1) (.int .i64 t.dist)).set_ (i*3+2) (.int .i64 t.lit)
 unfold d7z
 rw [<-e7l]
 simpa using h1
theorem d9o (v:Value) (n:Nat):madeCells #[v,v,v] (n*3)=(List.replicate (n*3) v).toArray:=by
 apply Array.ext
 ·simp [size_madeCells]
 ·intro j h1 h2
  have h3:j%3<3:=Nat.mod_lt _ (by decide)
  have:∀ k,k<3->(#[v,v,v]:Array Value)[k]! = v:=fun k hk=>by
   match k,hk with
   | 0,_=>rfl
   | 1,_=>rfl
   | 2,_=>rfl
  simp only [madeCells,Array.getElem_map,Array.getElem_range,List.getElem_toArray,List.getElem_replicate]
  exact this _ h3
theorem e2l (n:Nat):(List.replicate n (⟨0,0,0⟩:Tok)).flatMap a2l=List.replicate (n*3) (.int .i64 0):=by
 induction n with
 | zero=>rfl
 | succ n ih =>
  rw [List.replicate_succ,List.flatMap_cons,ih,show (n+1)*3=n*3+1+1+1 by omega,List.replicate_succ,List.replicate_succ,List.replicate_succ]
  rfl
theorem e3p (kl kc:IntKind) (n:Nat) (hn:n<=1099511627776) (w:World) :
  (Instr.makeSlice 164 (.int kl (n:Int)) (.int kc (n:Int))).run Tryz.prog w=.ok (.slice (some ⟨w.heap.size,0,none⟩) n n) (w.alloc (.cells ((List.replicate n (⟨0,0,0⟩:Tok)).flatMap a2l).toArray 201)):=by
 obtain ⟨i,hi,hz,aa,ab⟩:=c8q.hi
 have hr:=run_make (P:=Tryz.prog) w 164 201 i _ c8q.ht hi hz kl kc n n (by omega) (Int.le_refl _) (by rw [ab];omega) (by omega)
 rw [hr,aa,e2l]
 simp only [Int.toNat_natCast]
 have e:(Value.agg #[.int .i64 0,.int .i64 0,.int .i64 0]).cells=#[.int .i64 0,.int .i64 0,.int .i64 0]:=rfl
 rw [e,d9o]
theorem f4w (D:List Nat) (hD:D.length=65) (m:Nat) (hm:m<65) (w:World) :
  (Instr.index 204 (.agg (D.map i64).toArray) (.int .i64 m)).run Tryz.prog w=.ok (.int .i64 (D.getD m 0:Nat)) w:=by
 have h5:D[m]?=some (D.getD m 0):=by
  have:m<D.length:=by omega
  simp [zD,zF this]
 generalize D.getD m 0=x at *
 have h6:(0:Int)<=(m:Int)/\(m:Int)<65:=by omega
 simp [Instr.index,run_underlying Tryz.underlying204,asIntOf,go_sem,h6,h5,hm,i64]
structure f3e (w:World) (b:Nat) (s:LSt):Prop where
 vr:Vec w b 203 s.runs
 vc:Vec w (b+1) 3 s.costs
 vf:d7z w (b+1+1) s.first
theorem f3r (w:World) (n:Nat):f3e (((w.alloc (.cells Tryz.zeroCells203 203)).alloc (.cells (List.replicate (n+1) (Value.int .i64 0)).toArray 3)).alloc (.cells ((List.replicate n (⟨0,0,0⟩:Tok)).flatMap a2l).toArray 201)) w.heap.size (c5f n):=by
 refine ⟨Blk.alloc (Blk.alloc ?_ _) _,Blk.alloc ?_ _,?_⟩
 ·have:=Blk.new w 203 Tryz.zeroCells203
  rw [f4r] at this ⊢
  exact this
 ·have:=Blk.new (w.alloc (.cells Tryz.zeroCells203 203)) 3 (List.replicate (n+1) (Value.int .i64 0)).toArray
  rw [show (w.alloc (.cells Tryz.zeroCells203 203)).heap.size=w.heap.size+1 by simp] at this
  have e:((c5f n).costs.map i64).toArray=(List.replicate (n+1) (Value.int .i64 0)).toArray:=by
   show ((List.replicate (n+1) 0).map i64).toArray=_
   rw [List.map_replicate]
   rfl
  rw [<-e] at this ⊢
  exact this
 ·have:=Blk.new ((w.alloc (.cells Tryz.zeroCells203 203)).alloc (.cells (List.replicate (n+1) (Value.int .i64 0)).toArray 3)) 201 ((List.replicate n (⟨0,0,0⟩:Tok)).flatMap a2l).toArray
  rw [show ((w.alloc (.cells Tryz.zeroCells203 203)).alloc (.cells (List.replicate (n+1) (Value.int .i64 0)).toArray 3)).heap.size=w.heap.size+1+1 by simp] at this
  exact this
theorem f3e.same {w w':World} {b:Nat} {s:LSt} (h:f3e w b s) (hc:Chg [] w w'):f3e w' b s:=⟨h.vr.chg hc (by simp),h.vc.chg hc (by simp),Blk.chg h.vf hc (by simp)⟩
theorem e8l (l:List Int) (A:Option Addr) (cap lit cp:Nat) (w:World) (hll:l.length<=4096) (hc:a0d vi w A l) (h0:1<=lit) (h1:lit<=1048576) (h2:1<=cp) (h3:cp<=1048576) :
  Calls Tryz.prog 118 #[.slice A l.length cap,.int .i64 lit,.int .i64 cp] w fun e w' =>
   ∃ (A':Option Addr) (cap':Nat),e=.returned (.slice A' (a5z l lit cp).length cap')/\d8b w' A' (a5z l lit cp)/\Chg [] w w'/\∀ ad,A'=some ad->w.heap.size<=ad.block:=by
 have af:=b7c l lit cp
 have aG:a5z l lit cp=a9e (b4e l lit cp).first l.length l.length 0:=rfl
 have ap:b4e l lit cp=lGo l lit cp l.length (c5f l.length):=rfl
 have aU:=b2v l lit cp
 have av:=c1h l.length lit
 have ac:=fun k s (a:LSt.Ok l.length lit (k+1) s) (b:k<l.length)=>c7c (l:=l) (cp:=cp) a b
 have az:=fun k s (a:LSt.Ok l.length lit (k+1) s) (b:k<l.length)=>e3a (l:=l) a b
 have ae:=fun at_ br rs w (a:at_<l.length) (b:a0d vi w A l) c d e=>e8q l A cap at_ br rs w a hll b c d e
 obtain ⟨T,hT⟩:=zX (a5z l lit cp)
 rw [<-hT] at aG af ⊢
 obtain ⟨S,hS⟩:=zX (b4e l lit cp)
 rw [<-hS] at aG ap aU
 obtain ⟨n,hn⟩:=zX (l.length)
 rw [<-hn] at aG ap aU av ac az ae hll af ⊢
 have t1:decide ((lit:Int)<1)=false:=zA (by omega)
 have t2:decide ((1048576:Int)<(lit:Int))=false:=zA (by omega)
 have t3:decide ((cp:Int)<1)=false:=zA (by omega)
 have t4:decide ((1048576:Int)<(cp:Int))=false:=zA (by omega)
 have aR:=a1p (P:=Tryz.prog) a0p rfl .i64 .i64 (n+1) (by omega) (by omega)
 have e1:((n+1:Nat):Int)=(n:Int)+1:=by omega
 rw [e1] at aR
 have aW:=e3p .i64 .i64 n (by omega)
 have HT:=hid aG
 have HS:=hid ap
 have bi:=hid aU
 have be:=hid av
 have b3:=hid ac
 have b5:=hid az
 have bM:=hid ae
 have HN:=hid hn
 have bO:=hid af
 clear aG ap aU av ac az ae hn af hT hS
 go_enter Tryz.func118,Tryz.ntmps118
 go_wp2_with fail
 have aa:=f3r w n
 have ab:Chg [] w (((w.alloc (.cells Tryz.zeroCells203 203)).alloc (.cells (List.replicate (n+1) (Value.int .i64 0)).toArray 3)).alloc (.cells ((List.replicate n (⟨0,0,0⟩:Tok)).flatMap a2l).toArray 201)):=(((zR [] w).alloc _).alloc _).alloc _
 have eR:(List.replicate (n+1) (Value.int .i64 0)).toArray=Array.replicate (n+1) (Value.int .i64 0):=by simp
 rw [eR] at aa ab
 clear aR aW eR
 go_loopg [10] n (fun k iv wr=>∃ (s:LSt) (a:Int),iv=.int .i64 a/\a=(k:Int)-1/\k<=n/\Hid (S=lGo l lit cp k s)/\Hid (s.Ok n lit k)/\f3e wr w.heap.size s/\Chg [] w wr)
 case atStart=>exact ⟨c5f n,_,rfl,rfl,zQ _,HS,be,aa,ab⟩
 case round =>
  obtain ⟨s,a,rfl,ha,ci,HG,aI,aa,ab⟩:=hrel
  rcases gk with _ | k
  ·have bV:a<0:=by omega
   clear ha
   have tn:decide ((0:Int)<=a)=false:=zA (by omega)
   have bJ:S=s:=HG.out
   subst bJ
   have bf:S.first.length=n:=bi.out.pair.fl
   have bC:∀ t∈S.first,t.ok:=bi.out.pair.fo
   have a6:=hid bf
   have bQ:=hid bC
   have au:=aa.vf
   clear bf bC aa hc
   go_wp2_with fail
   go_loopg [14,15] n (fun j v iv wr=>∃ (i:Nat) (done:List Tok) (F:List Nat),iv=.int .i64 i/\Hid (T=done++a9e S.first n j i)/\n<=i+j/\i<=n+64/\b7t wr 201 3 v F done.length (done.flatMap a2l)/\(∀ x∈F,w.heap.size+1+1<x)/\d7z wr (w.heap.size+1+1) S.first/\Chg [] w wr)
   case atStart=>exact ⟨0,[],[],rfl,HT,by omega,by omega,b7t.nil _ _ _,by simp,au,ab⟩
   case round =>
    clear au ab
    obtain ⟨i,done,F,rfl,aw,cc,b7,aj,hF,au,ab⟩:=hrel
    obtain ⟨A',cap',rfl,_,_,bL,b0⟩:=aj.open_
    by_cases hin:i<n
    ·have t5:decide ((i:Int)<(n:Int))=true:=zB (by omega)
     rcases gk with _ | j
     ·omega
     obtain ⟨c1,c2,c3⟩:=au.cell (i:=i) (by rw [a6.out];exact hin)
     have aT:a9e S.first n (j+1) i=a4s S.first i::a9e S.first n j (i+max (a4s S.first i).len 1):=by rw [a9e,if_pos hin]
     rw [aT] at aw
     clear aT
     have bA:done.length+1<=4096:=by
      have h6:=bO.out
      rw [aw.out,zC,zK] at h6
      omega
     have bw:(a4s S.first i).ok:=by
      unfold a4s
      have bE:i<S.first.length:=by rw [a6.out];exact hin
      rw [zD,zF bE]
      exact bQ.out _ (zG bE)
     have ce:(a4s S.first i).len<=64:=by
      rcases bw with h | h
      ·have:=(Tok.isLit_iff.1 h).1;omega
      ·exact (Tok.isCopy_iff.1 h).2.1
     have bG:(done++[a4s S.first i]).flatMap a2l=done.flatMap a2l++a2l (a4s S.first i):=by simp
     have bz:=hid bG
     have bI:a2l (a4s S.first i)=[.int .i64 (a4s S.first i).len,.int .i64 (a4s S.first i).dist,.int .i64 (a4s S.first i).lit]:=rfl
     obtain ⟨dn,aB⟩:=zX (done.length)
     have aC:=hid aB
     have bN:max (a4s S.first i).len 1=(a4s S.first i).len/\1<=(a4s S.first i).len\/max (a4s S.first i).len 1=1/\(a4s S.first i).len<1:=by omega
     generalize ht:a4s S.first i=t at *
     rw [<-aB] at aj bA ⊢
     generalize hta:t.len=ta at *
     generalize htb:t.dist=tb at *
     generalize htd:t.lit=td at *
     have bn:=hid bI
     have bZ:=hid (And.intro ht hta)
     have bb:=hid hF
     have ag:=Blk.new wr 201 #[.int .i64 ta,.int .i64 tb,.int .i64 td]
     have ak:=aj.same ((zR [] wr).alloc (.cells #[.int .i64 ta,.int .i64 tb,.int .i64 td] 201))
     clear bI bw bG ht aB hta htb htd hF aj
     go_wp2_with (at_builtin;refine b0z rfl rfl c8q rfl (by decide) rfl ak [.int .i64 ta,.int .i64 tb,.int .i64 td] rfl rfl ?c1 ?c2 ?c3 ?c4 ?_)
     case c1 =>
      intro q u hq
      match q,hq with
      | 0,hq=>rw [<-hq];exact ag.cell 0
      | 1,hq=>rw [<-hq];exact ag.cell 1
      | 2,hq=>rw [<-hq];exact ag.cell 2
      | q+3,hq=>simp at hq
     case c2=>intro u hu;simp at hu;rcases hu with rfl | rfl | rfl<;>rfl
     case c3=>omega
     case c4=>omega
     intro g' b6 w3 al ai
     have aq:d7z w3 (w.heap.size+1+1) S.first:=Blk.chg (Blk.alloc au _) ai.chg (fun hm=>by have:=bb.out _ hm;omega)
     have aJ:Chg [] w w3:=(ab.alloc _).trans ai.chg (fun x hx => .inr (by have:=bb.out _ hx;omega))
     have bu:∀ x∈[g'],w.heap.size+1+1<x:=fun x hx=>by
      rcases ai.new x hx with h | h
      ·exact bb.out _ h
      ·have h7:=Blk.lt au
       have h8:(wr.alloc (.cells #[.int .i64 ta,.int .i64 tb,.int .i64 td] 201)).heap.size=wr.heap.size+1:=by simp
       omega
     obtain ⟨d1,d2,d3⟩:=aq.cell (i:=i) (by rw [a6.out];exact hin)
     have HD:=hid bA
     obtain ⟨bh,aK⟩:a4s S.first i=t/\t.len=ta:=bZ.out
     rw [bh,aK] at d1
     clear d2 d3 au ab ag ak ai c1 c2 c3 bh aK
     have bo:=hid bu
     have bv:=hid aq
     have bj:=hid aJ
     have bH:=hid al
     clear bu aq aJ al
     rcases bN with ⟨a8,bS⟩ | ⟨a8,bS⟩
     ·rw [a8] at aw
      have tm:decide ((ta:Int)<1)=false:=zA (by omega)
      have bK:(1:Int)<=(ta:Int):=by omega
      go_wp2_with fail
      go_roundg j
      case measure=>omega
      case rel =>
       refine ⟨i+ta,done++[t],[g'],by go_num,hid (by rw [aw.out,zH];rfl),by omega,by omega,?_,bo.out,bv.out,bj.out⟩
       have h9:=bH.out
       rw [aC.out,show done.length+1=(done++[t]).length by simp] at h9
       rw [bz.out,bn.out,aC.out,show done.length+1=(done++[t]).length by simp]
       exact h9
     ·rw [a8] at aw
      have tm:decide ((ta:Int)<1)=true:=zB (by omega)
      have bK:(ta:Int)<1:=by omega
      go_wp2_with fail
      go_roundg j
      case measure=>omega
      case rel =>
       refine ⟨i+1,done++[t],[g'],by go_num,hid (by rw [aw.out,zH];rfl),by omega,by omega,?_,bo.out,bv.out,bj.out⟩
       have h9:=bH.out
       rw [aC.out,show done.length+1=(done++[t]).length by simp] at h9
       rw [bz.out,bn.out,aC.out,show done.length+1=(done++[t]).length by simp]
       exact h9
    ·have t5:decide ((i:Int)<(n:Int))=false:=zA (by omega)
     have aT:a9e S.first n gk i=[]:=by
      cases gk with
      | zero=>rfl
      | succ f=>rw [a9e,if_neg hin]
     go_wp2_with fail
     go_ret
     have hT:T=done:=by rw [aw.out,aT,List.append_nil]
     rw [hT]
     refine ⟨A',cap',rfl,bL,ab,fun ad e => ?_⟩
     obtain ⟨g,rfl,bY,_⟩:=b0 ad e
     have:=hF g (by rw [bY];simp)
     show w.heap.size<=g
     omega
  ·obtain rfl:a=(k:Int):=by omega
   clear ha
   have hk:k<n:=by omega
   have aA:=aI.out
   have bx:=hc.same ab
   have aZ:k<l.length:=by rw [<-HN.out];exact hk
   obtain ⟨g,o,rfl,b9,_⟩:=hc.ex (by omega)
   obtain ⟨g',o',e',cl⟩:=bx.at_ aZ
   injection e' with e'
   injection e' with e2 e3 _
   subst e2
   subst e3
   have n1:¬ g=w.heap.size+1:=by omega
   have n2:¬ g=w.heap.size+1+1:=by omega
   have n3:¬ w.heap.size+1=g:=by omega
   have n4:¬ w.heap.size+1+1=g:=by omega
   have gl:l[k]=l.getD k 0:=by rw [zD,zF aZ];rfl
   rw [gl] at cl
   have bT:wr.cell? ⟨g,o+k,none⟩=some (.int .i64 (l.getD k 0)):=cl
   have bq:lGo l lit cp (k+1) s=lGo l lit cp k (d0w l lit cp k s):=rfl
   rw [bq] at HG
   have bk:=b5.out k s aA hk
   have c1:=aa.vc.cell (i:=k+1) (by rw [aA.pair.cl];omega)
   have cm:s.costs.getD (k+1) 0<=4294967296:=by
    have h4:=b6x aA.pair.cb (k+1)
    have h5:(n-(k+1))*lit<=4096*1048576:=zL (by omega) h1
    simp only at h4
    omega
   have f1:=Blk.frozen aa.vc k
   have f2:=Blk.frozen aa.vf (k*3)
   have f3:=Blk.frozen aa.vf (k*3+1)
   have f4:=Blk.frozen aa.vf (k*3+2)
   obtain ⟨c2,c3,c4⟩:=aa.vf.cell (i:=k) (by rw [aA.pair.fl];exact hk)
   have c0:=aa.vc.cell (i:=k) (by rw [aA.pair.cl];omega)
   have bg:d6m l lit k s=(s.costs.set k (s.costs.getD (k+1) 0+lit),s.first.set k ⟨0,0,l.getD k 0⟩):=rfl
   have aO:Vec (wr.setCell ⟨w.heap.size+1,k,none⟩ (.int .i64 ((s.costs.getD (k+1) 0+lit:Nat):Int))) (w.heap.size+1) 3 (s.costs.set k (s.costs.getD (k+1) 0+lit)):=aa.vc.set_ k _
   generalize aQ:s.costs.getD (k+1) 0=sc at *
   generalize hlk:l.getD k 0=lk at *
   have cf:=hid aQ
   have cj:=hid hlk
   have bW:=hid bk
   have b4:=hid bg
   have bR:=hid aO
   have bl:=hid aa
   clear cl gl bq bx aZ aA aQ hlk bk bg aO aa
   go_wp2_with fail
   have hx:f3e ((((wr.setCell ⟨w.heap.size+1,k,none⟩ (.int .i64 ((sc:Int)+(lit:Int)))).setCell ⟨w.heap.size+1+1,k*3,none⟩ (.int .i64 0)).setCell ⟨w.heap.size+1+1,k*3+1,none⟩ (.int .i64 0)).setCell ⟨w.heap.size+1+1,k*3+2,none⟩ (.int .i64 lk)) w.heap.size ⟨(d6m l lit k s).1,(d6m l lit k s).2,s.runs⟩:=by
    have bs:=bR.out
    rw [Int.natCast_add] at bs
    rw [b4.out]
    exact ⟨Blk.far (Blk.far (Blk.far (Blk.far bl.out.vr (by simp) _) (by first | (simp;done) | (simp;omega)) _) (by first | (simp;done) | (simp;omega)) _) (by first | (simp;done) | (simp;omega)) _,
     Blk.far (Blk.far (Blk.far bs (by simp) _) (by simp) _) (by simp) _,
     d7z.set_ (Blk.far bl.out.vf (by simp) _) k ⟨0,0,lk⟩⟩
   have ba:Chg [] w ((((wr.setCell ⟨w.heap.size+1,k,none⟩ (.int .i64 ((sc:Int)+(lit:Int)))).setCell ⟨w.heap.size+1+1,k*3,none⟩ (.int .i64 0)).setCell ⟨w.heap.size+1+1,k*3+1,none⟩ (.int .i64 0)).setCell ⟨w.heap.size+1+1,k*3+2,none⟩ (.int .i64 lk)):=(((ab.setCell (.inr (by first | (simp;done) | (simp;omega))) _).setCell (.inr (by first | (simp;done) | (simp;omega))) _).setCell (.inr (by first | (simp;done) | (simp;omega))) _).setCell (.inr (by first | (simp;done) | (simp;omega))) _
   have aY:b7u s.runs:=⟨aI.out.rl,fun x hx=>(aI.out.rb x hx).1⟩
   refine (bM.out k w.heap.size s.runs _ hk (hc.same ba) hx.vr aY (fun _ ad e hm=>by injection e with e;subst e;simp at hm;omega)).mono ?_
   rintro e w2 ⟨rfl,ax,aV⟩
   have aM:=hx.vc.chg aV (by simp)
   have aL:d7z w2 (w.heap.size+1+1) (d6m l lit k s).2:=Blk.chg hx.vf aV (by simp;omega)
   have aN:Chg [] w w2:=ba.trans aV (fun x hx=>by simp at hx;omega)
   have a9:=c6t (l:=l) (at_:=k) aY
   have aX:=c6s (l:=l) (at_:=k) (rs:=s.runs) (B:=n-(k+1)) (fun x hx=>(aI.out.rb x hx).2)
   have ap:d0w l lit cp k s=⟨(b7b cp k (b5f l k s.runs).dists 65 0 (d6m l lit k s)).1,(b7b cp k (b5f l k s.runs).dists 65 0 (d6m l lit k s)).2,(b5f l k s.runs).runs⟩:=rfl
   have bm:=b3.out k s aI.out hk
   generalize (b5f l k s.runs)=DS at *
   obtain ⟨R,D,Lg⟩:=DS
   have aP:D.length=65:=a9.dl
   have bB:∀ x∈D,x<=1024:=a9.d1024
   have bD:∀ m,D.getD m 0≠0->k+m<=n:=fun m hm=>by
    have h5:=aX.db m hm
    have h6:=aX.lb
    simp only at h5 h6
    omega
   simp only at ax
   have bd:=hid ap
   have bX:=hid bm
   have bc:=hid aP
   have bF:=hid bB
   have aC:=hid bD
   clear ap bm aP bB bD a9 aX hx ba aY aV f1 f2 f3 f4 c0 c1 c2 c3 c4 bT ab
   go_wp2_with fail
   go_loopg [65] 65 (fun j iv wr=>∃ (m:Nat) (p:List Nat × List Tok),iv=.int .i64 m/\m+j=65/\Hid (b7b cp k D 65 0 (d6m l lit k s)=b7b cp k D j m p)/\Hid (b9s n ((n-k)*lit) p)/\Vec wr w.heap.size 203 R/\Vec wr (w.heap.size+1) 3 p.1/\d7z wr (w.heap.size+1+1) p.2/\Chg [] w wr)
   case atStart=>exact ⟨0,d6m l lit k s,rfl,rfl,hid rfl,bW,ax,aM,aL,aN⟩
   case round =>
    obtain ⟨m,p,rfl,ch,HP,am,a7,ay,ar,aS⟩:=hrel
    clear ax aM aL aN
    rcases gk with _ | j
    ·obtain rfl:m=65:=by omega
     have hP:b7b cp k D 65 0 (d6m l lit k s)=p:=HP.out
     go_wp2_with fail
     go_roundg k
     case measure=>omega
     case rel =>
      refine ⟨d0w l lit cp k s,_,rfl,by omega,by omega,HG,bX,?_,aS⟩
      rw [bd.out,hP]
      exact ⟨a7,ay,ar⟩
    ·have a5:m<65:=by omega
     have ty:decide ((m:Int)<65)=true:=zB (by omega)
     have cd:=f4w D bc.out m a5
     have ca:=b6x bF.out m
     have aB:=aC.out m
     have aE:b7b cp k D (j+1) m p=b7b cp k D j (m+1) (d9f cp k D m p):=rfl
     have ao:d9f cp k D m p=if m<3\/D.getD m 0=0 then p else if p.1.getD (k+m) 0+cp<=p.1.getD k 0 then (p.1.set k (p.1.getD (k+m) 0+cp),p.2.set k ⟨m,D.getD m 0,0⟩) else p:=rfl
     have aF:=e3c (cp:=cp) (at_:=k) (m:=m) am.out (by omega) bF.out
     rw [aE] at HP
     have bp:k+m<=n->(p.1.getD (k+m) 0<=4294967296/\wr.cell? ⟨w.heap.size+1,k+m,none⟩=some (.int .i64 ((p.1.getD (k+m) 0:Nat):Int))):=fun h=>⟨by
      have h4:=b6x am.out.cb (k+m)
      have h5:(n-k)*lit<=4096*1048576:=zL (by omega) h1
      omega,ay.cell (by rw [am.out.cl];omega)⟩
     have c0:=ay.cell (i:=k) (by rw [am.out.cl];omega)
     have f1:=Blk.frozen ay k
     have f2:=Blk.frozen ar (k*3)
     have f3:=Blk.frozen ar (k*3+1)
     have f4:=Blk.frozen ar (k*3+2)
     obtain ⟨c2,c3,c4⟩:=ar.cell (i:=k) (by rw [am.out.fl];exact hk)
     have an:=fun v=>ay.set_ k v
     generalize hx1:p.1.getD (k+m) 0=ckm at *
     generalize hx2:p.1.getD k 0=ck at *
     generalize hx3:D.getD m 0=dm at *
     have HX:=hid (And.intro hx1 (And.intro hx2 hx3))
     have a0:=hid an
     have a4:=hid aF
     have ah:=hid ao
     have bP:=hid bp
     have HV:=hid (And.intro a7 (And.intro ay ar))
     have aH:=hid aB
     clear hx1 hx2 hx3 an aE aF ao bp a7 ay ar aB
     by_cases q1:m<3
     ·have s1:decide ((m:Int)<3)=true:=zB (by omega)
      go_wp2_with fail
      go_roundg j
      case measure=>omega
      case rel =>
       have e:d9f cp k D m p=p:=by rw [ah.out,if_pos (.inl q1)]
       rw [e] at HP
       obtain ⟨a1,a2,a3⟩:=HV.out
       exact ⟨m+1,p,by go_num,by omega,HP,am,a1,a2,a3,aS⟩
     ·have s1:decide ((m:Int)<3)=false:=zA (by omega)
      by_cases q2:dm=0
      ·have s2:((dm:Int)==0)=true:=by simp [q2]
       have bU:=hid q2
       clear q2
       go_wp2_with fail
       go_roundg j
       case measure=>omega
       case rel =>
        have e:d9f cp k D m p=p:=by rw [ah.out,if_pos (.inr bU.out)]
        rw [e] at HP
        obtain ⟨a1,a2,a3⟩:=HV.out
        exact ⟨m+1,p,by go_num,by omega,HP,am,a1,a2,a3,aS⟩
      ·have s2:((dm:Int)==0)=false:=by simpa using q2
       obtain ⟨b1,b2⟩:=bP.out (aH.out q2)
       have cg:k+m<=n:=aH.out q2
       by_cases q3:ckm+cp<=ck
       ·have s3:decide ((ckm:Int)+(cp:Int)<=(ck:Int))=true:=zB (by omega)
        go_wp2_with fail
        go_roundg j
        case measure=>omega
        case rel =>
         have e:d9f cp k D m p=(p.1.set k (ckm+cp),p.2.set k ⟨m,dm,0⟩):=by rw [ah.out,if_neg (by omega),if_pos q3]
         have aD:=a4.out
         rw [e] at HP aD
         obtain ⟨a1,a2,a3⟩:=HV.out
         have aQ:=a0.out (ckm+cp)
         rw [Int.natCast_add] at aQ
         refine ⟨m+1,_,by go_num,by omega,HP,hid aD,?_,?_,?_,?_⟩
         ·exact Blk.far (Blk.far (Blk.far (Blk.far a1 (by first | (simp;done) | (simp;omega)) _) (by first | (simp;done) | (simp;omega)) _) (by first | (simp;done) | (simp;omega)) _) (by first | (simp;done) | (simp;omega)) _
         ·exact Blk.far (Blk.far (Blk.far aQ (by simp) _) (by simp) _) (by simp) _
         ·exact d7z.set_ (Blk.far a3 (by simp) _) k ⟨m,dm,0⟩
         ·exact (((aS.setCell (.inr (by first | (simp;done) | (simp;omega))) _).setCell (.inr (by first | (simp;done) | (simp;omega))) _).setCell (.inr (by first | (simp;done) | (simp;omega))) _).setCell (.inr (by first | (simp;done) | (simp;omega))) _
       ·have s3:decide ((ckm:Int)+(cp:Int)<=(ck:Int))=false:=zA (by omega)
        go_wp2_with fail
        go_roundg j
        case measure=>omega
        case rel =>
         have e:d9f cp k D m p=p:=by rw [ah.out,if_neg (by omega),if_neg q3]
         rw [e] at HP
         obtain ⟨a1,a2,a3⟩:=HV.out
         exact ⟨m+1,p,by go_num,by omega,HP,am,a1,a2,a3,aS⟩
theorem a0d.one {α:Type} {f:α->Value} {w:World} {A:Option Addr} {l:List α} (h:a0d f w A l) {m:Nat} {x:α} (hm:l[m]?=some x) :
  ∃ g o,A=some ⟨g,o,none⟩/\a0d f w (some ⟨g,o+m,none⟩) [x]:=by
 have hl:=(List.getElem?_eq_some_iff.1 hm).1
 obtain ⟨g,o,e,hg,hc⟩:=h.ex (by omega)
 refine ⟨g,o,e,⟨fun _=>⟨g,o+m,rfl,hg,fun i a ha => ?_⟩⟩⟩
 match i,ha with
 | 0,ha=>simp at ha;subst ha;exact hc m _ hm
 | i+1,ha=>simp at ha
theorem e8v (w:World) (b:Nat) (F bs:List Nat) (T:List Tok) (A:Option Addr) (cap W d:Nat) (h:a2n w b F bs) (hp:Pts w) (h0F:0∉F) (hw0:1<=W) (hw1:W<=64) (h0:1<=d) (h1:d<=16) (hT:T.length<=4096) (hok:∀ t∈T,c3j d t)
  (hc:d8b w A T) (hA:∀ ad,A=some ad->ad.block∉F) (hbs:bs.length<137438953472) :
  Calls Tryz.prog 117 #[.pointer (some ⟨b,0,none⟩),.slice A T.length cap,.int .i64 W,.int .i64 d] w fun e w'=>e=.returned (.int .i64 0)/\∃ F',a2n w' b F' (bs++a3h T W d)/\a0u F F' w w':=by
 have aW:=fun w h=>f3t T A cap w (by omega) (fun t ht=>(hok t ht).ok) h
 have aP:a3h T W d=a0b (a6u (a0h T)) 5++a0b (a6u (a0l W T)) 5++T.flatMap (a2v (a6u (a0h T)) (a6u (a0l W T)) W d):=rfl
 have cu:=c6n hok
 have cg:=c3o (W:=W) hok
 obtain ⟨cZ,c7⟩:=a9c h0 h1
 obtain ⟨n,hn⟩:=zX (T.length)
 rw [<-hn] at aW hT ⊢
 have t1:decide ((W:Int)<1)=false:=zA (by omega)
 have t2:decide ((64:Int)<(W:Int))=false:=zA (by omega)
 have t3:decide ((d:Int)<1)=false:=zA (by omega)
 have t4:decide ((16:Int)<(d:Int))=false:=zA (by omega)
 have cN:=hid aP
 have cC:=hid cu
 have cR:=hid cg
 have HN:=hid hn
 have b9:=hid hok
 have HA:=hid hA
 have cd:Hid (∀ x∈F,x<w.heap.size):=hid h.lt
 clear aP cu cg hn hok hA
 go_enter Tryz.func117,Tryz.ntmps117
 go_wp2_with fail
 refine (aW _ hc).mono ?_
 rintro e w1 ⟨rfl,ah⟩
 go_wp2_with fail
 go_loopg [9,10,39] n (fun j v9 v10 iv wr=>∃ (i:Nat) (F9 F10:List Nat),iv=.int .i64 i/\i+j=n/\Own wr 3 v9 F9 ((a0h (T.take i)).map vi)/\Own wr 3 v10 F10 ((a0l W (T.take i)).map vi) /\
   (∀ x∈F9,w.heap.size<=x/\x∉F10)/\(∀ x∈F10,w.heap.size<=x)/\Chg [] w wr)
 case atStart=>exact ⟨0,[],[],rfl,by omega,Own.nil _ _,Own.nil _ _,by simp,by simp,ah⟩
 case round =>
  clear ah aW
  obtain ⟨i,F9,F10,rfl,c5,aE,af,br,ax,aJ⟩:=hrel
  rcases gk with _ | j
  ·obtain rfl:i=n:=by omega
   have cs:T.take i=T:=by rw [HN.out,zN]
   rw [cs] at aE af
   have a0:=b8a T
   rw [<-HN.out] at a0
   have aI:=b0i W T
   obtain ⟨A9,bI,rfl,bP,cP,bZ⟩:=aE.oq
   obtain ⟨bT,aY,rfl,bb,cc,aV⟩:=af.oq
   have bf:Apt A9 (a0h T) F:=aE.apt (fun x hx hm=>by have:=cd.out x hm;have:=(br x hx).1;omega)
   have aL:Apt bT (a0l W T) F:=af.apt (fun x hx hm=>by have:=cd.out x hm;have:=ax x hx;omega)
   have bw:=c8b (a0h T) A9 bI wr cC.out bZ (by omega)
   have aG:=c8b (a0l W T) bT aY wr cR.out aV (by omega)
   have hk:=a8p (a0h T)
   have bR:=a8p (a0l W T)
   obtain ⟨kk,ch⟩:=zX (a6u (a0h T))
   obtain ⟨jk,b5⟩:=zX (a6u (a0l W T))
   have aP:=cN.out
   rw [<-ch] at bw hk aP
   rw [<-b5] at aG bR aP
   obtain ⟨n9,bQ⟩:=zX ((a0h T).length)
   rw [<-bQ] at aI bP bw a0 ⊢
   rw [aI] at aG bb ⊢
   have aH:=h.same aJ
   have bg:d8b wr A T:=hc.same aJ
   have bM:=hid aP
   have cG:=hid aI
   have ce:=hid bQ
   clear aP aI bQ ch b5 cs aE af br ax h hp hc
   go_wp2_with fail
   refine bw.mono ?_
   rintro e w' ⟨rfl,rfl⟩
   go_wp2_with fail
   refine aG.mono ?_
   rintro e w' ⟨rfl,rfl⟩
   go_wp2_with fail
   refine (a0t _ b F bs kk 5 aH (by omega) (by omega) (by omega)).mono ?_
   rintro e w2 ⟨rfl,F2,bp,a8⟩
   go_wp2_with fail
   refine (a0t _ b F2 _ jk 5 bp (by omega) (by omega) (by rw [zC,a0a];omega)).mono ?_
   rintro e w3 ⟨rfl,F3,bl,bh⟩
   have ao:=a8.trans bh
   clear bw aG aH bp a8 bh
   have a5:∀ x:Int,0<=x->x<2^d->x.toNat<2^d:=fun x a b=>by
    have e:((x.toNat:Nat):Int)=x:=Int.toNat_of_nonneg a
    have e2:((2^d:Nat):Int)=(2:Int)^d:=by simp
    omega
   have cJ:=hid a5
   clear a5
   go_wp2_with fail
   go_loopg [15,88] i (fun j cv iv wr2=>∃ (q:Nat) (F' a4:List Nat),cv=.int .i64 ((a0h (T.take q)).length:Nat)/\iv=.int .i64 q/\q+j=i/\a2n wr2 b F' a4/\Hid (a4=bs++a0b kk 5++a0b jk 5++(T.take q).flatMap (a2v kk jk W d))/\a4.length<=bs.length+10+131*q/\a0u F F' wr wr2)
   case atStart=>exact ⟨0,F3,_,rfl,rfl,by omega,bl,hid (by simp),by rw [zC,zC,a0a,a0a];omega,ao⟩
   case round =>
    clear bl ao
    obtain ⟨q,F',a4,rfl,rfl,cW,aH,Hb,c6,ao⟩:=hrel
    rcases gk with _ | j
    ·obtain rfl:q=i:=by omega
     go_wp2_with fail
     go_ret
     refine ⟨rfl,F',?_,a0u.pre aJ ao⟩
     have e:T.take q=T:=by rw [HN.out,zN]
     have h5:=Hb.out
     rw [e,zH,zH] at h5
     rw [bM.out,zH,<-h5]
     exact aH
    ·have bL:q<i:=by omega
     have aU:q<T.length:=by rw [<-HN.out];exact bL
     have bm:=b9.out T[q] (zG aU)
     obtain ⟨t,ht⟩:=zX (T[q])
     have ai:T[q]?=some t:=by rw [ht];exact zF aU
     rw [<-ht] at bm
     have a1:d8b _ A T:=a0d.keep bg (fun _ ad e=>HA.out ad e) ao.chg
     have aS:=bZ.keep bf ao.chg
     have az:=aV.keep aL ao.chg
     have av:=bf.grow bZ ao
     have al:=aL.grow aV ao
     obtain ⟨g,o,rfl,c1,c2,c3⟩:=a1.at_ ai
     have ab:T.take (q+1)=T.take q++[t]:=by rw [ht];exact a0o T aU
     have ap:=b5b (T.take q) t
     rw [<-ab] at ap
     have bB:(T.take (q+1)).flatMap (a2v kk jk W d)=(T.take q).flatMap (a2v kk jk W d)++a2v kk jk W d t:=by rw [ab];simp
     have aa:=fun w=>b9j t w
     have aN:e1a t=.agg #[.int .i64 t.len,.int .i64 t.dist,.int .i64 t.lit]:=rfl
     rw [aN] at aa
     rcases bm with ⟨aj,ay,b3⟩ | ⟨aj,ay⟩
     ·have ag:a0h (T.take (q+1))=a0h (T.take q):=by rw [ap,aj];simp
      have a3:a2v kk jk W d t=a0b 0 1++a0b t.lit.toNat d:=by unfold a2v;rw [if_pos aj]
      have bz:=cJ.out t.lit ay b3
      rw [aj] at aa
      have bK:t.lit=((t.lit.toNat:Nat):Int):=(Int.toNat_of_nonneg ay).symm
      obtain ⟨ln,b6⟩:=zX (t.lit.toNat)
      rw [<-b6] at a3 bz bK
      rw [bK] at aa c3
      have cA:ln<65536:=Nat.lt_of_lt_of_le bz (by have:=Nat.pow_le_pow_right (n:=2) (by decide) h1;exact this)
      have hb:=Blk.new wr 201 #[.int .i64 t.len,.int .i64 t.dist,.int .i64 ln]
      have ah:=(zR [] wr).alloc (.cells #[.int .i64 t.len,.int .i64 t.dist,.int .i64 ln] 201)
      have aO:=hid (And.intro ag (And.intro a3 bB))
      clear ap ag a3 bB ab bK b6 aN ai ht aj ay b3 a1 aS az av al
      generalize t.len=ta at *
      generalize t.dist=tb at *
      have cL:=hid bz
      clear bz
      have bA:wr.heap.size∉F':=fun hm=>by have:=aH.lt _ hm;omega
      go_wp2_with fail
      refine (aa _).mono ?_
      rintro e w4 ⟨rfl,ae⟩
      have cm:=hb.chg ae (by simp)
      have aD:=aH.same (ah.tq ae)
      have aT:=ao.same (ah.tq ae)
      clear hb aH ao aa ah ae c1 c2 c3
      go_wp2_with fail
      refine (a0t _ b F' a4 0 1 aD (by omega) (by omega) (by omega)).mono ?_
      rintro e w5 ⟨rfl,F5,aw,ak⟩
      have cf:=cm.chg ak.chg bA
      have b2:=cf.cell 2
      simp only [List.size_toArray,zK,List.length_nil,List.getElem?_toArray,List.getElem?_cons_zero,List.getElem?_cons_succ] at b2
      clear cm cf aD bA
      go_wp2_with fail
      refine (a0t _ b F5 _ ln d aw (by omega) cL.out (by rw [zC,a0a];omega)).mono ?_
      rintro e w6 ⟨rfl,F6,aB,au⟩
      clear aw b2
      go_wp2_with fail
      go_roundg j
      case measure=>omega
      case rel =>
       refine ⟨q+1,F6,_,?_,by go_num,by omega,aB,hid ?_,?_,(aT.trans ak).trans au⟩
       ·rw [aO.out.1]
       ·rw [aO.out.2.2,aO.out.2.1,Hb.out];simp only [zH]
       ·rw [zC,zC,a0a,a0a];omega
     ·have aC:(a0h (T.take (q+1))).length=(a0h (T.take q)).length+1:=by rw [ap,aj];simp
      have a3:a2v kk jk W d t=a0b 1 1++a4d kk (lenOf t)++a4d jk (a7c W t):=by unfold a2v;rw [aj];rfl
      have bv:=d3a T ai aj
      have aX:=c9w W T ai aj
      have cM:=c5i ay
      have bU:=c0k W ay
      have bG:(a0h (T.take q)).length<n9:=by rw [ce.out];exact (List.getElem?_eq_some_iff.1 bv).1
      obtain ⟨c,b7⟩:=zX ((a0h (T.take q)).length)
      rw [<-b7] at bv aX bG aC ⊢
      obtain ⟨g9,o9,rfl,aM⟩:=aS.one bv
      obtain ⟨cH,cO,rfl,ar⟩:=az.one aX
      rw [aj] at aa
      have hb:=Blk.new wr 201 #[.int .i64 t.len,.int .i64 t.dist,.int .i64 t.lit]
      have ah:=(zR [] wr).alloc (.cells #[.int .i64 t.len,.int .i64 t.dist,.int .i64 t.lit] 201)
      have bD:Apt (some ⟨g9,o9+c,none⟩) [lenOf t] F':=av.to (by simp;have:=ce.out;omega) (fun ad e=>⟨_,rfl,by injection e with e;rw [<-e]⟩)
      have aR:Apt (some ⟨cH,cO+c,none⟩) [a7c W t] F':=al.to (by simp;have:=cG.out;omega) (fun ad e=>⟨_,rfl,by injection e with e;rw [<-e]⟩)
      have aO:=hid (And.intro aC (And.intro a3 bB))
      clear ap aC a3 bB ab aN ai ht aj ay a1 aS az av al bv aX b7
      generalize lenOf t=lo at *
      generalize a7c W t=co at *
      generalize t.len=ta at *
      generalize t.dist=tb at *
      generalize t.lit=tc at *
      go_wp2_with fail
      refine (aa _).mono ?_
      rintro e w4 ⟨rfl,ae⟩
      have aD:=aH.same (ah.tq ae)
      have aT:=ao.same (ah.tq ae)
      have q9:=aM.same (ah.tq ae)
      have bV:=ar.same (ah.tq ae)
      clear hb aH ao aa ah ae c1 c2 c3 aM ar
      go_wp2_with fail
      refine (a0t _ b F' a4 1 1 aD (by omega) (by omega) (by omega)).mono ?_
      rintro e w5 ⟨rfl,F5,aw,ak⟩
      have r9:=q9.keep bD ak.chg
      have bE:=bV.keep aR ak.chg
      have bo:=bD.grow q9 ak
      have aA:=aR.grow bV ak
      go_wp2_with fail
      have bO:∀ x∈[lo],a2e x:=fun x hx=>by rw [zU.1 hx];exact cM
      have bN:∀ x∈[co],a2e x:=fun x hx=>by rw [zU.1 hx];exact bU
      refine (c8i _ b F5 _ kk [lo] _ (bI-c) aw hk bO r9 bo (by rw [zC,a0a];simp;omega)).mono ?_
      rintro e w6 ⟨rfl,F6,aB,au⟩
      have cb:=bE.keep aA au.chg
      have aq:=aA.grow bE au
      have cj:a0r kk [lo]=a4d kk lo:=by simp [a0r]
      have cy:a0r jk [co]=a4d jk co:=by simp [a0r]
      have cY:=a5x kk lo
      have cB:=a5x jk co
      have cU:=a6j kk lo hk
      have cS:=a6j jk co bR
      rw [cj] at aB
      clear aw r9 bE bo aA aD q9 bV bD aR
      go_wp2_with fail
      refine (c8i _ b F6 _ jk [co] _ (aY-c) aB bR bN cb aq (by rw [zC,zC,a0a];simp;omega)).mono ?_
      rintro e w7 ⟨rfl,F7,bj,bX⟩
      rw [cy] at bj
      clear aB cb aq cj cy
      go_wp2_with fail
      go_roundg j
      case measure=>omega
      case rel =>
       refine ⟨q+1,F7,_,?_,by go_num,by omega,bj,hid ?_,?_,((aT.trans ak).trans au).trans bX⟩
       ·rw [aO.out.1];go_num
       ·rw [aO.out.2.2,aO.out.2.1,Hb.out];simp only [zH]
       ·rw [zC,zC,zC,a0a];omega
  ·have bL:i<n:=by omega
   have aU:i<T.length:=by rw [<-HN.out];exact bL
   have bm:=b9.out T[i] (zG aU)
   obtain ⟨t,ht⟩:=zX (T[i])
   have ai:T[i]?=some t:=by rw [ht];exact zF aU
   rw [<-ht] at bm
   have bg:=hc.same aJ
   obtain ⟨g,o,rfl,c1,c2,c3⟩:=bg.at_ ai
   have ab:T.take (i+1)=T.take i++[t]:=by rw [ht];exact a0o T aU
   have ap:=b5b (T.take i) t
   have am:=c3n W (T.take i) t
   rw [<-ab] at ap am
   have aa:=fun w=>b9j t w
   have aN:e1a t=.agg #[.int .i64 t.len,.int .i64 t.dist,.int .i64 t.lit]:=rfl
   rw [aN] at aa
   have hb:=Blk.new wr 201 #[.int .i64 t.len,.int .i64 t.dist,.int .i64 t.lit]
   have ah:=(zR [] wr).alloc (.cells #[.int .i64 t.len,.int .i64 t.dist,.int .i64 t.lit] 201)
   have a0:=b8a (T.take i)
   have aI:=b0i W (T.take i)
   rw [zI] at a0
   rcases bm with ⟨aj,ay,b3⟩ | ⟨aj,ay⟩
   ·rw [aj] at aa ap am
    have ag:a0h (T.take (i+1))=a0h (T.take i):=by rw [ap];simp
    have ac:a0l W (T.take (i+1))=a0l W (T.take i):=by rw [am];simp
    have HS:=hid (And.intro ag ac)
    generalize t.len=ta at *
    generalize t.dist=tb at *
    generalize t.lit=tc at *
    have t5:decide (tc<0)=false:=zA (by omega)
    have t6:decide ((2:Int)^d<=tc)=false:=zA (by omega)
    clear ap am ag ac ab ai ht aN a0 aI aj
    go_wp2_with fail
    refine (aa _).mono ?_
    rintro e w2 ⟨rfl,ae⟩
    have aK:=hb.chg ae (by simp)
    have b2:=aK.cell 2
    simp only [List.size_toArray,zK,List.length_nil,List.getElem?_toArray,List.getElem?_cons_zero,List.getElem?_cons_succ] at b2
    have bx:=aJ.tq (ah.tq ae)
    have k9:=aE.same (ah.tq ae)
    have bn:=af.same (ah.tq ae)
    clear hb aK ah ae aJ bg c1 c2 c3 aE af
    go_wp2_with fail
    go_quiet (fail)
    go_wp2_with fail
    go_roundg j
    case measure=>omega
    case rel =>
     refine ⟨i+1,F9,F10,by go_num,by omega,?_,?_,br,ax,bx.drewN nq⟩
     ·rw [HS.out.1];exact k9.drewN nq
     ·rw [HS.out.2];exact bn.drewN nq
   ·rw [aj] at aa ap am
    have ag:(a0h (T.take (i+1))).map vi=(a0h (T.take i)).map vi++[.int .i64 (lenOf t)]:=by rw [ap];simp [vi]
    have ac:(a0l W (T.take (i+1))).map vi=(a0l W (T.take i)).map vi++[.int .i64 (a7c W t)]:=by rw [am];simp [vi]
    have cI:=Tok.isCopy_iff.1 ay
    obtain ⟨p1,p2,p3,p4,p5⟩:=cI
    have ca:=(c6l (d:=t.dist) (W:=W) p3).1
    have bH:=fun w (hp:Pts w)=>e8p t.dist W w hp p3 p4 hw0 hw1
    have bi:=fun w=>b2j (t.len-3) w (by omega)
    have an:=fun w=>b2j (b4z t.dist W-1) w (by omega)
    have e1:a1l (t.len-3)=lenOf t:=rfl
    have e2:a1l (b4z t.dist W-1)=a7c W t:=rfl
    rw [e1] at bi
    rw [e2] at an
    clear e1 e2
    obtain ⟨lo,cr⟩:=zX (lenOf t)
    obtain ⟨co,ci⟩:=zX (a7c W t)
    rw [<-cr] at bi ag
    rw [<-ci] at an ac
    obtain ⟨cn,bc⟩:=zX (b4z t.dist W)
    rw [<-bc] at an ca bH
    obtain ⟨cq,a1⟩:=zX (cn-1)
    rw [<-a1] at an
    obtain ⟨lq,cl⟩:=zX (t.len-3)
    rw [<-cl] at bi
    have e3:(t.len:Int)-3=(lq:Int):=by omega
    have e4:(cn:Int)-1=(cq:Int):=by omega
    have cS:cq<=1100:=by omega
    have cB:lq<=64:=by omega
    have a2:((a0l W (T.take i)).map vi).length=((a0h (T.take i)).map vi).length:=by rw [zE,zE,aI]
    have ck:((a0h (T.take i)).map vi).length<=4096:=by rw [zE];omega
    obtain ⟨L9,cw⟩:=zX ((a0h (T.take i)).map vi)
    obtain ⟨c9,a6⟩:=zX ((a0l W (T.take i)).map vi)
    rw [<-cw] at aE ag a2 ck
    rw [<-a6] at af ac a2
    clear cw a6
    obtain ⟨M9,bu⟩:=zX (L9.length)
    rw [<-bu] at a2 ck
    have HS:=hid (And.intro ag ac)
    clear cr ci bc a1 cl ag ac
    generalize t.len=ta at *
    generalize t.dist=tb at *
    generalize t.lit=tc at *
    subst p5
    have cF:=hid bH
    have cQ:=hid an
    have HU:=hid bi
    clear ap am ab ai ht aN a0 aI aj ca bH bi an ay
    go_wp2_with fail
    refine (aa _).mono ?_
    rintro e w2 ⟨rfl,ae⟩
    have aK:=hb.chg ae (by simp)
    have b0:=aK.cell 0
    have b1:=aK.cell 1
    simp only [List.size_toArray,zK,List.length_nil,List.getElem?_toArray,List.getElem?_cons_zero,List.getElem?_cons_succ] at b0 b1
    have bx:=aJ.tq (ah.tq ae)
    have k9:=aE.same (ah.tq ae)
    have bn:=af.same (ah.tq ae)
    obtain ⟨A9,bI,cp,_⟩:=k9.open_
    obtain ⟨bT,aY,a7,_⟩:=bn.open_
    rw [<-bu] at cp
    rw [a2] at a7
    subst cp
    subst a7
    have bJ:=hid bn
    have bY:=hid bu
    have aQ:=hid a2
    have HO:=hid (And.intro br ax)
    have cD:=hid (And.intro aE.lt af.lt)
    clear hb ah ae aJ bg c1 c2 c3 aE af aa bu a2 br ax
    have cX:=k9.lt
    have bS:=bn.lt
    have c0:wr.heap.size<w2.heap.size:=aK.lt
    have bA:wr.heap.size∉F9:=fun hm=>by have:=cD.out.1 _ hm;omega
    go_wp2_with fail
    refine (HU.out _).mono ?_
    rintro e w' ⟨rfl,rfl⟩
    have ct:=k9.same ((zR [] w2).alloc (.cells #[.int .i64 lo] 3))
    have bd:=Blk.new w2 3 #[.int .i64 lo]
    go_wp2_with (at_builtin;refine a0f rfl rfl a0p rfl rfl ct (.int .i64 lo) rfl ?c1 ?c2 ?c3 ?c4 ?_)
    case c1=>exact bd.cell 0
    case c2=>rfl
    case c3=>rw [<-bY.out];omega
    case c4=>rw [<-bY.out];omega
    intro g1 cE w3 bC aZ
    rw [<-bY.out] at bC ⊢
    have cx:=(aK.alloc (.cells #[.int .i64 lo] 3)).chg aZ.chg bA
    have d1:=cx.cell 1
    simp only [List.size_toArray,zK,List.length_nil,List.getElem?_toArray,List.getElem?_cons_zero,List.getElem?_cons_succ] at d1
    have bW:Chg [] w w3:=(bx.alloc _).trans aZ.chg (fun x hx => .inr (HO.out.1 x hx).1)
    have ba:=(bJ.out.same ((zR [] w2).alloc (.cells #[.int .i64 lo] 3))).chg aZ.chg (fun x hx hm=>(HO.out.1 x hm).2 hx)
    have cz:=hp.same bW
    clear bd ct b0 b1 aK
    have cV:g1<w3.heap.size:=bC.lt
    go_wp2_with fail
    refine (cF.out _ cz).mono ?_
    rintro e w4 ⟨rfl,n4,rfl⟩
    go_wp2_with fail
    refine (cQ.out _).mono ?_
    rintro e w' ⟨rfl,rfl⟩
    have bq:=(ba.drewN n4).same ((zR [] (w3.drewN n4)).alloc (.cells #[.int .i64 co] 3))
    have bd:=Blk.new (w3.drewN n4) 3 #[.int .i64 co]
    go_wp2_with (at_builtin;refine a0f rfl rfl a0p rfl rfl bq (.int .i64 co) rfl ?c1 ?c2 ?c3 ?c4 ?_)
    case c1=>exact bd.cell 0
    case c2=>rfl
    case c3=>rw [aQ.out];omega
    case c4=>rw [aQ.out];omega
    intro g2 cT w5 be aF
    rw [aQ.out] at be ⊢
    have a9:g1∉F10:=fun hm=>by
     rcases aZ.new g1 (by simp) with h5 | h5
     ·exact (HO.out.1 _ h5).2 hm
     ·have:=bS _ hm
      have h8:(w2.alloc (.cells #[.int .i64 lo] 3)).heap.size=w2.heap.size+1:=by simp
      omega
    have bF:=(bC.chg ((((zR F10 w3).drewN n4).alloc (.cells #[.int .i64 co] 3)).tq aF.chg) a9)
    have cK:Chg [] w w5:=((bW.drewN n4).alloc (.cells #[.int .i64 co] 3)).trans aF.chg (fun x hx => .inr (HO.out.2 x hx))
    have c8:((w3.drewN n4).alloc (.cells #[.int .i64 co] 3)).heap.size=w3.heap.size+1:=by simp
    have b4:w.heap.size<=g1:=by
     rcases aZ.new g1 (by simp) with h5 | h5
     ·exact (HO.out.1 _ h5).1
     ·have h8:(w2.alloc (.cells #[.int .i64 lo] 3)).heap.size=w2.heap.size+1:=by simp
      have:=bx.size
      omega
    have bk:w.heap.size<=g2/\g1≠g2:=by
     rcases aF.new g2 (by simp) with h5 | h5
     ·exact ⟨HO.out.2 _ h5,fun e=>a9 (e ▸ h5)⟩
     ·have:=bW.size
      exact ⟨by omega,by omega⟩
    clear cx bd bq bC aZ aF ba d1
    go_wp2_with fail
    go_roundg j
    case measure=>omega
    case rel =>
     refine ⟨i+1,[g1],[g2],by go_num,by omega,?_,?_,?_,?_,cK⟩
     ·rw [HS.out.1];exact bF.toOwn
     ·rw [HS.out.2];exact be.toOwn
     ·intro x hx;rw [zU.1 hx];exact ⟨b4,by simp;exact bk.2⟩
     ·intro x hx;rw [zU.1 hx];exact bk.1
def a1v (l:List Int) (n:Nat):List Nat:=l.flatMap fun v=>a0b v.toNat n
theorem b4t (l:List Int) (n:Nat):(a1v l n).length=n*l.length:=by
 induction l with
 | nil=>simp [a1v]
 | cons x l ih =>
  have e:a1v (x::l) n=a0b x.toNat n++a1v l n:=rfl
  rw [e,zC,a0a,ih,zK,Nat.mul_add,Nat.mul_one,Nat.add_comm]
theorem c4q (l:List Int) (x:Int) (n:Nat):a1v (l++[x]) n=a1v l n++a0b x.toNat n:=by simp [a1v]
theorem c2i (w:World) (b:Nat) (F bs:List Nat) (l:List Int) (A:Option Addr) (cap n:Nat) (h:a2n w b F bs) (hn:n<=16) (hl:l.length<=4096) (hs:a1u n l) (hc:a0d vi w A l) (hA:Apt A l F) (hbs:bs.length<137438953472) :
  Calls Tryz.prog 114 #[.pointer (some ⟨b,0,none⟩),.slice A l.length cap,.int .i64 n] w fun e w'=>e=.returned (.tuple #[])/\∃ F',a2n w' b F' (bs++a1v l n)/\a0u F F' w w':=by
 obtain ⟨m,hm⟩:=zX (l.length)
 rw [<-hm] at hl ⊢
 have HN:=hid hm
 have HS:=hid hs
 clear hm hs
 go_enter Tryz.func114,Tryz.ntmps114
 go_wp2_with fail
 go_loopg [10] m (fun j iv wr=>∃ (i:Nat) (F' aa:List Nat),iv=.int .i64 i/\i+j=m/\a2n wr b F' aa/\Hid (aa=bs++a1v (l.take i) n)/\aa.length<=bs.length+16*i/\a0u F F' w wr)
 case atStart=>exact ⟨0,F,bs,rfl,by omega,h,hid (by simp [a1v]),by omega,a0u.refl _ _⟩
 case round =>
  obtain ⟨i,F',aa,rfl,ap,ai,Hb,an,af⟩:=hrel
  rcases gk with _ | j
  ·obtain rfl:i=m:=by omega
   go_wp2
   go_end0
   refine ⟨rfl,F',?_,af⟩
   have e:l.take i=l:=by rw [HN.out,zN]
   have h5:=Hb.out
   rw [e] at h5
   rw [<-h5]
   exact ai
  ·have ak:i<m:=by omega
   have ac:i<l.length:=by rw [<-HN.out];exact ak
   obtain ⟨g,o,rfl,cl⟩:=(hc.keep hA af.chg).at_ ac
   have ae:=a0o l ac
   have ah:=HS.out l[i] (zG ac)
   obtain ⟨x,hx⟩:=zX (l[i])
   rw [<-hx] at cl ae ah
   have ag:x=((x.toNat:Nat):Int):=(Int.toNat_of_nonneg ah.1).symm
   have ad:x.toNat<2^n:=by
    have e2:((2^n:Nat):Int)=(2:Int)^n:=by simp
    omega
   have ab:=c4q (l.take i) x n
   rw [<-ae] at ab
   obtain ⟨k,hk⟩:=zX (x.toNat)
   rw [<-hk] at ag ad ab
   rw [ag] at cl
   have ao:_=some (Value.int .i64 k):=cl
   have am:k<65536:=Nat.lt_of_lt_of_le ad (by have:=Nat.pow_le_pow_right (n:=2) (by decide) hn;exact this)
   have al:=hid ab
   have aj:=hid ad
   clear ab ad hk ag ah ae hx cl ac
   go_wp2_with fail
   refine (a0t _ b F' aa k n ai (by omega) aj.out (by omega)).mono ?_
   rintro e w2 ⟨rfl,F2,h2,g2⟩
   go_wp2_with fail
   go_roundg j
   case measure=>omega
   case rel =>
    refine ⟨i+1,F2,_,by go_num,by omega,h2,hid ?_,?_,af.trans g2⟩
    ·rw [al.out,Hb.out,zH]
    ·rw [zC,a0a];omega
def a8a (l:List Int) (W i:Nat):Nbr:=nbr l W (i%W) (i / W)
theorem b9q (l:List Int) (A:Option Addr) (cap W d i:Nat) (w:World) (h0:1<=d) (h1:d<=16) (hW0:1<=W) (hW1:W<=64) (hi:i<=l.length) (hiW:i<64*W) (hs:a1u d l) (hc:a0d vi w A l) (hll:l.length<=4096) :
  Calls Tryz.prog 146 #[.slice A l.length cap,.int .i64 W,.int .i64 d,.int .i64 i] w fun e w'=>e=.returned (.tuple #[.int .i64 (a3d 7 (a8a l W i) d),.int .i64 (b3h (a8a l W i) d)])/\Chg [] w w':=by
 obtain ⟨x,hx⟩:=zX (i%W)
 obtain ⟨y,hy⟩:=zX (i / W)
 have ai:x<W:=by rw [hx];exact Nat.mod_lt _ (by omega)
 have ae:y<64:=by rw [hy];exact Nat.div_lt_of_lt_mul (by rw [zY];exact hiW)
 have ah:y*W+x=i:=by rw [hx,hy,zY];exact Nat.div_add_mod i W
 have e1:(i:Int)%(W:Int)=(x:Int):=by rw [hx];simp
 have e2:(i:Int) / (W:Int)=(y:Int):=by rw [hy];simp
 have aa:=fun w hc=>c7l l A cap W x y w hW0 hW1 ai ae (by omega) hc (by omega)
 have ad:=b5s hs W x y
 have ab:=fun w=>e6z (nbr l W x y) d w h0 h1 ad
 have ac:=fun w=>d6y 7 (nbr l W x y) d w (by omega) h0 h1 ad
 have d1:a8a l W i=nbr l W x y:=by unfold a8a;rw [<-hx,<-hy]
 rw [d1]
 obtain ⟨n,hn⟩:=zX (l.length)
 rw [<-hn] at aa ⊢
 generalize nbr l W x y=g at *
 generalize b3h g d=cl at *
 generalize a3d 7 g d=gs at *
 obtain ⟨ga,gb,gc,ge⟩:=g
 simp only at aa ab ac
 have HN:=hid aa
 have af:(1:Int)<=(W:Int):=by omega
 clear hx hy ah aa ad d1 hn hs hi
 go_enter Tryz.func146,Tryz.ntmps146
 go_wp2_with fail
 go_quiet ((go_at_call 190;exact c5p (HN.out _ (hc.same ((zR [] w).drewN _)))))
 go_wp2_with fail
 refine (ac _).mono ?_
 rintro e w1 ⟨rfl,aj⟩
 go_wp2_with fail
 refine (ab _).mono ?_
 rintro e w2 ⟨rfl,ag⟩
 go_wp2_with fail
 exact bodyPost_ret (v:=.tuple #[.int .i64 gs,.int .i64 cl]) (by simp [results,Tryz.results146,go_sem]) rfl ⟨rfl,(((zR [] w).drewN nq).tq aj).tq ag⟩
def a3c (l:List Int) (W d i:Nat):Nat:=a8f (a1b (l.getD i 0-a3d 7 (a8a l W i) d) d)
def a1w (l:List Int) (W d:Nat):List Nat:=(List.range l.length).map (a3c l W d)
def a8v (l:List Int) (W d:Nat):List Int:=(a1w l W d).map Int.ofNat
theorem a9o (l:List Int) (W:Nat) {d:Nat} (h0:1<=d) (i:Nat):a3c l W d i<2^d:=by
 obtain ⟨h1,h2⟩:=a2s (l.getD i 0-a3d 7 (a8a l W i) d) h0
 have h3:=a6w h0
 have h4:((2^d:Nat):Int)=(2:Int)^d:=by simp
 unfold a3c a8f
 split<;>omega
theorem a7y (l:List Int) (W d:Nat):(a1w l W d).length=l.length:=by simp [a1w]
theorem d3i (l:List Int) (W d:Nat):(a8v l W d).length=l.length:=by simp [a8v,a1w]
theorem c0t (l:List Int) (A:Option Addr) (cap W d:Nat) (w:World) (h0:1<=d) (h1:d<=16) (hW0:1<=W) (hW1:W<=64) (hlW:l.length<=64*W) (hs:a1u d l) (hc:a0d vi w A l) (hll:l.length<=4096) :
  Calls Tryz.prog 112 #[.slice A l.length cap,.int .i64 W,.int .i64 d] w fun e w'=>∃ v g,e=.returned v/\Row w' 3 v g ((a8v l W d).map vi)/\Chg [] w w'/\w.heap.size<=g:=by
 have ad:=fun i (hi:i<l.length) w hc=>b9q l A cap W d i w h0 h1 hW0 hW1 (by omega) (by omega) hs hc hll
 have ao:a8v l W d=(List.range l.length).map fun i=>(a3c l W d i:Int):=by simp [a8v,a1w,List.map_map]
 obtain ⟨m,hm⟩:=zX (l.length)
 rw [<-hm] at ad ao hll ⊢
 have aS:=a1p (P:=Tryz.prog) a0p rfl .i64 .i64 m (by omega) (by omega)
 have HN:=hid ad
 have aO:=hid ao
 have HM:=hid hm
 have HS:=hid hs
 clear ad ao hm hs
 go_enter Tryz.func112,Tryz.ntmps112
 go_wp2_with fail
 have ae:=Row.zeros w m (by omega)
 obtain ⟨B,hB⟩:=zX (w.heap.size)
 rw [<-hB] at ae ⊢
 have HB:=hid hB
 have aG:Chg [] w (w.alloc (.cells (List.replicate m (Value.int .i64 0)).toArray 3)):=(zR [] w).alloc _
 clear hB
 go_loopg [17] m (fun j iv wr=>∃ (done:List Int),iv=.int .i64 done.length/\done.length+j=m/\Hid (done=(List.range done.length).map fun i=>(a3c l W d i:Int))/\Row wr 3 (.slice (some ⟨B,0,none⟩) m m) B ((a1a done m).map vi)/\Chg [] w wr)
 case atStart=>exact ⟨[],rfl,by simp,hid rfl,ae,aG⟩
 case round =>
  obtain ⟨done,rfl,aE,Hd,ai,av⟩:=hrel
  clear ae aG
  rcases gk with _ | j
  ·have ap:done.length=m:=by omega
   rw [ap]
   go_wp2
   go_ret
   refine ⟨_,B,rfl,?_,av,by have:=HB.out;omega⟩
   rw [a7l ap,Hd.out,ap] at ai
   rw [aO.out]
   exact ai
  ·obtain ⟨i,hi⟩:=zX (done.length)
   have aD:i<m:=by omega
   have ay:i<l.length:=by rw [<-HM.out];exact aD
   have ac:done++[(a3c l W d i:Int)]=(List.range (i+1)).map fun i=>(a3c l W d i:Int):=by
    rw [List.range_succ,zM,hi,<-Hd.out];rfl
   have ar:=hc.same av
   obtain ⟨g,o,rfl,aa⟩:=ar.at_ ay
   have aF:l[i]=l.getD i 0:=by rw [zD,zF ay];rfl
   rw [aF] at aa
   have ab:wr.cell? ⟨g,o+i,none⟩=some (.int .i64 (l.getD i 0)):=aa
   have az:=HN.out i aD wr ar
   have al:=a9p (b5s HS.out W (i%W) (i / W)) 7
   have an:=a5d HS.out i
   have am:a3c l W d i=a8f (a1b (l.getD i 0-a3d 7 (a8a l W i) d) d):=rfl
   have aJ:a8a l W i=nbr l W (i%W) (i / W):=rfl
   rw [<-aJ] at al
   have aj:=a9o l W h0 i
   obtain ⟨aK,aL⟩:=a9c h0 h1
   obtain ⟨gs,aC⟩:=zX (a3d 7 (a8a l W i) d)
   rw [<-aC] at az al am
   obtain ⟨v,hv⟩:=zX (l.getD i 0)
   rw [<-hv] at ab an am
   have aH:=fun w=>a7x (v-gs) d w h0 h1
   have au:=a2s (v-gs) h0
   obtain ⟨fo,ak⟩:=zX (a1b (v-gs) d)
   rw [<-ak] at am aH au
   have aq:=a7k h1 au
   have ah:a2e fo:=by unfold a2e;omega
   have aB:=fun w=>b9o fo w ah
   rw [<-am] at aB
   obtain ⟨f,hf⟩:=zX (a3c l W d i)
   rw [<-hf] at aB aj ac
   have aP:f<65536:=by
    have h9:((2^d:Nat):Int)=(2:Int)^d:=by simp
    have aM:=Nat.pow_le_pow_right (n:=2) (by decide) h1
    exact Nat.lt_of_lt_of_le aj aM
   have aQ : -65536<=v-gs:=by have:=an.1;have:=al.2;omega
   have aR:v-gs<=65536:=by have:=an.2;have:=al.1;omega
   have aN:=hid ac
   have ax:=hid aE
   have HI:=hid hi
   rw [<-hi]
   clear ac aE hf ak hv aC al an am aJ aj aK aL au aq ah aa aF ay ar hi
   go_wp2_with fail
   refine az.mono ?_
   rintro e w2 ⟨rfl,aI⟩
   have ag:=ai.chg aI (by simp)
   obtain ⟨aA,aw⟩:=ag.fill_cell (by have:=ax.out;omega)
   rw [<-HI.out] at aA aw
   clear az ab
   go_wp2_with (first | (go_at_call 84;refine (aH _).mono ?_;rintro e w' ⟨rfl,rfl⟩) | (go_at_call 147;refine (aB _).mono ?_;rintro e w' ⟨rfl,rfl⟩))
   go_roundg j
   case measure=>omega
   case rel =>
    have af:=ag.fill (by have:=ax.out;omega) (f:Int)
    refine ⟨done++[(f:Int)],?_,?_,hid ?_,?_,?_⟩
    ·rw [zC,List.length_singleton,<-HI.out];go_num
    ·rw [zC,List.length_singleton];have:=ax.out;omega
    ·rw [zC,List.length_singleton,<-HI.out]
     exact aN.out
    ·rw [<-HI.out] at af
     exact af
    ·exact (av.tq aI).setCell (.inr (by have:=HB.out;simp;omega)) _
theorem a4o (W H d:Nat) (w:World) (hw0:1<=W) (hw1:W<=16) (hh0:1<=H) (hh1:H<=16) (h0:1<=d) (h1:d<=16) :
  Calls Tryz.prog 109 #[.int .i64 W,.int .i64 H,.int .i64 d] w fun e w'=>e=.returned (.bool true)/\w=w':=by
 have t1:decide ((1:Int)<=(W:Int))=true:=zB (by omega)
 have t2:decide ((W:Int)<=16)=true:=zB (by omega)
 have t3:decide ((1:Int)<=(H:Int))=true:=zB (by omega)
 have t4:decide ((H:Int)<=16)=true:=zB (by omega)
 have t5:decide ((1:Int)<=(d:Int))=true:=zB (by omega)
 have t6:decide ((d:Int)<=16)=true:=zB (by omega)
 go_enter Tryz.func109,Tryz.ntmps109
 go_wp2
 go_ret
 exact ⟨rfl,rfl⟩
theorem a9s (l:List Int) (A:Option Addr) (cap W H d:Nat) (w:World) (hw0:1<=W) (hw1:W<=16) (hh0:1<=H) (hh1:H<=16) (h0:1<=d) (h1:d<=16) (hl:l.length=W*H) (hs:a1u d l) (hc:a0d vi w A l) :
  Calls Tryz.prog 85 #[.slice A l.length cap,.int .i64 W,.int .i64 H,.int .i64 d] w fun e w'=>e=.returned (.bool true)/\w=w':=by
 obtain ⟨ak,am⟩:=a9c h0 h1
 obtain ⟨m,hm⟩:=zX (l.length)
 rw [<-hm] at hl ⊢
 have ah:(W:Int)*(H:Int)=(m:Int):=by rw [hl];simp
 have t7:((m:Int) != (m:Int))=false:=by simp
 have ai:m<=256:=by rw [hl];exact zL hw1 hh1
 have HN:=hid hm
 have HS:=hid hs
 clear hm hl hs
 go_enter Tryz.func85,Tryz.ntmps85
 go_wp2_with (go_at_call 109;refine (a4o _ _ _ _ hw0 hw1 hh0 hh1 h0 h1).mono ?_;rintro e w' ⟨rfl,rfl⟩)
 go_loopg [26] m (fun j i wr=>j<=m/\i=.int .i64 ((m-j:Nat):Int)/\w=wr)
 case atStart=>exact ⟨zQ _,by simp,rfl⟩
 case round =>
  obtain ⟨hj,rfl,rfl⟩:=hrel
  rcases gk with _ | j
  ·have t8:decide (((m-0:Nat):Int)<(m:Int))=false:=by simp
   go_wp2
   go_ret
   exact ⟨rfl,rfl⟩
  ·obtain ⟨i,ae⟩:=zX (m-(j+1))
   rw [<-ae]
   have ag:i<m:=by omega
   have ad:m-j=i+1:=by omega
   have HI:=hid ad
   clear ae ad
   have af:i<l.length:=by rw [<-HN.out];exact ag
   obtain ⟨g,o,rfl,aa⟩:=hc.at_ af
   have hx:=HS.out l[i] (zG _)
   obtain ⟨x,ac⟩:=zX (l[i])
   rw [<-ac] at aa hx
   have ab:w.cell? ⟨g,o+i,none⟩=some (.int .i64 x):=aa
   obtain ⟨al,an⟩:=hx
   have t9:decide (x<0)=false:=zA (by omega)
   have aj:decide ((2:Int)^d<=x)=false:=zA (by omega)
   clear aa ac af
   go_wp2
   go_roundg j
   case measure=>omega
   case rel =>
    rw [HI.out]
    exact ⟨by omega,by go_num,rfl⟩
theorem c5s (w:World) (b:Nat) (F ds:List Nat) (p k most u:Nat) (h:a1r w b F ds p) (hk:k<=25) (hu:u<=most) (hm:most<=65536) (ha:a0y ds p (a4d k (a1l u))) :
  Calls Tryz.prog 262 #[.pointer (some ⟨b,0,none⟩),.int .i64 k,.int .i64 most] w fun e w'=>e=.returned (.tuple #[.int .i64 u,.int .i64 0])/\a1r w' b F ds (p+(a4d k (a1l u)).length)/\Chg [b] w w':=by
 have ag:=b2i (u:=u) (by omega)
 have hg:=c8h w b F ds p k [a1l u] h hk (fun z hz=>by rw [zU.1 hz];exact ag) (by simp) (by simpa [a0r] using ha)
 rw [show (([a1l u]:List Int).length:Int)=1 from rfl] at hg
 have af:(a0r k [a1l u]).length=(a4d k (a1l u)).length:=by simp [a0r]
 rw [af] at hg
 have ac:=fun w'=>b9o (a1l u) w' ag
 rw [c8g] at ac
 have t1:decide ((u:Int)<=(most:Int))=true:=zB (by omega)
 have ak:decide (u<=most)=true:=zB (by omega)
 have am:IntKind.u64.wrap (most:Int)=(most:Int):=IntWalk.u64_in _ (by omega)
 have aj:IntKind.i64.wrap (u:Int)=(u:Int):=IntWalk.i64_in _ (by omega)
 generalize a1l u=x at *
 generalize (a4d k x).length=q at *
 clear h ha af
 go_enter Tryz.func262,Tryz.ntmps262
 go_wp2_with fail
 refine hg.mono ?_
 rintro e w1 ⟨v,G,rfl,own,ah,ai,hG⟩
 rcases own.cases with ⟨_,ad,_⟩ | ⟨g4,ab,rfl⟩
 ·exfalso
  have:=congrArg List.length ad
  simp at this
 obtain ⟨c4,rfl,_,_,aa,_⟩:=ab.oq
 have e0:=aa 0 x rfl
 have al:w1.cell? ⟨g4,0,none⟩=some (.int .i64 x):=e0
 rw [show (([x]:List Int).length)=1 from rfl]
 have ae:=ac w1
 clear hg own ab aa e0 ac
 go_wp2_with fail
 refine ae.mono ?_
 rintro e w' ⟨rfl,rfl⟩
 go_wp2
 go_ret2
 exact ⟨rfl,ah,ai⟩
theorem e5n (w:World) (b:Nat) (F ds:List Nat) (p k j W d:Nat) (t:Tok) (h:a1r w b F ds p) (hp:Pts w) (h0F:0∉F) (hk:k<=25) (hj:j<=25) (hw0:1<=W) (hw1:W<=64) (hd:d<=16) (ht:c3j d t) (ha:a0y ds p (a2v k j W d t)) :
  Calls Tryz.prog 228 #[.pointer (some ⟨b,0,none⟩),.int .i64 k,.int .i64 j,.int .i64 W,.int .i64 d] w fun e w'=>e=.returned (.tuple #[e1a t,.int .i64 0])/\a1r w' b F ds (p+(a2v k j W d t).length)/\Chg [b] w w':=by
 obtain ⟨br,aC⟩:=zX (w.heap.size)
 obtain ⟨w0,af⟩:=zX (w.alloc (.cells #[.int .i64 0,.int .i64 0,.int .i64 0] 201))
 have aQ:Blk w0 br 201 #[.int .i64 0,.int .i64 0,.int .i64 0]:=by rw [af,aC];exact Blk.new w _ _
 have au:Chg [] w w0:=by rw [af];exact (zR [] w).alloc _
 have aq:=h.same au
 have aV:=hp.same au
 have aM:br∉F:=fun hm=>by have:=h.lt _ hm;omega
 have ac:b≠br:=by have:=h.lt b h.mem;omega
 have aH:=h.mem
 have aL:=hid af
 have ar:=hid aC
 clear af aC h hp
 unfold a2v at ha ⊢
 rcases ht with ⟨hl,aS,aJ⟩ | ⟨hl,hc⟩
 ·rw [if_pos hl] at ha ⊢
  have a5:=Tok.isLit_iff.1 hl
  obtain ⟨a,c,x⟩:=t
  obtain ⟨rfl,rfl⟩:a=0/\c=0:=a5
  simp only at aS aJ ha ⊢
  have an:e1a ⟨0,0,x⟩=.agg #[.int .i64 0,.int .i64 0,.int .i64 x]:=rfl
  rw [an]
  obtain ⟨X,hX⟩:∃ X:Nat,X=x.toNat:=⟨_,rfl⟩
  have aB:x=(X:Int):=by omega
  have aF:X<2^d:=by
   have e:(2:Int)^d=((2^d:Nat):Int):=by simp
   rw [e,aB] at aJ
   omega
  have a0:X<65536:=Nat.lt_of_lt_of_le aF (show 2^d<=2^16 from Nat.pow_le_pow_right (by decide) hd)
  rw [<-hX] at ha ⊢
  rw [aB]
  have ao:=a0j w0 b F ds p 1 0 aq (by omega) (by decide) ha.left
  have ah:=ha.right
  rw [a0a] at ah
  have aj:=fun w' (hr:a1r w' b F ds (p+1))=>a0j w' b F ds (p+1) d X hr (by omega) aF ah
  rw [zC,a0a,a0a]
  have a8:IntKind.i64.wrap (X:Int)=(X:Int):=IntWalk.i64_in _ (by omega)
  have aD:=hid aj
  clear hX aB aF aS aJ ha ah aj hl an
  go_enter Tryz.func228,Tryz.ntmps228
  go_wp2_with fail
  rw [<-aL.out,<-ar.out]
  refine ao.mono ?_
  rintro e w1 ⟨rfl,ay,ak⟩
  have ap:=aQ.chg ak (by simpa using ac.symm)
  clear ao aq
  go_wp2_with fail
  refine (aD.out w1 ay).mono ?_
  rintro e w2 ⟨rfl,av,am⟩
  have ae:=ap.chg am (by simpa using ac.symm)
  have q0:=ae.cell 0
  have q1:=ae.cell 1
  have q2:=ae.cell 2
  have z0:=ae.frozen 0
  have z1:=ae.frozen 1
  have z2:=ae.frozen 2
  simp at q0 q1 q2
  obtain ⟨wF,ag⟩:=zX (((w2.setCell ⟨br,0,none⟩ (.int .i64 0)).setCell ⟨br,1,none⟩ (.int .i64 0)).setCell ⟨br,2,none⟩ (.int .i64 X))
  have aa:Blk wF br 201 #[.int .i64 0,.int .i64 0,.int .i64 X]:=by
   rw [ag]
   simpa using ((ae.set_ 0 (.int .i64 0)).set_ 1 (.int .i64 0)).set_ 2 (.int .i64 X)
  have ad:Chg [br] w2 wF:=by rw [ag];exact (((zR [br] w2).setCell (.inl (by simp)) _).setCell (.inl (by simp)) _).setCell (.inl (by simp)) _
  have f0:=aa.cell 0
  have f1:=aa.cell 1
  have f2:=aa.cell 2
  simp at f0 f1 f2
  have aE:=hid ag
  clear ag aa ap
  go_wp2_with (go_at_call 69;refine (a2b _ b F ds _ av).mono ?_;rintro e w' ⟨rfl,rfl⟩)
  rw [<-aE.out]
  refine bodyPost_ret (v:=.tuple #[.agg #[.int .i64 0,.int .i64 0,.int .i64 X],.int .i64 0]) (by simp [results,Tryz.results228,go_sem,f0,f1,f2]) rfl ?_
  exact ⟨rfl,(av.cast (by omega)).chg ad (fun z hz hm=>by simp at hm;exact aM (hm ▸ hz)),(((au.mono (by simp)).tq ak).tq am).trans ad (fun z hz => .inr (by simp at hz;have:=ar.out;omega))⟩
 ·rw [if_neg (by simp [hl])] at ha ⊢
  have a7:=Tok.isCopy_iff.1 hc
  obtain ⟨n,c,x⟩:=t
  obtain ⟨bc,a1,a4,aI,rfl⟩:3<=n/\n<=64/\1<=c/\c<=1024/\x=0:=a7
  have an:e1a ⟨n,c,0⟩=.agg #[.int .i64 n,.int .i64 c,.int .i64 0]:=rfl
  rw [an]
  have aw:=c6l (d:=c) (W:=W) a4
  have ao:=a0j w0 b F ds p 1 1 aq (by omega) (by decide) ha.left.left
  have ah:=ha.left.right
  have ax:=ha.right
  have e2:lenOf ⟨n,c,0⟩=a1l (n-3):=rfl
  have e3:a7c W ⟨n,c,0⟩=a1l (b4z c W-1):=rfl
  rw [zC,a0a,e2] at ax
  rw [a0a,e2] at ah
  rw [e3] at ax
  have aj:=fun w' (hr:a1r w' b F ds (p+1))=>c5s w' b F ds (p+1) k 61 (n-3) hr hk (by omega) (by decide) ah
  have al:=fun w' (hr:a1r w' b F ds (p+(1+(a4d k (a1l (n-3))).length)))=>c5s w' b F ds _ j 1047 (b4z c W-1) hr hj (by omega) (by decide) ax
  rw [zC,zC,a0a,e2,e3]
  have ab:=fun w' (hp:Pts w')=>d6x (b4z c W) W w' hp aw.1.1 (by omega) hw0 hw1
  rw [aw.2] at ab
  obtain ⟨cd,aK⟩:=zX (b4z c W)
  rw [<-aK] at al ab aw ⊢
  obtain ⟨c0,aO⟩:=zX (cd-1)
  have a9:(c0:Int)+1=(cd:Int):=by omega
  rw [<-aO] at al ⊢
  obtain ⟨n0,aP⟩:=zX (n-3)
  have ba:(n0:Int)+3=(n:Int):=by omega
  rw [<-aP] at aj al ⊢
  generalize (a4d k (a1l n0)).length=q1 at *
  generalize (a4d j (a1l c0)).length=q2 at *
  rw [show ((61:Nat):Int)=61 from rfl] at aj
  rw [show ((1047:Nat):Int)=1047 from rfl] at al
  have t1:(((1:Nat):Int)==0)=false:=rfl
  have aR:cd<=1048:=by omega
  have aD:=hid aj
  have a6:=hid al
  have aT:=hid ab
  clear ha ah ax aj al ab aK aO aP e2 e3 hl hc an aw
  go_enter Tryz.func228,Tryz.ntmps228
  go_wp2_with fail
  rw [<-aL.out,<-ar.out]
  refine ao.mono ?_
  rintro e w1 ⟨rfl,ay,ak⟩
  have ap:=aQ.chg ak (by simpa using ac.symm)
  have aY:=aV.chg ak (fun hm=>by simp at hm;exact h0F (hm ▸ aH))
  clear ao aq
  go_wp2_with fail
  refine (aD.out w1 ay).mono ?_
  rintro e w2 ⟨rfl,av,am⟩
  have ae:=ap.chg am (by simpa using ac.symm)
  have aU:=aY.chg am (fun hm=>by simp at hm;exact h0F (hm ▸ aH))
  go_wp2_with fail
  refine (a6.out w2 (av.cast (by omega))).mono ?_
  rintro e w3 ⟨rfl,a3,aA⟩
  have aN:=ae.chg aA (by simpa using ac.symm)
  have aW:=aU.chg aA (fun hm=>by simp at hm;exact h0F (hm ▸ aH))
  go_wp2_with fail
  refine (aT.out w3 aW).mono ?_
  rintro e bb ⟨rfl,n4,rfl⟩
  obtain ⟨w4,az⟩:=zX (w3.drewN n4)
  have aG:Chg [] w3 w4:=by rw [az];exact (zR [] w3).drewN n4
  rw [<-az]
  have ai:=aN.chg aG (by simp)
  have q0:=ai.cell 0
  have aX:=ai.cell 1
  have aZ:=ai.cell 2
  have z0:=ai.frozen 0
  have z1:=ai.frozen 1
  have z2:=ai.frozen 2
  simp at q0 aX aZ
  obtain ⟨wF,ag⟩:=zX (((w4.setCell ⟨br,0,none⟩ (.int .i64 n)).setCell ⟨br,1,none⟩ (.int .i64 c)).setCell ⟨br,2,none⟩ (.int .i64 0))
  have aa:Blk wF br 201 #[.int .i64 n,.int .i64 c,.int .i64 0]:=by
   rw [ag]
   simpa using ((ai.set_ 0 (.int .i64 n)).set_ 1 (.int .i64 c)).set_ 2 (.int .i64 0)
  have ad:Chg [br] w4 wF:=by rw [ag];exact (((zR [br] w4).setCell (.inl (by simp)) _).setCell (.inl (by simp)) _).setCell (.inl (by simp)) _
  have f0:=aa.cell 0
  have f1:=aa.cell 1
  have f2:=aa.cell 2
  simp at f0 f1 f2
  have aE:=hid ag
  have a2:=a3.same aG
  clear ag aa ap ae aN az
  go_wp2_with fail
  rw [<-aE.out]
  refine bodyPost_ret (v:=.tuple #[.agg #[.int .i64 n,.int .i64 c,.int .i64 0],.int .i64 0]) (by simp [results,Tryz.results228,go_sem,f0,f1,f2]) rfl ?_
  exact ⟨rfl,(a2.cast (by omega)).chg ad (fun z hz hm=>by simp at hm;exact aM (hm ▸ hz)),(((((au.mono (by simp)).tq ak).tq am).tq aA).trans aG (by simp)).trans ad (fun z hz => .inr (by simp at hz;have:=ar.out;omega))⟩
theorem f1m (w:World) (l:List Int) (v:Value) (F:List Nat) (i:Nat) (t:Tok) (ho:Own w 3 v F ((l.take i).map vi)) (hl:l.length<=4096) (hil:i<l.length) (ht:d8a l i t) (hok:t.ok) :
  Calls Tryz.prog 229 #[v,e1a t] w fun e w'=>∃ v' F',e=.returned v'/\Own w' 3 v' F' ((l.take (i+max t.len 1)).map vi)/\a0u F F' w w':=by
 obtain ⟨bt,am⟩:=zX (w.heap.size)
 have ai:=fun w'=>b9j t w'
 have aT:(l.take i).length=i:=by rw [zI];omega
 have aR:=hid ho.lt
 rcases ht with ⟨h1,h2,h3⟩ | ⟨h1,h2,h3,h4,h5⟩
 ·have ac:t.isLit=true:=Tok.isLit_iff.2 ⟨h1,h2⟩
  rw [ac] at ai
  obtain ⟨a,c,x⟩:=t
  simp only at h1 h2 h3
  subst h1 h2
  have an:e1a ⟨0,0,x⟩=.agg #[.int .i64 0,.int .i64 0,.int .i64 x]:=rfl
  rw [an] at ai ⊢
  have aP:l.take (i+max 0 1)=l.take i++[x]:=by
   rw [show i+max 0 1=i+1 by omega,a0o l hil,h3,zD,zF hil]
   rfl
  simp only
  rw [aP]
  obtain ⟨xs,al⟩:=zX (l.take i)
  rw [<-al] at ho aT ⊢
  obtain ⟨w0,ag⟩:=zX (w.alloc (.cells #[.int .i64 0,.int .i64 0,.int .i64 x] 201))
  have af:Blk w0 bt 201 #[.int .i64 0,.int .i64 0,.int .i64 x]:=by rw [ag,am];exact Blk.new w _ _
  have au:Chg [] w w0:=by rw [ag];exact (zR [] w).alloc _
  have ap:=ho.same au
  have q0:=af.cell 0
  have q1:=af.cell 1
  have q2:=af.cell 2
  simp at q0 q1 q2
  have ay:=hid ag
  have av:=hid am
  clear h3 aP al ac hok an ag am ho
  go_enter Tryz.func229,Tryz.ntmps229
  go_wp2_with fail
  rw [<-ay.out]
  refine (ai w0).mono ?_
  rintro e w1 ⟨rfl,aj⟩
  have aI:=(af.chg aj (by simp)).cell 2
  simp at aI
  rw [av.out] at aI
  have aw:=ap.same aj
  clear ai q0 q1 q2 af ap
  go_wp2_with (at_builtin;refine a0f rfl rfl a0p rfl rfl (aw.alloc _) (.int .i64 x) rfl ?c1 ?c2 ?c3 ?c4 ?_)
  case c1=>simp [go_sem]
  case c2=>rfl
  case c3=>rw [zE];omega
  case c4=>rw [zE];omega
  intro g2 aE w2 aC aq
  go_wp2_with fail
  go_ret
  exact ⟨_,[g2],rfl,by have:=aC.toOwn;simpa [vi] using this,a0u.pre ((au.tq aj).alloc _) aq⟩
 ·have ac:t.isLit=false:=by
   cases hq:t.isLit with
   | false=>rfl
   | true=>have := Tok.isLit_iff.1 hq;omega
  rw [ac] at ai
  have aQ:=Tok.isCopy_iff.1 (by rcases hok with h | h;rw [ac] at h;cases h;exact h)
  obtain ⟨n,c,x⟩:=t
  simp only at h1 h2 h3 h4 h5 aQ
  obtain rfl:x=0:=aQ.2.2.2.2
  have an:e1a ⟨n,c,0⟩=.agg #[.int .i64 n,.int .i64 c,.int .i64 0]:=rfl
  rw [an] at ai ⊢
  have aN:i+max n 1=i+n:=by omega
  simp only
  rw [aN]
  obtain ⟨w0,ag⟩:=zX (w.alloc (.cells #[.int .i64 n,.int .i64 c,.int .i64 0] 201))
  have af:Blk w0 bt 201 #[.int .i64 n,.int .i64 c,.int .i64 0]:=by rw [ag,am];exact Blk.new w _ _
  have au:Chg [] w w0:=by rw [ag];exact (zR [] w).alloc _
  have ap:=ho.same au
  have q0:=af.cell 0
  have q1:=af.cell 1
  have q2:=af.cell 2
  simp at q0 q1 q2
  have ay:=hid ag
  have av:=hid am
  have H5:=hid h5
  clear aN ac hok an ag am ho h5
  go_enter Tryz.func229,Tryz.ntmps229
  go_wp2_with fail
  rw [<-ay.out]
  refine (ai w0).mono ?_
  rintro e w1 ⟨rfl,aj⟩
  have aA:=af.chg aj (by simp)
  have aD:=aA.cell 0
  simp at aD
  rw [av.out] at aD
  have aw:=ap.same aj
  have aK:a0u F F w w1:=(a0u.refl F w).same (au.tq aj)
  have ar:bt∉F:=fun hm=>by have:=aR.out _ hm;have:=av.out;omega
  clear ai q0 q1 q2 af ap
  go_wp2_with fail
  go_loopg [0,14] n (fun k vl iv wr=>∃ (m:Nat) (F':List Nat),iv=.int .i64 m/\m+k=n/\Own wr 3 vl F' ((l.take (i+m)).map vi)/\Blk wr bt 201 #[.int .i64 n,.int .i64 c,.int .i64 0]/\bt∉F'/\a0u F F' w wr)
  case atStart=>exact ⟨0,F,rfl,by omega,aw,aA,ar,aK⟩
  case round =>
   clear aw aA ar aK aD
   obtain ⟨m,F',rfl,a3,ab,ak,aJ,aL⟩:=hrel
   rcases gk with _ | k
   ·obtain rfl:n=m:=by omega
    have t5:decide ((n:Int)<(n:Int))=false:=by simp
    have aU:decide (n<n)=false:=by simp
    obtain ⟨A,aZ,rfl,_,_,_⟩:=ab.oq
    go_wp2_with fail
    go_ret
    exact ⟨_,F',rfl,ab,aL⟩
   ·have aF:m<n:=by omega
    have t5:decide ((m:Int)<(n:Int))=true:=zB (by omega)
    have aU:decide (m<n)=true:=zB aF
    have ao:(l.take (i+m)).length=i+m:=by rw [zI];omega
    obtain ⟨q,hq⟩:=zX (i+m-c)
    have aG:q<i+m:=by omega
    obtain ⟨A,aZ,rfl,az,a0,aa⟩:=ab.oq
    obtain ⟨ga,oa,rfl,ad⟩:=aa.at_ (m:=q) (by rw [ao];exact aG)
    have aO:(l.take (i+m))[q]=l.getD (i+m) 0:=by
     rw [H5.out m aF,<-hq,List.getElem_take,zD,zF (by omega)]
     rfl
    rw [aO] at ad
    have aB:i+m<l.length:=by omega
    have ae:=a0o l aB
    have aM:l[i+m]=l.getD (i+m) 0:=by rw [zD,zF aB];rfl
    rw [aM] at ae
    generalize l.getD (i+m) 0=y at *
    have ax:wr.cell? ⟨ga,oa+q,none⟩=some (.int .i64 y):=ad
    obtain ⟨im,ah⟩:=zX (i+m)
    rw [<-ah] at ao ab ae aG aa az
    obtain ⟨xs,al⟩:=zX (l.take im)
    rw [<-al] at ao ab ae az aa
    have a1:(im:Int)-(c:Int)=(q:Int):=by omega
    have aH:=ak.cell 1
    simp at aH
    rw [av.out] at aH
    rw [ao] at ab az
    have aY:=ab.alloc (.cells #[.int .i64 y] 3)
    have aS:=hid ae
    have aV:=hid ah
    have aX:im<=4096:=by omega
    rw [<-ah,<-al,ao]
    clear ad aO aM ae ah al aa hq aB
    go_wp2_with (at_builtin;refine a0f rfl rfl a0p rfl rfl aY (.int .i64 y) rfl ?c1 ?c2 ?c3 ?c4 ?_)
    case c1=>simp [go_sem]
    case c2=>rfl
    case c3=>rw [zE];omega
    case c4=>rw [zE];omega
    intro g2 aE w2 aC aq
    go_wp2_with fail
    go_roundg k
    case measure=>omega
    case rel =>
     have a2:g2∉F'\/g2∈F':=by by_cases hh:g2∈F'<;>simp [hh]
     have aW:bt∉[g2]:=fun hm=>by
      simp at hm
      rcases aq.new g2 (by simp) with h9 | h9
      ·exact aJ (hm ▸ h9)
      ·have:=ak.lt;simp at h9;omega
     have e1:i+(m+1)=im+1:=by have:=aV.out;omega
     refine ⟨m+1,[g2],by go_num,by omega,?_,(Blk.alloc ak _).chg aq.chg aJ,aW,(aL.alloc _).trans aq⟩
     rw [e1,aS.out,zM]
     have:=aC.toOwn
     exact this
theorem e8u (w:World) (b:Nat) (F ds:List Nat) (p:Nat) (l:List Int) (W d:Nat) (T:List Tok) (h:a1r w b F ds p) (hp:Pts w) (h0F:0∉F) (hw0:1<=W) (hw1:W<=64) (h0:1<=d) (h1:d<=16) (hl:l.length<=4096) (hT:b2p l 0 T) (hok:∀ t∈T,c3j d t) (ha:a0y ds p (a3h T W d)) :
  Calls Tryz.prog 180 #[.pointer (some ⟨b,0,none⟩),.int .i64 l.length,.int .i64 W,.int .i64 d] w fun e w'=>∃ v G,e=.returned (.tuple #[v,.int .i64 0])/\Own w' 3 v G (l.map vi)/\a1r w' b F ds (p+(a3h T W d).length)/\Chg [b] w w'/\∀ x∈G,w.heap.size<=x:=by
 have aX:a3h T W d=a0b (a6u (a0h T)) 5++a0b (a6u (a0l W T)) 5++T.flatMap (a2v (a6u (a0h T)) (a6u (a0l W T)) W d):=rfl
 rw [aX] at ha ⊢
 rw [zC,zC,a0a,a0a]
 have hk:=a8p (a0h T)
 have hj:=a8p (a0l W T)
 generalize a6u (a0h T)=k at *
 generalize a6u (a0l W T)=j at *
 have aR:=a0j w b F ds p 5 k h (by omega) (by omega) ha.left.left
 have aC:=ha.left.right
 have aL:=ha.right
 rw [a0a] at aC
 rw [zC,a0a,a0a] at aL
 have aQ:=fun w' (hr:a1r w' b F ds (p+5))=>a0j w' b F ds (p+5) 5 j hr (by omega) (by omega) aC
 obtain ⟨n,hn⟩:=zX (l.length)
 rw [<-hn] at hl ⊢
 have t1:decide ((W:Int)<1)=false:=zA (by omega)
 have t2:decide ((64:Int)<(W:Int))=false:=zA (by omega)
 have t3:decide ((d:Int)<1)=false:=zA (by omega)
 have t4:decide ((16:Int)<(d:Int))=false:=zA (by omega)
 have t5:decide ((n:Int)<0)=false:=zA (by omega)
 have t6:decide ((4096:Int)<(n:Int))=false:=zA (by omega)
 have t7:decide ((25:Int)<(k:Int))=false:=zA (by omega)
 have t8:decide ((25:Int)<(j:Int))=false:=zA (by omega)
 have bi:=b0q (P:=Tryz.prog) a0p rfl .i64 .i64 n (by omega) (by omega)
 have bj:=h.lt b h.mem
 have HN:=hid hn
 have HA:=hid aL
 have HT:=hid hT
 have a6:=hid hok
 have a4:=hid aQ
 have a3:=hid h.lt
 have HP:=hid hp
 have bb:Hid (0∉[b]):=hid (by simp;intro e;exact h0F (e ▸ h.mem))
 clear hn aL hT hok aQ ha aC aX hp h
 go_enter Tryz.func180,Tryz.ntmps180
 go_wp2_with fail
 refine aR.mono ?_
 rintro e w1 ⟨rfl,aN,az⟩
 clear aR
 go_wp2_with fail
 refine (a4.out w1 aN).mono ?_
 rintro e w2 ⟨rfl,aK,aJ⟩
 have ac:=Row.room w2 n (by omega)
 obtain ⟨B,hB⟩:=zX (w2.heap.size)
 have aF:Chg [] w2 (w2.alloc (.cells (List.replicate n (Value.int .i64 0)).toArray 3)):=(zR [] w2).alloc _
 have aW:=aK.same aF
 have ak:=(az.tq aJ).trans aF (by simp)
 have aO:w.heap.size<=B:=by rw [hB];exact (az.tq aJ).size
 rw [<-hB] at ac
 have HB:=hid hB
 clear aN az aJ aF hB
 go_wp2_with (go_at_call 69;refine (a2b _ b F ds _ aK).mono ?_;rintro e w' ⟨rfl,rfl⟩)
 rw [<-HB.out]
 go_loopg [13,14,15] T.length (fun q vl va vb wr=>∃ (i p':Nat) (R:List Tok) (F':List Nat),R.length=q/\i<=n/\Own wr 3 vl F' ((l.take i).map vi)/\Hid (b2p l i R)/\Hid (∀ t∈R,c3j d t)/\a1r wr b F ds p'/\Hid (a0y ds p' (R.flatMap (a2v k j W d)))/\Hid (p'+(R.flatMap (a2v k j W d)).length=p+(5+5)+(T.flatMap (a2v k j W d)).length)/\Hid (Chg [b] w wr)/\Hid (∀ x∈F',w.heap.size<=x))
 case atStart=>exact ⟨0,p+(5+5),T,[B],rfl,by omega,by simpa using ac.toOwn,HT,a6,aW.cast (by omega),HA,hid rfl,hid ak,hid (by simpa using aO)⟩
 case round =>
  clear ac aK aW ak aO
  obtain ⟨i,p',R,F',aP,bg,aa,aZ,aV,aD,a7,aU,av,ao⟩:=hrel
  obtain ⟨A,bk,rfl,aT,bf,ab⟩:=aa.oq
  have an:(l.take i).length=i:=by rw [zI,<-HN.out];omega
  cases R with
  | nil =>
   have aY:n<=i:=by have:=aZ.out;rw [HN.out];exact this
   obtain rfl:n=i:=by omega
   have u1:decide (n<n)=false:=by simp
   have e1:l.take n=l:=by rw [HN.out,zN]
   have a0:=aU.out
   rw [an]
   rw [an,e1] at aa
   have aM:Hid (p'=p+(5+5+(T.flatMap (a2v k j W d)).length)):=hid (by
    rw [show (([]:List Tok).flatMap (a2v k j W d))=[] from rfl,List.length_nil] at a0
    omega)
   clear a0 e1 ab aT an
   go_wp2_with fail
   go_ret2
   exact ⟨_,F',rfl,aa,aD.cast aM.out,av.out,ao.out⟩
  | cons t R =>
   obtain ⟨aH,am,aS⟩:=aZ.out
   rcases gk with _ | q
   ·simp at aP
   have ba:i<n:=by rw [HN.out];exact aH
   have u1:decide (i<n)=true:=zB ba
   have aw:=a7.out
   rw [List.flatMap_cons] at aw
   have ad:=aV.out t (by simp)
   have aA:=e5n wr b F ds p' k j W d t aD (HP.out.chg av.out bb.out) h0F hk hj hw0 hw1 h1 ad aw.left
   have bd:=hid aw.right
   have bl:=hid am
   have aG:=hid aS
   have be:=hid ad
   have aq:=fun w' v F0 (ho:Own w' 3 v F0 ((l.take i).map vi))=>f1m w' l v F0 i t ho (by rw [<-HN.out];exact hl) aH am ad.ok
   have ag:i+max t.len 1<=n:=by
    rcases am with ⟨a1,_,_⟩ | ⟨a1,a2,_⟩
    ·rw [a1];omega
    ·rw [<-HN.out] at a2;omega
   have a8:t.dist<=i:=by
    rcases am with ⟨_,a1,_⟩ | ⟨_,_,_,a1,_⟩
    ·omega
    ·exact a1
   have bc:t.len<=n-i:=by omega
   have a5:=hid aq
   have aE:=hid ag
   obtain ⟨tl,ai⟩:=zX (t.len)
   obtain ⟨td,ah⟩:=zX (t.dist)
   obtain ⟨tx,ap⟩:=zX (t.lit)
   have ay:e1a t=.agg #[.int .i64 tl,.int .i64 td,.int .i64 tx]:=by rw [ai,ah,ap];rfl
   rw [<-ah] at a8
   rw [<-ai] at bc
   have u2:decide ((i:Int)<(td:Int))=false:=zA (by omega)
   have bm:decide (i<td)=false:=zA (by omega)
   obtain ⟨ni,aY⟩:=zX (n-i)
   have bh:(n:Int)-(i:Int)=(ni:Int):=by omega
   have u3:decide (ni<tl)=false:=zA (by omega)
   have a9:=hid ay
   rw [an]
   rw [an] at aa aT
   rw [ay] at aA
   clear aw aH am aS aq ag ai ah ap ay aY ab ad
   go_wp2_with fail
   refine aA.mono ?_
   rintro e w3 ⟨rfl,al,ak⟩
   have af:=aa.chg ak (fun x hx hm=>by simp at hm;have:=ao.out x hx;omega)
   clear aA aD aa
   have ax:=Blk.new w3 201 #[.int .i64 tl,.int .i64 td,.int .i64 tx]
   have k0:=ax.cell 0
   have k1:=ax.cell 1
   have k2:=ax.cell 2
   simp at k0 k1 k2
   have ae:=af.alloc (.cells #[.int .i64 tl,.int .i64 td,.int .i64 tx] 201)
   have aj:=a5.out _ _ _ ae
   rw [a9.out] at aj
   have aB:=hid al
   have au:=hid ak
   clear af ae al ak ax
   go_wp2_with fail
   refine aj.mono ?_
   rintro e w5 ⟨v5,F5,rfl,ar,aI⟩
   clear aj k0 k1 k2
   go_wp2_with fail
   go_roundg q
   case measure=>omega
   case rel =>
    refine ⟨i+max t.len 1,p'+(a2v k j W d t).length,R,F5,by simpa using aP,aE.out,ar,aG,hid (fun t' ht'=>aV.out t' (by simp [ht'])),(aB.out.same ((zR [] w3).alloc _)).chg aI.chg (fun x hx hm=>by have:=a3.out x hx;have:=ao.out x hm;omega),bd,hid ?_,hid ?_,hid ?_⟩
    ·have:=aU.out
     rw [List.flatMap_cons,zC] at this
     omega
    ·exact ((av.out.tq au.out).alloc _).trans aI.chg (fun x hx => .inr (ao.out x hx))
    ·intro x hx
     rcases aI.new x hx with h9 | h9
     ·exact ao.out x h9
     ·have:=av.out.size;have:=au.out.size;simp at h9;omega
end Go.Proofs.YtepjepkgcdfboaaGreatDoor
