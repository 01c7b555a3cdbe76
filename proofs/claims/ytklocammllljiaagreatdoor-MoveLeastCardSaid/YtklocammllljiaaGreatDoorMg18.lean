/- package match by its contracts, the second part: distances. -/
import Derived.Test.YtklocammllljiaaGreatDoorMg16
import Derived.Test.YtklocammllljiaaGreatDoorMg17
import Derived.Test.YtklocammllljiaaGreatDoorMg33
set_option linter.unusedVariables false
set_option linter.unusedSimpArgs false
set_option maxHeartbeats 4000000
set_option maxRecDepth 100000
namespace Go.Proofs.YtklocammllljiaaGreatDoor
open Go.RowKit
theorem zero95:Tryz.zeroCells214=((List.replicate 65 0).map i64).toArray:=by kernel_rfl
theorem zero94:Tryz.zeroCells213=((List.replicate 1025 0).map i64).toArray:=by kernel_rfl
theorem mdist_ok (l:List Int) (A:Option Addr) (cap at_ br:Nat) (rs:List Nat) (w:World) (hat:at_<l.length) (hll:l.length<=4096) (hc:Cells vi w A l) (hr:Vec w br 213 rs) (hro:RunsOk rs) (hA:Apt A l [br]) :
  Calls Tryz.prog 185 #[.slice A l.length cap,.int .i64 at_,.pointer (some ⟨br,0,none⟩)] w fun e w' =>
   e=.returned (.agg ((distF l at_ rs).dists.map i64).toArray)/\Vec w' br 213 (distF l at_ rs).runs/\Chg [br] w w':=by
 have bo:=Blk.lt hr
 obtain ⟨n,hn⟩:=zX (l.length)
 rw [<-hn] at hat hll ⊢
 obtain ⟨M,hM⟩:=zX (min at_ 1024)
 have a6:distF l at_ rs=dGo l at_ M 1 (dStart rs):=by rw [hM];rfl
 rw [a6]
 have aE:=dStart_ok hro
 obtain ⟨S,hS⟩:=zX (dGo l at_ M 1 (dStart rs))
 have aJ:S.Ok:=by rw [hS];exact dGo_ok _ _ _ aE (by omega)
 rw [<-hS]
 have HN:=hid hn
 have HS:=hid hS
 have HA:=hid hA
 have aZ:=hid aE
 have aS:=hid aJ
 have bu:M<=at_:=by omega
 have bx:M<=1024:=by omega
 have bl:at_<=M\/1024<=M:=by omega
 have a7:Vec (w.alloc (.cells Tryz.zeroCells214 214)) w.heap.size 214 (List.replicate 65 0):=by have:=Blk.new w 214 Tryz.zeroCells214;rw [zero95] at this;rw [zero95];exact this
 have bi:Vec ((w.alloc (.cells Tryz.zeroCells214 214)).alloc (.cells Tryz.zeroCells214 214)) (w.heap.size+1) 214 (List.replicate 65 0):=by
  have:=Blk.new (w.alloc (.cells Tryz.zeroCells214 214)) 214 Tryz.zeroCells214
  rw [show (w.alloc (.cells Tryz.zeroCells214 214)).heap.size=w.heap.size+1 by simp] at this
  rw [zero95] at this ⊢
  exact this
 have be:Chg [br] w ((w.alloc (.cells Tryz.zeroCells214 214)).alloc (.cells Tryz.zeroCells214 214)):=((zR [br] w).alloc _).alloc _
 have aU:Vec ((w.alloc (.cells Tryz.zeroCells214 214)).alloc (.cells Tryz.zeroCells214 214)) w.heap.size 214 (List.replicate 65 0):=Blk.alloc a7 _
 have bm:Vec ((w.alloc (.cells Tryz.zeroCells214 214)).alloc (.cells Tryz.zeroCells214 214)) br 213 rs:=Blk.alloc (Blk.alloc hr _) _
 have bn:(if (1024:Int)<(at_:Int) then (1024:Int) else (at_:Int))=(M:Int):=by split<;>omega
 clear hn a6 hS hA aE aJ hro hM hr a7 bl
 go_enter Tryz.func185,Tryz.ntmps185
 go_wp2_with fail
 go_loopg [8,9] M (fun j m iv wr=>∃ (d:Nat) (s:DSt),iv=.int .i64 d/\m=.int .i64 s.longest/\d+j=M+1/\1<=d/\Hid (S=dGo l at_ j d s)/\Hid s.Ok/\Vec wr br 213 s.runs/\Vec wr (w.heap.size+1) 214 s.dists/\Vec wr w.heap.size 214 (List.replicate 65 0)/\Chg [br] w wr)
 case atStart=>exact ⟨1,dStart rs,rfl,rfl,by omega,zQ _,HS,aZ,bm,bi,aU,be⟩
 case round =>
  obtain ⟨d,s,rfl,rfl,hj,bp,HG,ag,ah,aA,au,ay⟩:=hrel
  rcases gk with _ | j
  ·have bc:S=s:=HG.out
   have bj:d=M+1:=by omega
   clear HG
   have t1:decide ((d:Int)<=(M:Int))=false:=zA (by omega)
   have aF:(Tryz.prog.info? 214).map (·.size)=some 65:=by kernel_rfl
   subst bc
   have aN:(S.dists.map i64).length=65:=by rw [zE];exact aS.out.dl
   have aQ:(S.dists.map i64).toArray.size=65:=by simpa using aN
   have aI:(List.replicate 65 0 |>.map i64).toArray.size=65:=by simp
   have a2:Blk (wr.setCells w.heap.size 0 (S.dists.map i64)) w.heap.size 214 (S.dists.map i64).toArray:=Blk.setCells au _ (by rw [aI,aN])
   have aW:Chg [br] w (wr.setCells w.heap.size 0 (S.dists.map i64)):=Chg.setCells (.inr (zQ _)) _ _ _ ay
   have ae:Vec (wr.setCells w.heap.size 0 (S.dists.map i64)) br 213 S.runs:=Blk.chg ah (Chg.setCells (F:=[w.heap.size]) (.inl (by simp)) _ _ _ (zR _ _)) (by simp;omega)
   have HE:(S.dists.map i64).toArray.toList=S.dists.map i64:=rfl
   go_wp2_with (first
    | refine wpList_load_row rfl 214 (.tmp 7) rfl (w.heap.size+1) rfl _ _ _ _ aA Tryz.underlying214 rfl (by rw [aQ];exact aF) ?_
    | refine wpList_store_mid rfl 214 (.tmp 6) (.tmp 54) rfl w.heap.size 0 (S.dists.map i64).toArray rfl rfl (Blk.there au (by rw [aQ,aI];exact zQ _)) (by rw [aQ];exact aF) (vec_one _) ?_)
   all_goals exact bodyPost_ret (v:=.agg (S.dists.map i64).toArray) (results_cell_row rfl _ _ w.heap.size _ _ (0,0) _ rfl a2 Tryz.underlying214 rfl (by rw [aQ];exact aF)) rfl ⟨rfl,ae,aW⟩
  ·have bj:d<=M:=by omega
   have aL:=ag.out
   have aR:d<s.runs.length:=by rw [aL.rl];omega
   have aT:Cells vi wr A l:=hc.keep HA.out ay
   have a1:at_<l.length:=by rw [<-HN.out];exact hat
   have ai:at_-d<l.length:=by omega
   obtain ⟨g,o,rfl,ca⟩:=aT.at_ a1
   obtain ⟨g',o',e',cb⟩:=aT.at_ ai
   injection e' with e'
   injection e' with e1 e2 _
   subst e1
   subst e2
   have ga:l[at_]=l.getD at_ 0:=by rw [zD,zF a1];rfl
   have gb:l[at_-d]=l.getD (at_-d) 0:=by rw [zD,zF ai];rfl
   rw [ga] at ca
   rw [gb] at cb
   have bb:dGo l at_ (j+1) d s=dGo l at_ j (d+1) (dStep l at_ s d):=rfl
   rw [bb] at HG
   have aH:=dStep_ok (l:=l) (at_:=at_) aL (show d<=1024 by omega)
   have aP:runAt l at_ s.runs d=if l.getD at_ 0=l.getD (at_-d) 0 then min (s.runs.getD d 0+1) 64 else 0:=rfl
   have bf:=runAt_le l at_ s.runs d
   have ao:dStep l at_ s d=⟨s.runs.set d (runAt l at_ s.runs d),fillD (runAt l at_ s.runs d-s.longest) s.dists s.longest d,max s.longest (runAt l at_ s.runs d)⟩:=rfl
   have bq:=aL.l64
   have bg:s.runs.getD d 0<=64:=by rw [zD,zF aR];exact aL.r64 _ (zG aR)
   have aB:=ah.cell aR
   have aD:=Blk.frozen ah d
   generalize runAt l at_ s.runs d=r at *
   generalize l.getD at_ 0=xa at *
   generalize l.getD (at_-d) 0=xb at *
   generalize s.runs.getD d 0=ro at *
   have bs:wr.cell? ⟨g,o+at_,none⟩=some (.int .i64 xa):=ca
   have bh:wr.cell? ⟨g,o+(at_-d),none⟩=some (.int .i64 xb):=cb
   have bd:(at_:Int)-(d:Int)=((at_-d:Nat):Int):=by omega
   obtain ⟨ad,aM⟩:=zX (at_-d)
   rw [<-aM] at bh bd ai
   have bk:ad<n:=by rw [HN.out];exact ai
   have t1:decide ((d:Int)<=(M:Int))=true:=zB (by omega)
   have al:=hid ao
   have a0:=hid aP
   have aY:=hid aH
   clear ca cb ga gb bb aH ao aL a1 aR ai aT aP aM
   have a5:Hid (xa≠xb->r=0):=hid fun hq=>by rw [a0.out,if_neg hq]
   have a9:Hid (xa=xb->r=min (ro+1) 64):=hid fun hq=>by rw [a0.out,if_pos hq]
   clear a0
   have aC:(xa=xb/\r=ro+1/\ro<64)\/(xa=xb/\r=64/\ro=64)\/(xa≠xb/\r=0):=by
    by_cases hq:xa=xb
    ·have:=a9.out hq
     omega
    ·exact .inr (.inr ⟨hq,a5.out hq⟩)
   clear a5 a9
   rcases aC with ⟨hq,aG,a3⟩ | ⟨hq,aG,a3⟩ | ⟨hq,aG⟩
   ·have t3:(xa==xb)=true:=by simpa using hq
    have t4:decide ((64:Int)<(ro:Int)+1)=false:=zA (by omega)
    have er:(ro:Int)+1=(r:Int):=by omega
    clear aG hq
    go_upto_region 6 with (fail)
    go_quiet (fail)
    go_upto_region 7 with (fail)
    have ac:=ah.chg ((zR [] wr).drewN nq) (by simp)
    have ab:=ac.cell (i:=d) (by rw [ag.out.rl];omega)
    have aa:=Blk.frozen ac d
    refine wp_region_quiet_tail 11 (by kernel_rfl) (by kernel_rfl) ?_
    simp only [List.take_succ_cons,List.take_zero,List.drop_succ_cons,List.drop_zero]
    repeat (go_big_quiet_step (fail))
    refine wpQuiet_nil ?_
    intro _ aX
    obtain ⟨ak,rfl⟩:=aX
    go_wp2_with fail
    have ae:=ah.chg ((zR [] wr).drewN (nq+ak)) (by simp)
    have an:=ae.set_ d r
    have am:=Blk.far (aA.chg ((zR [] wr).drewN (nq+ak)) (by simp)) (p:=⟨br,d,none⟩) (by simp;omega) (.int .i64 r)
    have ap:=Blk.far (au.chg ((zR [] wr).drewN (nq+ak)) (by simp)) (p:=⟨br,d,none⟩) (by simp;omega) (.int .i64 r)
    have aq:=(ay.drewN (nq+ak)).setCell (p:=⟨br,d,none⟩) (.inl (by simp)) (.int .i64 r)
    have ax:(s.runs.set d r).length=1025:=by rw [List.length_set];exact ag.out.rl
    have av:(s.runs.set d r).getD d 0=r:=by rw [zD,List.getElem?_set_self (by rw [ag.out.rl];omega)];rfl
    have aO:=hid ax
    have aK:=hid av
    clear ax av aB aD ab aa ah ac aA au ay
    go_loopg [8] (r-s.longest) (fun j2 iv wr2=>∃ (m:Nat) (D:List Nat),iv=.int .i64 m/\Hid (fillD (r-s.longest) s.dists s.longest d=fillD j2 D m d)/\m+j2=max s.longest r/\s.longest<=m/\Hid (D.length=65)/\Vec wr2 br 213 (s.runs.set d r)/\Vec wr2 (w.heap.size+1) 214 D/\Vec wr2 w.heap.size 214 (List.replicate 65 0)/\Chg [br] w wr2)
    case atStart=>exact ⟨s.longest,s.dists,rfl,hid rfl,by omega,zQ _,hid ag.out.dl,an,am,ap,aq⟩
    case round =>
     obtain ⟨m,D,rfl,HF,a4,a8,aw,aj,af,az,ar⟩:=hrel
     clear an am ap aq
     have yc:=aj.cell (i:=d) (by rw [aO.out];omega)
     rw [aK.out] at yc
     rcases gk with _ | j2
     ·have t5:decide ((m:Int)<(r:Int))=false:=zA (by omega)
      go_wp2_with fail
      go_roundg j
      case measure=>omega
      case rel =>
       have hD:fillD (r-s.longest) s.dists s.longest d=D:=HF.out
       refine ⟨d+1,dStep l at_ s d,by go_num,?_,by omega,by omega,HG,aY,?_,?_,az,ar⟩
       ·rw [al.out];exact congrArg (fun z:Nat=>Value.int .i64 z) (show m=max s.longest r by omega)
       ·rw [al.out];exact aj
       ·rw [al.out];show Vec _ _ _ (fillD (r-s.longest) s.dists s.longest d);rw [hD];exact af
     ·have ba:m<r:=by omega
      have t5:decide ((m:Int)<(r:Int))=true:=zB (by omega)
      have cD:=af.cell (i:=m+1) (by rw [aw.out];omega)
      have fD:=Blk.frozen af (m+1)
      go_wp2_with fail
      go_roundg j2
      case measure=>omega
      case rel =>
       refine ⟨m+1,D.set (m+1) d,by go_num,HF,by omega,by omega,hid (by rw [List.length_set];exact aw.out),Blk.far aj (by simp;omega) _,af.set_ _ _,Blk.far az (by simp) _,ar.setCell (.inr (by simp)) _⟩
   ·have t3:(xa==xb)=true:=by simpa using hq
    have t4:decide ((64:Int)<(ro:Int)+1)=true:=zB (by omega)
    have bw:(64:Int)<(ro:Int)+1:=by omega
    have aV:=hid aG
    have bv:=hid a3
    clear aG a3 hq
    go_upto_region 6 with (fail)
    go_quiet (fail)
    go_upto_region 7 with (fail)
    have ac:=ah.chg ((zR [] wr).drewN nq) (by simp)
    have ab:=ac.cell (i:=d) (by rw [ag.out.rl];omega)
    have aa:=Blk.frozen ac d
    refine wp_region_quiet_tail 11 (by kernel_rfl) (by kernel_rfl) ?_
    simp only [List.take_succ_cons,List.take_zero,List.drop_succ_cons,List.drop_zero]
    repeat (go_big_quiet_step (fail))
    refine wpQuiet_nil ?_
    intro _ aX
    obtain ⟨ak,rfl⟩:=aX
    go_wp2_with fail
    have ae:=ah.chg ((zR [] wr).drewN (nq+ak)) (by simp)
    have an:Vec (((wr.drewN (nq+ak))).setCell ⟨br,d,none⟩ (.int .i64 64)) br 213 (s.runs.set d r):=by rw [aV.out];exact ae.set_ d 64
    have am:=Blk.far (aA.chg ((zR [] wr).drewN (nq+ak)) (by simp)) (p:=⟨br,d,none⟩) (by simp;omega) (.int .i64 64)
    have ap:=Blk.far (au.chg ((zR [] wr).drewN (nq+ak)) (by simp)) (p:=⟨br,d,none⟩) (by simp;omega) (.int .i64 64)
    have aq:=(ay.drewN (nq+ak)).setCell (p:=⟨br,d,none⟩) (.inl (by simp)) (.int .i64 64)
    have ax:(s.runs.set d r).length=1025:=by rw [List.length_set];exact ag.out.rl
    have av:(s.runs.set d r).getD d 0=r:=by rw [zD,List.getElem?_set_self (by rw [ag.out.rl];omega)];rfl
    have aO:=hid ax
    have aK:=hid av
    clear ax av aB aD ab aa ah ac aA au ay
    go_loopg [8] (r-s.longest) (fun j2 iv wr2=>∃ (m:Nat) (D:List Nat),iv=.int .i64 m/\Hid (fillD (r-s.longest) s.dists s.longest d=fillD j2 D m d)/\m+j2=max s.longest r/\s.longest<=m/\Hid (D.length=65)/\Vec wr2 br 213 (s.runs.set d r)/\Vec wr2 (w.heap.size+1) 214 D/\Vec wr2 w.heap.size 214 (List.replicate 65 0)/\Chg [br] w wr2)
    case atStart=>exact ⟨s.longest,s.dists,rfl,hid rfl,by omega,zQ _,hid ag.out.dl,an,am,ap,aq⟩
    case round =>
     obtain ⟨m,D,rfl,HF,a4,a8,aw,aj,af,az,ar⟩:=hrel
     clear an am ap aq
     have yc:=aj.cell (i:=d) (by rw [aO.out];omega)
     rw [aK.out] at yc
     rcases gk with _ | j2
     ·have t5:decide ((m:Int)<(r:Int))=false:=zA (by omega)
      go_wp2_with fail
      go_roundg j
      case measure=>omega
      case rel =>
       have hD:fillD (r-s.longest) s.dists s.longest d=D:=HF.out
       refine ⟨d+1,dStep l at_ s d,by go_num,?_,by omega,by omega,HG,aY,?_,?_,az,ar⟩
       ·rw [al.out];exact congrArg (fun z:Nat=>Value.int .i64 z) (show m=max s.longest r by omega)
       ·rw [al.out];exact aj
       ·rw [al.out];show Vec _ _ _ (fillD (r-s.longest) s.dists s.longest d);rw [hD];exact af
     ·have ba:m<r:=by omega
      have t5:decide ((m:Int)<(r:Int))=true:=zB (by omega)
      have cD:=af.cell (i:=m+1) (by rw [aw.out];omega)
      have fD:=Blk.frozen af (m+1)
      go_wp2_with fail
      go_roundg j2
      case measure=>omega
      case rel =>
       refine ⟨m+1,D.set (m+1) d,by go_num,HF,by omega,by omega,hid (by rw [List.length_set];exact aw.out),Blk.far aj (by simp;omega) _,af.set_ _ _,Blk.far az (by simp) _,ar.setCell (.inr (by simp)) _⟩
   ·have t3:(xa==xb)=false:=by simpa using hq
    have aV:=hid aG
    clear aG hq
    go_upto_region 6 with (fail)
    go_quiet (fail)
    have ab:=(ah.chg ((zR [] wr).drewN nq) (by simp)).cell (i:=d) (by rw [ag.out.rl];omega)
    have aa:=Blk.frozen (ah.chg ((zR [] wr).drewN nq) (by simp)) d
    go_wp2_with fail
    have ae:=ah.chg ((zR [] wr).drewN nq) (by simp)
    have an:Vec (((wr.drewN nq)).setCell ⟨br,d,none⟩ (.int .i64 0)) br 213 (s.runs.set d r):=by rw [aV.out];exact ae.set_ d 0
    have am:=Blk.far (aA.chg ((zR [] wr).drewN nq) (by simp)) (p:=⟨br,d,none⟩) (by simp;omega) (.int .i64 0)
    have ap:=Blk.far (au.chg ((zR [] wr).drewN nq) (by simp)) (p:=⟨br,d,none⟩) (by simp;omega) (.int .i64 0)
    have aq:=(ay.drewN nq).setCell (p:=⟨br,d,none⟩) (.inl (by simp)) (.int .i64 0)
    have ax:(s.runs.set d r).length=1025:=by rw [List.length_set];exact ag.out.rl
    have av:(s.runs.set d r).getD d 0=r:=by rw [zD,List.getElem?_set_self (by rw [ag.out.rl];omega)];rfl
    have aO:=hid ax
    have aK:=hid av
    clear ax av aB aD ab aa ah aA au ay
    go_loopg [8] (r-s.longest) (fun j2 iv wr2=>∃ (m:Nat) (D:List Nat),iv=.int .i64 m/\Hid (fillD (r-s.longest) s.dists s.longest d=fillD j2 D m d)/\m+j2=max s.longest r/\s.longest<=m/\Hid (D.length=65)/\Vec wr2 br 213 (s.runs.set d r)/\Vec wr2 (w.heap.size+1) 214 D/\Vec wr2 w.heap.size 214 (List.replicate 65 0)/\Chg [br] w wr2)
    case atStart=>exact ⟨s.longest,s.dists,rfl,hid rfl,by omega,zQ _,hid ag.out.dl,an,am,ap,aq⟩
    case round =>
     obtain ⟨m,D,rfl,HF,a4,a8,aw,aj,af,az,ar⟩:=hrel
     clear an am ap aq
     have yc:=aj.cell (i:=d) (by rw [aO.out];omega)
     rw [aK.out] at yc
     rcases gk with _ | j2
     ·have t5:decide ((m:Int)<(r:Int))=false:=zA (by omega)
      go_wp2_with fail
      go_roundg j
      case measure=>omega
      case rel =>
       have hD:fillD (r-s.longest) s.dists s.longest d=D:=HF.out
       refine ⟨d+1,dStep l at_ s d,by go_num,?_,by omega,by omega,HG,aY,?_,?_,az,ar⟩
       ·rw [al.out];exact congrArg (fun z:Nat=>Value.int .i64 z) (show m=max s.longest r by omega)
       ·rw [al.out];exact aj
       ·rw [al.out];show Vec _ _ _ (fillD (r-s.longest) s.dists s.longest d);rw [hD];exact af
     ·have ba:m<r:=by omega
      have t5:decide ((m:Int)<(r:Int))=true:=zB (by omega)
      have cD:=af.cell (i:=m+1) (by rw [aw.out];omega)
      have fD:=Blk.frozen af (m+1)
      go_wp2_with fail
      go_roundg j2
      case measure=>omega
      case rel =>
       refine ⟨m+1,D.set (m+1) d,by go_num,HF,by omega,by omega,hid (by rw [List.length_set];exact aw.out),Blk.far aj (by simp;omega) _,af.set_ _ _,Blk.far az (by simp) _,ar.setCell (.inr (by simp)) _⟩
theorem tok_elem:Elem Tryz.prog 177 211 (.agg #[.int .i64 0,.int .i64 0,.int .i64 0]) 3 24:=.mk' Tryz.underlying177 (by kernel_rfl)
def TVec (w:World) (g:Nat) (l:List Tok):Prop:=Blk w g 211 (l.flatMap tokCells).toArray
theorem TVec.cell {w:World} {g:Nat} {l:List Tok} (h:TVec w g l) {i:Nat} (hi:i<l.length) :
  w.cell? ⟨g,i*3,none⟩=some (.int .i64 (tokAt l i).len)/\w.cell? ⟨g,i*3+1,none⟩=some (.int .i64 (tokAt l i).dist)/\w.cell? ⟨g,i*3+2,none⟩=some (.int .i64 (tokAt l i).lit):=by
 have hg:l[i]?=some (tokAt l i):=by unfold tokAt;rw [zD,zF hi];rfl
 obtain ⟨a,b,c⟩:=tok_flat_get hg
 refine ⟨?_,?_,?_⟩
 ·rw [Blk.cell h];simpa using a
 ·rw [Blk.cell h];simpa using b
 ·rw [Blk.cell h];simpa using c
theorem flat_set (l:List Tok) (i:Nat) (t:Tok):(((l.flatMap tokCells).set (i*3) (.int .i64 t.len)).set (i*3+1) (.int .i64 t.dist)).set (i*3+2) (.int .i64 t.lit)=(l.set i t).flatMap tokCells:=by
 induction l generalizing i with
 | nil=>simp
 | cons s l ih =>
  cases i with
  | zero=>simp [tokCells]
  | succ i =>
   rw [List.set_cons_succ,List.flatMap_cons,List.flatMap_cons,<-ih i]
   have e:tokCells s=[.int .i64 s.len,.int .i64 s.dist,.int .i64 s.lit]:=rfl
   rw [e,show (i+1)*3=i*3+1+1+1 by omega,show i*3+1+1+1+1=(i*3+1)+1+1+1 by omega,show i*3+1+1+1+2=(i*3+2)+1+1+1 by omega]
   simp only [List.cons_append,List.nil_append,List.set_cons_succ]
theorem TVec.set_ {w:World} {g:Nat} {l:List Tok} (h:TVec w g l) (i:Nat) (t:Tok) :
  TVec (((w.setCell ⟨g,i*3,none⟩ (.int .i64 t.len)).setCell ⟨g,i*3+1,none⟩ (.int .i64 t.dist)).setCell ⟨g,i*3+2,none⟩ (.int .i64 t.lit)) g (l.set i t):=by
 have h1:=((Blk.set_ h (i*3) (.int .i64 t.len)).set_ (i*3+1) (.int .i64 t.dist)).set_ (i*3+2) (.int .i64 t.lit)
 unfold TVec
 rw [<-flat_set]
 simpa using h1
theorem madeCells3 (v:Value) (n:Nat):madeCells #[v,v,v] (n*3)=(List.replicate (n*3) v).toArray:=by
 apply Array.ext
 ·simp [size_madeCells]
 ·intro j h1 h2
  have h3:j%3<3:=Nat.mod_lt _ (by decide)
  have:∀ k,k<3->(#[v,v,v]:Array Value)[k]! = v:=fun k hk=>by
   match k,hk with
   | 0,_=>rfl
   | 1,_=>rfl
   | 2,_=>rfl
  simp only [madeCells,Array.getElem_map,Array.getElem_range,List.getElem_toArray,List.getElem_replicate]
  exact this _ h3
theorem flat_zero (n:Nat):(List.replicate n (⟨0,0,0⟩:Tok)).flatMap tokCells=List.replicate (n*3) (.int .i64 0):=by
 induction n with
 | zero=>rfl
 | succ n ih =>
  rw [List.replicate_succ,List.flatMap_cons,ih,show (n+1)*3=n*3+1+1+1 by omega,List.replicate_succ,List.replicate_succ,List.replicate_succ]
  rfl
theorem make_toks (kl kc:IntKind) (n:Nat) (hn:n<=1099511627776) (w:World) :
  (Instr.makeSlice 177 (.int kl (n:Int)) (.int kc (n:Int))).run Tryz.prog w=.ok (.slice (some ⟨w.heap.size,0,none⟩) n n) (w.alloc (.cells ((List.replicate n (⟨0,0,0⟩:Tok)).flatMap tokCells).toArray 211)):=by
 obtain ⟨i,hi,hz,aa,ab⟩:=tok_elem.hi
 have hr:=run_make (P:=Tryz.prog) w 177 211 i _ tok_elem.ht hi hz kl kc n n (by omega) (Int.le_refl _) (by rw [ab];omega) (by omega)
 rw [hr,aa,flat_zero]
 simp only [Int.toNat_natCast]
 have e:(Value.agg #[.int .i64 0,.int .i64 0,.int .i64 0]).cells=#[.int .i64 0,.int .i64 0,.int .i64 0]:=rfl
 rw [e,madeCells3]
theorem idx65 (D:List Nat) (hD:D.length=65) (m:Nat) (hm:m<65) (w:World) :
  (Instr.index 214 (.agg (D.map i64).toArray) (.int .i64 m)).run Tryz.prog w=.ok (.int .i64 (D.getD m 0:Nat)) w:=by
 have h5:D[m]?=some (D.getD m 0):=by
  have:m<D.length:=by omega
  simp [zD,zF this]
 generalize D.getD m 0=x at *
 have h6:(0:Int)<=(m:Int)/\(m:Int)<65:=by omega
 simp [Instr.index,run_underlying Tryz.underlying214,asIntOf,go_sem,h6,h5,hm,i64]
structure IsLs (w:World) (b:Nat) (s:LSt):Prop where
 vr:Vec w b 213 s.runs
 vc:Vec w (b+1) 3 s.costs
 vf:TVec w (b+1+1) s.first
theorem ls_new (w:World) (n:Nat):IsLs (((w.alloc (.cells Tryz.zeroCells213 213)).alloc (.cells (List.replicate (n+1) (Value.int .i64 0)).toArray 3)).alloc (.cells ((List.replicate n (⟨0,0,0⟩:Tok)).flatMap tokCells).toArray 211)) w.heap.size (lStart n):=by
 refine ⟨Blk.alloc (Blk.alloc ?_ _) _,Blk.alloc ?_ _,?_⟩
 ·have:=Blk.new w 213 Tryz.zeroCells213
  rw [zero94] at this ⊢
  exact this
 ·have:=Blk.new (w.alloc (.cells Tryz.zeroCells213 213)) 3 (List.replicate (n+1) (Value.int .i64 0)).toArray
  rw [show (w.alloc (.cells Tryz.zeroCells213 213)).heap.size=w.heap.size+1 by simp] at this
  have e:((lStart n).costs.map i64).toArray=(List.replicate (n+1) (Value.int .i64 0)).toArray:=by
   show ((List.replicate (n+1) 0).map i64).toArray=_
   rw [List.map_replicate]
   rfl
  rw [<-e] at this ⊢
  exact this
 ·have:=Blk.new ((w.alloc (.cells Tryz.zeroCells213 213)).alloc (.cells (List.replicate (n+1) (Value.int .i64 0)).toArray 3)) 211 ((List.replicate n (⟨0,0,0⟩:Tok)).flatMap tokCells).toArray
  rw [show ((w.alloc (.cells Tryz.zeroCells213 213)).alloc (.cells (List.replicate (n+1) (Value.int .i64 0)).toArray 3)).heap.size=w.heap.size+1+1 by simp] at this
  exact this
theorem IsLs.same {w w':World} {b:Nat} {s:LSt} (h:IsLs w b s) (hc:Chg [] w w'):IsLs w' b s:=⟨h.vr.chg hc (by simp),h.vc.chg hc (by simp),Blk.chg h.vf hc (by simp)⟩
theorem least_ok (l:List Int) (A:Option Addr) (cap lit cp:Nat) (w:World) (hll:l.length<=4096) (hc:Cells vi w A l) (h0:1<=lit) (h1:lit<=1048576) (h2:1<=cp) (h3:cp<=1048576) :
  Calls Tryz.prog 139 #[.slice A l.length cap,.int .i64 lit,.int .i64 cp] w fun e w' =>
   ∃ (A':Option Addr) (cap':Nat),e=.returned (.slice A' (leastF l lit cp).length cap')/\Toks w' A' (leastF l lit cp)/\Chg [] w w'/\∀ ad,A'=some ad->w.heap.size<=ad.block:=by
 have ah:=leastF_len l lit cp
 have aJ:leastF l lit cp=tokGo (leastSt l lit cp).first l.length l.length 0:=rfl
 have av:leastSt l lit cp=lGo l lit cp l.length (lStart l.length):=rfl
 have aT:=leastSt_ok l lit cp
 have ay:=lStart_ok l.length lit
 have ac:=fun k s (a:LSt.Ok l.length lit (k+1) s) (b:k<l.length)=>lStep_ok (l:=l) (cp:=cp) a b
 have ar:=fun k s (a:LSt.Ok l.length lit (k+1) s) (b:k<l.length)=>lBeg_ok (l:=l) a b
 have ae:=fun at_ br rs w (a:at_<l.length) (b:Cells vi w A l) c d e=>mdist_ok l A cap at_ br rs w a hll b c d e
 obtain ⟨T,hT⟩:=zX (leastF l lit cp)
 rw [<-hT] at aJ ah ⊢
 obtain ⟨S,hS⟩:=zX (leastSt l lit cp)
 rw [<-hS] at aJ av aT
 obtain ⟨n,hn⟩:=zX (l.length)
 rw [<-hn] at aJ av aT ay ac ar ae hll ah ⊢
 have t1:decide ((lit:Int)<1)=false:=zA (by omega)
 have t2:decide ((1048576:Int)<(lit:Int))=false:=zA (by omega)
 have t3:decide ((cp:Int)<1)=false:=zA (by omega)
 have t4:decide ((1048576:Int)<(cp:Int))=false:=zA (by omega)
 have aD:=run_make1 (P:=Tryz.prog) int_elem rfl .i64 .i64 (n+1) (by omega) (by omega)
 have e1:((n+1:Nat):Int)=(n:Int)+1:=by omega
 rw [e1] at aD
 have bc:=make_toks .i64 .i64 n (by omega)
 have HT:=hid aJ
 have HS:=hid av
 have bk:=hid aT
 have a8:=hid ay
 have b4:=hid ac
 have bR:=hid ar
 have bK:=hid ae
 have HN:=hid hn
 have bT:=hid ah
 clear aJ av aT ay ac ar ae hn ah hT hS
 go_enter Tryz.func139,Tryz.ntmps139
 go_wp2_with fail
 have aa:=ls_new w n
 have ab:Chg [] w (((w.alloc (.cells Tryz.zeroCells213 213)).alloc (.cells (List.replicate (n+1) (Value.int .i64 0)).toArray 3)).alloc (.cells ((List.replicate n (⟨0,0,0⟩:Tok)).flatMap tokCells).toArray 211)):=(((zR [] w).alloc _).alloc _).alloc _
 have eR:(List.replicate (n+1) (Value.int .i64 0)).toArray=Array.replicate (n+1) (Value.int .i64 0):=by simp
 rw [eR] at aa ab
 clear aD bc eR
 go_loopg [10] n (fun k iv wr=>∃ (s:LSt) (a:Int),iv=.int .i64 a/\a=(k:Int)-1/\k<=n/\Hid (S=lGo l lit cp k s)/\Hid (s.Ok n lit k)/\IsLs wr w.heap.size s/\Chg [] w wr)
 case atStart=>exact ⟨lStart n,_,rfl,rfl,zQ _,HS,a8,aa,ab⟩
 case round =>
  obtain ⟨s,a,rfl,ha,ca,HG,aI,aa,ab⟩:=hrel
  rcases gk with _ | k
  ·have bV:a<0:=by omega
   clear ha
   have tn:decide ((0:Int)<=a)=false:=zA (by omega)
   have bL:S=s:=HG.out
   subst bL
   have bh:S.first.length=n:=bk.out.pair.fl
   have bH:∀ t∈S.first,t.ok:=bk.out.pair.fo
   have aX:=hid bh
   have b3:=hid bH
   have aw:=aa.vf
   clear bh bH aa hc
   go_wp2_with fail
   go_loopg [14,15] n (fun j v iv wr=>∃ (i:Nat) (done:List Tok) (F:List Nat),iv=.int .i64 i/\Hid (T=done++tokGo S.first n j i)/\n<=i+j/\i<=n+64/\OwnK wr 211 3 v F done.length (done.flatMap tokCells)/\(∀ x∈F,w.heap.size+1+1<x)/\TVec wr (w.heap.size+1+1) S.first/\Chg [] w wr)
   case atStart=>exact ⟨0,[],[],rfl,HT,by omega,by omega,OwnK.nil _ _ _,by simp,aw,ab⟩
   case round =>
    clear aw ab
    obtain ⟨i,done,F,rfl,ax,ce,cm,ai,hF,aw,ab⟩:=hrel
    obtain ⟨A',cap',rfl,_,_,bY,bS⟩:=ai.open_
    by_cases hin:i<n
    ·have t5:decide ((i:Int)<(n:Int))=true:=zB (by omega)
     rcases gk with _ | j
     ·omega
     obtain ⟨c1,c2,c3⟩:=aw.cell (i:=i) (by rw [aX.out];exact hin)
     have aV:tokGo S.first n (j+1) i=tokAt S.first i::tokGo S.first n j (i+max (tokAt S.first i).len 1):=by rw [tokGo,if_pos hin]
     rw [aV] at ax
     clear aV
     have bC:done.length+1<=4096:=by
      have h6:=bT.out
      rw [ax.out,zC,zK] at h6
      omega
     have bj:(tokAt S.first i).ok:=by
      unfold tokAt
      have bg:i<S.first.length:=by rw [aX.out];exact hin
      rw [zD,zF bg]
      exact b3.out _ (zG bg)
     have b7:(tokAt S.first i).len<=64:=by
      rcases bj with h | h
      ·have:=(Tok.isLit_iff.1 h).1;omega
      ·exact (Tok.isCopy_iff.1 h).2.1
     have bE:(done++[tokAt S.first i]).flatMap tokCells=done.flatMap tokCells++tokCells (tokAt S.first i):=by simp
     have bu:=hid bE
     have bx:tokCells (tokAt S.first i)=[.int .i64 (tokAt S.first i).len,.int .i64 (tokAt S.first i).dist,.int .i64 (tokAt S.first i).lit]:=rfl
     obtain ⟨dn,aA⟩:=zX (done.length)
     have aB:=hid aA
     have b0:max (tokAt S.first i).len 1=(tokAt S.first i).len/\1<=(tokAt S.first i).len\/max (tokAt S.first i).len 1=1/\(tokAt S.first i).len<1:=by omega
     generalize ht:tokAt S.first i=t at *
     rw [<-aA] at ai bC ⊢
     generalize hta:t.len=ta at *
     generalize htb:t.dist=tb at *
     generalize htd:t.lit=td at *
     have bI:=hid bx
     have b5:=hid (And.intro ht hta)
     have aY:=hid hF
     have aj:=Blk.new wr 211 #[.int .i64 ta,.int .i64 tb,.int .i64 td]
     have al:=ai.same ((zR [] wr).alloc (.cells #[.int .i64 ta,.int .i64 tb,.int .i64 td] 211))
     clear bx bj bE ht aA hta htb htd hF ai
     go_wp2_with (at_builtin;refine wpList_append_k1 rfl rfl tok_elem rfl (by decide) rfl al [.int .i64 ta,.int .i64 tb,.int .i64 td] rfl rfl ?c1 ?c2 ?c3 ?c4 ?_)
     case c1 =>
      intro q u hq
      match q,hq with
      | 0,hq=>rw [<-hq];exact aj.cell 0
      | 1,hq=>rw [<-hq];exact aj.cell 1
      | 2,hq=>rw [<-hq];exact aj.cell 2
      | q+3,hq=>simp at hq
     case c2=>intro u hu;simp at hu;rcases hu with rfl | rfl | rfl<;>rfl
     case c3=>omega
     case c4=>omega
     intro g' b6 w3 am af
     have aq:TVec w3 (w.heap.size+1+1) S.first:=Blk.chg (Blk.alloc aw _) af.chg (fun hm=>by have:=aY.out _ hm;omega)
     have aS:Chg [] w w3:=(ab.alloc _).trans af.chg (fun x hx => .inr (by have:=aY.out _ hx;omega))
     have bl:∀ x∈[g'],w.heap.size+1+1<x:=fun x hx=>by
      rcases af.new x hx with h | h
      ·exact aY.out _ h
      ·have h7:=Blk.lt aw
       have h8:(wr.alloc (.cells #[.int .i64 ta,.int .i64 tb,.int .i64 td] 211)).heap.size=wr.heap.size+1:=by simp
       omega
     obtain ⟨d1,d2,d3⟩:=aq.cell (i:=i) (by rw [aX.out];exact hin)
     have HD:=hid bC
     obtain ⟨bw,aH⟩:tokAt S.first i=t/\t.len=ta:=b5.out
     rw [bw,aH] at d1
     clear d2 d3 aw ab aj al af c1 c2 c3 bw aH
     have bm:=hid bl
     have bp:=hid aq
     have bB:=hid aS
     have bi:=hid am
     clear bl aq aS am
     rcases b0 with ⟨a0,bW⟩ | ⟨a0,bW⟩
     ·rw [a0] at ax
      have tm:decide ((ta:Int)<1)=false:=zA (by omega)
      have bX:(1:Int)<=(ta:Int):=by omega
      go_wp2_with fail
      go_roundg j
      case measure=>omega
      case rel =>
       refine ⟨i+ta,done++[t],[g'],by go_num,hid (by rw [ax.out,zH];rfl),by omega,by omega,?_,bm.out,bp.out,bB.out⟩
       have h9:=bi.out
       rw [aB.out,show done.length+1=(done++[t]).length by simp] at h9
       rw [bu.out,bI.out,aB.out,show done.length+1=(done++[t]).length by simp]
       exact h9
     ·rw [a0] at ax
      have tm:decide ((ta:Int)<1)=true:=zB (by omega)
      have bX:(ta:Int)<1:=by omega
      go_wp2_with fail
      go_roundg j
      case measure=>omega
      case rel =>
       refine ⟨i+1,done++[t],[g'],by go_num,hid (by rw [ax.out,zH];rfl),by omega,by omega,?_,bm.out,bp.out,bB.out⟩
       have h9:=bi.out
       rw [aB.out,show done.length+1=(done++[t]).length by simp] at h9
       rw [bu.out,bI.out,aB.out,show done.length+1=(done++[t]).length by simp]
       exact h9
    ·have t5:decide ((i:Int)<(n:Int))=false:=zA (by omega)
     have aV:tokGo S.first n gk i=[]:=by
      cases gk with
      | zero=>rfl
      | succ f=>rw [tokGo,if_neg hin]
     go_wp2_with fail
     go_ret
     have hT:T=done:=by rw [ax.out,aV,List.append_nil]
     rw [hT]
     refine ⟨A',cap',rfl,bY,ab,fun ad e => ?_⟩
     obtain ⟨g,rfl,bM,_⟩:=bS ad e
     have:=hF g (by rw [bM];simp)
     show w.heap.size<=g
     omega
  ·obtain rfl:a=(k:Int):=by omega
   clear ha
   have hk:k<n:=by omega
   have aC:=aI.out
   have bf:=hc.same ab
   have a4:k<l.length:=by rw [<-HN.out];exact hk
   obtain ⟨g,o,rfl,b9,_⟩:=hc.ex (by omega)
   obtain ⟨g',o',e',cl⟩:=bf.at_ a4
   injection e' with e'
   injection e' with e2 e3 _
   subst e2
   subst e3
   have n1:¬ g=w.heap.size+1:=by omega
   have n2:¬ g=w.heap.size+1+1:=by omega
   have n3:¬ w.heap.size+1=g:=by omega
   have n4:¬ w.heap.size+1+1=g:=by omega
   have gl:l[k]=l.getD k 0:=by rw [zD,zF a4];rfl
   rw [gl] at cl
   have bU:wr.cell? ⟨g,o+k,none⟩=some (.int .i64 (l.getD k 0)):=cl
   have bG:lGo l lit cp (k+1) s=lGo l lit cp k (lStep l lit cp k s):=rfl
   rw [bG] at HG
   have bF:=bR.out k s aC hk
   have c1:=aa.vc.cell (i:=k+1) (by rw [aC.pair.cl];omega)
   have cj:s.costs.getD (k+1) 0<=4294967296:=by
    have h4:=getD_le aC.pair.cb (k+1)
    have h5:(n-(k+1))*lit<=4096*1048576:=zL (by omega) h1
    simp only at h4
    omega
   have f1:=Blk.frozen aa.vc k
   have f2:=Blk.frozen aa.vf (k*3)
   have f3:=Blk.frozen aa.vf (k*3+1)
   have f4:=Blk.frozen aa.vf (k*3+2)
   obtain ⟨c2,c3,c4⟩:=aa.vf.cell (i:=k) (by rw [aC.pair.fl];exact hk)
   have c0:=aa.vc.cell (i:=k) (by rw [aC.pair.cl];omega)
   have bv:lBeg l lit k s=(s.costs.set k (s.costs.getD (k+1) 0+lit),s.first.set k ⟨0,0,l.getD k 0⟩):=rfl
   have aN:Vec (wr.setCell ⟨w.heap.size+1,k,none⟩ (.int .i64 ((s.costs.getD (k+1) 0+lit:Nat):Int))) (w.heap.size+1) 3 (s.costs.set k (s.costs.getD (k+1) 0+lit)):=aa.vc.set_ k _
   generalize aR:s.costs.getD (k+1) 0=sc at *
   generalize hlk:l.getD k 0=lk at *
   have ci:=hid aR
   have cd:=hid hlk
   have bP:=hid bF
   have bZ:=hid bv
   have bN:=hid aN
   have bo:=hid aa
   clear cl gl bG bf a4 aC aR hlk bF bv aN aa
   go_wp2_with fail
   have hx:IsLs ((((wr.setCell ⟨w.heap.size+1,k,none⟩ (.int .i64 ((sc:Int)+(lit:Int)))).setCell ⟨w.heap.size+1+1,k*3,none⟩ (.int .i64 0)).setCell ⟨w.heap.size+1+1,k*3+1,none⟩ (.int .i64 0)).setCell ⟨w.heap.size+1+1,k*3+2,none⟩ (.int .i64 lk)) w.heap.size ⟨(lBeg l lit k s).1,(lBeg l lit k s).2,s.runs⟩:=by
    have bD:=bN.out
    rw [Int.natCast_add] at bD
    rw [bZ.out]
    exact ⟨Blk.far (Blk.far (Blk.far (Blk.far bo.out.vr (by simp) _) (by first | (simp;done) | (simp;omega)) _) (by first | (simp;done) | (simp;omega)) _) (by first | (simp;done) | (simp;omega)) _,
     Blk.far (Blk.far (Blk.far bD (by simp) _) (by simp) _) (by simp) _,
     TVec.set_ (Blk.far bo.out.vf (by simp) _) k ⟨0,0,lk⟩⟩
   have aZ:Chg [] w ((((wr.setCell ⟨w.heap.size+1,k,none⟩ (.int .i64 ((sc:Int)+(lit:Int)))).setCell ⟨w.heap.size+1+1,k*3,none⟩ (.int .i64 0)).setCell ⟨w.heap.size+1+1,k*3+1,none⟩ (.int .i64 0)).setCell ⟨w.heap.size+1+1,k*3+2,none⟩ (.int .i64 lk)):=(((ab.setCell (.inr (by first | (simp;done) | (simp;omega))) _).setCell (.inr (by first | (simp;done) | (simp;omega))) _).setCell (.inr (by first | (simp;done) | (simp;omega))) _).setCell (.inr (by first | (simp;done) | (simp;omega))) _
   have a9:RunsOk s.runs:=⟨aI.out.rl,fun x hx=>(aI.out.rb x hx).1⟩
   refine (bK.out k w.heap.size s.runs _ hk (hc.same aZ) hx.vr a9 (fun _ ad e hm=>by injection e with e;subst e;simp at hm;omega)).mono ?_
   rintro e w2 ⟨rfl,az,aU⟩
   have aL:=hx.vc.chg aU (by simp)
   have aM:TVec w2 (w.heap.size+1+1) (lBeg l lit k s).2:=Blk.chg hx.vf aU (by simp;omega)
   have aF:Chg [] w w2:=aZ.trans aU (fun x hx=>by simp at hx;omega)
   have aW:=distF_ok (l:=l) (at_:=k) a9
   have be:=distF_in (l:=l) (at_:=k) (rs:=s.runs) (B:=n-(k+1)) (fun x hx=>(aI.out.rb x hx).2)
   have av:lStep l lit cp k s=⟨(lPick cp k (distF l k s.runs).dists 65 0 (lBeg l lit k s)).1,(lPick cp k (distF l k s.runs).dists 65 0 (lBeg l lit k s)).2,(distF l k s.runs).runs⟩:=rfl
   have bz:=b4.out k s aI.out hk
   generalize (distF l k s.runs)=DS at *
   obtain ⟨R,D,Lg⟩:=DS
   have aP:D.length=65:=aW.dl
   have bn:∀ x∈D,x<=1024:=aW.d1024
   have bs:∀ m,D.getD m 0≠0->k+m<=n:=fun m hm=>by
    have h5:=be.db m hm
    have h6:=be.lb
    simp only at h5 h6
    omega
   simp only at az
   have a6:=hid av
   have bO:=hid bz
   have a5:=hid aP
   have bA:=hid bn
   have aB:=hid bs
   clear av bz aP bn bs aW be hx aZ a9 aU f1 f2 f3 f4 c0 c1 c2 c3 c4 bU ab
   go_wp2_with fail
   go_loopg [65] 65 (fun j iv wr=>∃ (m:Nat) (p:List Nat × List Tok),iv=.int .i64 m/\m+j=65/\Hid (lPick cp k D 65 0 (lBeg l lit k s)=lPick cp k D j m p)/\Hid (PairOk n ((n-k)*lit) p)/\Vec wr w.heap.size 213 R/\Vec wr (w.heap.size+1) 3 p.1/\TVec wr (w.heap.size+1+1) p.2/\Chg [] w wr)
   case atStart=>exact ⟨0,lBeg l lit k s,rfl,rfl,hid rfl,bP,az,aL,aM,aF⟩
   case round =>
    obtain ⟨m,p,rfl,ch,HP,ak,bd,ap,au,aK⟩:=hrel
    clear az aL aM aF
    rcases gk with _ | j
    ·obtain rfl:m=65:=by omega
     have hP:lPick cp k D 65 0 (lBeg l lit k s)=p:=HP.out
     go_wp2_with fail
     go_roundg k
     case measure=>omega
     case rel =>
      refine ⟨lStep l lit cp k s,_,rfl,by omega,by omega,HG,bO,?_,aK⟩
      rw [a6.out,hP]
      exact ⟨bd,ap,au⟩
    ·have ba:m<65:=by omega
     have ty:decide ((m:Int)<65)=true:=zB (by omega)
     have cg:=idx65 D a5.out m ba
     have cc:=getD_le bA.out m
     have aA:=aB.out m
     have aG:lPick cp k D (j+1) m p=lPick cp k D j (m+1) (lOne cp k D m p):=rfl
     have an:lOne cp k D m p=if m<3\/D.getD m 0=0 then p else if p.1.getD (k+m) 0+cp<=p.1.getD k 0 then (p.1.set k (p.1.getD (k+m) 0+cp),p.2.set k ⟨m,D.getD m 0,0⟩) else p:=rfl
     have aQ:=lOne_ok (cp:=cp) (at_:=k) (m:=m) ak.out (by omega) bA.out
     rw [aG] at HP
     have bq:k+m<=n->(p.1.getD (k+m) 0<=4294967296/\wr.cell? ⟨w.heap.size+1,k+m,none⟩=some (.int .i64 ((p.1.getD (k+m) 0:Nat):Int))):=fun h=>⟨by
      have h4:=getD_le ak.out.cb (k+m)
      have h5:(n-k)*lit<=4096*1048576:=zL (by omega) h1
      omega,ap.cell (by rw [ak.out.cl];omega)⟩
     have c0:=ap.cell (i:=k) (by rw [ak.out.cl];omega)
     have f1:=Blk.frozen ap k
     have f2:=Blk.frozen au (k*3)
     have f3:=Blk.frozen au (k*3+1)
     have f4:=Blk.frozen au (k*3+2)
     obtain ⟨c2,c3,c4⟩:=au.cell (i:=k) (by rw [ak.out.fl];exact hk)
     have ao:=fun v=>ap.set_ k v
     generalize hx1:p.1.getD (k+m) 0=ckm at *
     generalize hx2:p.1.getD k 0=ck at *
     generalize hx3:D.getD m 0=dm at *
     have HX:=hid (And.intro hx1 (And.intro hx2 hx3))
     have a7:=hid ao
     have bb:=hid aQ
     have ag:=hid an
     have bJ:=hid bq
     have HV:=hid (And.intro bd (And.intro ap au))
     have aE:=hid aA
     clear hx1 hx2 hx3 ao aG aQ an bq bd ap au aA
     by_cases q1:m<3
     ·have s1:decide ((m:Int)<3)=true:=zB (by omega)
      go_wp2_with fail
      go_roundg j
      case measure=>omega
      case rel =>
       have e:lOne cp k D m p=p:=by rw [ag.out,if_pos (.inl q1)]
       rw [e] at HP
       obtain ⟨a1,a2,a3⟩:=HV.out
       exact ⟨m+1,p,by go_num,by omega,HP,ak,a1,a2,a3,aK⟩
     ·have s1:decide ((m:Int)<3)=false:=zA (by omega)
      by_cases q2:dm=0
      ·have s2:((dm:Int)==0)=true:=by simp [q2]
       have bQ:=hid q2
       clear q2
       go_wp2_with fail
       go_roundg j
       case measure=>omega
       case rel =>
        have e:lOne cp k D m p=p:=by rw [ag.out,if_pos (.inr bQ.out)]
        rw [e] at HP
        obtain ⟨a1,a2,a3⟩:=HV.out
        exact ⟨m+1,p,by go_num,by omega,HP,ak,a1,a2,a3,aK⟩
      ·have s2:((dm:Int)==0)=false:=by simpa using q2
       obtain ⟨b1,b2⟩:=bJ.out (aE.out q2)
       have cf:k+m<=n:=aE.out q2
       by_cases q3:ckm+cp<=ck
       ·have s3:decide ((ckm:Int)+(cp:Int)<=(ck:Int))=true:=zB (by omega)
        go_wp2_with fail
        go_roundg j
        case measure=>omega
        case rel =>
         have e:lOne cp k D m p=(p.1.set k (ckm+cp),p.2.set k ⟨m,dm,0⟩):=by rw [ag.out,if_neg (by omega),if_pos q3]
         have aO:=bb.out
         rw [e] at HP aO
         obtain ⟨a1,a2,a3⟩:=HV.out
         have aR:=a7.out (ckm+cp)
         rw [Int.natCast_add] at aR
         refine ⟨m+1,_,by go_num,by omega,HP,hid aO,?_,?_,?_,?_⟩
         ·exact Blk.far (Blk.far (Blk.far (Blk.far a1 (by first | (simp;done) | (simp;omega)) _) (by first | (simp;done) | (simp;omega)) _) (by first | (simp;done) | (simp;omega)) _) (by first | (simp;done) | (simp;omega)) _
         ·exact Blk.far (Blk.far (Blk.far aR (by simp) _) (by simp) _) (by simp) _
         ·exact TVec.set_ (Blk.far a3 (by simp) _) k ⟨m,dm,0⟩
         ·exact (((aK.setCell (.inr (by first | (simp;done) | (simp;omega))) _).setCell (.inr (by first | (simp;done) | (simp;omega))) _).setCell (.inr (by first | (simp;done) | (simp;omega))) _).setCell (.inr (by first | (simp;done) | (simp;omega))) _
       ·have s3:decide ((ckm:Int)+(cp:Int)<=(ck:Int))=false:=zA (by omega)
        go_wp2_with fail
        go_roundg j
        case measure=>omega
        case rel =>
         have e:lOne cp k D m p=p:=by rw [ag.out,if_neg (by omega),if_neg q3]
         rw [e] at HP
         obtain ⟨a1,a2,a3⟩:=HV.out
         exact ⟨m+1,p,by go_num,by omega,HP,ak,a1,a2,a3,aK⟩
theorem Cells.one {α:Type} {f:α->Value} {w:World} {A:Option Addr} {l:List α} (h:Cells f w A l) {m:Nat} {x:α} (hm:l[m]?=some x) :
  ∃ g o,A=some ⟨g,o,none⟩/\Cells f w (some ⟨g,o+m,none⟩) [x]:=by
 have hl:=(List.getElem?_eq_some_iff.1 hm).1
 obtain ⟨g,o,e,hg,hc⟩:=h.ex (by omega)
 refine ⟨g,o,e,⟨fun _=>⟨g,o+m,rfl,hg,fun i a ha => ?_⟩⟩⟩
 match i,ha with
 | 0,ha=>simp at ha;subst ha;exact hc m _ hm
 | i+1,ha=>simp at ha
theorem mtput_ok (w:World) (b:Nat) (F bs:List Nat) (T:List Tok) (A:Option Addr) (cap W d:Nat) (h:IsWr w b F bs) (hp:Pts w) (h0F:0∉F) (hw0:1<=W) (hw1:W<=64) (h0:1<=d) (h1:d<=16) (hT:T.length<=4096) (hok:∀ t∈T,TokOk d t)
  (hc:Toks w A T) (hA:∀ ad,A=some ad->ad.block∉F) (hbs:bs.length<137438953472) :
  Calls Tryz.prog 138 #[.pointer (some ⟨b,0,none⟩),.slice A T.length cap,.int .i64 W,.int .i64 d] w fun e w'=>e=.returned (.int .i64 0)/\∃ F',IsWr w' b F' (bs++matchBits T W d)/\Grow F F' w w':=by
 have aQ:=fun w h=>may_ok T A cap w (by omega) (fun t ht=>(hok t ht).ok) h
 have aU:matchBits T W d=bitsOf (rbest (copyLens T)) 5++bitsOf (rbest (copyCodes W T)) 5++T.flatMap (tokBits (rbest (copyLens T)) (rbest (copyCodes W T)) W d):=rfl
 have cj:=copyLens_wide hok
 have cy:=copyCodes_wide (W:=W) hok
 obtain ⟨cV,cU⟩:=pow_d h0 h1
 obtain ⟨n,hn⟩:=zX (T.length)
 rw [<-hn] at aQ hT ⊢
 have t1:decide ((W:Int)<1)=false:=zA (by omega)
 have t2:decide ((64:Int)<(W:Int))=false:=zA (by omega)
 have t3:decide ((d:Int)<1)=false:=zA (by omega)
 have t4:decide ((16:Int)<(d:Int))=false:=zA (by omega)
 have cC:=hid aU
 have cA:=hid cj
 have cB:=hid cy
 have HN:=hid hn
 have b9:=hid hok
 have HA:=hid hA
 have cd:Hid (∀ x∈F,x<w.heap.size):=hid h.lt
 clear aU cj cy hn hok hA
 go_enter Tryz.func138,Tryz.ntmps138
 go_wp2_with fail
 refine (aQ _ hc).mono ?_
 rintro e w1 ⟨rfl,ag⟩
 go_wp2_with fail
 go_loopg [9,10,39] n (fun j v9 v10 iv wr=>∃ (i:Nat) (F9 F10:List Nat),iv=.int .i64 i/\i+j=n/\Own wr 3 v9 F9 ((copyLens (T.take i)).map vi)/\Own wr 3 v10 F10 ((copyCodes W (T.take i)).map vi) /\
   (∀ x∈F9,w.heap.size<=x/\x∉F10)/\(∀ x∈F10,w.heap.size<=x)/\Chg [] w wr)
 case atStart=>exact ⟨0,[],[],rfl,by omega,Own.nil _ _,Own.nil _ _,by simp,by simp,ag⟩
 case round =>
  clear ag aQ
  obtain ⟨i,F9,F10,rfl,cX,aE,af,bk,aA,aK⟩:=hrel
  rcases gk with _ | j
  ·obtain rfl:i=n:=by omega
   have ct:T.take i=T:=by rw [HN.out,zN]
   rw [ct] at aE af
   have a2:=copyLens_len T
   rw [<-HN.out] at a2
   have aL:=copyCodes_len W T
   obtain ⟨A9,bT,rfl,bS,cM,bK⟩:=aE.open_map
   obtain ⟨bE,aO,rfl,bq,cu,aW⟩:=af.open_map
   have bn:Apt A9 (copyLens T) F:=aE.apt (fun x hx hm=>by have:=cd.out x hm;have:=(bk x hx).1;omega)
   have aI:Apt bE (copyCodes W T) F:=af.apt (fun x hx hm=>by have:=cd.out x hm;have:=aA x hx;omega)
   have bx:=rbest_ok (copyLens T) A9 bT wr cA.out bK (by omega)
   have aG:=rbest_ok (copyCodes W T) bE aO wr cB.out aW (by omega)
   have hk:=rbest_le (copyLens T)
   have bY:=rbest_le (copyCodes W T)
   obtain ⟨kk,b7⟩:=zX (rbest (copyLens T))
   obtain ⟨jk,cr⟩:=zX (rbest (copyCodes W T))
   have aU:=cC.out
   rw [<-b7] at bx hk aU
   rw [<-cr] at aG bY aU
   obtain ⟨n9,bX⟩:=zX ((copyLens T).length)
   rw [<-bX] at aL bS bx a2 ⊢
   rw [aL] at aG bq ⊢
   have aF:=h.same aK
   have a7:Toks wr A T:=hc.same aK
   have bO:=hid aU
   have cS:=hid aL
   have b5:=hid bX
   clear aU aL bX b7 cr ct aE af bk aA h hp hc
   go_wp2_with fail
   refine bx.mono ?_
   rintro e w' ⟨rfl,rfl⟩
   go_wp2_with fail
   refine aG.mono ?_
   rintro e w' ⟨rfl,rfl⟩
   go_wp2_with fail
   refine (wput_ok _ b F bs kk 5 aF (by omega) (by omega) (by omega)).mono ?_
   rintro e w2 ⟨rfl,F2,a5,a9⟩
   go_wp2_with fail
   refine (wput_ok _ b F2 _ jk 5 a5 (by omega) (by omega) (by rw [zC,bitsOf_len];omega)).mono ?_
   rintro e w3 ⟨rfl,F3,bp,bi⟩
   have ao:=a9.trans bi
   clear bx aG aF a5 a9 bi
   have bl:∀ x:Int,0<=x->x<2^d->x.toNat<2^d:=fun x a b=>by
    have e:((x.toNat:Nat):Int)=x:=Int.toNat_of_nonneg a
    have e2:((2^d:Nat):Int)=(2:Int)^d:=by simp
    omega
   have cI:=hid bl
   clear bl
   go_wp2_with fail
   go_loopg [15,88] i (fun j cv iv wr2=>∃ (q:Nat) (F' a3:List Nat),cv=.int .i64 ((copyLens (T.take q)).length:Nat)/\iv=.int .i64 q/\q+j=i/\IsWr wr2 b F' a3/\Hid (a3=bs++bitsOf kk 5++bitsOf jk 5++(T.take q).flatMap (tokBits kk jk W d))/\a3.length<=bs.length+10+131*q/\Grow F F' wr wr2)
   case atStart=>exact ⟨0,F3,_,rfl,rfl,by omega,bp,hid (by simp),by rw [zC,zC,bitsOf_len,bitsOf_len];omega,ao⟩
   case round =>
    clear bp ao
    obtain ⟨q,F',a3,rfl,rfl,c5,aF,Hb,c0,ao⟩:=hrel
    rcases gk with _ | j
    ·obtain rfl:q=i:=by omega
     go_wp2_with fail
     go_ret
     refine ⟨rfl,F',?_,Grow.pre aK ao⟩
     have e:T.take q=T:=by rw [HN.out,zN]
     have h5:=Hb.out
     rw [e,zH,zH] at h5
     rw [bO.out,zH,<-h5]
     exact aF
    ·have bR:q<i:=by omega
     have aN:q<T.length:=by rw [<-HN.out];exact bR
     have bc:=b9.out T[q] (zG aN)
     obtain ⟨t,ht⟩:=zX (T[q])
     have ai:T[q]?=some t:=by rw [ht];exact zF aN
     rw [<-ht] at bc
     have a0:Toks _ A T:=Cells.keep a7 (fun _ ad e=>HA.out ad e) ao.chg
     have aS:=bK.keep bn ao.chg
     have aD:=aW.keep aI ao.chg
     have aC:=bn.grow bK ao
     have am:=aI.grow aW ao
     obtain ⟨g,o,rfl,c1,c2,c3⟩:=a0.at_ ai
     have ab:T.take (q+1)=T.take q++[t]:=by rw [ht];exact take_snoc' T aN
     have an:=copyLens_snoc (T.take q) t
     rw [<-ab] at an
     have bu:(T.take (q+1)).flatMap (tokBits kk jk W d)=(T.take q).flatMap (tokBits kk jk W d)++tokBits kk jk W d t:=by rw [ab];simp
     have aa:=fun w=>isLit_ok t w
     have aV:tokV t=.agg #[.int .i64 t.len,.int .i64 t.dist,.int .i64 t.lit]:=rfl
     rw [aV] at aa
     rcases bc with ⟨ak,aB,bM⟩ | ⟨ak,aB⟩
     ·have ah:copyLens (T.take (q+1))=copyLens (T.take q):=by rw [an,ak];simp
      have a1:tokBits kk jk W d t=bitsOf 0 1++bitsOf t.lit.toNat d:=by unfold tokBits;rw [if_pos ak]
      have bA:=cI.out t.lit aB bM
      rw [ak] at aa
      have bF:t.lit=((t.lit.toNat:Nat):Int):=(Int.toNat_of_nonneg aB).symm
      obtain ⟨ln,b6⟩:=zX (t.lit.toNat)
      rw [<-b6] at a1 bA bF
      rw [bF] at aa c3
      have cE:ln<65536:=Nat.lt_of_lt_of_le bA (by have:=Nat.pow_le_pow_right (n:=2) (by decide) h1;exact this)
      have hb:=Blk.new wr 211 #[.int .i64 t.len,.int .i64 t.dist,.int .i64 ln]
      have ag:=(zR [] wr).alloc (.cells #[.int .i64 t.len,.int .i64 t.dist,.int .i64 ln] 211)
      have aR:=hid (And.intro ah (And.intro a1 bu))
      clear an ah a1 bu ab bF b6 aV ai ht ak aB bM a0 aS aD aC am
      generalize t.len=ta at *
      generalize t.dist=tb at *
      have cQ:=hid bA
      clear bA
      have bw:wr.heap.size∉F':=fun hm=>by have:=aF.lt _ hm;omega
      go_wp2_with fail
      refine (aa _).mono ?_
      rintro e w4 ⟨rfl,ae⟩
      have cf:=hb.chg ae (by simp)
      have ax:=aF.same (ag.trans_same ae)
      have aT:=ao.same (ag.trans_same ae)
      clear hb aF ao aa ag ae c1 c2 c3
      go_wp2_with fail
      refine (wput_ok _ b F' a3 0 1 ax (by omega) (by omega) (by omega)).mono ?_
      rintro e w5 ⟨rfl,F5,aq,aj⟩
      have cl:=cf.chg aj.chg bw
      have b2:=cl.cell 2
      simp only [List.size_toArray,zK,List.length_nil,List.getElem?_toArray,List.getElem?_cons_zero,List.getElem?_cons_succ] at b2
      clear cf cl ax bw
      go_wp2_with fail
      refine (wput_ok _ b F5 _ ln d aq (by omega) cQ.out (by rw [zC,bitsOf_len];omega)).mono ?_
      rintro e w6 ⟨rfl,F6,ar,av⟩
      clear aq b2
      go_wp2_with fail
      go_roundg j
      case measure=>omega
      case rel =>
       refine ⟨q+1,F6,_,?_,by go_num,by omega,ar,hid ?_,?_,(aT.trans aj).trans av⟩
       ·rw [aR.out.1]
       ·rw [aR.out.2.2,aR.out.2.1,Hb.out];simp only [zH]
       ·rw [zC,zC,bitsOf_len,bitsOf_len];omega
     ·have az:(copyLens (T.take (q+1))).length=(copyLens (T.take q)).length+1:=by rw [an,ak];simp
      have a1:tokBits kk jk W d t=bitsOf 1 1++rbits kk (lenOf t)++rbits jk (codeOf W t):=by unfold tokBits;rw [ak];rfl
      have bv:=copyLens_at T ai ak
      have aY:=copyCodes_at W T ai ak
      have cJ:=lenOf_wide aB
      have bL:=codeOf_wide W aB
      have bV:(copyLens (T.take q)).length<n9:=by rw [b5.out];exact (List.getElem?_eq_some_iff.1 bv).1
      obtain ⟨c,cm⟩:=zX ((copyLens (T.take q)).length)
      rw [<-cm] at bv aY bV az ⊢
      obtain ⟨g9,o9,rfl,aJ⟩:=aS.one bv
      obtain ⟨cN,cG,rfl,aw⟩:=aD.one aY
      rw [ak] at aa
      have hb:=Blk.new wr 211 #[.int .i64 t.len,.int .i64 t.dist,.int .i64 t.lit]
      have ag:=(zR [] wr).alloc (.cells #[.int .i64 t.len,.int .i64 t.dist,.int .i64 t.lit] 211)
      have bZ:Apt (some ⟨g9,o9+c,none⟩) [lenOf t] F':=aC.to (by simp;have:=b5.out;omega) (fun ad e=>⟨_,rfl,by injection e with e;rw [<-e]⟩)
      have aP:Apt (some ⟨cN,cG+c,none⟩) [codeOf W t] F':=am.to (by simp;have:=cS.out;omega) (fun ad e=>⟨_,rfl,by injection e with e;rw [<-e]⟩)
      have aR:=hid (And.intro az (And.intro a1 bu))
      clear an az a1 bu ab aV ai ht ak aB a0 aS aD aC am bv aY cm
      generalize lenOf t=lo at *
      generalize codeOf W t=co at *
      generalize t.len=ta at *
      generalize t.dist=tb at *
      generalize t.lit=tc at *
      go_wp2_with fail
      refine (aa _).mono ?_
      rintro e w4 ⟨rfl,ae⟩
      have ax:=aF.same (ag.trans_same ae)
      have aT:=ao.same (ag.trans_same ae)
      have q9:=aJ.same (ag.trans_same ae)
      have bQ:=aw.same (ag.trans_same ae)
      clear hb aF ao aa ag ae c1 c2 c3 aJ aw
      go_wp2_with fail
      refine (wput_ok _ b F' a3 1 1 ax (by omega) (by omega) (by omega)).mono ?_
      rintro e w5 ⟨rfl,F5,aq,aj⟩
      have r9:=q9.keep bZ aj.chg
      have bU:=bQ.keep aP aj.chg
      have bf:=bZ.grow q9 aj
      have ay:=aP.grow bQ aj
      go_wp2_with fail
      have bD:∀ x∈[lo],wideP x:=fun x hx=>by rw [zU.1 hx];exact cJ
      have bN:∀ x∈[co],wideP x:=fun x hx=>by rw [zU.1 hx];exact bL
      refine (rput_ok _ b F5 _ kk [lo] _ (bT-c) aq hk bD r9 bf (by rw [zC,bitsOf_len];simp;omega)).mono ?_
      rintro e w6 ⟨rfl,F6,ar,av⟩
      have cs:=bU.keep ay av.chg
      have au:=ay.grow bU av
      have ce:rbitsAll kk [lo]=rbits kk lo:=by simp [rbitsAll]
      have ck:rbitsAll jk [co]=rbits jk co:=by simp [rbitsAll]
      have c7:=rbits_len kk lo
      have cR:=rbits_len jk co
      have c9:=rcost_le kk lo hk
      have cO:=rcost_le jk co bY
      rw [ce] at ar
      clear aq r9 bU bf ay ax q9 bQ bZ aP
      go_wp2_with fail
      refine (rput_ok _ b F6 _ jk [co] _ (aO-c) ar bY bN cs au (by rw [zC,zC,bitsOf_len];simp;omega)).mono ?_
      rintro e w7 ⟨rfl,F7,br,bH⟩
      rw [ck] at br
      clear ar cs au ce ck
      go_wp2_with fail
      go_roundg j
      case measure=>omega
      case rel =>
       refine ⟨q+1,F7,_,?_,by go_num,by omega,br,hid ?_,?_,((aT.trans aj).trans av).trans bH⟩
       ·rw [aR.out.1];go_num
       ·rw [aR.out.2.2,aR.out.2.1,Hb.out];simp only [zH]
       ·rw [zC,zC,zC,bitsOf_len];omega
  ·have bR:i<n:=by omega
   have aN:i<T.length:=by rw [<-HN.out];exact bR
   have bc:=b9.out T[i] (zG aN)
   obtain ⟨t,ht⟩:=zX (T[i])
   have ai:T[i]?=some t:=by rw [ht];exact zF aN
   rw [<-ht] at bc
   have a7:=hc.same aK
   obtain ⟨g,o,rfl,c1,c2,c3⟩:=a7.at_ ai
   have ab:T.take (i+1)=T.take i++[t]:=by rw [ht];exact take_snoc' T aN
   have an:=copyLens_snoc (T.take i) t
   have al:=copyCodes_snoc W (T.take i) t
   rw [<-ab] at an al
   have aa:=fun w=>isLit_ok t w
   have aV:tokV t=.agg #[.int .i64 t.len,.int .i64 t.dist,.int .i64 t.lit]:=rfl
   rw [aV] at aa
   have hb:=Blk.new wr 211 #[.int .i64 t.len,.int .i64 t.dist,.int .i64 t.lit]
   have ag:=(zR [] wr).alloc (.cells #[.int .i64 t.len,.int .i64 t.dist,.int .i64 t.lit] 211)
   have a2:=copyLens_len (T.take i)
   have aL:=copyCodes_len W (T.take i)
   rw [zI] at a2
   rcases bc with ⟨ak,aB,bM⟩ | ⟨ak,aB⟩
   ·rw [ak] at aa an al
    have ah:copyLens (T.take (i+1))=copyLens (T.take i):=by rw [an];simp
    have ac:copyCodes W (T.take (i+1))=copyCodes W (T.take i):=by rw [al];simp
    have HS:=hid (And.intro ah ac)
    generalize t.len=ta at *
    generalize t.dist=tb at *
    generalize t.lit=tc at *
    have t5:decide (tc<0)=false:=zA (by omega)
    have t6:decide ((2:Int)^d<=tc)=false:=zA (by omega)
    clear an al ah ac ab ai ht aV a2 aL ak
    go_wp2_with fail
    refine (aa _).mono ?_
    rintro e w2 ⟨rfl,ae⟩
    have aM:=hb.chg ae (by simp)
    have b2:=aM.cell 2
    simp only [List.size_toArray,zK,List.length_nil,List.getElem?_toArray,List.getElem?_cons_zero,List.getElem?_cons_succ] at b2
    have bC:=aK.trans_same (ag.trans_same ae)
    have k9:=aE.same (ag.trans_same ae)
    have a6:=af.same (ag.trans_same ae)
    clear hb aM ag ae aK a7 c1 c2 c3 aE af
    go_wp2_with fail
    go_quiet (fail)
    go_wp2_with fail
    go_roundg j
    case measure=>omega
    case rel =>
     refine ⟨i+1,F9,F10,by go_num,by omega,?_,?_,bk,aA,bC.drewN nq⟩
     ·rw [HS.out.1];exact k9.drewN nq
     ·rw [HS.out.2];exact a6.drewN nq
   ·rw [ak] at aa an al
    have ah:(copyLens (T.take (i+1))).map vi=(copyLens (T.take i)).map vi++[.int .i64 (lenOf t)]:=by rw [an];simp [vi]
    have ac:(copyCodes W (T.take (i+1))).map vi=(copyCodes W (T.take i)).map vi++[.int .i64 (codeOf W t)]:=by rw [al];simp [vi]
    have cD:=Tok.isCopy_iff.1 aB
    obtain ⟨p1,p2,p3,p4,p5⟩:=cD
    have ca:=(codeN_ok (d:=t.dist) (W:=W) p3).1
    have bG:=fun w (hp:Pts w)=>mcode_ok t.dist W w hp p3 p4 hw0 hw1
    have bj:=fun w=>unfold_ok (t.len-3) w (by omega)
    have ap:=fun w=>unfold_ok (codeN t.dist W-1) w (by omega)
    have e1:unfoldI (t.len-3)=lenOf t:=rfl
    have e2:unfoldI (codeN t.dist W-1)=codeOf W t:=rfl
    rw [e1] at bj
    rw [e2] at ap
    clear e1 e2
    obtain ⟨lo,cb⟩:=zX (lenOf t)
    obtain ⟨co,ch⟩:=zX (codeOf W t)
    rw [<-cb] at bj ah
    rw [<-ch] at ap ac
    obtain ⟨cn,bm⟩:=zX (codeN t.dist W)
    rw [<-bm] at ap ca bG
    obtain ⟨cq,a0⟩:=zX (cn-1)
    rw [<-a0] at ap
    obtain ⟨lq,cc⟩:=zX (t.len-3)
    rw [<-cc] at bj
    have e3:(t.len:Int)-3=(lq:Int):=by omega
    have e4:(cn:Int)-1=(cq:Int):=by omega
    have cO:cq<=1100:=by omega
    have cR:lq<=64:=by omega
    have a4:((copyCodes W (T.take i)).map vi).length=((copyLens (T.take i)).map vi).length:=by rw [zE,zE,aL]
    have ci:((copyLens (T.take i)).map vi).length<=4096:=by rw [zE];omega
    obtain ⟨L9,cp⟩:=zX ((copyLens (T.take i)).map vi)
    obtain ⟨cY,bg⟩:=zX ((copyCodes W (T.take i)).map vi)
    rw [<-cp] at aE ah a4 ci
    rw [<-bg] at af ac a4
    clear cp bg
    obtain ⟨M9,bz⟩:=zX (L9.length)
    rw [<-bz] at a4 ci
    have HS:=hid (And.intro ah ac)
    clear cb ch bm a0 cc ah ac
    generalize t.len=ta at *
    generalize t.dist=tb at *
    generalize t.lit=tc at *
    subst p5
    have cP:=hid bG
    have cH:=hid ap
    have HU:=hid bj
    clear an al ab ai ht aV a2 aL ak ca bG bj ap aB
    go_wp2_with fail
    refine (aa _).mono ?_
    rintro e w2 ⟨rfl,ae⟩
    have aM:=hb.chg ae (by simp)
    have b0:=aM.cell 0
    have b1:=aM.cell 1
    simp only [List.size_toArray,zK,List.length_nil,List.getElem?_toArray,List.getElem?_cons_zero,List.getElem?_cons_succ] at b0 b1
    have bC:=aK.trans_same (ag.trans_same ae)
    have k9:=aE.same (ag.trans_same ae)
    have a6:=af.same (ag.trans_same ae)
    obtain ⟨A9,bT,cw,_⟩:=k9.open_
    obtain ⟨bE,aO,a8,_⟩:=a6.open_
    rw [<-bz] at cw
    rw [a4] at a8
    subst cw
    subst a8
    have bP:=hid a6
    have b4:=hid bz
    have aX:=hid a4
    have HO:=hid (And.intro bk aA)
    have cF:=hid (And.intro aE.lt af.lt)
    clear hb ag ae aK a7 c1 c2 c3 aE af aa bz a4 bk aA
    have c8:=k9.lt
    have b3:=a6.lt
    have cW:wr.heap.size<w2.heap.size:=aM.lt
    have bw:wr.heap.size∉F9:=fun hm=>by have:=cF.out.1 _ hm;omega
    go_wp2_with fail
    refine (HU.out _).mono ?_
    rintro e w' ⟨rfl,rfl⟩
    have cg:=k9.same ((zR [] w2).alloc (.cells #[.int .i64 lo] 3))
    have ba:=Blk.new w2 3 #[.int .i64 lo]
    go_wp2_with (at_builtin;refine wpList_append_o1 rfl rfl int_elem rfl rfl cg (.int .i64 lo) rfl ?c1 ?c2 ?c3 ?c4 ?_)
    case c1=>exact ba.cell 0
    case c2=>rfl
    case c3=>rw [<-b4.out];omega
    case c4=>rw [<-b4.out];omega
    intro g1 cK w3 bB aZ
    rw [<-b4.out] at bB ⊢
    have cx:=(aM.alloc (.cells #[.int .i64 lo] 3)).chg aZ.chg bw
    have d1:=cx.cell 1
    simp only [List.size_toArray,zK,List.length_nil,List.getElem?_toArray,List.getElem?_cons_zero,List.getElem?_cons_succ] at d1
    have bJ:Chg [] w w3:=(bC.alloc _).trans aZ.chg (fun x hx => .inr (HO.out.1 x hx).1)
    have bd:=(bP.out.same ((zR [] w2).alloc (.cells #[.int .i64 lo] 3))).chg aZ.chg (fun x hx hm=>(HO.out.1 x hm).2 hx)
    have cL:=hp.same bJ
    clear ba cg b0 b1 aM
    have cZ:g1<w3.heap.size:=bB.lt
    go_wp2_with fail
    refine (cP.out _ cL).mono ?_
    rintro e w4 ⟨rfl,n4,rfl⟩
    go_wp2_with fail
    refine (cH.out _).mono ?_
    rintro e w' ⟨rfl,rfl⟩
    have be:=(bd.drewN n4).same ((zR [] (w3.drewN n4)).alloc (.cells #[.int .i64 co] 3))
    have ba:=Blk.new (w3.drewN n4) 3 #[.int .i64 co]
    go_wp2_with (at_builtin;refine wpList_append_o1 rfl rfl int_elem rfl rfl be (.int .i64 co) rfl ?c1 ?c2 ?c3 ?c4 ?_)
    case c1=>exact ba.cell 0
    case c2=>rfl
    case c3=>rw [aX.out];omega
    case c4=>rw [aX.out];omega
    intro g2 cT w5 bh aH
    rw [aX.out] at bh ⊢
    have bb:g1∉F10:=fun hm=>by
     rcases aZ.new g1 (by simp) with h5 | h5
     ·exact (HO.out.1 _ h5).2 hm
     ·have:=b3 _ hm
      have h8:(w2.alloc (.cells #[.int .i64 lo] 3)).heap.size=w2.heap.size+1:=by simp
      omega
    have bI:=(bB.chg ((((zR F10 w3).drewN n4).alloc (.cells #[.int .i64 co] 3)).trans_same aH.chg) bb)
    have cz:Chg [] w w5:=((bJ.drewN n4).alloc (.cells #[.int .i64 co] 3)).trans aH.chg (fun x hx => .inr (HO.out.2 x hx))
    have c6:((w3.drewN n4).alloc (.cells #[.int .i64 co] 3)).heap.size=w3.heap.size+1:=by simp
    have bW:w.heap.size<=g1:=by
     rcases aZ.new g1 (by simp) with h5 | h5
     ·exact (HO.out.1 _ h5).1
     ·have h8:(w2.alloc (.cells #[.int .i64 lo] 3)).heap.size=w2.heap.size+1:=by simp
      have:=bC.size
      omega
    have bo:w.heap.size<=g2/\g1≠g2:=by
     rcases aH.new g2 (by simp) with h5 | h5
     ·exact ⟨HO.out.2 _ h5,fun e=>bb (e ▸ h5)⟩
     ·have:=bJ.size
      exact ⟨by omega,by omega⟩
    clear cx ba be bB aZ aH bd d1
    go_wp2_with fail
    go_roundg j
    case measure=>omega
    case rel =>
     refine ⟨i+1,[g1],[g2],by go_num,by omega,?_,?_,?_,?_,cz⟩
     ·rw [HS.out.1];exact bI.toOwn
     ·rw [HS.out.2];exact bh.toOwn
     ·intro x hx;rw [zU.1 hx];exact ⟨bW,by simp;exact bo.2⟩
     ·intro x hx;rw [zU.1 hx];exact bo.1
def allOf (l:List Int) (n:Nat):List Nat:=l.flatMap fun v=>bitsOf v.toNat n
theorem allOf_len (l:List Int) (n:Nat):(allOf l n).length=n*l.length:=by
 induction l with
 | nil=>simp [allOf]
 | cons x l ih =>
  have e:allOf (x::l) n=bitsOf x.toNat n++allOf l n:=rfl
  rw [e,zC,bitsOf_len,ih,zK,Nat.mul_add,Nat.mul_one,Nat.add_comm]
theorem allOf_snoc (l:List Int) (x:Int) (n:Nat):allOf (l++[x]) n=allOf l n++bitsOf x.toNat n:=by simp [allOf]
theorem putAll_ok (w:World) (b:Nat) (F bs:List Nat) (l:List Int) (A:Option Addr) (cap n:Nat) (h:IsWr w b F bs) (hn:n<=16) (hl:l.length<=4096) (hs:SmpOk n l) (hc:Cells vi w A l) (hA:Apt A l F) (hbs:bs.length<137438953472) :
  Calls Tryz.prog 135 #[.pointer (some ⟨b,0,none⟩),.slice A l.length cap,.int .i64 n] w fun e w'=>e=.returned (.tuple #[])/\∃ F',IsWr w' b F' (bs++allOf l n)/\Grow F F' w w':=by
 obtain ⟨m,hm⟩:=zX (l.length)
 rw [<-hm] at hl ⊢
 have HN:=hid hm
 have HS:=hid hs
 clear hm hs
 go_enter Tryz.func135,Tryz.ntmps135
 go_wp2_with fail
 go_loopg [10] m (fun j iv wr=>∃ (i:Nat) (F' aa:List Nat),iv=.int .i64 i/\i+j=m/\IsWr wr b F' aa/\Hid (aa=bs++allOf (l.take i) n)/\aa.length<=bs.length+16*i/\Grow F F' w wr)
 case atStart=>exact ⟨0,F,bs,rfl,by omega,h,hid (by simp [allOf]),by omega,Grow.refl _ _⟩
 case round =>
  obtain ⟨i,F',aa,rfl,an,ai,Hb,ap,ah⟩:=hrel
  rcases gk with _ | j
  ·obtain rfl:i=m:=by omega
   go_wp2
   go_end0
   refine ⟨rfl,F',?_,ah⟩
   have e:l.take i=l:=by rw [HN.out,zN]
   have h5:=Hb.out
   rw [e] at h5
   rw [<-h5]
   exact ai
  ·have aj:i<m:=by omega
   have ad:i<l.length:=by rw [<-HN.out];exact aj
   obtain ⟨g,o,rfl,cl⟩:=(hc.keep hA ah.chg).at_ ad
   have af:=take_snoc' l ad
   have ae:=HS.out l[i] (zG ad)
   obtain ⟨x,hx⟩:=zX (l[i])
   rw [<-hx] at cl af ae
   have ag:x=((x.toNat:Nat):Int):=(Int.toNat_of_nonneg ae.1).symm
   have ac:x.toNat<2^n:=by
    have e2:((2^n:Nat):Int)=(2:Int)^n:=by simp
    omega
   have ab:=allOf_snoc (l.take i) x n
   rw [<-af] at ab
   obtain ⟨k,hk⟩:=zX (x.toNat)
   rw [<-hk] at ag ac ab
   rw [ag] at cl
   have ao:_=some (Value.int .i64 k):=cl
   have ak:k<65536:=Nat.lt_of_lt_of_le ac (by have:=Nat.pow_le_pow_right (n:=2) (by decide) hn;exact this)
   have al:=hid ab
   have am:=hid ac
   clear ab ac hk ag ae af hx cl ad
   go_wp2_with fail
   refine (wput_ok _ b F' aa k n ai (by omega) am.out (by omega)).mono ?_
   rintro e w2 ⟨rfl,F2,h2,g2⟩
   go_wp2_with fail
   go_roundg j
   case measure=>omega
   case rel =>
    refine ⟨i+1,F2,_,by go_num,by omega,h2,hid ?_,?_,ah.trans g2⟩
    ·rw [al.out,Hb.out,zH]
    ·rw [zC,bitsOf_len];omega
def nbrAt (l:List Int) (W i:Nat):Nbr:=nbr l W (i%W) (i / W)
theorem tnear_ok (l:List Int) (A:Option Addr) (cap W d i:Nat) (w:World) (h0:1<=d) (h1:d<=16) (hW0:1<=W) (hW1:W<=64) (hi:i<=l.length) (hiW:i<64*W) (hs:SmpOk d l) (hc:Cells vi w A l) (hll:l.length<=4096) :
  Calls Tryz.prog 168 #[.slice A l.length cap,.int .i64 W,.int .i64 d,.int .i64 i] w fun e w'=>e=.returned (.tuple #[.int .i64 (guessI 7 (nbrAt l W i) d),.int .i64 (classI (nbrAt l W i) d)])/\Chg [] w w':=by
 obtain ⟨x,hx⟩:=zX (i%W)
 obtain ⟨y,hy⟩:=zX (i / W)
 have ag:x<W:=by rw [hx];exact Nat.mod_lt _ (by omega)
 have ae:y<64:=by rw [hy];exact Nat.div_lt_of_lt_mul (by rw [zY];exact hiW)
 have af:y*W+x=i:=by rw [hx,hy,zY];exact Nat.div_add_mod i W
 have e1:(i:Int)%(W:Int)=(x:Int):=by rw [hx];simp
 have e2:(i:Int) / (W:Int)=(y:Int):=by rw [hy];simp
 have aa:=fun w hc=>near_ok l A cap W x y w hW0 hW1 ag ae (by omega) hc (by omega)
 have ad:=nbr_ok hs W x y
 have ac:=fun w=>class_ok (nbr l W x y) d w h0 h1 ad
 have ab:=fun w=>one_ok 7 (nbr l W x y) d w (by omega) h0 h1 ad
 have d1:nbrAt l W i=nbr l W x y:=by unfold nbrAt;rw [<-hx,<-hy]
 rw [d1]
 obtain ⟨n,hn⟩:=zX (l.length)
 rw [<-hn] at aa ⊢
 generalize nbr l W x y=g at *
 generalize classI g d=cl at *
 generalize guessI 7 g d=gs at *
 obtain ⟨ga,gb,gc,ge⟩:=g
 simp only at aa ac ab
 have HN:=hid aa
 have aj:(1:Int)<=(W:Int):=by omega
 clear hx hy af aa ad d1 hn hs hi
 go_enter Tryz.func168,Tryz.ntmps168
 go_wp2_with fail
 go_quiet ((go_at_call 212;exact quiet_drew (HN.out _ (hc.same ((zR [] w).drewN _)))))
 go_wp2_with fail
 refine (ab _).mono ?_
 rintro e w1 ⟨rfl,ah⟩
 go_wp2_with fail
 refine (ac _).mono ?_
 rintro e w2 ⟨rfl,ai⟩
 go_wp2_with fail
 exact bodyPost_ret (v:=.tuple #[.int .i64 gs,.int .i64 cl]) (by simp [results,Tryz.results168,go_sem]) rfl ⟨rfl,(((zR [] w).drewN nq).trans_same ah).trans_same ai⟩
def foldOf (l:List Int) (W d i:Nat):Nat:=rfold (foldI (l.getD i 0-guessI 7 (nbrAt l W i) d) d)
def foldedN (l:List Int) (W d:Nat):List Nat:=(List.range l.length).map (foldOf l W d)
def foldedL (l:List Int) (W d:Nat):List Int:=(foldedN l W d).map Int.ofNat
theorem foldOf_lt (l:List Int) (W:Nat) {d:Nat} (h0:1<=d) (i:Nat):foldOf l W d i<2^d:=by
 obtain ⟨h1,h2⟩:=foldI_range (l.getD i 0-guessI 7 (nbrAt l W i) d) h0
 have h3:=two_pow_half h0
 have h4:((2^d:Nat):Int)=(2:Int)^d:=by simp
 unfold foldOf rfold
 split<;>omega
theorem foldedN_len (l:List Int) (W d:Nat):(foldedN l W d).length=l.length:=by simp [foldedN]
theorem foldedL_len (l:List Int) (W d:Nat):(foldedL l W d).length=l.length:=by simp [foldedL,foldedN]
theorem folded_ok (l:List Int) (A:Option Addr) (cap W d:Nat) (w:World) (h0:1<=d) (h1:d<=16) (hW0:1<=W) (hW1:W<=64) (hlW:l.length<=64*W) (hs:SmpOk d l) (hc:Cells vi w A l) (hll:l.length<=4096) :
  Calls Tryz.prog 133 #[.slice A l.length cap,.int .i64 W,.int .i64 d] w fun e w'=>∃ v g,e=.returned v/\Row w' 3 v g ((foldedL l W d).map vi)/\Chg [] w w'/\w.heap.size<=g:=by
 have aa:=fun i (hi:i<l.length) w hc=>tnear_ok l A cap W d i w h0 h1 hW0 hW1 (by omega) (by omega) hs hc hll
 have au:foldedL l W d=(List.range l.length).map fun i=>(foldOf l W d i:Int):=by simp [foldedL,foldedN,List.map_map]
 obtain ⟨m,hm⟩:=zX (l.length)
 rw [<-hm] at aa au hll ⊢
 have aQ:=run_make1 (P:=Tryz.prog) int_elem rfl .i64 .i64 m (by omega) (by omega)
 have HN:=hid aa
 have aM:=hid au
 have HM:=hid hm
 have HS:=hid hs
 clear aa au hm hs
 go_enter Tryz.func133,Tryz.ntmps133
 go_wp2_with fail
 have ae:=Row.zeros w m (by omega)
 obtain ⟨B,hB⟩:=zX (w.heap.size)
 rw [<-hB] at ae ⊢
 have HB:=hid hB
 have aF:Chg [] w (w.alloc (.cells (List.replicate m (Value.int .i64 0)).toArray 3)):=(zR [] w).alloc _
 clear hB
 go_loopg [17] m (fun j iv wr=>∃ (done:List Int),iv=.int .i64 done.length/\done.length+j=m/\Hid (done=(List.range done.length).map fun i=>(foldOf l W d i:Int))/\Row wr 3 (.slice (some ⟨B,0,none⟩) m m) B ((fillL done m).map vi)/\Chg [] w wr)
 case atStart=>exact ⟨[],rfl,by simp,hid rfl,ae,aF⟩
 case round =>
  obtain ⟨done,rfl,aJ,Hd,aj,aB⟩:=hrel
  clear ae aF
  rcases gk with _ | j
  ·have az:done.length=m:=by omega
   rw [az]
   go_wp2
   go_ret
   refine ⟨_,B,rfl,?_,aB,by have:=HB.out;omega⟩
   rw [fillL_full az,Hd.out,az] at aj
   rw [aM.out]
   exact aj
  ·obtain ⟨i,hi⟩:=zX (done.length)
   have aI:i<m:=by omega
   have ar:i<l.length:=by rw [<-HM.out];exact aI
   have ad:done++[(foldOf l W d i:Int)]=(List.range (i+1)).map fun i=>(foldOf l W d i:Int):=by
    rw [List.range_succ,zM,hi,<-Hd.out];rfl
   have ao:=hc.same aB
   obtain ⟨g,o,rfl,ac⟩:=ao.at_ ar
   have aD:l[i]=l.getD i 0:=by rw [zD,zF ar];rfl
   rw [aD] at ac
   have ab:wr.cell? ⟨g,o+i,none⟩=some (.int .i64 (l.getD i 0)):=ac
   have ax:=HN.out i aI wr ao
   have ak:=guessI_ok (nbr_ok HS.out W (i%W) (i / W)) 7
   have an:=getD_ok HS.out i
   have am:foldOf l W d i=rfold (foldI (l.getD i 0-guessI 7 (nbrAt l W i) d) d):=rfl
   have aC:nbrAt l W i=nbr l W (i%W) (i / W):=rfl
   rw [<-aC] at ak
   have ai:=foldOf_lt l W h0 i
   obtain ⟨aL,aK⟩:=pow_d h0 h1
   obtain ⟨gs,aH⟩:=zX (guessI 7 (nbrAt l W i) d)
   rw [<-aH] at ax ak am
   obtain ⟨v,hv⟩:=zX (l.getD i 0)
   rw [<-hv] at ab an am
   have aE:=fun w=>fold_ok (v-gs) d w h0 h1
   have av:=foldI_range (v-gs) h0
   obtain ⟨fo,al⟩:=zX (foldI (v-gs) d)
   rw [<-al] at am aE av
   have aA:=errRange16 h1 av
   have ah:wideP fo:=by unfold wideP;omega
   have aw:=fun w=>rfold_ok fo w ah
   rw [<-am] at aw
   obtain ⟨f,hf⟩:=zX (foldOf l W d i)
   rw [<-hf] at aw ai ad
   have aO:f<65536:=by
    have h9:((2^d:Nat):Int)=(2:Int)^d:=by simp
    have aN:=Nat.pow_le_pow_right (n:=2) (by decide) h1
    exact Nat.lt_of_lt_of_le ai aN
   have aR : -65536<=v-gs:=by have:=an.1;have:=ak.2;omega
   have aS:v-gs<=65536:=by have:=an.2;have:=ak.1;omega
   have aP:=hid ad
   have ap:=hid aJ
   have HI:=hid hi
   rw [<-hi]
   clear ad aJ hf al hv aH ak an am aC ai aL aK av aA ah ac aD ar ao hi
   go_wp2_with fail
   refine ax.mono ?_
   rintro e w2 ⟨rfl,aG⟩
   have ag:=aj.chg aG (by simp)
   obtain ⟨aq,ay⟩:=ag.fill_cell (by have:=ap.out;omega)
   rw [<-HI.out] at aq ay
   clear ax ab
   go_wp2_with (first | (go_at_call 103;refine (aE _).mono ?_;rintro e w' ⟨rfl,rfl⟩) | (go_at_call 169;refine (aw _).mono ?_;rintro e w' ⟨rfl,rfl⟩))
   go_roundg j
   case measure=>omega
   case rel =>
    have af:=ag.fill (by have:=ap.out;omega) (f:Int)
    refine ⟨done++[(f:Int)],?_,?_,hid ?_,?_,?_⟩
    ·rw [zC,List.length_singleton,<-HI.out];go_num
    ·rw [zC,List.length_singleton];have:=ap.out;omega
    ·rw [zC,List.length_singleton,<-HI.out]
     exact aP.out
    ·rw [<-HI.out] at af
     exact af
    ·exact (aB.trans_same aG).setCell (.inr (by have:=HB.out;simp;omega)) _
theorem isSize_yes (W H d:Nat) (w:World) (hw0:1<=W) (hw1:W<=16) (hh0:1<=H) (hh1:H<=16) (h0:1<=d) (h1:d<=16) :
  Calls Tryz.prog 130 #[.int .i64 W,.int .i64 H,.int .i64 d] w fun e w'=>e=.returned (.bool true)/\w=w':=by
 have t1:decide ((1:Int)<=(W:Int))=true:=zB (by omega)
 have t2:decide ((W:Int)<=16)=true:=zB (by omega)
 have t3:decide ((1:Int)<=(H:Int))=true:=zB (by omega)
 have t4:decide ((H:Int)<=16)=true:=zB (by omega)
 have t5:decide ((1:Int)<=(d:Int))=true:=zB (by omega)
 have t6:decide ((d:Int)<=16)=true:=zB (by omega)
 go_enter Tryz.func130,Tryz.ntmps130
 go_wp2
 go_ret
 exact ⟨rfl,rfl⟩
theorem isTile_yes (l:List Int) (A:Option Addr) (cap W H d:Nat) (w:World) (hw0:1<=W) (hw1:W<=16) (hh0:1<=H) (hh1:H<=16) (h0:1<=d) (h1:d<=16) (hl:l.length=W*H) (hs:SmpOk d l) (hc:Cells vi w A l) :
  Calls Tryz.prog 104 #[.slice A l.length cap,.int .i64 W,.int .i64 H,.int .i64 d] w fun e w'=>e=.returned (.bool true)/\w=w':=by
 obtain ⟨aj,ai⟩:=pow_d h0 h1
 obtain ⟨m,hm⟩:=zX (l.length)
 rw [<-hm] at hl ⊢
 have ah:(W:Int)*(H:Int)=(m:Int):=by rw [hl];simp
 have t7:((m:Int) != (m:Int))=false:=by simp
 have an:m<=256:=by rw [hl];exact zL hw1 hh1
 have HN:=hid hm
 have HS:=hid hs
 clear hm hl hs
 go_enter Tryz.func104,Tryz.ntmps104
 go_wp2_with (go_at_call 130;refine (isSize_yes _ _ _ _ hw0 hw1 hh0 hh1 h0 h1).mono ?_;rintro e w' ⟨rfl,rfl⟩)
 go_loopg [26] m (fun j i wr=>j<=m/\i=.int .i64 ((m-j:Nat):Int)/\w=wr)
 case atStart=>exact ⟨zQ _,by simp,rfl⟩
 case round =>
  obtain ⟨hj,rfl,rfl⟩:=hrel
  rcases gk with _ | j
  ·have t8:decide (((m-0:Nat):Int)<(m:Int))=false:=by simp
   go_wp2
   go_ret
   exact ⟨rfl,rfl⟩
  ·obtain ⟨i,ad⟩:=zX (m-(j+1))
   rw [<-ad]
   have ag:i<m:=by omega
   have ac:m-j=i+1:=by omega
   have HI:=hid ac
   clear ad ac
   have af:i<l.length:=by rw [<-HN.out];exact ag
   obtain ⟨g,o,rfl,aa⟩:=hc.at_ af
   have hx:=HS.out l[i] (zG _)
   obtain ⟨x,ae⟩:=zX (l[i])
   rw [<-ae] at aa hx
   have ab:w.cell? ⟨g,o+i,none⟩=some (.int .i64 x):=aa
   obtain ⟨am,al⟩:=hx
   have t9:decide (x<0)=false:=zA (by omega)
   have ak:decide ((2:Int)^d<=x)=false:=zA (by omega)
   clear aa ae af
   go_wp2
   go_roundg j
   case measure=>omega
   case rel =>
    rw [HI.out]
    exact ⟨by omega,by go_num,rfl⟩
theorem rnumber_ok (w:World) (b:Nat) (F ds:List Nat) (p k most u:Nat) (h:IsRd w b F ds p) (hk:k<=25) (hu:u<=most) (hm:most<=65536) (ha:Ahead ds p (rbits k (unfoldI u))) :
  Calls Tryz.prog 251 #[.pointer (some ⟨b,0,none⟩),.int .i64 k,.int .i64 most] w fun e w'=>e=.returned (.tuple #[.int .i64 u,.int .i64 0])/\IsRd w' b F ds (p+(rbits k (unfoldI u)).length)/\Chg [b] w w':=by
 have af:=unfoldI_wide (u:=u) (by omega)
 have hg:=rgets_ok w b F ds p k [unfoldI u] h hk (fun z hz=>by rw [zU.1 hz];exact af) (by simp) (by simpa [rbitsAll] using ha)
 rw [show (([unfoldI u]:List Int).length:Int)=1 from rfl] at hg
 have ag:(rbitsAll k [unfoldI u]).length=(rbits k (unfoldI u)).length:=by simp [rbitsAll]
 rw [ag] at hg
 have ae:=fun w'=>rfold_ok (unfoldI u) w' af
 rw [rfold_unfoldI] at ae
 have t1:decide ((u:Int)<=(most:Int))=true:=zB (by omega)
 have aj:decide (u<=most)=true:=zB (by omega)
 have am:IntKind.u64.wrap (most:Int)=(most:Int):=IntWalk.u64_in _ (by omega)
 have ak:IntKind.i64.wrap (u:Int)=(u:Int):=IntWalk.i64_in _ (by omega)
 generalize unfoldI u=x at *
 generalize (rbits k x).length=q at *
 clear h ha ag
 go_enter Tryz.func251,Tryz.ntmps251
 go_wp2_with fail
 refine hg.mono ?_
 rintro e w1 ⟨v,G,rfl,own,ai,ah,hG⟩
 rcases own.cases with ⟨_,ac,_⟩ | ⟨g4,ab,rfl⟩
 ·exfalso
  have:=congrArg List.length ac
  simp at this
 obtain ⟨c4,rfl,_,_,aa,_⟩:=ab.open_map
 have e0:=aa 0 x rfl
 have al:w1.cell? ⟨g4,0,none⟩=some (.int .i64 x):=e0
 rw [show (([x]:List Int).length)=1 from rfl]
 have ad:=ae w1
 clear hg own ab aa e0 ae
 go_wp2_with fail
 refine ad.mono ?_
 rintro e w' ⟨rfl,rfl⟩
 go_wp2
 go_ret2
 exact ⟨rfl,ai,ah⟩
theorem rtoken_ok (w:World) (b:Nat) (F ds:List Nat) (p k j W d:Nat) (t:Tok) (h:IsRd w b F ds p) (hp:Pts w) (h0F:0∉F) (hk:k<=25) (hj:j<=25) (hw0:1<=W) (hw1:W<=64) (hd:d<=16) (ht:TokOk d t) (ha:Ahead ds p (tokBits k j W d t)) :
  Calls Tryz.prog 202 #[.pointer (some ⟨b,0,none⟩),.int .i64 k,.int .i64 j,.int .i64 W,.int .i64 d] w fun e w'=>e=.returned (.tuple #[tokV t,.int .i64 0])/\IsRd w' b F ds (p+(tokBits k j W d t).length)/\Chg [b] w w':=by
 obtain ⟨br,aG⟩:=zX (w.heap.size)
 obtain ⟨w0,af⟩:=zX (w.alloc (.cells #[.int .i64 0,.int .i64 0,.int .i64 0] 211))
 have aQ:Blk w0 br 211 #[.int .i64 0,.int .i64 0,.int .i64 0]:=by rw [af,aG];exact Blk.new w _ _
 have ar:Chg [] w w0:=by rw [af];exact (zR [] w).alloc _
 have au:=h.same ar
 have aU:=hp.same ar
 have aS:br∉F:=fun hm=>by have:=h.lt _ hm;omega
 have ad:b≠br:=by have:=h.lt b h.mem;omega
 have ay:=h.mem
 have aR:=hid af
 have aw:=hid aG
 clear af aG h hp
 unfold tokBits at ha ⊢
 rcases ht with ⟨hl,aK,aA⟩ | ⟨hl,hc⟩
 ·rw [if_pos hl] at ha ⊢
  have a1:=Tok.isLit_iff.1 hl
  obtain ⟨a,c,x⟩:=t
  obtain ⟨rfl,rfl⟩:a=0/\c=0:=a1
  simp only at aK aA ha ⊢
  have an:tokV ⟨0,0,x⟩=.agg #[.int .i64 0,.int .i64 0,.int .i64 x]:=rfl
  rw [an]
  obtain ⟨X,hX⟩:∃ X:Nat,X=x.toNat:=⟨_,rfl⟩
  have az:x=(X:Int):=by omega
  have aI:X<2^d:=by
   have e:(2:Int)^d=((2^d:Nat):Int):=by simp
   rw [e,az] at aA
   omega
  have aZ:X<65536:=Nat.lt_of_lt_of_le aI (show 2^d<=2^16 from Nat.pow_le_pow_right (by decide) hd)
  rw [<-hX] at ha ⊢
  rw [az]
  have ap:=rget_ahead w0 b F ds p 1 0 au (by omega) (by decide) ha.left
  have ai:=ha.right
  rw [bitsOf_len] at ai
  have ah:=fun w' (hr:IsRd w' b F ds (p+1))=>rget_ahead w' b F ds (p+1) d X hr (by omega) aI ai
  rw [zC,bitsOf_len,bitsOf_len]
  have bb:IntKind.i64.wrap (X:Int)=(X:Int):=IntWalk.i64_in _ (by omega)
  have aC:=hid ah
  clear hX az aI aK aA ha ai ah hl an
  go_enter Tryz.func202,Tryz.ntmps202
  go_wp2_with fail
  rw [<-aR.out,<-aw.out]
  refine ap.mono ?_
  rintro e w1 ⟨rfl,aJ,am⟩
  have ao:=aQ.chg am (by simpa using ad.symm)
  clear ap au
  go_wp2_with fail
  refine (aC.out w1 aJ).mono ?_
  rintro e w2 ⟨rfl,ax,al⟩
  have ae:=ao.chg al (by simpa using ad.symm)
  have q0:=ae.cell 0
  have q1:=ae.cell 1
  have q2:=ae.cell 2
  have z0:=ae.frozen 0
  have z1:=ae.frozen 1
  have z2:=ae.frozen 2
  simp at q0 q1 q2
  obtain ⟨wF,ag⟩:=zX (((w2.setCell ⟨br,0,none⟩ (.int .i64 0)).setCell ⟨br,1,none⟩ (.int .i64 0)).setCell ⟨br,2,none⟩ (.int .i64 X))
  have aa:Blk wF br 211 #[.int .i64 0,.int .i64 0,.int .i64 X]:=by
   rw [ag]
   simpa using ((ae.set_ 0 (.int .i64 0)).set_ 1 (.int .i64 0)).set_ 2 (.int .i64 X)
  have ac:Chg [br] w2 wF:=by rw [ag];exact (((zR [br] w2).setCell (.inl (by simp)) _).setCell (.inl (by simp)) _).setCell (.inl (by simp)) _
  have f0:=aa.cell 0
  have f1:=aa.cell 1
  have f2:=aa.cell 2
  simp at f0 f1 f2
  have aF:=hid ag
  clear ag aa ao
  go_wp2_with (go_at_call 84;refine (err_ok _ b F ds _ ax).mono ?_;rintro e w' ⟨rfl,rfl⟩)
  rw [<-aF.out]
  refine bodyPost_ret (v:=.tuple #[.agg #[.int .i64 0,.int .i64 0,.int .i64 X],.int .i64 0]) (by simp [results,Tryz.results202,go_sem,f0,f1,f2]) rfl ?_
  exact ⟨rfl,(ax.cast (by omega)).chg ac (fun z hz hm=>by simp at hm;exact aS (hm ▸ hz)),(((ar.mono (by simp)).trans_same am).trans_same al).trans ac (fun z hz => .inr (by simp at hz;have:=aw.out;omega))⟩
 ·rw [if_neg (by simp [hl])] at ha ⊢
  have a2:=Tok.isCopy_iff.1 hc
  obtain ⟨n,c,x⟩:=t
  obtain ⟨bc,a3,a6,aE,rfl⟩:3<=n/\n<=64/\1<=c/\c<=1024/\x=0:=a2
  have an:tokV ⟨n,c,0⟩=.agg #[.int .i64 n,.int .i64 c,.int .i64 0]:=rfl
  rw [an]
  have aq:=codeN_ok (d:=c) (W:=W) a6
  have ap:=rget_ahead w0 b F ds p 1 1 au (by omega) (by decide) ha.left.left
  have ai:=ha.left.right
  have av:=ha.right
  have e2:lenOf ⟨n,c,0⟩=unfoldI (n-3):=rfl
  have e3:codeOf W ⟨n,c,0⟩=unfoldI (codeN c W-1):=rfl
  rw [zC,bitsOf_len,e2] at av
  rw [bitsOf_len,e2] at ai
  rw [e3] at av
  have ah:=fun w' (hr:IsRd w' b F ds (p+1))=>rnumber_ok w' b F ds (p+1) k 61 (n-3) hr hk (by omega) (by decide) ai
  have ak:=fun w' (hr:IsRd w' b F ds (p+(1+(rbits k (unfoldI (n-3))).length)))=>rnumber_ok w' b F ds _ j 1047 (codeN c W-1) hr hj (by omega) (by decide) av
  rw [zC,zC,bitsOf_len,e2,e3]
  have ab:=fun w' (hp:Pts w')=>mnear_ok (codeN c W) W w' hp aq.1.1 (by omega) hw0 hw1
  rw [aq.2] at ab
  obtain ⟨cd,aN⟩:=zX (codeN c W)
  rw [<-aN] at ak ab aq ⊢
  obtain ⟨c0,aO⟩:=zX (cd-1)
  have a8:(c0:Int)+1=(cd:Int):=by omega
  rw [<-aO] at ak ⊢
  obtain ⟨n0,aL⟩:=zX (n-3)
  have a9:(n0:Int)+3=(n:Int):=by omega
  rw [<-aL] at ah ak ⊢
  generalize (rbits k (unfoldI n0)).length=q1 at *
  generalize (rbits j (unfoldI c0)).length=q2 at *
  rw [show ((61:Nat):Int)=61 from rfl] at ah
  rw [show ((1047:Nat):Int)=1047 from rfl] at ak
  have t1:(((1:Nat):Int)==0)=false:=rfl
  have aM:cd<=1048:=by omega
  have aC:=hid ah
  have aV:=hid ak
  have a7:=hid ab
  clear ha ai av ah ak ab aN aO aL e2 e3 hl hc an aq
  go_enter Tryz.func202,Tryz.ntmps202
  go_wp2_with fail
  rw [<-aR.out,<-aw.out]
  refine ap.mono ?_
  rintro e w1 ⟨rfl,aJ,am⟩
  have ao:=aQ.chg am (by simpa using ad.symm)
  have aT:=aU.chg am (fun hm=>by simp at hm;exact h0F (hm ▸ ay))
  clear ap au
  go_wp2_with fail
  refine (aC.out w1 aJ).mono ?_
  rintro e w2 ⟨rfl,ax,al⟩
  have ae:=ao.chg al (by simpa using ad.symm)
  have a5:=aT.chg al (fun hm=>by simp at hm;exact h0F (hm ▸ ay))
  go_wp2_with fail
  refine (aV.out w2 (ax.cast (by omega))).mono ?_
  rintro e w3 ⟨rfl,a0,aB⟩
  have aP:=ae.chg aB (by simpa using ad.symm)
  have aX:=a5.chg aB (fun hm=>by simp at hm;exact h0F (hm ▸ ay))
  go_wp2_with fail
  refine (a7.out w3 aX).mono ?_
  rintro e ba ⟨rfl,n4,rfl⟩
  obtain ⟨w4,aH⟩:=zX (w3.drewN n4)
  have aD:Chg [] w3 w4:=by rw [aH];exact (zR [] w3).drewN n4
  rw [<-aH]
  have aj:=aP.chg aD (by simp)
  have q0:=aj.cell 0
  have a4:=aj.cell 1
  have aW:=aj.cell 2
  have z0:=aj.frozen 0
  have z1:=aj.frozen 1
  have z2:=aj.frozen 2
  simp at q0 a4 aW
  obtain ⟨wF,ag⟩:=zX (((w4.setCell ⟨br,0,none⟩ (.int .i64 n)).setCell ⟨br,1,none⟩ (.int .i64 c)).setCell ⟨br,2,none⟩ (.int .i64 0))
  have aa:Blk wF br 211 #[.int .i64 n,.int .i64 c,.int .i64 0]:=by
   rw [ag]
   simpa using ((aj.set_ 0 (.int .i64 n)).set_ 1 (.int .i64 c)).set_ 2 (.int .i64 0)
  have ac:Chg [br] w4 wF:=by rw [ag];exact (((zR [br] w4).setCell (.inl (by simp)) _).setCell (.inl (by simp)) _).setCell (.inl (by simp)) _
  have f0:=aa.cell 0
  have f1:=aa.cell 1
  have f2:=aa.cell 2
  simp at f0 f1 f2
  have aF:=hid ag
  have aY:=a0.same aD
  clear ag aa ao ae aP aH
  go_wp2_with fail
  rw [<-aF.out]
  refine bodyPost_ret (v:=.tuple #[.agg #[.int .i64 n,.int .i64 c,.int .i64 0],.int .i64 0]) (by simp [results,Tryz.results202,go_sem,f0,f1,f2]) rfl ?_
  exact ⟨rfl,(aY.cast (by omega)).chg ac (fun z hz hm=>by simp at hm;exact aS (hm ▸ hz)),(((((ar.mono (by simp)).trans_same am).trans_same al).trans_same aB).trans aD (by simp)).trans ac (fun z hz => .inr (by simp at hz;have:=aw.out;omega))⟩
theorem grow_ok (w:World) (l:List Int) (v:Value) (F:List Nat) (i:Nat) (t:Tok) (ho:Own w 3 v F ((l.take i).map vi)) (hl:l.length<=4096) (hil:i<l.length) (ht:TokAt l i t) (hok:t.ok) :
  Calls Tryz.prog 203 #[v,tokV t] w fun e w'=>∃ v' F',e=.returned v'/\Own w' 3 v' F' ((l.take (i+max t.len 1)).map vi)/\Grow F F' w w':=by
 obtain ⟨bt,al⟩:=zX (w.heap.size)
 have ai:=fun w'=>isLit_ok t w'
 have aS:(l.take i).length=i:=by rw [zI];omega
 have aX:=hid ho.lt
 rcases ht with ⟨h1,h2,h3⟩ | ⟨h1,h2,h3,h4,h5⟩
 ·have ac:t.isLit=true:=Tok.isLit_iff.2 ⟨h1,h2⟩
  rw [ac] at ai
  obtain ⟨a,c,x⟩:=t
  simp only at h1 h2 h3
  subst h1 h2
  have ap:tokV ⟨0,0,x⟩=.agg #[.int .i64 0,.int .i64 0,.int .i64 x]:=rfl
  rw [ap] at ai ⊢
  have aO:l.take (i+max 0 1)=l.take i++[x]:=by
   rw [show i+max 0 1=i+1 by omega,take_snoc' l hil,h3,zD,zF hil]
   rfl
  simp only
  rw [aO]
  obtain ⟨xs,am⟩:=zX (l.take i)
  rw [<-am] at ho aS ⊢
  obtain ⟨w0,ag⟩:=zX (w.alloc (.cells #[.int .i64 0,.int .i64 0,.int .i64 x] 211))
  have af:Blk w0 bt 211 #[.int .i64 0,.int .i64 0,.int .i64 x]:=by rw [ag,al];exact Blk.new w _ _
  have an:Chg [] w w0:=by rw [ag];exact (zR [] w).alloc _
  have ar:=ho.same an
  have q0:=af.cell 0
  have q1:=af.cell 1
  have q2:=af.cell 2
  simp at q0 q1 q2
  have aB:=hid ag
  have aq:=hid al
  clear h3 aO am ac hok ap ag al ho
  go_enter Tryz.func203,Tryz.ntmps203
  go_wp2_with fail
  rw [<-aB.out]
  refine (ai w0).mono ?_
  rintro e w1 ⟨rfl,aj⟩
  have aI:=(af.chg aj (by simp)).cell 2
  simp at aI
  rw [aq.out] at aI
  have aw:=ar.same aj
  clear ai q0 q1 q2 af ar
  go_wp2_with (at_builtin;refine wpList_append_o1 rfl rfl int_elem rfl rfl (aw.alloc _) (.int .i64 x) rfl ?c1 ?c2 ?c3 ?c4 ?_)
  case c1=>simp [go_sem]
  case c2=>rfl
  case c3=>rw [zE];omega
  case c4=>rw [zE];omega
  intro g2 aE w2 aD av
  go_wp2_with fail
  go_ret
  exact ⟨_,[g2],rfl,by have:=aD.toOwn;simpa [vi] using this,Grow.pre ((an.trans_same aj).alloc _) av⟩
 ·have ac:t.isLit=false:=by
   cases hq:t.isLit with
   | false=>rfl
   | true=>have := Tok.isLit_iff.1 hq;omega
  rw [ac] at ai
  have aQ:=Tok.isCopy_iff.1 (by rcases hok with h | h;rw [ac] at h;cases h;exact h)
  obtain ⟨n,c,x⟩:=t
  simp only at h1 h2 h3 h4 h5 aQ
  obtain rfl:x=0:=aQ.2.2.2.2
  have ap:tokV ⟨n,c,0⟩=.agg #[.int .i64 n,.int .i64 c,.int .i64 0]:=rfl
  rw [ap] at ai ⊢
  have aL:i+max n 1=i+n:=by omega
  simp only
  rw [aL]
  obtain ⟨w0,ag⟩:=zX (w.alloc (.cells #[.int .i64 n,.int .i64 c,.int .i64 0] 211))
  have af:Blk w0 bt 211 #[.int .i64 n,.int .i64 c,.int .i64 0]:=by rw [ag,al];exact Blk.new w _ _
  have an:Chg [] w w0:=by rw [ag];exact (zR [] w).alloc _
  have ar:=ho.same an
  have q0:=af.cell 0
  have q1:=af.cell 1
  have q2:=af.cell 2
  simp at q0 q1 q2
  have aB:=hid ag
  have aq:=hid al
  have H5:=hid h5
  clear aL ac hok ap ag al ho h5
  go_enter Tryz.func203,Tryz.ntmps203
  go_wp2_with fail
  rw [<-aB.out]
  refine (ai w0).mono ?_
  rintro e w1 ⟨rfl,aj⟩
  have az:=af.chg aj (by simp)
  have ay:=az.cell 0
  simp at ay
  rw [aq.out] at ay
  have aw:=ar.same aj
  have aM:Grow F F w w1:=(Grow.refl F w).same (an.trans_same aj)
  have au:bt∉F:=fun hm=>by have:=aX.out _ hm;have:=aq.out;omega
  clear ai q0 q1 q2 af ar
  go_wp2_with fail
  go_loopg [0,14] n (fun k vl iv wr=>∃ (m:Nat) (F':List Nat),iv=.int .i64 m/\m+k=n/\Own wr 3 vl F' ((l.take (i+m)).map vi)/\Blk wr bt 211 #[.int .i64 n,.int .i64 c,.int .i64 0]/\bt∉F'/\Grow F F' w wr)
  case atStart=>exact ⟨0,F,rfl,by omega,aw,az,au,aM⟩
  case round =>
   clear aw az au aM ay
   obtain ⟨m,F',rfl,a0,ab,ak,aF,aK⟩:=hrel
   rcases gk with _ | k
   ·obtain rfl:n=m:=by omega
    have t5:decide ((n:Int)<(n:Int))=false:=by simp
    have aV:decide (n<n)=false:=by simp
    obtain ⟨A,aY,rfl,_,_,_⟩:=ab.open_map
    go_wp2_with fail
    go_ret
    exact ⟨_,F',rfl,ab,aK⟩
   ·have aG:m<n:=by omega
    have t5:decide ((m:Int)<(n:Int))=true:=zB (by omega)
    have aV:decide (m<n)=true:=zB aG
    have ao:(l.take (i+m)).length=i+m:=by rw [zI];omega
    obtain ⟨q,hq⟩:=zX (i+m-c)
    have aJ:q<i+m:=by omega
    obtain ⟨A,aY,rfl,ax,a3,aa⟩:=ab.open_map
    obtain ⟨ga,oa,rfl,ae⟩:=aa.at_ (m:=q) (by rw [ao];exact aJ)
    have aN:(l.take (i+m))[q]=l.getD (i+m) 0:=by
     rw [H5.out m aG,<-hq,List.getElem_take,zD,zF (by omega)]
     rfl
    rw [aN] at ae
    have aC:i+m<l.length:=by omega
    have ad:=take_snoc' l aC
    have aP:l[i+m]=l.getD (i+m) 0:=by rw [zD,zF aC];rfl
    rw [aP] at ad
    generalize l.getD (i+m) 0=y at *
    have aA:wr.cell? ⟨ga,oa+q,none⟩=some (.int .i64 y):=ae
    obtain ⟨im,ah⟩:=zX (i+m)
    rw [<-ah] at ao ab ad aJ aa ax
    obtain ⟨xs,am⟩:=zX (l.take im)
    rw [<-am] at ao ab ad ax aa
    have a2:(im:Int)-(c:Int)=(q:Int):=by omega
    have aH:=ak.cell 1
    simp at aH
    rw [aq.out] at aH
    rw [ao] at ab ax
    have aU:=ab.alloc (.cells #[.int .i64 y] 3)
    have aZ:=hid ad
    have aW:=hid ah
    have aR:im<=4096:=by omega
    rw [<-ah,<-am,ao]
    clear ae aN aP ad ah am aa hq aC
    go_wp2_with (at_builtin;refine wpList_append_o1 rfl rfl int_elem rfl rfl aU (.int .i64 y) rfl ?c1 ?c2 ?c3 ?c4 ?_)
    case c1=>simp [go_sem]
    case c2=>rfl
    case c3=>rw [zE];omega
    case c4=>rw [zE];omega
    intro g2 aE w2 aD av
    go_wp2_with fail
    go_roundg k
    case measure=>omega
    case rel =>
     have a1:g2∉F'\/g2∈F':=by by_cases hh:g2∈F'<;>simp [hh]
     have aT:bt∉[g2]:=fun hm=>by
      simp at hm
      rcases av.new g2 (by simp) with h9 | h9
      ·exact aF (hm ▸ h9)
      ·have:=ak.lt;simp at h9;omega
     have e1:i+(m+1)=im+1:=by have:=aW.out;omega
     refine ⟨m+1,[g2],by go_num,by omega,?_,(Blk.alloc ak _).chg av.chg aF,aT,(aK.alloc _).trans av⟩
     rw [e1,aZ.out,zM]
     have:=aD.toOwn
     exact this
theorem mtget_ok (w:World) (b:Nat) (F ds:List Nat) (p:Nat) (l:List Int) (W d:Nat) (T:List Tok) (h:IsRd w b F ds p) (hp:Pts w) (h0F:0∉F) (hw0:1<=W) (hw1:W<=64) (h0:1<=d) (h1:d<=16) (hl:l.length<=4096) (hT:ToksFrom l 0 T) (hok:∀ t∈T,TokOk d t) (ha:Ahead ds p (matchBits T W d)) :
  Calls Tryz.prog 162 #[.pointer (some ⟨b,0,none⟩),.int .i64 l.length,.int .i64 W,.int .i64 d] w fun e w'=>∃ v G,e=.returned (.tuple #[v,.int .i64 0])/\Own w' 3 v G (l.map vi)/\IsRd w' b F ds (p+(matchBits T W d).length)/\Chg [b] w w'/\∀ x∈G,w.heap.size<=x:=by
 have aQ:matchBits T W d=bitsOf (rbest (copyLens T)) 5++bitsOf (rbest (copyCodes W T)) 5++T.flatMap (tokBits (rbest (copyLens T)) (rbest (copyCodes W T)) W d):=rfl
 rw [aQ] at ha ⊢
 rw [zC,zC,bitsOf_len,bitsOf_len]
 have hk:=rbest_le (copyLens T)
 have hj:=rbest_le (copyCodes W T)
 generalize rbest (copyLens T)=k at *
 generalize rbest (copyCodes W T)=j at *
 have aX:=rget_ahead w b F ds p 5 k h (by omega) (by omega) ha.left.left
 have aA:=ha.left.right
 have aG:=ha.right
 rw [bitsOf_len] at aA
 rw [zC,bitsOf_len,bitsOf_len] at aG
 have aO:=fun w' (hr:IsRd w' b F ds (p+5))=>rget_ahead w' b F ds (p+5) 5 j hr (by omega) (by omega) aA
 obtain ⟨n,hn⟩:=zX (l.length)
 rw [<-hn] at hl ⊢
 have t1:decide ((W:Int)<1)=false:=zA (by omega)
 have t2:decide ((64:Int)<(W:Int))=false:=zA (by omega)
 have t3:decide ((d:Int)<1)=false:=zA (by omega)
 have t4:decide ((16:Int)<(d:Int))=false:=zA (by omega)
 have t5:decide ((n:Int)<0)=false:=zA (by omega)
 have t6:decide ((4096:Int)<(n:Int))=false:=zA (by omega)
 have t7:decide ((25:Int)<(k:Int))=false:=zA (by omega)
 have t8:decide ((25:Int)<(j:Int))=false:=zA (by omega)
 have be:=run_make_room (P:=Tryz.prog) int_elem rfl .i64 .i64 n (by omega) (by omega)
 have bg:=h.lt b h.mem
 have HN:=hid hn
 have HA:=hid aG
 have HT:=hid hT
 have bd:=hid hok
 have a5:=hid aO
 have a7:=hid h.lt
 have HP:=hid hp
 have bb:Hid (0∉[b]):=hid (by simp;intro e;exact h0F (e ▸ h.mem))
 clear hn aG hT hok aO ha aA aQ hp h
 go_enter Tryz.func162,Tryz.ntmps162
 go_wp2_with fail
 refine aX.mono ?_
 rintro e w1 ⟨rfl,a0,az⟩
 clear aX
 go_wp2_with fail
 refine (a5.out w1 a0).mono ?_
 rintro e w2 ⟨rfl,aK,aE⟩
 have ac:=Row.room w2 n (by omega)
 obtain ⟨B,hB⟩:=zX (w2.heap.size)
 have aL:Chg [] w2 (w2.alloc (.cells (List.replicate n (Value.int .i64 0)).toArray 3)):=(zR [] w2).alloc _
 have aS:=aK.same aL
 have ak:=(az.trans_same aE).trans aL (by simp)
 have aY:w.heap.size<=B:=by rw [hB];exact (az.trans_same aE).size
 rw [<-hB] at ac
 have HB:=hid hB
 clear a0 az aE aL hB
 go_wp2_with (go_at_call 84;refine (err_ok _ b F ds _ aK).mono ?_;rintro e w' ⟨rfl,rfl⟩)
 rw [<-HB.out]
 go_loopg [13,14,15] T.length (fun q vl va vb wr=>∃ (i p':Nat) (R:List Tok) (F':List Nat),R.length=q/\i<=n/\Own wr 3 vl F' ((l.take i).map vi)/\Hid (ToksFrom l i R)/\Hid (∀ t∈R,TokOk d t)/\IsRd wr b F ds p'/\Hid (Ahead ds p' (R.flatMap (tokBits k j W d)))/\Hid (p'+(R.flatMap (tokBits k j W d)).length=p+(5+5)+(T.flatMap (tokBits k j W d)).length)/\Hid (Chg [b] w wr)/\Hid (∀ x∈F',w.heap.size<=x))
 case atStart=>exact ⟨0,p+(5+5),T,[B],rfl,by omega,by simpa using ac.toOwn,HT,bd,aS.cast (by omega),HA,hid rfl,hid ak,hid (by simpa using aY)⟩
 case round =>
  clear ac aK aS ak aY
  obtain ⟨i,p',R,F',aV,bm,aa,aW,aT,aF,a9,aU,aw,ap⟩:=hrel
  obtain ⟨A,bi,rfl,aN,bl,ab⟩:=aa.open_map
  have am:(l.take i).length=i:=by rw [zI,<-HN.out];omega
  cases R with
  | nil =>
   have aZ:n<=i:=by have:=aW.out;rw [HN.out];exact this
   obtain rfl:n=i:=by omega
   have u1:decide (n<n)=false:=by simp
   have e1:l.take n=l:=by rw [HN.out,zN]
   have aP:=aU.out
   rw [am]
   rw [am,e1] at aa
   have aH:Hid (p'=p+(5+5+(T.flatMap (tokBits k j W d)).length)):=hid (by
    rw [show (([]:List Tok).flatMap (tokBits k j W d))=[] from rfl,List.length_nil] at aP
    omega)
   clear aP e1 ab aN am
   go_wp2_with fail
   go_ret2
   exact ⟨_,F',rfl,aa,aF.cast aH.out,aw.out,ap.out⟩
  | cons t R =>
   obtain ⟨aI,al,aR⟩:=aW.out
   rcases gk with _ | q
   ·simp at aV
   have a4:i<n:=by rw [HN.out];exact aI
   have u1:decide (i<n)=true:=zB a4
   have ax:=a9.out
   rw [List.flatMap_cons] at ax
   have ad:=aT.out t (by simp)
   have aJ:=rtoken_ok wr b F ds p' k j W d t aF (HP.out.chg aw.out bb.out) h0F hk hj hw0 hw1 h1 ad ax.left
   have ba:=hid ax.right
   have bk:=hid al
   have aD:=hid aR
   have bj:=hid ad
   have ar:=fun w' v F0 (ho:Own w' 3 v F0 ((l.take i).map vi))=>grow_ok w' l v F0 i t ho (by rw [<-HN.out];exact hl) aI al ad.ok
   have ag:i+max t.len 1<=n:=by
    rcases al with ⟨a1,_,_⟩ | ⟨a1,a2,_⟩
    ·rw [a1];omega
    ·rw [<-HN.out] at a2;omega
   have a3:t.dist<=i:=by
    rcases al with ⟨_,a1,_⟩ | ⟨_,_,_,a1,_⟩
    ·omega
    ·exact a1
   have bc:t.len<=n-i:=by omega
   have a6:=hid ar
   have aM:=hid ag
   obtain ⟨tl,ai⟩:=zX (t.len)
   obtain ⟨td,aj⟩:=zX (t.dist)
   obtain ⟨tx,aq⟩:=zX (t.lit)
   have aC:tokV t=.agg #[.int .i64 tl,.int .i64 td,.int .i64 tx]:=by rw [ai,aj,aq];rfl
   rw [<-aj] at a3
   rw [<-ai] at bc
   have u2:decide ((i:Int)<(td:Int))=false:=zA (by omega)
   have bf:decide (i<td)=false:=zA (by omega)
   obtain ⟨ni,aZ⟩:=zX (n-i)
   have bh:(n:Int)-(i:Int)=(ni:Int):=by omega
   have u3:decide (ni<tl)=false:=zA (by omega)
   have a8:=hid aC
   rw [am]
   rw [am] at aa aN
   rw [aC] at aJ
   clear ax aI al aR ar ag ai aj aq aC aZ ab ad
   go_wp2_with fail
   refine aJ.mono ?_
   rintro e w3 ⟨rfl,au,ak⟩
   have ae:=aa.chg ak (fun x hx hm=>by simp at hm;have:=ap.out x hx;omega)
   clear aJ aF aa
   have av:=Blk.new w3 211 #[.int .i64 tl,.int .i64 td,.int .i64 tx]
   have k0:=av.cell 0
   have k1:=av.cell 1
   have k2:=av.cell 2
   simp at k0 k1 k2
   have af:=ae.alloc (.cells #[.int .i64 tl,.int .i64 td,.int .i64 tx] 211)
   have ah:=a6.out _ _ _ af
   rw [a8.out] at ah
   have ay:=hid au
   have ao:=hid ak
   clear ae af au ak av
   go_wp2_with fail
   refine ah.mono ?_
   rintro e w5 ⟨v5,F5,rfl,an,aB⟩
   clear ah k0 k1 k2
   go_wp2_with fail
   go_roundg q
   case measure=>omega
   case rel =>
    refine ⟨i+max t.len 1,p'+(tokBits k j W d t).length,R,F5,by simpa using aV,aM.out,an,aD,hid (fun t' ht'=>aT.out t' (by simp [ht'])),(ay.out.same ((zR [] w3).alloc _)).chg aB.chg (fun x hx hm=>by have:=a7.out x hx;have:=ap.out x hm;omega),ba,hid ?_,hid ?_,hid ?_⟩
    ·have:=aU.out
     rw [List.flatMap_cons,zC] at this
     omega
    ·exact ((aw.out.trans_same ao.out).alloc _).trans aB.chg (fun x hx => .inr (ap.out x hx))
    ·intro x hx
     rcases aB.new x hx with h9 | h9
     ·exact ap.out x h9
     ·have:=aw.out.size;have:=ao.out.size;simp at h9;omega
end Go.Proofs.YtklocammllljiaaGreatDoor
