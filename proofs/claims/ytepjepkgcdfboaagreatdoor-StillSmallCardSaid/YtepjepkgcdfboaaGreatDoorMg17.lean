/- package match by its contracts, the second part: distances. -/
import Derived.Test.YtepjepkgcdfboaaGreatDoorMg04
import Derived.Test.YtepjepkgcdfboaaGreatDoorMg16
import Derived.Test.YtepjepkgcdfboaaGreatDoorMg18
import Derived.Test.YtepjepkgcdfboaaGreatDoorMg34
set_option linter.unusedVariables false
set_option linter.unusedSimpArgs false
set_option maxHeartbeats 4000000
set_option maxRecDepth 100000
namespace Go.Proofs.YtepjepkgcdfboaaGreatDoor
open Go.RowKit
theorem zero95:Tryz.zeroCells204=((List.replicate 65 0).map i64).toArray:=by kernel_rfl
theorem zero94:Tryz.zeroCells203=((List.replicate 1025 0).map i64).toArray:=by kernel_rfl
theorem mdist_ok (l:List Int) (A:Option Addr) (cap at_ br:Nat) (rs:List Nat) (w:World) (hat:at_<l.length) (hll:l.length<=4096) (hc:Cells vi w A l) (hr:Vec w br 203 rs) (hro:RunsOk rs) (hA:Apt A l [br]) :
  Calls Tryz.prog 163 #[.slice A l.length cap,.int .i64 at_,.pointer (some ⟨br,0,none⟩)] w fun e w' =>
   e=.returned (.agg ((distF l at_ rs).dists.map i64).toArray)/\Vec w' br 203 (distF l at_ rs).runs/\Chg [br] w w':=by
 have bo:=Blk.lt hr
 obtain ⟨n,hn⟩:=zX (l.length)
 rw [<-hn] at hat hll ⊢
 obtain ⟨M,hM⟩:=zX (min at_ 1024)
 have a9:distF l at_ rs=dGo l at_ M 1 (dStart rs):=by rw [hM];rfl
 rw [a9]
 have aA:=dStart_ok hro
 obtain ⟨S,hS⟩:=zX (dGo l at_ M 1 (dStart rs))
 have aJ:S.Ok:=by rw [hS];exact dGo_ok _ _ _ aA (by omega)
 rw [<-hS]
 have HN:=hid hn
 have HS:=hid hS
 have HA:=hid hA
 have aU:=hid aA
 have a3:=hid aJ
 have bx:M<=at_:=by omega
 have bw:M<=1024:=by omega
 have bm:at_<=M\/1024<=M:=by omega
 have a5:Vec (w.alloc (.cells Tryz.zeroCells204 204)) w.heap.size 204 (List.replicate 65 0):=by have:=Blk.new w 204 Tryz.zeroCells204;rw [zero95] at this;rw [zero95];exact this
 have bc:Vec ((w.alloc (.cells Tryz.zeroCells204 204)).alloc (.cells Tryz.zeroCells204 204)) (w.heap.size+1) 204 (List.replicate 65 0):=by
  have:=Blk.new (w.alloc (.cells Tryz.zeroCells204 204)) 204 Tryz.zeroCells204
  rw [show (w.alloc (.cells Tryz.zeroCells204 204)).heap.size=w.heap.size+1 by simp] at this
  rw [zero95] at this ⊢
  exact this
 have bi:Chg [br] w ((w.alloc (.cells Tryz.zeroCells204 204)).alloc (.cells Tryz.zeroCells204 204)):=((zR [br] w).alloc _).alloc _
 have aY:Vec ((w.alloc (.cells Tryz.zeroCells204 204)).alloc (.cells Tryz.zeroCells204 204)) w.heap.size 204 (List.replicate 65 0):=Blk.alloc a5 _
 have bd:Vec ((w.alloc (.cells Tryz.zeroCells204 204)).alloc (.cells Tryz.zeroCells204 204)) br 203 rs:=Blk.alloc (Blk.alloc hr _) _
 have bn:(if (1024:Int)<(at_:Int) then (1024:Int) else (at_:Int))=(M:Int):=by split<;>omega
 clear hn a9 hS hA aA aJ hro hM hr a5 bm
 go_enter Tryz.func163,Tryz.ntmps163
 go_wp2_with fail
 go_loopg [8,9] M (fun j m iv wr=>∃ (d:Nat) (s:DSt),iv=.int .i64 d/\m=.int .i64 s.longest/\d+j=M+1/\1<=d/\Hid (S=dGo l at_ j d s)/\Hid s.Ok/\Vec wr br 203 s.runs/\Vec wr (w.heap.size+1) 204 s.dists/\Vec wr w.heap.size 204 (List.replicate 65 0)/\Chg [br] w wr)
 case atStart=>exact ⟨1,dStart rs,rfl,rfl,by omega,zQ _,HS,aU,bd,bc,aY,bi⟩
 case round =>
  obtain ⟨d,s,rfl,rfl,hj,bs,HG,ag,ah,aC,aq,ay⟩:=hrel
  rcases gk with _ | j
  ·have bk:S=s:=HG.out
   have bl:d=M+1:=by omega
   clear HG
   have t1:decide ((d:Int)<=(M:Int))=false:=zA (by omega)
   have aD:(Tryz.prog.info? 204).map (·.size)=some 65:=by kernel_rfl
   subst bk
   have aO:(S.dists.map i64).length=65:=by rw [zE];exact a3.out.dl
   have aR:(S.dists.map i64).toArray.size=65:=by simpa using aO
   have aL:(List.replicate 65 0 |>.map i64).toArray.size=65:=by simp
   have a1:Blk (wr.setCells w.heap.size 0 (S.dists.map i64)) w.heap.size 204 (S.dists.map i64).toArray:=Blk.setCells aq _ (by rw [aL,aO])
   have aT:Chg [br] w (wr.setCells w.heap.size 0 (S.dists.map i64)):=Chg.setCells (.inr (zQ _)) _ _ _ ay
   have ac:Vec (wr.setCells w.heap.size 0 (S.dists.map i64)) br 203 S.runs:=Blk.chg ah (Chg.setCells (F:=[w.heap.size]) (.inl (by simp)) _ _ _ (zR _ _)) (by simp;omega)
   have HE:(S.dists.map i64).toArray.toList=S.dists.map i64:=rfl
   go_wp2_with (first
    | refine wpList_load_row rfl 204 (.tmp 7) rfl (w.heap.size+1) rfl _ _ _ _ aC Tryz.underlying204 rfl (by rw [aR];exact aD) ?_
    | refine wpList_store_mid rfl 204 (.tmp 6) (.tmp 54) rfl w.heap.size 0 (S.dists.map i64).toArray rfl rfl (Blk.there aq (by rw [aR,aL];exact zQ _)) (by rw [aR];exact aD) (vec_one _) ?_)
   all_goals exact bodyPost_ret (v:=.agg (S.dists.map i64).toArray) (results_cell_row rfl _ _ w.heap.size _ _ (0,0) _ rfl a1 Tryz.underlying204 rfl (by rw [aR];exact aD)) rfl ⟨rfl,ac,aT⟩
  ·have bl:d<=M:=by omega
   have aN:=ag.out
   have aQ:d<s.runs.length:=by rw [aN.rl];omega
   have a0:Cells vi wr A l:=hc.keep HA.out ay
   have aW:at_<l.length:=by rw [<-HN.out];exact hat
   have aj:at_-d<l.length:=by omega
   obtain ⟨g,o,rfl,ca⟩:=a0.at_ aW
   obtain ⟨g',o',e',cb⟩:=a0.at_ aj
   injection e' with e'
   injection e' with e1 e2 _
   subst e1
   subst e2
   have ga:l[at_]=l.getD at_ 0:=by rw [zD,zF aW];rfl
   have gb:l[at_-d]=l.getD (at_-d) 0:=by rw [zD,zF aj];rfl
   rw [ga] at ca
   rw [gb] at cb
   have a6:dGo l at_ (j+1) d s=dGo l at_ j (d+1) (dStep l at_ s d):=rfl
   rw [a6] at HG
   have aI:=dStep_ok (l:=l) (at_:=at_) aN (show d<=1024 by omega)
   have aH:runAt l at_ s.runs d=if l.getD at_ 0=l.getD (at_-d) 0 then min (s.runs.getD d 0+1) 64 else 0:=rfl
   have bj:=runAt_le l at_ s.runs d
   have am:dStep l at_ s d=⟨s.runs.set d (runAt l at_ s.runs d),fillD (runAt l at_ s.runs d-s.longest) s.dists s.longest d,max s.longest (runAt l at_ s.runs d)⟩:=rfl
   have bq:=aN.l64
   have bg:s.runs.getD d 0<=64:=by rw [zD,zF aQ];exact aN.r64 _ (zG aQ)
   have aE:=ah.cell aQ
   have aB:=Blk.frozen ah d
   generalize runAt l at_ s.runs d=r at *
   generalize l.getD at_ 0=xa at *
   generalize l.getD (at_-d) 0=xb at *
   generalize s.runs.getD d 0=ro at *
   have bv:wr.cell? ⟨g,o+at_,none⟩=some (.int .i64 xa):=ca
   have bf:wr.cell? ⟨g,o+(at_-d),none⟩=some (.int .i64 xb):=cb
   have bh:(at_:Int)-(d:Int)=((at_-d:Nat):Int):=by omega
   obtain ⟨ad,aM⟩:=zX (at_-d)
   rw [<-aM] at bf bh aj
   have be:ad<n:=by rw [HN.out];exact aj
   have t1:decide ((d:Int)<=(M:Int))=true:=zB (by omega)
   have al:=hid am
   have aV:=hid aH
   have aX:=hid aI
   clear ca cb ga gb a6 aI am aN aW aQ aj a0 aH aM
   have a7:Hid (xa≠xb->r=0):=hid fun hq=>by rw [aV.out,if_neg hq]
   have bb:Hid (xa=xb->r=min (ro+1) 64):=hid fun hq=>by rw [aV.out,if_pos hq]
   clear aV
   have aF:(xa=xb/\r=ro+1/\ro<64)\/(xa=xb/\r=64/\ro=64)\/(xa≠xb/\r=0):=by
    by_cases hq:xa=xb
    ·have:=bb.out hq
     omega
    ·exact .inr (.inr ⟨hq,a7.out hq⟩)
   clear a7 bb
   rcases aF with ⟨hq,aG,a2⟩ | ⟨hq,aG,a2⟩ | ⟨hq,aG⟩
   ·have t3:(xa==xb)=true:=by simpa using hq
    have t4:decide ((64:Int)<(ro:Int)+1)=false:=zA (by omega)
    have er:(ro:Int)+1=(r:Int):=by omega
    clear aG hq
    go_upto_region 6 with (fail)
    go_quiet (fail)
    go_upto_region 7 with (fail)
    have ae:=ah.chg ((zR [] wr).drewN nq) (by simp)
    have ab:=ae.cell (i:=d) (by rw [ag.out.rl];omega)
    have aa:=Blk.frozen ae d
    refine wp_region_quiet_tail 11 (by kernel_rfl) (by kernel_rfl) ?_
    simp only [List.take_succ_cons,List.take_zero,List.drop_succ_cons,List.drop_zero]
    repeat (go_big_quiet_step (fail))
    refine wpQuiet_nil ?_
    intro _ aS
    obtain ⟨ak,rfl⟩:=aS
    go_wp2_with fail
    have ac:=ah.chg ((zR [] wr).drewN (nq+ak)) (by simp)
    have ap:=ac.set_ d r
    have az:=Blk.far (aC.chg ((zR [] wr).drewN (nq+ak)) (by simp)) (p:=⟨br,d,none⟩) (by simp;omega) (.int .i64 r)
    have ax:=Blk.far (aq.chg ((zR [] wr).drewN (nq+ak)) (by simp)) (p:=⟨br,d,none⟩) (by simp;omega) (.int .i64 r)
    have ao:=(ay.drewN (nq+ak)).setCell (p:=⟨br,d,none⟩) (.inl (by simp)) (.int .i64 r)
    have au:(s.runs.set d r).length=1025:=by rw [List.length_set];exact ag.out.rl
    have ar:(s.runs.set d r).getD d 0=r:=by rw [zD,List.getElem?_set_self (by rw [ag.out.rl];omega)];rfl
    have aK:=hid au
    have aP:=hid ar
    clear au ar aE aB ab aa ah ae aC aq ay
    go_loopg [8] (r-s.longest) (fun j2 iv wr2=>∃ (m:Nat) (D:List Nat),iv=.int .i64 m/\Hid (fillD (r-s.longest) s.dists s.longest d=fillD j2 D m d)/\m+j2=max s.longest r/\s.longest<=m/\Hid (D.length=65)/\Vec wr2 br 203 (s.runs.set d r)/\Vec wr2 (w.heap.size+1) 204 D/\Vec wr2 w.heap.size 204 (List.replicate 65 0)/\Chg [br] w wr2)
    case atStart=>exact ⟨s.longest,s.dists,rfl,hid rfl,by omega,zQ _,hid ag.out.dl,ap,az,ax,ao⟩
    case round =>
     obtain ⟨m,D,rfl,HF,a4,ba,av,ai,af,aw,an⟩:=hrel
     clear ap az ax ao
     have yc:=ai.cell (i:=d) (by rw [aK.out];omega)
     rw [aP.out] at yc
     rcases gk with _ | j2
     ·have t5:decide ((m:Int)<(r:Int))=false:=zA (by omega)
      go_wp2_with fail
      go_roundg j
      case measure=>omega
      case rel =>
       have hD:fillD (r-s.longest) s.dists s.longest d=D:=HF.out
       refine ⟨d+1,dStep l at_ s d,by go_num,?_,by omega,by omega,HG,aX,?_,?_,aw,an⟩
       ·rw [al.out];exact congrArg (fun z:Nat=>Value.int .i64 z) (show m=max s.longest r by omega)
       ·rw [al.out];exact ai
       ·rw [al.out];show Vec _ _ _ (fillD (r-s.longest) s.dists s.longest d);rw [hD];exact af
     ·have a8:m<r:=by omega
      have t5:decide ((m:Int)<(r:Int))=true:=zB (by omega)
      have cD:=af.cell (i:=m+1) (by rw [av.out];omega)
      have fD:=Blk.frozen af (m+1)
      go_wp2_with fail
      go_roundg j2
      case measure=>omega
      case rel =>
       refine ⟨m+1,D.set (m+1) d,by go_num,HF,by omega,by omega,hid (by rw [List.length_set];exact av.out),Blk.far ai (by simp;omega) _,af.set_ _ _,Blk.far aw (by simp) _,an.setCell (.inr (by simp)) _⟩
   ·have t3:(xa==xb)=true:=by simpa using hq
    have t4:decide ((64:Int)<(ro:Int)+1)=true:=zB (by omega)
    have bp:(64:Int)<(ro:Int)+1:=by omega
    have aZ:=hid aG
    have bu:=hid a2
    clear aG a2 hq
    go_upto_region 6 with (fail)
    go_quiet (fail)
    go_upto_region 7 with (fail)
    have ae:=ah.chg ((zR [] wr).drewN nq) (by simp)
    have ab:=ae.cell (i:=d) (by rw [ag.out.rl];omega)
    have aa:=Blk.frozen ae d
    refine wp_region_quiet_tail 11 (by kernel_rfl) (by kernel_rfl) ?_
    simp only [List.take_succ_cons,List.take_zero,List.drop_succ_cons,List.drop_zero]
    repeat (go_big_quiet_step (fail))
    refine wpQuiet_nil ?_
    intro _ aS
    obtain ⟨ak,rfl⟩:=aS
    go_wp2_with fail
    have ac:=ah.chg ((zR [] wr).drewN (nq+ak)) (by simp)
    have ap:Vec (((wr.drewN (nq+ak))).setCell ⟨br,d,none⟩ (.int .i64 64)) br 203 (s.runs.set d r):=by rw [aZ.out];exact ac.set_ d 64
    have az:=Blk.far (aC.chg ((zR [] wr).drewN (nq+ak)) (by simp)) (p:=⟨br,d,none⟩) (by simp;omega) (.int .i64 64)
    have ax:=Blk.far (aq.chg ((zR [] wr).drewN (nq+ak)) (by simp)) (p:=⟨br,d,none⟩) (by simp;omega) (.int .i64 64)
    have ao:=(ay.drewN (nq+ak)).setCell (p:=⟨br,d,none⟩) (.inl (by simp)) (.int .i64 64)
    have au:(s.runs.set d r).length=1025:=by rw [List.length_set];exact ag.out.rl
    have ar:(s.runs.set d r).getD d 0=r:=by rw [zD,List.getElem?_set_self (by rw [ag.out.rl];omega)];rfl
    have aK:=hid au
    have aP:=hid ar
    clear au ar aE aB ab aa ah ae aC aq ay
    go_loopg [8] (r-s.longest) (fun j2 iv wr2=>∃ (m:Nat) (D:List Nat),iv=.int .i64 m/\Hid (fillD (r-s.longest) s.dists s.longest d=fillD j2 D m d)/\m+j2=max s.longest r/\s.longest<=m/\Hid (D.length=65)/\Vec wr2 br 203 (s.runs.set d r)/\Vec wr2 (w.heap.size+1) 204 D/\Vec wr2 w.heap.size 204 (List.replicate 65 0)/\Chg [br] w wr2)
    case atStart=>exact ⟨s.longest,s.dists,rfl,hid rfl,by omega,zQ _,hid ag.out.dl,ap,az,ax,ao⟩
    case round =>
     obtain ⟨m,D,rfl,HF,a4,ba,av,ai,af,aw,an⟩:=hrel
     clear ap az ax ao
     have yc:=ai.cell (i:=d) (by rw [aK.out];omega)
     rw [aP.out] at yc
     rcases gk with _ | j2
     ·have t5:decide ((m:Int)<(r:Int))=false:=zA (by omega)
      go_wp2_with fail
      go_roundg j
      case measure=>omega
      case rel =>
       have hD:fillD (r-s.longest) s.dists s.longest d=D:=HF.out
       refine ⟨d+1,dStep l at_ s d,by go_num,?_,by omega,by omega,HG,aX,?_,?_,aw,an⟩
       ·rw [al.out];exact congrArg (fun z:Nat=>Value.int .i64 z) (show m=max s.longest r by omega)
       ·rw [al.out];exact ai
       ·rw [al.out];show Vec _ _ _ (fillD (r-s.longest) s.dists s.longest d);rw [hD];exact af
     ·have a8:m<r:=by omega
      have t5:decide ((m:Int)<(r:Int))=true:=zB (by omega)
      have cD:=af.cell (i:=m+1) (by rw [av.out];omega)
      have fD:=Blk.frozen af (m+1)
      go_wp2_with fail
      go_roundg j2
      case measure=>omega
      case rel =>
       refine ⟨m+1,D.set (m+1) d,by go_num,HF,by omega,by omega,hid (by rw [List.length_set];exact av.out),Blk.far ai (by simp;omega) _,af.set_ _ _,Blk.far aw (by simp) _,an.setCell (.inr (by simp)) _⟩
   ·have t3:(xa==xb)=false:=by simpa using hq
    have aZ:=hid aG
    clear aG hq
    go_upto_region 6 with (fail)
    go_quiet (fail)
    have ab:=(ah.chg ((zR [] wr).drewN nq) (by simp)).cell (i:=d) (by rw [ag.out.rl];omega)
    have aa:=Blk.frozen (ah.chg ((zR [] wr).drewN nq) (by simp)) d
    go_wp2_with fail
    have ac:=ah.chg ((zR [] wr).drewN nq) (by simp)
    have ap:Vec (((wr.drewN nq)).setCell ⟨br,d,none⟩ (.int .i64 0)) br 203 (s.runs.set d r):=by rw [aZ.out];exact ac.set_ d 0
    have az:=Blk.far (aC.chg ((zR [] wr).drewN nq) (by simp)) (p:=⟨br,d,none⟩) (by simp;omega) (.int .i64 0)
    have ax:=Blk.far (aq.chg ((zR [] wr).drewN nq) (by simp)) (p:=⟨br,d,none⟩) (by simp;omega) (.int .i64 0)
    have ao:=(ay.drewN nq).setCell (p:=⟨br,d,none⟩) (.inl (by simp)) (.int .i64 0)
    have au:(s.runs.set d r).length=1025:=by rw [List.length_set];exact ag.out.rl
    have ar:(s.runs.set d r).getD d 0=r:=by rw [zD,List.getElem?_set_self (by rw [ag.out.rl];omega)];rfl
    have aK:=hid au
    have aP:=hid ar
    clear au ar aE aB ab aa ah aC aq ay
    go_loopg [8] (r-s.longest) (fun j2 iv wr2=>∃ (m:Nat) (D:List Nat),iv=.int .i64 m/\Hid (fillD (r-s.longest) s.dists s.longest d=fillD j2 D m d)/\m+j2=max s.longest r/\s.longest<=m/\Hid (D.length=65)/\Vec wr2 br 203 (s.runs.set d r)/\Vec wr2 (w.heap.size+1) 204 D/\Vec wr2 w.heap.size 204 (List.replicate 65 0)/\Chg [br] w wr2)
    case atStart=>exact ⟨s.longest,s.dists,rfl,hid rfl,by omega,zQ _,hid ag.out.dl,ap,az,ax,ao⟩
    case round =>
     obtain ⟨m,D,rfl,HF,a4,ba,av,ai,af,aw,an⟩:=hrel
     clear ap az ax ao
     have yc:=ai.cell (i:=d) (by rw [aK.out];omega)
     rw [aP.out] at yc
     rcases gk with _ | j2
     ·have t5:decide ((m:Int)<(r:Int))=false:=zA (by omega)
      go_wp2_with fail
      go_roundg j
      case measure=>omega
      case rel =>
       have hD:fillD (r-s.longest) s.dists s.longest d=D:=HF.out
       refine ⟨d+1,dStep l at_ s d,by go_num,?_,by omega,by omega,HG,aX,?_,?_,aw,an⟩
       ·rw [al.out];exact congrArg (fun z:Nat=>Value.int .i64 z) (show m=max s.longest r by omega)
       ·rw [al.out];exact ai
       ·rw [al.out];show Vec _ _ _ (fillD (r-s.longest) s.dists s.longest d);rw [hD];exact af
     ·have a8:m<r:=by omega
      have t5:decide ((m:Int)<(r:Int))=true:=zB (by omega)
      have cD:=af.cell (i:=m+1) (by rw [av.out];omega)
      have fD:=Blk.frozen af (m+1)
      go_wp2_with fail
      go_roundg j2
      case measure=>omega
      case rel =>
       refine ⟨m+1,D.set (m+1) d,by go_num,HF,by omega,by omega,hid (by rw [List.length_set];exact av.out),Blk.far ai (by simp;omega) _,af.set_ _ _,Blk.far aw (by simp) _,an.setCell (.inr (by simp)) _⟩
theorem tok_elem:Elem Tryz.prog 164 201 (.agg #[.int .i64 0,.int .i64 0,.int .i64 0]) 3 24:=.mk' Tryz.underlying164 (by kernel_rfl)
def TVec (w:World) (g:Nat) (l:List Tok):Prop:=Blk w g 201 (l.flatMap tokCells).toArray
theorem TVec.cell {w:World} {g:Nat} {l:List Tok} (h:TVec w g l) {i:Nat} (hi:i<l.length) :
  w.cell? ⟨g,i*3,none⟩=some (.int .i64 (tokAt l i).len)/\w.cell? ⟨g,i*3+1,none⟩=some (.int .i64 (tokAt l i).dist)/\w.cell? ⟨g,i*3+2,none⟩=some (.int .i64 (tokAt l i).lit):=by
 have hg:l[i]?=some (tokAt l i):=by unfold tokAt;rw [zD,zF hi];rfl
 obtain ⟨a,b,c⟩:=tok_flat_get hg
 refine ⟨?_,?_,?_⟩
 ·rw [Blk.cell h];simpa using a
 ·rw [Blk.cell h];simpa using b
 ·rw [Blk.cell h];simpa using c
theorem flat_set (l:List Tok) (i:Nat) (t:Tok):(((l.flatMap tokCells).set (i*3) (.int .i64 t.len)).set (i*3+1) (.int .i64 t.dist)).set (i*3+2) (.int .i64 t.lit)=(l.set i t).flatMap tokCells:=by
 induction l generalizing i with
 | nil=>simp
 | cons s l ih =>
  cases i with
  | zero=>simp [tokCells]
  | succ i =>
   rw [List.set_cons_succ,List.flatMap_cons,List.flatMap_cons,<-ih i]
   have e:tokCells s=[.int .i64 s.len,.int .i64 s.dist,.int .i64 s.lit]:=rfl
   rw [e,show (i+1)*3=i*3+1+1+1 by omega,show i*3+1+1+1+1=(i*3+1)+1+1+1 by omega,show i*3+1+1+1+2=(i*3+2)+1+1+1 by omega]
   simp only [List.cons_append,List.nil_append,List.set_cons_succ]
theorem TVec.set_ {w:World} {g:Nat} {l:List Tok} (h:TVec w g l) (i:Nat) (t:Tok) :
  TVec (((w.setCell ⟨g,i*3,none⟩ (.int .i64 t.len)).setCell ⟨g,i*3+1,none⟩ (.int .i64 t.dist)).setCell ⟨g,i*3+2,none⟩ (.int .i64 t.lit)) g (l.set i t):=by
 have h1:=((Blk.set_ h (i*3) (.int .i64 t.len)).set_ (i*3+1) (.int .i64 t.dist)).set_ (i*3+2) (.int .i64 t.lit)
 unfold TVec
 rw [<-flat_set]
 simpa using h1
theorem madeCells3 (v:Value) (n:Nat):madeCells #[v,v,v] (n*3)=(List.replicate (n*3) v).toArray:=by
 apply Array.ext
 ·simp [size_madeCells]
 ·intro j h1 h2
  have h3:j%3<3:=Nat.mod_lt _ (by decide)
  have:∀ k,k<3->(#[v,v,v]:Array Value)[k]! = v:=fun k hk=>by
   match k,hk with
   | 0,_=>rfl
   | 1,_=>rfl
   | 2,_=>rfl
  simp only [madeCells,Array.getElem_map,Array.getElem_range,List.getElem_toArray,List.getElem_replicate]
  exact this _ h3
theorem flat_zero (n:Nat):(List.replicate n (⟨0,0,0⟩:Tok)).flatMap tokCells=List.replicate (n*3) (.int .i64 0):=by
 induction n with
 | zero=>rfl
 | succ n ih =>
  rw [List.replicate_succ,List.flatMap_cons,ih,show (n+1)*3=n*3+1+1+1 by omega,List.replicate_succ,List.replicate_succ,List.replicate_succ]
  rfl
theorem make_toks (kl kc:IntKind) (n:Nat) (hn:n<=1099511627776) (w:World) :
  (Instr.makeSlice 164 (.int kl (n:Int)) (.int kc (n:Int))).run Tryz.prog w=.ok (.slice (some ⟨w.heap.size,0,none⟩) n n) (w.alloc (.cells ((List.replicate n (⟨0,0,0⟩:Tok)).flatMap tokCells).toArray 201)):=by
 obtain ⟨i,hi,hz,aa,ab⟩:=tok_elem.hi
 have hr:=run_make (P:=Tryz.prog) w 164 201 i _ tok_elem.ht hi hz kl kc n n (by omega) (Int.le_refl _) (by rw [ab];omega) (by omega)
 rw [hr,aa,flat_zero]
 simp only [Int.toNat_natCast]
 have e:(Value.agg #[.int .i64 0,.int .i64 0,.int .i64 0]).cells=#[.int .i64 0,.int .i64 0,.int .i64 0]:=rfl
 rw [e,madeCells3]
theorem idx65 (D:List Nat) (hD:D.length=65) (m:Nat) (hm:m<65) (w:World) :
  (Instr.index 204 (.agg (D.map i64).toArray) (.int .i64 m)).run Tryz.prog w=.ok (.int .i64 (D.getD m 0:Nat)) w:=by
 have h5:D[m]?=some (D.getD m 0):=by
  have:m<D.length:=by omega
  simp [zD,zF this]
 generalize D.getD m 0=x at *
 have h6:(0:Int)<=(m:Int)/\(m:Int)<65:=by omega
 simp [Instr.index,run_underlying Tryz.underlying204,asIntOf,go_sem,h6,h5,hm,i64]
structure IsLs (w:World) (b:Nat) (s:LSt):Prop where
 vr:Vec w b 203 s.runs
 vc:Vec w (b+1) 3 s.costs
 vf:TVec w (b+1+1) s.first
theorem ls_new (w:World) (n:Nat):IsLs (((w.alloc (.cells Tryz.zeroCells203 203)).alloc (.cells (List.replicate (n+1) (Value.int .i64 0)).toArray 3)).alloc (.cells ((List.replicate n (⟨0,0,0⟩:Tok)).flatMap tokCells).toArray 201)) w.heap.size (lStart n):=by
 refine ⟨Blk.alloc (Blk.alloc ?_ _) _,Blk.alloc ?_ _,?_⟩
 ·have:=Blk.new w 203 Tryz.zeroCells203
  rw [zero94] at this ⊢
  exact this
 ·have:=Blk.new (w.alloc (.cells Tryz.zeroCells203 203)) 3 (List.replicate (n+1) (Value.int .i64 0)).toArray
  rw [show (w.alloc (.cells Tryz.zeroCells203 203)).heap.size=w.heap.size+1 by simp] at this
  have e:((lStart n).costs.map i64).toArray=(List.replicate (n+1) (Value.int .i64 0)).toArray:=by
   show ((List.replicate (n+1) 0).map i64).toArray=_
   rw [List.map_replicate]
   rfl
  rw [<-e] at this ⊢
  exact this
 ·have:=Blk.new ((w.alloc (.cells Tryz.zeroCells203 203)).alloc (.cells (List.replicate (n+1) (Value.int .i64 0)).toArray 3)) 201 ((List.replicate n (⟨0,0,0⟩:Tok)).flatMap tokCells).toArray
  rw [show ((w.alloc (.cells Tryz.zeroCells203 203)).alloc (.cells (List.replicate (n+1) (Value.int .i64 0)).toArray 3)).heap.size=w.heap.size+1+1 by simp] at this
  exact this
theorem IsLs.same {w w':World} {b:Nat} {s:LSt} (h:IsLs w b s) (hc:Chg [] w w'):IsLs w' b s:=⟨h.vr.chg hc (by simp),h.vc.chg hc (by simp),Blk.chg h.vf hc (by simp)⟩
theorem least_ok (l:List Int) (A:Option Addr) (cap lit cp:Nat) (w:World) (hll:l.length<=4096) (hc:Cells vi w A l) (h0:1<=lit) (h1:lit<=1048576) (h2:1<=cp) (h3:cp<=1048576) :
  Calls Tryz.prog 118 #[.slice A l.length cap,.int .i64 lit,.int .i64 cp] w fun e w' =>
   ∃ (A':Option Addr) (cap':Nat),e=.returned (.slice A' (leastF l lit cp).length cap')/\Toks w' A' (leastF l lit cp)/\Chg [] w w'/\∀ ad,A'=some ad->w.heap.size<=ad.block:=by
 have ah:=leastF_len l lit cp
 have aL:leastF l lit cp=tokGo (leastSt l lit cp).first l.length l.length 0:=rfl
 have av:leastSt l lit cp=lGo l lit cp l.length (lStart l.length):=rfl
 have aV:=leastSt_ok l lit cp
 have aq:=lStart_ok l.length lit
 have ac:=fun k s (a:LSt.Ok l.length lit (k+1) s) (b:k<l.length)=>lStep_ok (l:=l) (cp:=cp) a b
 have aw:=fun k s (a:LSt.Ok l.length lit (k+1) s) (b:k<l.length)=>lBeg_ok (l:=l) a b
 have ae:=fun at_ br rs w (a:at_<l.length) (b:Cells vi w A l) c d e=>mdist_ok l A cap at_ br rs w a hll b c d e
 obtain ⟨T,hT⟩:=zX (leastF l lit cp)
 rw [<-hT] at aL ah ⊢
 obtain ⟨S,hS⟩:=zX (leastSt l lit cp)
 rw [<-hS] at aL av aV
 obtain ⟨n,hn⟩:=zX (l.length)
 rw [<-hn] at aL av aV aq ac aw ae hll ah ⊢
 have t1:decide ((lit:Int)<1)=false:=zA (by omega)
 have t2:decide ((1048576:Int)<(lit:Int))=false:=zA (by omega)
 have t3:decide ((cp:Int)<1)=false:=zA (by omega)
 have t4:decide ((1048576:Int)<(cp:Int))=false:=zA (by omega)
 have aQ:=run_make1 (P:=Tryz.prog) int_elem rfl .i64 .i64 (n+1) (by omega) (by omega)
 have e1:((n+1:Nat):Int)=(n:Int)+1:=by omega
 rw [e1] at aQ
 have aW:=make_toks .i64 .i64 n (by omega)
 have HT:=hid aL
 have HS:=hid av
 have bh:=hid aV
 have a4:=hid aq
 have b0:=hid ac
 have bV:=hid aw
 have bQ:=hid ae
 have HN:=hid hn
 have bK:=hid ah
 clear aL av aV aq ac aw ae hn ah hT hS
 go_enter Tryz.func118,Tryz.ntmps118
 go_wp2_with fail
 have aa:=ls_new w n
 have ab:Chg [] w (((w.alloc (.cells Tryz.zeroCells203 203)).alloc (.cells (List.replicate (n+1) (Value.int .i64 0)).toArray 3)).alloc (.cells ((List.replicate n (⟨0,0,0⟩:Tok)).flatMap tokCells).toArray 201)):=(((zR [] w).alloc _).alloc _).alloc _
 have eR:(List.replicate (n+1) (Value.int .i64 0)).toArray=Array.replicate (n+1) (Value.int .i64 0):=by simp
 rw [eR] at aa ab
 clear aQ aW eR
 go_loopg [10] n (fun k iv wr=>∃ (s:LSt) (a:Int),iv=.int .i64 a/\a=(k:Int)-1/\k<=n/\Hid (S=lGo l lit cp k s)/\Hid (s.Ok n lit k)/\IsLs wr w.heap.size s/\Chg [] w wr)
 case atStart=>exact ⟨lStart n,_,rfl,rfl,zQ _,HS,a4,aa,ab⟩
 case round =>
  obtain ⟨s,a,rfl,ha,b7,HG,aE,aa,ab⟩:=hrel
  rcases gk with _ | k
  ·have bY:a<0:=by omega
   clear ha
   have tn:decide ((0:Int)<=a)=false:=zA (by omega)
   have bU:S=s:=HG.out
   subst bU
   have bz:S.first.length=n:=bh.out.pair.fl
   have bk:∀ t∈S.first,t.ok:=bh.out.pair.fo
   have a9:=hid bz
   have bR:=hid bk
   have au:=aa.vf
   clear bz bk aa hc
   go_wp2_with fail
   go_loopg [14,15] n (fun j v iv wr=>∃ (i:Nat) (done:List Tok) (F:List Nat),iv=.int .i64 i/\Hid (T=done++tokGo S.first n j i)/\n<=i+j/\i<=n+64/\OwnK wr 201 3 v F done.length (done.flatMap tokCells)/\(∀ x∈F,w.heap.size+1+1<x)/\TVec wr (w.heap.size+1+1) S.first/\Chg [] w wr)
   case atStart=>exact ⟨0,[],[],rfl,HT,by omega,by omega,OwnK.nil _ _ _,by simp,au,ab⟩
   case round =>
    clear au ab
    obtain ⟨i,done,F,rfl,ar,ce,ca,ai,hF,au,ab⟩:=hrel
    obtain ⟨A',cap',rfl,_,_,bX,bZ⟩:=ai.open_
    by_cases hin:i<n
    ·have t5:decide ((i:Int)<(n:Int))=true:=zB (by omega)
     rcases gk with _ | j
     ·omega
     obtain ⟨c1,c2,c3⟩:=au.cell (i:=i) (by rw [a9.out];exact hin)
     have aT:tokGo S.first n (j+1) i=tokAt S.first i::tokGo S.first n j (i+max (tokAt S.first i).len 1):=by rw [tokGo,if_pos hin]
     rw [aT] at ar
     clear aT
     have bi:done.length+1<=4096:=by
      have h6:=bK.out
      rw [ar.out,zC,zK] at h6
      omega
     have bl:(tokAt S.first i).ok:=by
      unfold tokAt
      have bv:i<S.first.length:=by rw [a9.out];exact hin
      rw [zD,zF bv]
      exact bR.out _ (zG bv)
     have b9:(tokAt S.first i).len<=64:=by
      rcases bl with h | h
      ·have:=(Tok.isLit_iff.1 h).1;omega
      ·exact (Tok.isCopy_iff.1 h).2.1
     have bG:(done++[tokAt S.first i]).flatMap tokCells=done.flatMap tokCells++tokCells (tokAt S.first i):=by simp
     have bj:=hid bG
     have bw:tokCells (tokAt S.first i)=[.int .i64 (tokAt S.first i).len,.int .i64 (tokAt S.first i).dist,.int .i64 (tokAt S.first i).lit]:=rfl
     obtain ⟨dn,aA⟩:=zX (done.length)
     have aC:=hid aA
     have bO:max (tokAt S.first i).len 1=(tokAt S.first i).len/\1<=(tokAt S.first i).len\/max (tokAt S.first i).len 1=1/\(tokAt S.first i).len<1:=by omega
     generalize ht:tokAt S.first i=t at *
     rw [<-aA] at ai bi ⊢
     generalize hta:t.len=ta at *
     generalize htb:t.dist=tb at *
     generalize htd:t.lit=td at *
     have bp:=hid bw
     have bM:=hid (And.intro ht hta)
     have bc:=hid hF
     have af:=Blk.new wr 201 #[.int .i64 ta,.int .i64 tb,.int .i64 td]
     have am:=ai.same ((zR [] wr).alloc (.cells #[.int .i64 ta,.int .i64 tb,.int .i64 td] 201))
     clear bw bl bG ht aA hta htb htd hF ai
     go_wp2_with (at_builtin;refine wpList_append_k1 rfl rfl tok_elem rfl (by decide) rfl am [.int .i64 ta,.int .i64 tb,.int .i64 td] rfl rfl ?c1 ?c2 ?c3 ?c4 ?_)
     case c1 =>
      intro q u hq
      match q,hq with
      | 0,hq=>rw [<-hq];exact af.cell 0
      | 1,hq=>rw [<-hq];exact af.cell 1
      | 2,hq=>rw [<-hq];exact af.cell 2
      | q+3,hq=>simp at hq
     case c2=>intro u hu;simp at hu;rcases hu with rfl | rfl | rfl<;>rfl
     case c3=>omega
     case c4=>omega
     intro g' bL w3 ao ag
     have ay:TVec w3 (w.heap.size+1+1) S.first:=Blk.chg (Blk.alloc au _) ag.chg (fun hm=>by have:=bc.out _ hm;omega)
     have aG:Chg [] w w3:=(ab.alloc _).trans ag.chg (fun x hx => .inr (by have:=bc.out _ hx;omega))
     have bH:∀ x∈[g'],w.heap.size+1+1<x:=fun x hx=>by
      rcases ag.new x hx with h | h
      ·exact bc.out _ h
      ·have h7:=Blk.lt au
       have h8:(wr.alloc (.cells #[.int .i64 ta,.int .i64 tb,.int .i64 td] 201)).heap.size=wr.heap.size+1:=by simp
       omega
     obtain ⟨d1,d2,d3⟩:=ay.cell (i:=i) (by rw [a9.out];exact hin)
     have HD:=hid bi
     obtain ⟨bn,aS⟩:tokAt S.first i=t/\t.len=ta:=bM.out
     rw [bn,aS] at d1
     clear d2 d3 au ab af am ag c1 c2 c3 bn aS
     have bs:=hid bH
     have bA:=hid ay
     have bB:=hid aG
     have bx:=hid ao
     clear bH ay aG ao
     rcases bO with ⟨aY,b6⟩ | ⟨aY,b6⟩
     ·rw [aY] at ar
      have tm:decide ((ta:Int)<1)=false:=zA (by omega)
      have bP:(1:Int)<=(ta:Int):=by omega
      go_wp2_with fail
      go_roundg j
      case measure=>omega
      case rel =>
       refine ⟨i+ta,done++[t],[g'],by go_num,hid (by rw [ar.out,zH];rfl),by omega,by omega,?_,bs.out,bA.out,bB.out⟩
       have h9:=bx.out
       rw [aC.out,show done.length+1=(done++[t]).length by simp] at h9
       rw [bj.out,bp.out,aC.out,show done.length+1=(done++[t]).length by simp]
       exact h9
     ·rw [aY] at ar
      have tm:decide ((ta:Int)<1)=true:=zB (by omega)
      have bP:(ta:Int)<1:=by omega
      go_wp2_with fail
      go_roundg j
      case measure=>omega
      case rel =>
       refine ⟨i+1,done++[t],[g'],by go_num,hid (by rw [ar.out,zH];rfl),by omega,by omega,?_,bs.out,bA.out,bB.out⟩
       have h9:=bx.out
       rw [aC.out,show done.length+1=(done++[t]).length by simp] at h9
       rw [bj.out,bp.out,aC.out,show done.length+1=(done++[t]).length by simp]
       exact h9
    ·have t5:decide ((i:Int)<(n:Int))=false:=zA (by omega)
     have aT:tokGo S.first n gk i=[]:=by
      cases gk with
      | zero=>rfl
      | succ f=>rw [tokGo,if_neg hin]
     go_wp2_with fail
     go_ret
     have hT:T=done:=by rw [ar.out,aT,List.append_nil]
     rw [hT]
     refine ⟨A',cap',rfl,bX,ab,fun ad e => ?_⟩
     obtain ⟨g,rfl,b5,_⟩:=bZ ad e
     have:=hF g (by rw [b5];simp)
     show w.heap.size<=g
     omega
  ·obtain rfl:a=(k:Int):=by omega
   clear ha
   have hk:k<n:=by omega
   have aB:=aE.out
   have bE:=hc.same ab
   have aZ:k<l.length:=by rw [<-HN.out];exact hk
   obtain ⟨g,o,rfl,ci,_⟩:=hc.ex (by omega)
   obtain ⟨g',o',e',cl⟩:=bE.at_ aZ
   injection e' with e'
   injection e' with e2 e3 _
   subst e2
   subst e3
   have n1:¬ g=w.heap.size+1:=by omega
   have n2:¬ g=w.heap.size+1+1:=by omega
   have n3:¬ w.heap.size+1=g:=by omega
   have n4:¬ w.heap.size+1+1=g:=by omega
   have gl:l[k]=l.getD k 0:=by rw [zD,zF aZ];rfl
   rw [gl] at cl
   have bN:wr.cell? ⟨g,o+k,none⟩=some (.int .i64 (l.getD k 0)):=cl
   have bu:lGo l lit cp (k+1) s=lGo l lit cp k (lStep l lit cp k s):=rfl
   rw [bu] at HG
   have bg:=bV.out k s aB hk
   have c1:=aa.vc.cell (i:=k+1) (by rw [aB.pair.cl];omega)
   have cg:s.costs.getD (k+1) 0<=4294967296:=by
    have h4:=getD_le aB.pair.cb (k+1)
    have h5:(n-(k+1))*lit<=4096*1048576:=zL (by omega) h1
    simp only at h4
    omega
   have f1:=Blk.frozen aa.vc k
   have f2:=Blk.frozen aa.vf (k*3)
   have f3:=Blk.frozen aa.vf (k*3+1)
   have f4:=Blk.frozen aa.vf (k*3+2)
   obtain ⟨c2,c3,c4⟩:=aa.vf.cell (i:=k) (by rw [aB.pair.fl];exact hk)
   have c0:=aa.vc.cell (i:=k) (by rw [aB.pair.cl];omega)
   have bf:lBeg l lit k s=(s.costs.set k (s.costs.getD (k+1) 0+lit),s.first.set k ⟨0,0,l.getD k 0⟩):=rfl
   have aN:Vec (wr.setCell ⟨w.heap.size+1,k,none⟩ (.int .i64 ((s.costs.getD (k+1) 0+lit:Nat):Int))) (w.heap.size+1) 3 (s.costs.set k (s.costs.getD (k+1) 0+lit)):=aa.vc.set_ k _
   generalize aI:s.costs.getD (k+1) 0=sc at *
   generalize hlk:l.getD k 0=lk at *
   have cm:=hid aI
   have cd:=hid hlk
   have bS:=hid bg
   have b4:=hid bf
   have bT:=hid aN
   have bm:=hid aa
   clear cl gl bu bE aZ aB aI hlk bg bf aN aa
   go_wp2_with fail
   have hx:IsLs ((((wr.setCell ⟨w.heap.size+1,k,none⟩ (.int .i64 ((sc:Int)+(lit:Int)))).setCell ⟨w.heap.size+1+1,k*3,none⟩ (.int .i64 0)).setCell ⟨w.heap.size+1+1,k*3+1,none⟩ (.int .i64 0)).setCell ⟨w.heap.size+1+1,k*3+2,none⟩ (.int .i64 lk)) w.heap.size ⟨(lBeg l lit k s).1,(lBeg l lit k s).2,s.runs⟩:=by
    have bF:=bT.out
    rw [Int.natCast_add] at bF
    rw [b4.out]
    exact ⟨Blk.far (Blk.far (Blk.far (Blk.far bm.out.vr (by simp) _) (by first | (simp;done) | (simp;omega)) _) (by first | (simp;done) | (simp;omega)) _) (by first | (simp;done) | (simp;omega)) _,
     Blk.far (Blk.far (Blk.far bF (by simp) _) (by simp) _) (by simp) _,
     TVec.set_ (Blk.far bm.out.vf (by simp) _) k ⟨0,0,lk⟩⟩
   have a7:Chg [] w ((((wr.setCell ⟨w.heap.size+1,k,none⟩ (.int .i64 ((sc:Int)+(lit:Int)))).setCell ⟨w.heap.size+1+1,k*3,none⟩ (.int .i64 0)).setCell ⟨w.heap.size+1+1,k*3+1,none⟩ (.int .i64 0)).setCell ⟨w.heap.size+1+1,k*3+2,none⟩ (.int .i64 lk)):=(((ab.setCell (.inr (by first | (simp;done) | (simp;omega))) _).setCell (.inr (by first | (simp;done) | (simp;omega))) _).setCell (.inr (by first | (simp;done) | (simp;omega))) _).setCell (.inr (by first | (simp;done) | (simp;omega))) _
   have aX:RunsOk s.runs:=⟨aE.out.rl,fun x hx=>(aE.out.rb x hx).1⟩
   refine (bQ.out k w.heap.size s.runs _ hk (hc.same a7) hx.vr aX (fun _ ad e hm=>by injection e with e;subst e;simp at hm;omega)).mono ?_
   rintro e w2 ⟨rfl,ap,aU⟩
   have aK:=hx.vc.chg aU (by simp)
   have aR:TVec w2 (w.heap.size+1+1) (lBeg l lit k s).2:=Blk.chg hx.vf aU (by simp;omega)
   have aH:Chg [] w w2:=a7.trans aU (fun x hx=>by simp at hx;omega)
   have be:=distF_ok (l:=l) (at_:=k) aX
   have ba:=distF_in (l:=l) (at_:=k) (rs:=s.runs) (B:=n-(k+1)) (fun x hx=>(aE.out.rb x hx).2)
   have av:lStep l lit cp k s=⟨(lPick cp k (distF l k s.runs).dists 65 0 (lBeg l lit k s)).1,(lPick cp k (distF l k s.runs).dists 65 0 (lBeg l lit k s)).2,(distF l k s.runs).runs⟩:=rfl
   have bo:=b0.out k s aE.out hk
   generalize (distF l k s.runs)=DS at *
   obtain ⟨R,D,Lg⟩:=DS
   have aJ:D.length=65:=be.dl
   have bC:∀ x∈D,x<=1024:=be.d1024
   have bI:∀ m,D.getD m 0≠0->k+m<=n:=fun m hm=>by
    have h5:=ba.db m hm
    have h6:=ba.lb
    simp only at h5 h6
    omega
   simp only at ap
   have bb:=hid av
   have bJ:=hid bo
   have a8:=hid aJ
   have bq:=hid bC
   have aC:=hid bI
   clear av bo aJ bC bI be ba hx a7 aX aU f1 f2 f3 f4 c0 c1 c2 c3 c4 bN ab
   go_wp2_with fail
   go_loopg [65] 65 (fun j iv wr=>∃ (m:Nat) (p:List Nat × List Tok),iv=.int .i64 m/\m+j=65/\Hid (lPick cp k D 65 0 (lBeg l lit k s)=lPick cp k D j m p)/\Hid (PairOk n ((n-k)*lit) p)/\Vec wr w.heap.size 203 R/\Vec wr (w.heap.size+1) 3 p.1/\TVec wr (w.heap.size+1+1) p.2/\Chg [] w wr)
   case atStart=>exact ⟨0,lBeg l lit k s,rfl,rfl,hid rfl,bS,ap,aK,aR,aH⟩
   case round =>
    obtain ⟨m,p,rfl,cf,HP,al,a0,ax,az,aD⟩:=hrel
    clear ap aK aR aH
    rcases gk with _ | j
    ·obtain rfl:m=65:=by omega
     have hP:lPick cp k D 65 0 (lBeg l lit k s)=p:=HP.out
     go_wp2_with fail
     go_roundg k
     case measure=>omega
     case rel =>
      refine ⟨lStep l lit cp k s,_,rfl,by omega,by omega,HG,bJ,?_,aD⟩
      rw [bb.out,hP]
      exact ⟨a0,ax,az⟩
    ·have a5:m<65:=by omega
     have ty:decide ((m:Int)<65)=true:=zB (by omega)
     have cj:=idx65 D a8.out m a5
     have ch:=getD_le bq.out m
     have aA:=aC.out m
     have aF:lPick cp k D (j+1) m p=lPick cp k D j (m+1) (lOne cp k D m p):=rfl
     have an:lOne cp k D m p=if m<3\/D.getD m 0=0 then p else if p.1.getD (k+m) 0+cp<=p.1.getD k 0 then (p.1.set k (p.1.getD (k+m) 0+cp),p.2.set k ⟨m,D.getD m 0,0⟩) else p:=rfl
     have aO:=lOne_ok (cp:=cp) (at_:=k) (m:=m) al.out (by omega) bq.out
     rw [aF] at HP
     have bD:k+m<=n->(p.1.getD (k+m) 0<=4294967296/\wr.cell? ⟨w.heap.size+1,k+m,none⟩=some (.int .i64 ((p.1.getD (k+m) 0:Nat):Int))):=fun h=>⟨by
      have h4:=getD_le al.out.cb (k+m)
      have h5:(n-k)*lit<=4096*1048576:=zL (by omega) h1
      omega,ax.cell (by rw [al.out.cl];omega)⟩
     have c0:=ax.cell (i:=k) (by rw [al.out.cl];omega)
     have f1:=Blk.frozen ax k
     have f2:=Blk.frozen az (k*3)
     have f3:=Blk.frozen az (k*3+1)
     have f4:=Blk.frozen az (k*3+2)
     obtain ⟨c2,c3,c4⟩:=az.cell (i:=k) (by rw [al.out.fl];exact hk)
     have ak:=fun v=>ax.set_ k v
     generalize hx1:p.1.getD (k+m) 0=ckm at *
     generalize hx2:p.1.getD k 0=ck at *
     generalize hx3:D.getD m 0=dm at *
     have HX:=hid (And.intro hx1 (And.intro hx2 hx3))
     have a6:=hid ak
     have bd:=hid aO
     have aj:=hid an
     have b3:=hid bD
     have HV:=hid (And.intro a0 (And.intro ax az))
     have aM:=hid aA
     clear hx1 hx2 hx3 ak aF aO an bD a0 ax az aA
     by_cases q1:m<3
     ·have s1:decide ((m:Int)<3)=true:=zB (by omega)
      go_wp2_with fail
      go_roundg j
      case measure=>omega
      case rel =>
       have e:lOne cp k D m p=p:=by rw [aj.out,if_pos (.inl q1)]
       rw [e] at HP
       obtain ⟨a1,a2,a3⟩:=HV.out
       exact ⟨m+1,p,by go_num,by omega,HP,al,a1,a2,a3,aD⟩
     ·have s1:decide ((m:Int)<3)=false:=zA (by omega)
      by_cases q2:dm=0
      ·have s2:((dm:Int)==0)=true:=by simp [q2]
       have bW:=hid q2
       clear q2
       go_wp2_with fail
       go_roundg j
       case measure=>omega
       case rel =>
        have e:lOne cp k D m p=p:=by rw [aj.out,if_pos (.inr bW.out)]
        rw [e] at HP
        obtain ⟨a1,a2,a3⟩:=HV.out
        exact ⟨m+1,p,by go_num,by omega,HP,al,a1,a2,a3,aD⟩
      ·have s2:((dm:Int)==0)=false:=by simpa using q2
       obtain ⟨b1,b2⟩:=b3.out (aM.out q2)
       have cc:k+m<=n:=aM.out q2
       by_cases q3:ckm+cp<=ck
       ·have s3:decide ((ckm:Int)+(cp:Int)<=(ck:Int))=true:=zB (by omega)
        go_wp2_with fail
        go_roundg j
        case measure=>omega
        case rel =>
         have e:lOne cp k D m p=(p.1.set k (ckm+cp),p.2.set k ⟨m,dm,0⟩):=by rw [aj.out,if_neg (by omega),if_pos q3]
         have aP:=bd.out
         rw [e] at HP aP
         obtain ⟨a1,a2,a3⟩:=HV.out
         have aI:=a6.out (ckm+cp)
         rw [Int.natCast_add] at aI
         refine ⟨m+1,_,by go_num,by omega,HP,hid aP,?_,?_,?_,?_⟩
         ·exact Blk.far (Blk.far (Blk.far (Blk.far a1 (by first | (simp;done) | (simp;omega)) _) (by first | (simp;done) | (simp;omega)) _) (by first | (simp;done) | (simp;omega)) _) (by first | (simp;done) | (simp;omega)) _
         ·exact Blk.far (Blk.far (Blk.far aI (by simp) _) (by simp) _) (by simp) _
         ·exact TVec.set_ (Blk.far a3 (by simp) _) k ⟨m,dm,0⟩
         ·exact (((aD.setCell (.inr (by first | (simp;done) | (simp;omega))) _).setCell (.inr (by first | (simp;done) | (simp;omega))) _).setCell (.inr (by first | (simp;done) | (simp;omega))) _).setCell (.inr (by first | (simp;done) | (simp;omega))) _
       ·have s3:decide ((ckm:Int)+(cp:Int)<=(ck:Int))=false:=zA (by omega)
        go_wp2_with fail
        go_roundg j
        case measure=>omega
        case rel =>
         have e:lOne cp k D m p=p:=by rw [aj.out,if_neg (by omega),if_neg q3]
         rw [e] at HP
         obtain ⟨a1,a2,a3⟩:=HV.out
         exact ⟨m+1,p,by go_num,by omega,HP,al,a1,a2,a3,aD⟩
theorem Cells.one {α:Type} {f:α->Value} {w:World} {A:Option Addr} {l:List α} (h:Cells f w A l) {m:Nat} {x:α} (hm:l[m]?=some x) :
  ∃ g o,A=some ⟨g,o,none⟩/\Cells f w (some ⟨g,o+m,none⟩) [x]:=by
 have hl:=(List.getElem?_eq_some_iff.1 hm).1
 obtain ⟨g,o,e,hg,hc⟩:=h.ex (by omega)
 refine ⟨g,o,e,⟨fun _=>⟨g,o+m,rfl,hg,fun i a ha => ?_⟩⟩⟩
 match i,ha with
 | 0,ha=>simp at ha;subst ha;exact hc m _ hm
 | i+1,ha=>simp at ha
theorem mtput_ok (w:World) (b:Nat) (F bs:List Nat) (T:List Tok) (A:Option Addr) (cap W d:Nat) (h:IsWr w b F bs) (hp:Pts w) (h0F:0∉F) (hw0:1<=W) (hw1:W<=64) (h0:1<=d) (h1:d<=16) (hT:T.length<=4096) (hok:∀ t∈T,TokOk d t)
  (hc:Toks w A T) (hA:∀ ad,A=some ad->ad.block∉F) (hbs:bs.length<137438953472) :
  Calls Tryz.prog 117 #[.pointer (some ⟨b,0,none⟩),.slice A T.length cap,.int .i64 W,.int .i64 d] w fun e w'=>e=.returned (.int .i64 0)/\∃ F',IsWr w' b F' (bs++matchBits T W d)/\Grow F F' w w':=by
 have aX:=fun w h=>may_ok T A cap w (by omega) (fun t ht=>(hok t ht).ok) h
 have aP:matchBits T W d=bitsOf (rbest (copyLens T)) 5++bitsOf (rbest (copyCodes W T)) 5++T.flatMap (tokBits (rbest (copyLens T)) (rbest (copyCodes W T)) W d):=rfl
 have cb:=copyLens_wide hok
 have cf:=copyCodes_wide (W:=W) hok
 obtain ⟨c6,cV⟩:=pow_d h0 h1
 obtain ⟨n,hn⟩:=zX (T.length)
 rw [<-hn] at aX hT ⊢
 have t1:decide ((W:Int)<1)=false:=zA (by omega)
 have t2:decide ((64:Int)<(W:Int))=false:=zA (by omega)
 have t3:decide ((d:Int)<1)=false:=zA (by omega)
 have t4:decide ((16:Int)<(d:Int))=false:=zA (by omega)
 have cO:=hid aP
 have cQ:=hid cb
 have cL:=hid cf
 have HN:=hid hn
 have b7:=hid hok
 have HA:=hid hA
 have cj:Hid (∀ x∈F,x<w.heap.size):=hid h.lt
 clear aP cb cf hn hok hA
 go_enter Tryz.func117,Tryz.ntmps117
 go_wp2_with fail
 refine (aX _ hc).mono ?_
 rintro e w1 ⟨rfl,ag⟩
 go_wp2_with fail
 go_loopg [9,10,39] n (fun j v9 v10 iv wr=>∃ (i:Nat) (F9 F10:List Nat),iv=.int .i64 i/\i+j=n/\Own wr 3 v9 F9 ((copyLens (T.take i)).map vi)/\Own wr 3 v10 F10 ((copyCodes W (T.take i)).map vi) /\
   (∀ x∈F9,w.heap.size<=x/\x∉F10)/\(∀ x∈F10,w.heap.size<=x)/\Chg [] w wr)
 case atStart=>exact ⟨0,[],[],rfl,by omega,Own.nil _ _,Own.nil _ _,by simp,by simp,ag⟩
 case round =>
  clear ag aX
  obtain ⟨i,F9,F10,rfl,c9,aE,ah,a6,aC,aK⟩:=hrel
  rcases gk with _ | j
  ·obtain rfl:i=n:=by omega
   have cg:T.take i=T:=by rw [HN.out,zN]
   rw [cg] at aE ah
   have a2:=copyLens_len T
   rw [<-HN.out] at a2
   have aL:=copyCodes_len W T
   obtain ⟨A9,bU,rfl,bI,cK,bN⟩:=aE.open_map
   obtain ⟨bX,aY,rfl,bm,ca,aT⟩:=ah.open_map
   have br:Apt A9 (copyLens T) F:=aE.apt (fun x hx hm=>by have:=cj.out x hm;have:=(a6 x hx).1;omega)
   have aJ:Apt bX (copyCodes W T) F:=ah.apt (fun x hx hm=>by have:=cj.out x hm;have:=aC x hx;omega)
   have bv:=rbest_ok (copyLens T) A9 bU wr cQ.out bN (by omega)
   have aF:=rbest_ok (copyCodes W T) bX aY wr cL.out aT (by omega)
   have hk:=rbest_le (copyLens T)
   have b4:=rbest_le (copyCodes W T)
   obtain ⟨kk,b6⟩:=zX (rbest (copyLens T))
   obtain ⟨jk,cw⟩:=zX (rbest (copyCodes W T))
   have aP:=cO.out
   rw [<-b6] at bv hk aP
   rw [<-cw] at aF b4 aP
   obtain ⟨n9,bR⟩:=zX ((copyLens T).length)
   rw [<-bR] at aL bI bv a2 ⊢
   rw [aL] at aF bm ⊢
   have aH:=h.same aK
   have bn:Toks wr A T:=hc.same aK
   have bJ:=hid aP
   have cR:=hid aL
   have ce:=hid bR
   clear aP aL bR b6 cw cg aE ah a6 aC h hp hc
   go_wp2_with fail
   refine bv.mono ?_
   rintro e w' ⟨rfl,rfl⟩
   go_wp2_with fail
   refine aF.mono ?_
   rintro e w' ⟨rfl,rfl⟩
   go_wp2_with fail
   refine (wput_ok _ b F bs kk 5 aH (by omega) (by omega) (by omega)).mono ?_
   rintro e w2 ⟨rfl,F2,bi,ba⟩
   go_wp2_with fail
   refine (wput_ok _ b F2 _ jk 5 bi (by omega) (by omega) (by rw [zC,bitsOf_len];omega)).mono ?_
   rintro e w3 ⟨rfl,F3,bl,bc⟩
   have ap:=ba.trans bc
   clear bv aF aH bi ba bc
   have bh:∀ x:Int,0<=x->x<2^d->x.toNat<2^d:=fun x a b=>by
    have e:((x.toNat:Nat):Int)=x:=Int.toNat_of_nonneg a
    have e2:((2^d:Nat):Int)=(2:Int)^d:=by simp
    omega
   have cN:=hid bh
   clear bh
   go_wp2_with fail
   go_loopg [15,88] i (fun j cv iv wr2=>∃ (q:Nat) (F' a4:List Nat),cv=.int .i64 ((copyLens (T.take q)).length:Nat)/\iv=.int .i64 q/\q+j=i/\IsWr wr2 b F' a4/\Hid (a4=bs++bitsOf kk 5++bitsOf jk 5++(T.take q).flatMap (tokBits kk jk W d))/\a4.length<=bs.length+10+131*q/\Grow F F' wr wr2)
   case atStart=>exact ⟨0,F3,_,rfl,rfl,by omega,bl,hid (by simp),by rw [zC,zC,bitsOf_len,bitsOf_len];omega,ap⟩
   case round =>
    clear bl ap
    obtain ⟨q,F',a4,rfl,rfl,cZ,aH,Hb,cW,ap⟩:=hrel
    rcases gk with _ | j
    ·obtain rfl:q=i:=by omega
     go_wp2_with fail
     go_ret
     refine ⟨rfl,F',?_,Grow.pre aK ap⟩
     have e:T.take q=T:=by rw [HN.out,zN]
     have h5:=Hb.out
     rw [e,zH,zH] at h5
     rw [bJ.out,zH,<-h5]
     exact aH
    ·have bF:q<i:=by omega
     have aU:q<T.length:=by rw [<-HN.out];exact bF
     have a5:=b7.out T[q] (zG aU)
     obtain ⟨t,ht⟩:=zX (T[q])
     have ai:T[q]?=some t:=by rw [ht];exact zF aU
     rw [<-ht] at a5
     have aZ:Toks _ A T:=Cells.keep bn (fun _ ad e=>HA.out ad e) ap.chg
     have aO:=bN.keep br ap.chg
     have ax:=aT.keep aJ ap.chg
     have aA:=br.grow bN ap
     have al:=aJ.grow aT ap
     obtain ⟨g,o,rfl,c1,c2,c3⟩:=aZ.at_ ai
     have ab:T.take (q+1)=T.take q++[t]:=by rw [ht];exact take_snoc' T aU
     have ao:=copyLens_snoc (T.take q) t
     rw [<-ab] at ao
     have bA:(T.take (q+1)).flatMap (tokBits kk jk W d)=(T.take q).flatMap (tokBits kk jk W d)++tokBits kk jk W d t:=by rw [ab];simp
     have aa:=fun w=>isLit_ok t w
     have aN:tokV t=.agg #[.int .i64 t.len,.int .i64 t.dist,.int .i64 t.lit]:=rfl
     rw [aN] at aa
     rcases a5 with ⟨ak,aD,b3⟩ | ⟨ak,aD⟩
     ·have af:copyLens (T.take (q+1))=copyLens (T.take q):=by rw [ao,ak];simp
      have a0:tokBits kk jk W d t=bitsOf 0 1++bitsOf t.lit.toNat d:=by unfold tokBits;rw [if_pos ak]
      have bw:=cN.out t.lit aD b3
      rw [ak] at aa
      have bL:t.lit=((t.lit.toNat:Nat):Int):=(Int.toNat_of_nonneg aD).symm
      obtain ⟨ln,cx⟩:=zX (t.lit.toNat)
      rw [<-cx] at a0 bw bL
      rw [bL] at aa c3
      have cC:ln<65536:=Nat.lt_of_lt_of_le bw (by have:=Nat.pow_le_pow_right (n:=2) (by decide) h1;exact this)
      have hb:=Blk.new wr 201 #[.int .i64 t.len,.int .i64 t.dist,.int .i64 ln]
      have ag:=(zR [] wr).alloc (.cells #[.int .i64 t.len,.int .i64 t.dist,.int .i64 ln] 201)
      have aW:=hid (And.intro af (And.intro a0 bA))
      clear ao af a0 bA ab bL cx aN ai ht ak aD b3 aZ aO ax aA al
      generalize t.len=ta at *
      generalize t.dist=tb at *
      have cJ:=hid bw
      clear bw
      have bz:wr.heap.size∉F':=fun hm=>by have:=aH.lt _ hm;omega
      go_wp2_with fail
      refine (aa _).mono ?_
      rintro e w4 ⟨rfl,ae⟩
      have cd:=hb.chg ae (by simp)
      have az:=aH.same (ag.trans_same ae)
      have aQ:=ap.same (ag.trans_same ae)
      clear hb aH ap aa ag ae c1 c2 c3
      go_wp2_with fail
      refine (wput_ok _ b F' a4 0 1 az (by omega) (by omega) (by omega)).mono ?_
      rintro e w5 ⟨rfl,F5,aq,aj⟩
      have cs:=cd.chg aj.chg bz
      have b2:=cs.cell 2
      simp only [List.size_toArray,zK,List.length_nil,List.getElem?_toArray,List.getElem?_cons_zero,List.getElem?_cons_succ] at b2
      clear cd cs az bz
      go_wp2_with fail
      refine (wput_ok _ b F5 _ ln d aq (by omega) cJ.out (by rw [zC,bitsOf_len];omega)).mono ?_
      rintro e w6 ⟨rfl,F6,ar,ay⟩
      clear aq b2
      go_wp2_with fail
      go_roundg j
      case measure=>omega
      case rel =>
       refine ⟨q+1,F6,_,?_,by go_num,by omega,ar,hid ?_,?_,(aQ.trans aj).trans ay⟩
       ·rw [aW.out.1]
       ·rw [aW.out.2.2,aW.out.2.1,Hb.out];simp only [zH]
       ·rw [zC,zC,bitsOf_len,bitsOf_len];omega
     ·have av:(copyLens (T.take (q+1))).length=(copyLens (T.take q)).length+1:=by rw [ao,ak];simp
      have a0:tokBits kk jk W d t=bitsOf 1 1++rbits kk (lenOf t)++rbits jk (codeOf W t):=by unfold tokBits;rw [ak];rfl
      have bC:=copyLens_at T ai ak
      have aS:=copyCodes_at W T ai ak
      have cH:=lenOf_wide aD
      have bT:=codeOf_wide W aD
      have bH:(copyLens (T.take q)).length<n9:=by rw [ce.out];exact (List.getElem?_eq_some_iff.1 bC).1
      obtain ⟨c,cc⟩:=zX ((copyLens (T.take q)).length)
      rw [<-cc] at bC aS bH av ⊢
      obtain ⟨g9,o9,rfl,aM⟩:=aO.one bC
      obtain ⟨cP,cF,rfl,aB⟩:=ax.one aS
      rw [ak] at aa
      have hb:=Blk.new wr 201 #[.int .i64 t.len,.int .i64 t.dist,.int .i64 t.lit]
      have ag:=(zR [] wr).alloc (.cells #[.int .i64 t.len,.int .i64 t.dist,.int .i64 t.lit] 201)
      have bQ:Apt (some ⟨g9,o9+c,none⟩) [lenOf t] F':=aA.to (by simp;have:=ce.out;omega) (fun ad e=>⟨_,rfl,by injection e with e;rw [<-e]⟩)
      have aV:Apt (some ⟨cP,cF+c,none⟩) [codeOf W t] F':=al.to (by simp;have:=cR.out;omega) (fun ad e=>⟨_,rfl,by injection e with e;rw [<-e]⟩)
      have aW:=hid (And.intro av (And.intro a0 bA))
      clear ao av a0 bA ab aN ai ht ak aD aZ aO ax aA al bC aS cc
      generalize lenOf t=lo at *
      generalize codeOf W t=co at *
      generalize t.len=ta at *
      generalize t.dist=tb at *
      generalize t.lit=tc at *
      go_wp2_with fail
      refine (aa _).mono ?_
      rintro e w4 ⟨rfl,ae⟩
      have az:=aH.same (ag.trans_same ae)
      have aQ:=ap.same (ag.trans_same ae)
      have q9:=aM.same (ag.trans_same ae)
      have bS:=aB.same (ag.trans_same ae)
      clear hb aH ap aa ag ae c1 c2 c3 aM aB
      go_wp2_with fail
      refine (wput_ok _ b F' a4 1 1 az (by omega) (by omega) (by omega)).mono ?_
      rintro e w5 ⟨rfl,F5,aq,aj⟩
      have r9:=q9.keep bQ aj.chg
      have bK:=bS.keep aV aj.chg
      have a7:=bQ.grow q9 aj
      have au:=aV.grow bS aj
      go_wp2_with fail
      have bW:∀ x∈[lo],wideP x:=fun x hx=>by rw [zU.1 hx];exact cH
      have bM:∀ x∈[co],wideP x:=fun x hx=>by rw [zU.1 hx];exact bT
      refine (rput_ok _ b F5 _ kk [lo] _ (bU-c) aq hk bW r9 a7 (by rw [zC,bitsOf_len];simp;omega)).mono ?_
      rintro e w6 ⟨rfl,F6,ar,ay⟩
      have cl:=bK.keep au ay.chg
      have aw:=au.grow bK ay
      have ct:rbitsAll kk [lo]=rbits kk lo:=by simp [rbitsAll]
      have cp:rbitsAll jk [co]=rbits jk co:=by simp [rbitsAll]
      have c8:=rbits_len kk lo
      have cS:=rbits_len jk co
      have cX:=rcost_le kk lo hk
      have cM:=rcost_le jk co b4
      rw [ct] at ar
      clear aq r9 bK a7 au az q9 bS bQ aV
      go_wp2_with fail
      refine (rput_ok _ b F6 _ jk [co] _ (aY-c) ar b4 bM cl aw (by rw [zC,zC,bitsOf_len];simp;omega)).mono ?_
      rintro e w7 ⟨rfl,F7,bq,bE⟩
      rw [cp] at bq
      clear ar cl aw ct cp
      go_wp2_with fail
      go_roundg j
      case measure=>omega
      case rel =>
       refine ⟨q+1,F7,_,?_,by go_num,by omega,bq,hid ?_,?_,((aQ.trans aj).trans ay).trans bE⟩
       ·rw [aW.out.1];go_num
       ·rw [aW.out.2.2,aW.out.2.1,Hb.out];simp only [zH]
       ·rw [zC,zC,zC,bitsOf_len];omega
  ·have bF:i<n:=by omega
   have aU:i<T.length:=by rw [<-HN.out];exact bF
   have a5:=b7.out T[i] (zG aU)
   obtain ⟨t,ht⟩:=zX (T[i])
   have ai:T[i]?=some t:=by rw [ht];exact zF aU
   rw [<-ht] at a5
   have bn:=hc.same aK
   obtain ⟨g,o,rfl,c1,c2,c3⟩:=bn.at_ ai
   have ab:T.take (i+1)=T.take i++[t]:=by rw [ht];exact take_snoc' T aU
   have ao:=copyLens_snoc (T.take i) t
   have am:=copyCodes_snoc W (T.take i) t
   rw [<-ab] at ao am
   have aa:=fun w=>isLit_ok t w
   have aN:tokV t=.agg #[.int .i64 t.len,.int .i64 t.dist,.int .i64 t.lit]:=rfl
   rw [aN] at aa
   have hb:=Blk.new wr 201 #[.int .i64 t.len,.int .i64 t.dist,.int .i64 t.lit]
   have ag:=(zR [] wr).alloc (.cells #[.int .i64 t.len,.int .i64 t.dist,.int .i64 t.lit] 201)
   have a2:=copyLens_len (T.take i)
   have aL:=copyCodes_len W (T.take i)
   rw [zI] at a2
   rcases a5 with ⟨ak,aD,b3⟩ | ⟨ak,aD⟩
   ·rw [ak] at aa ao am
    have af:copyLens (T.take (i+1))=copyLens (T.take i):=by rw [ao];simp
    have ac:copyCodes W (T.take (i+1))=copyCodes W (T.take i):=by rw [am];simp
    have HS:=hid (And.intro af ac)
    generalize t.len=ta at *
    generalize t.dist=tb at *
    generalize t.lit=tc at *
    have t5:decide (tc<0)=false:=zA (by omega)
    have t6:decide ((2:Int)^d<=tc)=false:=zA (by omega)
    clear ao am af ac ab ai ht aN a2 aL ak
    go_wp2_with fail
    refine (aa _).mono ?_
    rintro e w2 ⟨rfl,ae⟩
    have aI:=hb.chg ae (by simp)
    have b2:=aI.cell 2
    simp only [List.size_toArray,zK,List.length_nil,List.getElem?_toArray,List.getElem?_cons_zero,List.getElem?_cons_succ] at b2
    have bx:=aK.trans_same (ag.trans_same ae)
    have k9:=aE.same (ag.trans_same ae)
    have bf:=ah.same (ag.trans_same ae)
    clear hb aI ag ae aK bn c1 c2 c3 aE ah
    go_wp2_with fail
    go_quiet (fail)
    go_wp2_with fail
    go_roundg j
    case measure=>omega
    case rel =>
     refine ⟨i+1,F9,F10,by go_num,by omega,?_,?_,a6,aC,bx.drewN nq⟩
     ·rw [HS.out.1];exact k9.drewN nq
     ·rw [HS.out.2];exact bf.drewN nq
   ·rw [ak] at aa ao am
    have af:(copyLens (T.take (i+1))).map vi=(copyLens (T.take i)).map vi++[.int .i64 (lenOf t)]:=by rw [ao];simp [vi]
    have ac:(copyCodes W (T.take (i+1))).map vi=(copyCodes W (T.take i)).map vi++[.int .i64 (codeOf W t)]:=by rw [am];simp [vi]
    have cB:=Tok.isCopy_iff.1 aD
    obtain ⟨p1,p2,p3,p4,p5⟩:=cB
    have cu:=(codeN_ok (d:=t.dist) (W:=W) p3).1
    have bO:=fun w (hp:Pts w)=>mcode_ok t.dist W w hp p3 p4 hw0 hw1
    have bp:=fun w=>unfold_ok (t.len-3) w (by omega)
    have an:=fun w=>unfold_ok (codeN t.dist W-1) w (by omega)
    have e1:unfoldI (t.len-3)=lenOf t:=rfl
    have e2:unfoldI (codeN t.dist W-1)=codeOf W t:=rfl
    rw [e1] at bp
    rw [e2] at an
    clear e1 e2
    obtain ⟨lo,b5⟩:=zX (lenOf t)
    obtain ⟨co,ck⟩:=zX (codeOf W t)
    rw [<-b5] at bp af
    rw [<-ck] at an ac
    obtain ⟨cn,a9⟩:=zX (codeN t.dist W)
    rw [<-a9] at an cu bO
    obtain ⟨cq,aZ⟩:=zX (cn-1)
    rw [<-aZ] at an
    obtain ⟨lq,b9⟩:=zX (t.len-3)
    rw [<-b9] at bp
    have e3:(t.len:Int)-3=(lq:Int):=by omega
    have e4:(cn:Int)-1=(cq:Int):=by omega
    have cM:cq<=1100:=by omega
    have cS:lq<=64:=by omega
    have a3:((copyCodes W (T.take i)).map vi).length=((copyLens (T.take i)).map vi).length:=by rw [zE,zE,aL]
    have cy:((copyLens (T.take i)).map vi).length<=4096:=by rw [zE];omega
    obtain ⟨L9,ci⟩:=zX ((copyLens (T.take i)).map vi)
    obtain ⟨c5,bb⟩:=zX ((copyCodes W (T.take i)).map vi)
    rw [<-ci] at aE af a3 cy
    rw [<-bb] at ah ac a3
    clear ci bb
    obtain ⟨M9,bB⟩:=zX (L9.length)
    rw [<-bB] at a3 cy
    have HS:=hid (And.intro af ac)
    clear b5 ck a9 aZ b9 af ac
    generalize t.len=ta at *
    generalize t.dist=tb at *
    generalize t.lit=tc at *
    subst p5
    have cA:=hid bO
    have cE:=hid an
    have HU:=hid bp
    clear ao am ab ai ht aN a2 aL ak cu bO bp an aD
    go_wp2_with fail
    refine (aa _).mono ?_
    rintro e w2 ⟨rfl,ae⟩
    have aI:=hb.chg ae (by simp)
    have b0:=aI.cell 0
    have b1:=aI.cell 1
    simp only [List.size_toArray,zK,List.length_nil,List.getElem?_toArray,List.getElem?_cons_zero,List.getElem?_cons_succ] at b0 b1
    have bx:=aK.trans_same (ag.trans_same ae)
    have k9:=aE.same (ag.trans_same ae)
    have bf:=ah.same (ag.trans_same ae)
    obtain ⟨A9,bU,cr,_⟩:=k9.open_
    obtain ⟨bX,aY,be,_⟩:=bf.open_
    rw [<-bB] at cr
    rw [a3] at be
    subst cr
    subst be
    have bD:=hid bf
    have bP:=hid bB
    have aR:=hid a3
    have HO:=hid (And.intro a6 aC)
    have cz:=hid (And.intro aE.lt ah.lt)
    clear hb ag ae aK bn c1 c2 c3 aE ah aa bB a3 a6 aC
    have cY:=k9.lt
    have bG:=bf.lt
    have cU:wr.heap.size<w2.heap.size:=aI.lt
    have bz:wr.heap.size∉F9:=fun hm=>by have:=cz.out.1 _ hm;omega
    go_wp2_with fail
    refine (HU.out _).mono ?_
    rintro e w' ⟨rfl,rfl⟩
    have cm:=k9.same ((zR [] w2).alloc (.cells #[.int .i64 lo] 3))
    have a8:=Blk.new w2 3 #[.int .i64 lo]
    go_wp2_with (at_builtin;refine wpList_append_o1 rfl rfl int_elem rfl rfl cm (.int .i64 lo) rfl ?c1 ?c2 ?c3 ?c4 ?_)
    case c1=>exact a8.cell 0
    case c2=>rfl
    case c3=>rw [<-bP.out];omega
    case c4=>rw [<-bP.out];omega
    intro g1 cI w3 bu a1
    rw [<-bP.out] at bu ⊢
    have ch:=(aI.alloc (.cells #[.int .i64 lo] 3)).chg a1.chg bz
    have d1:=ch.cell 1
    simp only [List.size_toArray,zK,List.length_nil,List.getElem?_toArray,List.getElem?_cons_zero,List.getElem?_cons_succ] at d1
    have bY:Chg [] w w3:=(bx.alloc _).trans a1.chg (fun x hx => .inr (HO.out.1 x hx).1)
    have bo:=(bD.out.same ((zR [] w2).alloc (.cells #[.int .i64 lo] 3))).chg a1.chg (fun x hx hm=>(HO.out.1 x hm).2 hx)
    have cT:=hp.same bY
    clear a8 cm b0 b1 aI
    have c7:g1<w3.heap.size:=bu.lt
    go_wp2_with fail
    refine (cA.out _ cT).mono ?_
    rintro e w4 ⟨rfl,n4,rfl⟩
    go_wp2_with fail
    refine (cE.out _).mono ?_
    rintro e w' ⟨rfl,rfl⟩
    have bd:=(bo.drewN n4).same ((zR [] (w3.drewN n4)).alloc (.cells #[.int .i64 co] 3))
    have a8:=Blk.new (w3.drewN n4) 3 #[.int .i64 co]
    go_wp2_with (at_builtin;refine wpList_append_o1 rfl rfl int_elem rfl rfl bd (.int .i64 co) rfl ?c1 ?c2 ?c3 ?c4 ?_)
    case c1=>exact a8.cell 0
    case c2=>rfl
    case c3=>rw [aR.out];omega
    case c4=>rw [aR.out];omega
    intro g2 cD w5 bj aG
    rw [aR.out] at bj ⊢
    have bk:g1∉F10:=fun hm=>by
     rcases a1.new g1 (by simp) with h5 | h5
     ·exact (HO.out.1 _ h5).2 hm
     ·have:=bG _ hm
      have h8:(w2.alloc (.cells #[.int .i64 lo] 3)).heap.size=w2.heap.size+1:=by simp
      omega
    have bZ:=(bu.chg ((((zR F10 w3).drewN n4).alloc (.cells #[.int .i64 co] 3)).trans_same aG.chg) bk)
    have cG:Chg [] w w5:=((bY.drewN n4).alloc (.cells #[.int .i64 co] 3)).trans aG.chg (fun x hx => .inr (HO.out.2 x hx))
    have c0:((w3.drewN n4).alloc (.cells #[.int .i64 co] 3)).heap.size=w3.heap.size+1:=by simp
    have bV:w.heap.size<=g1:=by
     rcases a1.new g1 (by simp) with h5 | h5
     ·exact (HO.out.1 _ h5).1
     ·have h8:(w2.alloc (.cells #[.int .i64 lo] 3)).heap.size=w2.heap.size+1:=by simp
      have:=bx.size
      omega
    have bg:w.heap.size<=g2/\g1≠g2:=by
     rcases aG.new g2 (by simp) with h5 | h5
     ·exact ⟨HO.out.2 _ h5,fun e=>bk (e ▸ h5)⟩
     ·have:=bY.size
      exact ⟨by omega,by omega⟩
    clear ch a8 bd bu a1 aG bo d1
    go_wp2_with fail
    go_roundg j
    case measure=>omega
    case rel =>
     refine ⟨i+1,[g1],[g2],by go_num,by omega,?_,?_,?_,?_,cG⟩
     ·rw [HS.out.1];exact bZ.toOwn
     ·rw [HS.out.2];exact bj.toOwn
     ·intro x hx;rw [zU.1 hx];exact ⟨bV,by simp;exact bg.2⟩
     ·intro x hx;rw [zU.1 hx];exact bg.1
def allOf (l:List Int) (n:Nat):List Nat:=l.flatMap fun v=>bitsOf v.toNat n
theorem allOf_len (l:List Int) (n:Nat):(allOf l n).length=n*l.length:=by
 induction l with
 | nil=>simp [allOf]
 | cons x l ih =>
  have e:allOf (x::l) n=bitsOf x.toNat n++allOf l n:=rfl
  rw [e,zC,bitsOf_len,ih,zK,Nat.mul_add,Nat.mul_one,Nat.add_comm]
theorem allOf_snoc (l:List Int) (x:Int) (n:Nat):allOf (l++[x]) n=allOf l n++bitsOf x.toNat n:=by simp [allOf]
theorem putAll_ok (w:World) (b:Nat) (F bs:List Nat) (l:List Int) (A:Option Addr) (cap n:Nat) (h:IsWr w b F bs) (hn:n<=16) (hl:l.length<=4096) (hs:SmpOk n l) (hc:Cells vi w A l) (hA:Apt A l F) (hbs:bs.length<137438953472) :
  Calls Tryz.prog 114 #[.pointer (some ⟨b,0,none⟩),.slice A l.length cap,.int .i64 n] w fun e w'=>e=.returned (.tuple #[])/\∃ F',IsWr w' b F' (bs++allOf l n)/\Grow F F' w w':=by
 obtain ⟨m,hm⟩:=zX (l.length)
 rw [<-hm] at hl ⊢
 have HN:=hid hm
 have HS:=hid hs
 clear hm hs
 go_enter Tryz.func114,Tryz.ntmps114
 go_wp2_with fail
 go_loopg [10] m (fun j iv wr=>∃ (i:Nat) (F' aa:List Nat),iv=.int .i64 i/\i+j=m/\IsWr wr b F' aa/\Hid (aa=bs++allOf (l.take i) n)/\aa.length<=bs.length+16*i/\Grow F F' w wr)
 case atStart=>exact ⟨0,F,bs,rfl,by omega,h,hid (by simp [allOf]),by omega,Grow.refl _ _⟩
 case round =>
  obtain ⟨i,F',aa,rfl,an,ai,Hb,ao,ah⟩:=hrel
  rcases gk with _ | j
  ·obtain rfl:i=m:=by omega
   go_wp2
   go_end0
   refine ⟨rfl,F',?_,ah⟩
   have e:l.take i=l:=by rw [HN.out,zN]
   have h5:=Hb.out
   rw [e] at h5
   rw [<-h5]
   exact ai
  ·have am:i<m:=by omega
   have ab:i<l.length:=by rw [<-HN.out];exact am
   obtain ⟨g,o,rfl,cl⟩:=(hc.keep hA ah.chg).at_ ab
   have ag:=take_snoc' l ab
   have ae:=HS.out l[i] (zG ab)
   obtain ⟨x,hx⟩:=zX (l[i])
   rw [<-hx] at cl ag ae
   have af:x=((x.toNat:Nat):Int):=(Int.toNat_of_nonneg ae.1).symm
   have ac:x.toNat<2^n:=by
    have e2:((2^n:Nat):Int)=(2:Int)^n:=by simp
    omega
   have ad:=allOf_snoc (l.take i) x n
   rw [<-ag] at ad
   obtain ⟨k,hk⟩:=zX (x.toNat)
   rw [<-hk] at af ac ad
   rw [af] at cl
   have ap:_=some (Value.int .i64 k):=cl
   have al:k<65536:=Nat.lt_of_lt_of_le ac (by have:=Nat.pow_le_pow_right (n:=2) (by decide) hn;exact this)
   have ak:=hid ad
   have aj:=hid ac
   clear ad ac hk af ae ag hx cl ab
   go_wp2_with fail
   refine (wput_ok _ b F' aa k n ai (by omega) aj.out (by omega)).mono ?_
   rintro e w2 ⟨rfl,F2,h2,g2⟩
   go_wp2_with fail
   go_roundg j
   case measure=>omega
   case rel =>
    refine ⟨i+1,F2,_,by go_num,by omega,h2,hid ?_,?_,ah.trans g2⟩
    ·rw [ak.out,Hb.out,zH]
    ·rw [zC,bitsOf_len];omega
def nbrAt (l:List Int) (W i:Nat):Nbr:=nbr l W (i%W) (i / W)
theorem tnear_ok (l:List Int) (A:Option Addr) (cap W d i:Nat) (w:World) (h0:1<=d) (h1:d<=16) (hW0:1<=W) (hW1:W<=64) (hi:i<=l.length) (hiW:i<64*W) (hs:SmpOk d l) (hc:Cells vi w A l) (hll:l.length<=4096) :
  Calls Tryz.prog 146 #[.slice A l.length cap,.int .i64 W,.int .i64 d,.int .i64 i] w fun e w'=>e=.returned (.tuple #[.int .i64 (guessI 7 (nbrAt l W i) d),.int .i64 (classI (nbrAt l W i) d)])/\Chg [] w w':=by
 obtain ⟨x,hx⟩:=zX (i%W)
 obtain ⟨y,hy⟩:=zX (i / W)
 have ah:x<W:=by rw [hx];exact Nat.mod_lt _ (by omega)
 have ad:y<64:=by rw [hy];exact Nat.div_lt_of_lt_mul (by rw [zY];exact hiW)
 have aj:y*W+x=i:=by rw [hx,hy,zY];exact Nat.div_add_mod i W
 have e1:(i:Int)%(W:Int)=(x:Int):=by rw [hx];simp
 have e2:(i:Int) / (W:Int)=(y:Int):=by rw [hy];simp
 have aa:=fun w hc=>near_ok l A cap W x y w hW0 hW1 ah ad (by omega) hc (by omega)
 have ae:=nbr_ok hs W x y
 have ab:=fun w=>class_ok (nbr l W x y) d w h0 h1 ae
 have ac:=fun w=>one_ok 7 (nbr l W x y) d w (by omega) h0 h1 ae
 have d1:nbrAt l W i=nbr l W x y:=by unfold nbrAt;rw [<-hx,<-hy]
 rw [d1]
 obtain ⟨n,hn⟩:=zX (l.length)
 rw [<-hn] at aa ⊢
 generalize nbr l W x y=g at *
 generalize classI g d=cl at *
 generalize guessI 7 g d=gs at *
 obtain ⟨ga,gb,gc,ge⟩:=g
 simp only at aa ab ac
 have HN:=hid aa
 have af:(1:Int)<=(W:Int):=by omega
 clear hx hy aj aa ae d1 hn hs hi
 go_enter Tryz.func146,Tryz.ntmps146
 go_wp2_with fail
 go_quiet ((go_at_call 190;exact quiet_drew (HN.out _ (hc.same ((zR [] w).drewN _)))))
 go_wp2_with fail
 refine (ac _).mono ?_
 rintro e w1 ⟨rfl,ai⟩
 go_wp2_with fail
 refine (ab _).mono ?_
 rintro e w2 ⟨rfl,ag⟩
 go_wp2_with fail
 exact bodyPost_ret (v:=.tuple #[.int .i64 gs,.int .i64 cl]) (by simp [results,Tryz.results146,go_sem]) rfl ⟨rfl,(((zR [] w).drewN nq).trans_same ai).trans_same ag⟩
def foldOf (l:List Int) (W d i:Nat):Nat:=rfold (foldI (l.getD i 0-guessI 7 (nbrAt l W i) d) d)
def foldedN (l:List Int) (W d:Nat):List Nat:=(List.range l.length).map (foldOf l W d)
def foldedL (l:List Int) (W d:Nat):List Int:=(foldedN l W d).map Int.ofNat
theorem foldOf_lt (l:List Int) (W:Nat) {d:Nat} (h0:1<=d) (i:Nat):foldOf l W d i<2^d:=by
 obtain ⟨h1,h2⟩:=foldI_range (l.getD i 0-guessI 7 (nbrAt l W i) d) h0
 have h3:=two_pow_half h0
 have h4:((2^d:Nat):Int)=(2:Int)^d:=by simp
 unfold foldOf rfold
 split<;>omega
theorem foldedN_len (l:List Int) (W d:Nat):(foldedN l W d).length=l.length:=by simp [foldedN]
theorem foldedL_len (l:List Int) (W d:Nat):(foldedL l W d).length=l.length:=by simp [foldedL,foldedN]
theorem folded_ok (l:List Int) (A:Option Addr) (cap W d:Nat) (w:World) (h0:1<=d) (h1:d<=16) (hW0:1<=W) (hW1:W<=64) (hlW:l.length<=64*W) (hs:SmpOk d l) (hc:Cells vi w A l) (hll:l.length<=4096) :
  Calls Tryz.prog 112 #[.slice A l.length cap,.int .i64 W,.int .i64 d] w fun e w'=>∃ v g,e=.returned v/\Row w' 3 v g ((foldedL l W d).map vi)/\Chg [] w w'/\w.heap.size<=g:=by
 have ae:=fun i (hi:i<l.length) w hc=>tnear_ok l A cap W d i w h0 h1 hW0 hW1 (by omega) (by omega) hs hc hll
 have az:foldedL l W d=(List.range l.length).map fun i=>(foldOf l W d i:Int):=by simp [foldedL,foldedN,List.map_map]
 obtain ⟨m,hm⟩:=zX (l.length)
 rw [<-hm] at ae az hll ⊢
 have aS:=run_make1 (P:=Tryz.prog) int_elem rfl .i64 .i64 m (by omega) (by omega)
 have HN:=hid ae
 have aP:=hid az
 have HM:=hid hm
 have HS:=hid hs
 clear ae az hm hs
 go_enter Tryz.func112,Tryz.ntmps112
 go_wp2_with fail
 have aa:=Row.zeros w m (by omega)
 obtain ⟨B,hB⟩:=zX (w.heap.size)
 rw [<-hB] at aa ⊢
 have HB:=hid hB
 have aC:Chg [] w (w.alloc (.cells (List.replicate m (Value.int .i64 0)).toArray 3)):=(zR [] w).alloc _
 clear hB
 go_loopg [17] m (fun j iv wr=>∃ (done:List Int),iv=.int .i64 done.length/\done.length+j=m/\Hid (done=(List.range done.length).map fun i=>(foldOf l W d i:Int))/\Row wr 3 (.slice (some ⟨B,0,none⟩) m m) B ((fillL done m).map vi)/\Chg [] w wr)
 case atStart=>exact ⟨[],rfl,by simp,hid rfl,aa,aC⟩
 case round =>
  obtain ⟨done,rfl,aE,Hd,ai,aq⟩:=hrel
  clear aa aC
  rcases gk with _ | j
  ·have aw:done.length=m:=by omega
   rw [aw]
   go_wp2
   go_ret
   refine ⟨_,B,rfl,?_,aq,by have:=HB.out;omega⟩
   rw [fillL_full aw,Hd.out,aw] at ai
   rw [aP.out]
   exact ai
  ·obtain ⟨i,hi⟩:=zX (done.length)
   have aJ:i<m:=by omega
   have au:i<l.length:=by rw [<-HM.out];exact aJ
   have ac:done++[(foldOf l W d i:Int)]=(List.range (i+1)).map fun i=>(foldOf l W d i:Int):=by
    rw [List.range_succ,zM,hi,<-Hd.out];rfl
   have av:=hc.same aq
   obtain ⟨g,o,rfl,ad⟩:=av.at_ au
   have aH:l[i]=l.getD i 0:=by rw [zD,zF au];rfl
   rw [aH] at ad
   have ab:wr.cell? ⟨g,o+i,none⟩=some (.int .i64 (l.getD i 0)):=ad
   have ap:=HN.out i aJ wr av
   have al:=guessI_ok (nbr_ok HS.out W (i%W) (i / W)) 7
   have an:=getD_ok HS.out i
   have am:foldOf l W d i=rfold (foldI (l.getD i 0-guessI 7 (nbrAt l W i) d) d):=rfl
   have aI:nbrAt l W i=nbr l W (i%W) (i / W):=rfl
   rw [<-aI] at al
   have aj:=foldOf_lt l W h0 i
   obtain ⟨aK,aO⟩:=pow_d h0 h1
   obtain ⟨gs,aG⟩:=zX (guessI 7 (nbrAt l W i) d)
   rw [<-aG] at ap al am
   obtain ⟨v,hv⟩:=zX (l.getD i 0)
   rw [<-hv] at ab an am
   have aF:=fun w=>fold_ok (v-gs) d w h0 h1
   have ay:=foldI_range (v-gs) h0
   obtain ⟨fo,ak⟩:=zX (foldI (v-gs) d)
   rw [<-ak] at am aF ay
   have aB:=errRange16 h1 ay
   have ag:wideP fo:=by unfold wideP;omega
   have ar:=fun w=>rfold_ok fo w ag
   rw [<-am] at ar
   obtain ⟨f,hf⟩:=zX (foldOf l W d i)
   rw [<-hf] at ar aj ac
   have aM:f<65536:=by
    have h9:((2^d:Nat):Int)=(2:Int)^d:=by simp
    have aL:=Nat.pow_le_pow_right (n:=2) (by decide) h1
    exact Nat.lt_of_lt_of_le aj aL
   have aQ : -65536<=v-gs:=by have:=an.1;have:=al.2;omega
   have aR:v-gs<=65536:=by have:=an.2;have:=al.1;omega
   have aN:=hid ac
   have ao:=hid aE
   have HI:=hid hi
   rw [<-hi]
   clear ac aE hf ak hv aG al an am aI aj aK aO ay aB ag ad aH au av hi
   go_wp2_with fail
   refine ap.mono ?_
   rintro e w2 ⟨rfl,aD⟩
   have ah:=ai.chg aD (by simp)
   obtain ⟨aA,ax⟩:=ah.fill_cell (by have:=ao.out;omega)
   rw [<-HI.out] at aA ax
   clear ap ab
   go_wp2_with (first | (go_at_call 84;refine (aF _).mono ?_;rintro e w' ⟨rfl,rfl⟩) | (go_at_call 147;refine (ar _).mono ?_;rintro e w' ⟨rfl,rfl⟩))
   go_roundg j
   case measure=>omega
   case rel =>
    have af:=ah.fill (by have:=ao.out;omega) (f:Int)
    refine ⟨done++[(f:Int)],?_,?_,hid ?_,?_,?_⟩
    ·rw [zC,List.length_singleton,<-HI.out];go_num
    ·rw [zC,List.length_singleton];have:=ao.out;omega
    ·rw [zC,List.length_singleton,<-HI.out]
     exact aN.out
    ·rw [<-HI.out] at af
     exact af
    ·exact (aq.trans_same aD).setCell (.inr (by have:=HB.out;simp;omega)) _
theorem isSize_yes (W H d:Nat) (w:World) (hw0:1<=W) (hw1:W<=16) (hh0:1<=H) (hh1:H<=16) (h0:1<=d) (h1:d<=16) :
  Calls Tryz.prog 109 #[.int .i64 W,.int .i64 H,.int .i64 d] w fun e w'=>e=.returned (.bool true)/\w=w':=by
 have t1:decide ((1:Int)<=(W:Int))=true:=zB (by omega)
 have t2:decide ((W:Int)<=16)=true:=zB (by omega)
 have t3:decide ((1:Int)<=(H:Int))=true:=zB (by omega)
 have t4:decide ((H:Int)<=16)=true:=zB (by omega)
 have t5:decide ((1:Int)<=(d:Int))=true:=zB (by omega)
 have t6:decide ((d:Int)<=16)=true:=zB (by omega)
 go_enter Tryz.func109,Tryz.ntmps109
 go_wp2
 go_ret
 exact ⟨rfl,rfl⟩
theorem isTile_yes (l:List Int) (A:Option Addr) (cap W H d:Nat) (w:World) (hw0:1<=W) (hw1:W<=16) (hh0:1<=H) (hh1:H<=16) (h0:1<=d) (h1:d<=16) (hl:l.length=W*H) (hs:SmpOk d l) (hc:Cells vi w A l) :
  Calls Tryz.prog 85 #[.slice A l.length cap,.int .i64 W,.int .i64 H,.int .i64 d] w fun e w'=>e=.returned (.bool true)/\w=w':=by
 obtain ⟨ak,ai⟩:=pow_d h0 h1
 obtain ⟨m,hm⟩:=zX (l.length)
 rw [<-hm] at hl ⊢
 have ah:(W:Int)*(H:Int)=(m:Int):=by rw [hl];simp
 have t7:((m:Int) != (m:Int))=false:=by simp
 have am:m<=256:=by rw [hl];exact zL hw1 hh1
 have HN:=hid hm
 have HS:=hid hs
 clear hm hl hs
 go_enter Tryz.func85,Tryz.ntmps85
 go_wp2_with (go_at_call 109;refine (isSize_yes _ _ _ _ hw0 hw1 hh0 hh1 h0 h1).mono ?_;rintro e w' ⟨rfl,rfl⟩)
 go_loopg [26] m (fun j i wr=>j<=m/\i=.int .i64 ((m-j:Nat):Int)/\w=wr)
 case atStart=>exact ⟨zQ _,by simp,rfl⟩
 case round =>
  obtain ⟨hj,rfl,rfl⟩:=hrel
  rcases gk with _ | j
  ·have t8:decide (((m-0:Nat):Int)<(m:Int))=false:=by simp
   go_wp2
   go_ret
   exact ⟨rfl,rfl⟩
  ·obtain ⟨i,ac⟩:=zX (m-(j+1))
   rw [<-ac]
   have ag:i<m:=by omega
   have af:m-j=i+1:=by omega
   have HI:=hid af
   clear ac af
   have ae:i<l.length:=by rw [<-HN.out];exact ag
   obtain ⟨g,o,rfl,aa⟩:=hc.at_ ae
   have hx:=HS.out l[i] (zG _)
   obtain ⟨x,ad⟩:=zX (l[i])
   rw [<-ad] at aa hx
   have ab:w.cell? ⟨g,o+i,none⟩=some (.int .i64 x):=aa
   obtain ⟨an,al⟩:=hx
   have t9:decide (x<0)=false:=zA (by omega)
   have aj:decide ((2:Int)^d<=x)=false:=zA (by omega)
   clear aa ad ae
   go_wp2
   go_roundg j
   case measure=>omega
   case rel =>
    rw [HI.out]
    exact ⟨by omega,by go_num,rfl⟩
theorem rnumber_ok (w:World) (b:Nat) (F ds:List Nat) (p k most u:Nat) (h:IsRd w b F ds p) (hk:k<=25) (hu:u<=most) (hm:most<=65536) (ha:Ahead ds p (rbits k (unfoldI u))) :
  Calls Tryz.prog 262 #[.pointer (some ⟨b,0,none⟩),.int .i64 k,.int .i64 most] w fun e w'=>e=.returned (.tuple #[.int .i64 u,.int .i64 0])/\IsRd w' b F ds (p+(rbits k (unfoldI u)).length)/\Chg [b] w w':=by
 have af:=unfoldI_wide (u:=u) (by omega)
 have hg:=rgets_ok w b F ds p k [unfoldI u] h hk (fun z hz=>by rw [zU.1 hz];exact af) (by simp) (by simpa [rbitsAll] using ha)
 rw [show (([unfoldI u]:List Int).length:Int)=1 from rfl] at hg
 have ag:(rbitsAll k [unfoldI u]).length=(rbits k (unfoldI u)).length:=by simp [rbitsAll]
 rw [ag] at hg
 have ae:=fun w'=>rfold_ok (unfoldI u) w' af
 rw [rfold_unfoldI] at ae
 have t1:decide ((u:Int)<=(most:Int))=true:=zB (by omega)
 have al:decide (u<=most)=true:=zB (by omega)
 have am:IntKind.u64.wrap (most:Int)=(most:Int):=IntWalk.u64_in _ (by omega)
 have aj:IntKind.i64.wrap (u:Int)=(u:Int):=IntWalk.i64_in _ (by omega)
 generalize unfoldI u=x at *
 generalize (rbits k x).length=q at *
 clear h ha ag
 go_enter Tryz.func262,Tryz.ntmps262
 go_wp2_with fail
 refine hg.mono ?_
 rintro e w1 ⟨v,G,rfl,own,ah,ai,hG⟩
 rcases own.cases with ⟨_,ad,_⟩ | ⟨g4,ab,rfl⟩
 ·exfalso
  have:=congrArg List.length ad
  simp at this
 obtain ⟨c4,rfl,_,_,aa,_⟩:=ab.open_map
 have e0:=aa 0 x rfl
 have ak:w1.cell? ⟨g4,0,none⟩=some (.int .i64 x):=e0
 rw [show (([x]:List Int).length)=1 from rfl]
 have ac:=ae w1
 clear hg own ab aa e0 ae
 go_wp2_with fail
 refine ac.mono ?_
 rintro e w' ⟨rfl,rfl⟩
 go_wp2
 go_ret2
 exact ⟨rfl,ah,ai⟩
theorem rtoken_ok (w:World) (b:Nat) (F ds:List Nat) (p k j W d:Nat) (t:Tok) (h:IsRd w b F ds p) (hp:Pts w) (h0F:0∉F) (hk:k<=25) (hj:j<=25) (hw0:1<=W) (hw1:W<=64) (hd:d<=16) (ht:TokOk d t) (ha:Ahead ds p (tokBits k j W d t)) :
  Calls Tryz.prog 228 #[.pointer (some ⟨b,0,none⟩),.int .i64 k,.int .i64 j,.int .i64 W,.int .i64 d] w fun e w'=>e=.returned (.tuple #[tokV t,.int .i64 0])/\IsRd w' b F ds (p+(tokBits k j W d t).length)/\Chg [b] w w':=by
 obtain ⟨br,ay⟩:=zX (w.heap.size)
 obtain ⟨w0,af⟩:=zX (w.alloc (.cells #[.int .i64 0,.int .i64 0,.int .i64 0] 201))
 have aL:Blk w0 br 201 #[.int .i64 0,.int .i64 0,.int .i64 0]:=by rw [af,ay];exact Blk.new w _ _
 have aq:Chg [] w w0:=by rw [af];exact (zR [] w).alloc _
 have aw:=h.same aq
 have aT:=hp.same aq
 have aP:br∉F:=fun hm=>by have:=h.lt _ hm;omega
 have ac:b≠br:=by have:=h.lt b h.mem;omega
 have aJ:=h.mem
 have aM:=hid af
 have ar:=hid ay
 clear af ay h hp
 unfold tokBits at ha ⊢
 rcases ht with ⟨hl,aO,aH⟩ | ⟨hl,hc⟩
 ·rw [if_pos hl] at ha ⊢
  have aZ:=Tok.isLit_iff.1 hl
  obtain ⟨a,c,x⟩:=t
  obtain ⟨rfl,rfl⟩:a=0/\c=0:=aZ
  simp only at aO aH ha ⊢
  have an:tokV ⟨0,0,x⟩=.agg #[.int .i64 0,.int .i64 0,.int .i64 x]:=rfl
  rw [an]
  obtain ⟨X,hX⟩:∃ X:Nat,X=x.toNat:=⟨_,rfl⟩
  have aA:x=(X:Int):=by omega
  have aC:X<2^d:=by
   have e:(2:Int)^d=((2^d:Nat):Int):=by simp
   rw [e,aA] at aH
   omega
  have a5:X<65536:=Nat.lt_of_lt_of_le aC (show 2^d<=2^16 from Nat.pow_le_pow_right (by decide) hd)
  rw [<-hX] at ha ⊢
  rw [aA]
  have ap:=rget_ahead w0 b F ds p 1 0 aw (by omega) (by decide) ha.left
  have aj:=ha.right
  rw [bitsOf_len] at aj
  have ah:=fun w' (hr:IsRd w' b F ds (p+1))=>rget_ahead w' b F ds (p+1) d X hr (by omega) aC aj
  rw [zC,bitsOf_len,bitsOf_len]
  have a8:IntKind.i64.wrap (X:Int)=(X:Int):=IntWalk.i64_in _ (by omega)
  have aD:=hid ah
  clear hX aA aC aO aH ha aj ah hl an
  go_enter Tryz.func228,Tryz.ntmps228
  go_wp2_with fail
  rw [<-aM.out,<-ar.out]
  refine ap.mono ?_
  rintro e w1 ⟨rfl,az,al⟩
  have ao:=aL.chg al (by simpa using ac.symm)
  clear ap aw
  go_wp2_with fail
  refine (aD.out w1 az).mono ?_
  rintro e w2 ⟨rfl,ax,ak⟩
  have ae:=ao.chg ak (by simpa using ac.symm)
  have q0:=ae.cell 0
  have q1:=ae.cell 1
  have q2:=ae.cell 2
  have z0:=ae.frozen 0
  have z1:=ae.frozen 1
  have z2:=ae.frozen 2
  simp at q0 q1 q2
  obtain ⟨wF,ag⟩:=zX (((w2.setCell ⟨br,0,none⟩ (.int .i64 0)).setCell ⟨br,1,none⟩ (.int .i64 0)).setCell ⟨br,2,none⟩ (.int .i64 X))
  have aa:Blk wF br 201 #[.int .i64 0,.int .i64 0,.int .i64 X]:=by
   rw [ag]
   simpa using ((ae.set_ 0 (.int .i64 0)).set_ 1 (.int .i64 0)).set_ 2 (.int .i64 X)
  have ad:Chg [br] w2 wF:=by rw [ag];exact (((zR [br] w2).setCell (.inl (by simp)) _).setCell (.inl (by simp)) _).setCell (.inl (by simp)) _
  have f0:=aa.cell 0
  have f1:=aa.cell 1
  have f2:=aa.cell 2
  simp at f0 f1 f2
  have aE:=hid ag
  clear ag aa ao
  go_wp2_with (go_at_call 69;refine (err_ok _ b F ds _ ax).mono ?_;rintro e w' ⟨rfl,rfl⟩)
  rw [<-aE.out]
  refine bodyPost_ret (v:=.tuple #[.agg #[.int .i64 0,.int .i64 0,.int .i64 X],.int .i64 0]) (by simp [results,Tryz.results228,go_sem,f0,f1,f2]) rfl ?_
  exact ⟨rfl,(ax.cast (by omega)).chg ad (fun z hz hm=>by simp at hm;exact aP (hm ▸ hz)),(((aq.mono (by simp)).trans_same al).trans_same ak).trans ad (fun z hz => .inr (by simp at hz;have:=ar.out;omega))⟩
 ·rw [if_neg (by simp [hl])] at ha ⊢
  have aW:=Tok.isCopy_iff.1 hc
  obtain ⟨n,c,x⟩:=t
  obtain ⟨ba,aX,a7,aG,rfl⟩:3<=n/\n<=64/\1<=c/\c<=1024/\x=0:=aW
  have an:tokV ⟨n,c,0⟩=.agg #[.int .i64 n,.int .i64 c,.int .i64 0]:=rfl
  rw [an]
  have au:=codeN_ok (d:=c) (W:=W) a7
  have ap:=rget_ahead w0 b F ds p 1 1 aw (by omega) (by decide) ha.left.left
  have aj:=ha.left.right
  have av:=ha.right
  have e2:lenOf ⟨n,c,0⟩=unfoldI (n-3):=rfl
  have e3:codeOf W ⟨n,c,0⟩=unfoldI (codeN c W-1):=rfl
  rw [zC,bitsOf_len,e2] at av
  rw [bitsOf_len,e2] at aj
  rw [e3] at av
  have ah:=fun w' (hr:IsRd w' b F ds (p+1))=>rnumber_ok w' b F ds (p+1) k 61 (n-3) hr hk (by omega) (by decide) aj
  have am:=fun w' (hr:IsRd w' b F ds (p+(1+(rbits k (unfoldI (n-3))).length)))=>rnumber_ok w' b F ds _ j 1047 (codeN c W-1) hr hj (by omega) (by decide) av
  rw [zC,zC,bitsOf_len,e2,e3]
  have ab:=fun w' (hp:Pts w')=>mnear_ok (codeN c W) W w' hp au.1.1 (by omega) hw0 hw1
  rw [au.2] at ab
  obtain ⟨cd,aR⟩:=zX (codeN c W)
  rw [<-aR] at am ab au ⊢
  obtain ⟨c0,aK⟩:=zX (cd-1)
  have a9:(c0:Int)+1=(cd:Int):=by omega
  rw [<-aK] at am ⊢
  obtain ⟨n0,aN⟩:=zX (n-3)
  have bc:(n0:Int)+3=(n:Int):=by omega
  rw [<-aN] at ah am ⊢
  generalize (rbits k (unfoldI n0)).length=q1 at *
  generalize (rbits j (unfoldI c0)).length=q2 at *
  rw [show ((61:Nat):Int)=61 from rfl] at ah
  rw [show ((1047:Nat):Int)=1047 from rfl] at am
  have t1:(((1:Nat):Int)==0)=false:=rfl
  have aQ:cd<=1048:=by omega
  have aD:=hid ah
  have aU:=hid am
  have aV:=hid ab
  clear ha aj av ah am ab aR aK aN e2 e3 hl hc an au
  go_enter Tryz.func228,Tryz.ntmps228
  go_wp2_with fail
  rw [<-aM.out,<-ar.out]
  refine ap.mono ?_
  rintro e w1 ⟨rfl,az,al⟩
  have ao:=aL.chg al (by simpa using ac.symm)
  have aY:=aT.chg al (fun hm=>by simp at hm;exact h0F (hm ▸ aJ))
  clear ap aw
  go_wp2_with fail
  refine (aD.out w1 az).mono ?_
  rintro e w2 ⟨rfl,ax,ak⟩
  have ae:=ao.chg ak (by simpa using ac.symm)
  have a4:=aY.chg ak (fun hm=>by simp at hm;exact h0F (hm ▸ aJ))
  go_wp2_with fail
  refine (aU.out w2 (ax.cast (by omega))).mono ?_
  rintro e w3 ⟨rfl,a1,aB⟩
  have aS:=ae.chg aB (by simpa using ac.symm)
  have a2:=a4.chg aB (fun hm=>by simp at hm;exact h0F (hm ▸ aJ))
  go_wp2_with fail
  refine (aV.out w3 a2).mono ?_
  rintro e bb ⟨rfl,n4,rfl⟩
  obtain ⟨w4,aI⟩:=zX (w3.drewN n4)
  have aF:Chg [] w3 w4:=by rw [aI];exact (zR [] w3).drewN n4
  rw [<-aI]
  have ai:=aS.chg aF (by simp)
  have q0:=ai.cell 0
  have a3:=ai.cell 1
  have a6:=ai.cell 2
  have z0:=ai.frozen 0
  have z1:=ai.frozen 1
  have z2:=ai.frozen 2
  simp at q0 a3 a6
  obtain ⟨wF,ag⟩:=zX (((w4.setCell ⟨br,0,none⟩ (.int .i64 n)).setCell ⟨br,1,none⟩ (.int .i64 c)).setCell ⟨br,2,none⟩ (.int .i64 0))
  have aa:Blk wF br 201 #[.int .i64 n,.int .i64 c,.int .i64 0]:=by
   rw [ag]
   simpa using ((ai.set_ 0 (.int .i64 n)).set_ 1 (.int .i64 c)).set_ 2 (.int .i64 0)
  have ad:Chg [br] w4 wF:=by rw [ag];exact (((zR [br] w4).setCell (.inl (by simp)) _).setCell (.inl (by simp)) _).setCell (.inl (by simp)) _
  have f0:=aa.cell 0
  have f1:=aa.cell 1
  have f2:=aa.cell 2
  simp at f0 f1 f2
  have aE:=hid ag
  have a0:=a1.same aF
  clear ag aa ao ae aS aI
  go_wp2_with fail
  rw [<-aE.out]
  refine bodyPost_ret (v:=.tuple #[.agg #[.int .i64 n,.int .i64 c,.int .i64 0],.int .i64 0]) (by simp [results,Tryz.results228,go_sem,f0,f1,f2]) rfl ?_
  exact ⟨rfl,(a0.cast (by omega)).chg ad (fun z hz hm=>by simp at hm;exact aP (hm ▸ hz)),(((((aq.mono (by simp)).trans_same al).trans_same ak).trans_same aB).trans aF (by simp)).trans ad (fun z hz => .inr (by simp at hz;have:=ar.out;omega))⟩
theorem grow_ok (w:World) (l:List Int) (v:Value) (F:List Nat) (i:Nat) (t:Tok) (ho:Own w 3 v F ((l.take i).map vi)) (hl:l.length<=4096) (hil:i<l.length) (ht:TokAt l i t) (hok:t.ok) :
  Calls Tryz.prog 229 #[v,tokV t] w fun e w'=>∃ v' F',e=.returned v'/\Own w' 3 v' F' ((l.take (i+max t.len 1)).map vi)/\Grow F F' w w':=by
 obtain ⟨bt,am⟩:=zX (w.heap.size)
 have ai:=fun w'=>isLit_ok t w'
 have aV:(l.take i).length=i:=by rw [zI];omega
 have aU:=hid ho.lt
 rcases ht with ⟨h1,h2,h3⟩ | ⟨h1,h2,h3,h4,h5⟩
 ·have ac:t.isLit=true:=Tok.isLit_iff.2 ⟨h1,h2⟩
  rw [ac] at ai
  obtain ⟨a,c,x⟩:=t
  simp only at h1 h2 h3
  subst h1 h2
  have an:tokV ⟨0,0,x⟩=.agg #[.int .i64 0,.int .i64 0,.int .i64 x]:=rfl
  rw [an] at ai ⊢
  have aO:l.take (i+max 0 1)=l.take i++[x]:=by
   rw [show i+max 0 1=i+1 by omega,take_snoc' l hil,h3,zD,zF hil]
   rfl
  simp only
  rw [aO]
  obtain ⟨xs,al⟩:=zX (l.take i)
  rw [<-al] at ho aV ⊢
  obtain ⟨w0,ag⟩:=zX (w.alloc (.cells #[.int .i64 0,.int .i64 0,.int .i64 x] 201))
  have ad:Blk w0 bt 201 #[.int .i64 0,.int .i64 0,.int .i64 x]:=by rw [ag,am];exact Blk.new w _ _
  have aq:Chg [] w w0:=by rw [ag];exact (zR [] w).alloc _
  have ao:=ho.same aq
  have q0:=ad.cell 0
  have q1:=ad.cell 1
  have q2:=ad.cell 2
  simp at q0 q1 q2
  have ax:=hid ag
  have au:=hid am
  clear h3 aO al ac hok an ag am ho
  go_enter Tryz.func229,Tryz.ntmps229
  go_wp2_with fail
  rw [<-ax.out]
  refine (ai w0).mono ?_
  rintro e w1 ⟨rfl,ak⟩
  have aP:=(ad.chg ak (by simp)).cell 2
  simp at aP
  rw [au.out] at aP
  have aw:=ao.same ak
  clear ai q0 q1 q2 ad ao
  go_wp2_with (at_builtin;refine wpList_append_o1 rfl rfl int_elem rfl rfl (aw.alloc _) (.int .i64 x) rfl ?c1 ?c2 ?c3 ?c4 ?_)
  case c1=>simp [go_sem]
  case c2=>rfl
  case c3=>rw [zE];omega
  case c4=>rw [zE];omega
  intro g2 aB w2 aE av
  go_wp2_with fail
  go_ret
  exact ⟨_,[g2],rfl,by have:=aE.toOwn;simpa [vi] using this,Grow.pre ((aq.trans_same ak).alloc _) av⟩
 ·have ac:t.isLit=false:=by
   cases hq:t.isLit with
   | false=>rfl
   | true=>have := Tok.isLit_iff.1 hq;omega
  rw [ac] at ai
  have aH:=Tok.isCopy_iff.1 (by rcases hok with h | h;rw [ac] at h;cases h;exact h)
  obtain ⟨n,c,x⟩:=t
  simp only at h1 h2 h3 h4 h5 aH
  obtain rfl:x=0:=aH.2.2.2.2
  have an:tokV ⟨n,c,0⟩=.agg #[.int .i64 n,.int .i64 c,.int .i64 0]:=rfl
  rw [an] at ai ⊢
  have aN:i+max n 1=i+n:=by omega
  simp only
  rw [aN]
  obtain ⟨w0,ag⟩:=zX (w.alloc (.cells #[.int .i64 n,.int .i64 c,.int .i64 0] 201))
  have ad:Blk w0 bt 201 #[.int .i64 n,.int .i64 c,.int .i64 0]:=by rw [ag,am];exact Blk.new w _ _
  have aq:Chg [] w w0:=by rw [ag];exact (zR [] w).alloc _
  have ao:=ho.same aq
  have q0:=ad.cell 0
  have q1:=ad.cell 1
  have q2:=ad.cell 2
  simp at q0 q1 q2
  have ax:=hid ag
  have au:=hid am
  have H5:=hid h5
  clear aN ac hok an ag am ho h5
  go_enter Tryz.func229,Tryz.ntmps229
  go_wp2_with fail
  rw [<-ax.out]
  refine (ai w0).mono ?_
  rintro e w1 ⟨rfl,ak⟩
  have ay:=ad.chg ak (by simp)
  have aA:=ay.cell 0
  simp at aA
  rw [au.out] at aA
  have aw:=ao.same ak
  have aM:Grow F F w w1:=(Grow.refl F w).same (aq.trans_same ak)
  have ar:bt∉F:=fun hm=>by have:=aU.out _ hm;have:=au.out;omega
  clear ai q0 q1 q2 ad ao
  go_wp2_with fail
  go_loopg [0,14] n (fun k vl iv wr=>∃ (m:Nat) (F':List Nat),iv=.int .i64 m/\m+k=n/\Own wr 3 vl F' ((l.take (i+m)).map vi)/\Blk wr bt 201 #[.int .i64 n,.int .i64 c,.int .i64 0]/\bt∉F'/\Grow F F' w wr)
  case atStart=>exact ⟨0,F,rfl,by omega,aw,ay,ar,aM⟩
  case round =>
   clear aw ay ar aM aA
   obtain ⟨m,F',rfl,a3,ab,aj,aQ,aJ⟩:=hrel
   rcases gk with _ | k
   ·obtain rfl:n=m:=by omega
    have t5:decide ((n:Int)<(n:Int))=false:=by simp
    have aW:decide (n<n)=false:=by simp
    obtain ⟨A,aT,rfl,_,_,_⟩:=ab.open_map
    go_wp2_with fail
    go_ret
    exact ⟨_,F',rfl,ab,aJ⟩
   ·have aL:m<n:=by omega
    have t5:decide ((m:Int)<(n:Int))=true:=zB (by omega)
    have aW:decide (m<n)=true:=zB aL
    have ap:(l.take (i+m)).length=i+m:=by rw [zI];omega
    obtain ⟨q,hq⟩:=zX (i+m-c)
    have aI:q<i+m:=by omega
    obtain ⟨A,aT,rfl,aC,a1,aa⟩:=ab.open_map
    obtain ⟨ga,oa,rfl,ae⟩:=aa.at_ (m:=q) (by rw [ap];exact aI)
    have aK:(l.take (i+m))[q]=l.getD (i+m) 0:=by
     rw [H5.out m aL,<-hq,List.getElem_take,zD,zF (by omega)]
     rfl
    rw [aK] at ae
    have aD:i+m<l.length:=by omega
    have af:=take_snoc' l aD
    have aF:l[i+m]=l.getD (i+m) 0:=by rw [zD,zF aD];rfl
    rw [aF] at af
    generalize l.getD (i+m) 0=y at *
    have az:wr.cell? ⟨ga,oa+q,none⟩=some (.int .i64 y):=ae
    obtain ⟨im,ah⟩:=zX (i+m)
    rw [<-ah] at ap ab af aI aa aC
    obtain ⟨xs,al⟩:=zX (l.take im)
    rw [<-al] at ap ab af aC aa
    have a2:(im:Int)-(c:Int)=(q:Int):=by omega
    have aG:=aj.cell 1
    simp at aG
    rw [au.out] at aG
    rw [ap] at ab aC
    have aZ:=ab.alloc (.cells #[.int .i64 y] 3)
    have aX:=hid af
    have aR:=hid ah
    have aY:im<=4096:=by omega
    rw [<-ah,<-al,ap]
    clear ae aK aF af ah al aa hq aD
    go_wp2_with (at_builtin;refine wpList_append_o1 rfl rfl int_elem rfl rfl aZ (.int .i64 y) rfl ?c1 ?c2 ?c3 ?c4 ?_)
    case c1=>simp [go_sem]
    case c2=>rfl
    case c3=>rw [zE];omega
    case c4=>rw [zE];omega
    intro g2 aB w2 aE av
    go_wp2_with fail
    go_roundg k
    case measure=>omega
    case rel =>
     have a0:g2∉F'\/g2∈F':=by by_cases hh:g2∈F'<;>simp [hh]
     have aS:bt∉[g2]:=fun hm=>by
      simp at hm
      rcases av.new g2 (by simp) with h9 | h9
      ·exact aQ (hm ▸ h9)
      ·have:=aj.lt;simp at h9;omega
     have e1:i+(m+1)=im+1:=by have:=aR.out;omega
     refine ⟨m+1,[g2],by go_num,by omega,?_,(Blk.alloc aj _).chg av.chg aQ,aS,(aJ.alloc _).trans av⟩
     rw [e1,aX.out,zM]
     have:=aE.toOwn
     exact this
theorem mtget_ok (w:World) (b:Nat) (F ds:List Nat) (p:Nat) (l:List Int) (W d:Nat) (T:List Tok) (h:IsRd w b F ds p) (hp:Pts w) (h0F:0∉F) (hw0:1<=W) (hw1:W<=64) (h0:1<=d) (h1:d<=16) (hl:l.length<=4096) (hT:ToksFrom l 0 T) (hok:∀ t∈T,TokOk d t) (ha:Ahead ds p (matchBits T W d)) :
  Calls Tryz.prog 180 #[.pointer (some ⟨b,0,none⟩),.int .i64 l.length,.int .i64 W,.int .i64 d] w fun e w'=>∃ v G,e=.returned (.tuple #[v,.int .i64 0])/\Own w' 3 v G (l.map vi)/\IsRd w' b F ds (p+(matchBits T W d).length)/\Chg [b] w w'/\∀ x∈G,w.heap.size<=x:=by
 have aY:matchBits T W d=bitsOf (rbest (copyLens T)) 5++bitsOf (rbest (copyCodes W T)) 5++T.flatMap (tokBits (rbest (copyLens T)) (rbest (copyCodes W T)) W d):=rfl
 rw [aY] at ha ⊢
 rw [zC,zC,bitsOf_len,bitsOf_len]
 have hk:=rbest_le (copyLens T)
 have hj:=rbest_le (copyCodes W T)
 generalize rbest (copyLens T)=k at *
 generalize rbest (copyCodes W T)=j at *
 have aP:=rget_ahead w b F ds p 5 k h (by omega) (by omega) ha.left.left
 have aG:=ha.left.right
 have aF:=ha.right
 rw [bitsOf_len] at aG
 rw [zC,bitsOf_len,bitsOf_len] at aF
 have aT:=fun w' (hr:IsRd w' b F ds (p+5))=>rget_ahead w' b F ds (p+5) 5 j hr (by omega) (by omega) aG
 obtain ⟨n,hn⟩:=zX (l.length)
 rw [<-hn] at hl ⊢
 have t1:decide ((W:Int)<1)=false:=zA (by omega)
 have t2:decide ((64:Int)<(W:Int))=false:=zA (by omega)
 have t3:decide ((d:Int)<1)=false:=zA (by omega)
 have t4:decide ((16:Int)<(d:Int))=false:=zA (by omega)
 have t5:decide ((n:Int)<0)=false:=zA (by omega)
 have t6:decide ((4096:Int)<(n:Int))=false:=zA (by omega)
 have t7:decide ((25:Int)<(k:Int))=false:=zA (by omega)
 have t8:decide ((25:Int)<(j:Int))=false:=zA (by omega)
 have bm:=run_make_room (P:=Tryz.prog) int_elem rfl .i64 .i64 n (by omega) (by omega)
 have bj:=h.lt b h.mem
 have HN:=hid hn
 have HA:=hid aF
 have HT:=hid hT
 have a7:=hid hok
 have a8:=hid aT
 have a5:=hid h.lt
 have HP:=hid hp
 have a4:Hid (0∉[b]):=hid (by simp;intro e;exact h0F (e ▸ h.mem))
 clear hn aF hT hok aT ha aG aY hp h
 go_enter Tryz.func180,Tryz.ntmps180
 go_wp2_with fail
 refine aP.mono ?_
 rintro e w1 ⟨rfl,aO,aL⟩
 clear aP
 go_wp2_with fail
 refine (a8.out w1 aO).mono ?_
 rintro e w2 ⟨rfl,aJ,aD⟩
 have ab:=Row.room w2 n (by omega)
 obtain ⟨B,hB⟩:=zX (w2.heap.size)
 have ay:Chg [] w2 (w2.alloc (.cells (List.replicate n (Value.int .i64 0)).toArray 3)):=(zR [] w2).alloc _
 have aX:=aJ.same ay
 have ak:=(aL.trans_same aD).trans ay (by simp)
 have aZ:w.heap.size<=B:=by rw [hB];exact (aL.trans_same aD).size
 rw [<-hB] at ab
 have HB:=hid hB
 clear aO aL aD ay hB
 go_wp2_with (go_at_call 69;refine (err_ok _ b F ds _ aJ).mono ?_;rintro e w' ⟨rfl,rfl⟩)
 rw [<-HB.out]
 go_loopg [13,14,15] T.length (fun q vl va vb wr=>∃ (i p':Nat) (R:List Tok) (F':List Nat),R.length=q/\i<=n/\Own wr 3 vl F' ((l.take i).map vi)/\Hid (ToksFrom l i R)/\Hid (∀ t∈R,TokOk d t)/\IsRd wr b F ds p'/\Hid (Ahead ds p' (R.flatMap (tokBits k j W d)))/\Hid (p'+(R.flatMap (tokBits k j W d)).length=p+(5+5)+(T.flatMap (tokBits k j W d)).length)/\Hid (Chg [b] w wr)/\Hid (∀ x∈F',w.heap.size<=x))
 case atStart=>exact ⟨0,p+(5+5),T,[B],rfl,by omega,by simpa using ab.toOwn,HT,a7,aX.cast (by omega),HA,hid rfl,hid ak,hid (by simpa using aZ)⟩
 case round =>
  clear ab aJ aX ak aZ
  obtain ⟨i,p',R,F',aQ,bg,aa,aR,aV,aB,a9,a0,ax,ao⟩:=hrel
  obtain ⟨A,bf,rfl,aW,be,ac⟩:=aa.open_map
  have ap:(l.take i).length=i:=by rw [zI,<-HN.out];omega
  cases R with
  | nil =>
   have aN:n<=i:=by have:=aR.out;rw [HN.out];exact this
   obtain rfl:n=i:=by omega
   have u1:decide (n<n)=false:=by simp
   have e1:l.take n=l:=by rw [HN.out,zN]
   have aS:=a0.out
   rw [ap]
   rw [ap,e1] at aa
   have aK:Hid (p'=p+(5+5+(T.flatMap (tokBits k j W d)).length)):=hid (by
    rw [show (([]:List Tok).flatMap (tokBits k j W d))=[] from rfl,List.length_nil] at aS
    omega)
   clear aS e1 ac aW ap
   go_wp2_with fail
   go_ret2
   exact ⟨_,F',rfl,aa,aB.cast aK.out,ax.out,ao.out⟩
  | cons t R =>
   obtain ⟨aI,aq,aU⟩:=aR.out
   rcases gk with _ | q
   ·simp at aQ
   have ba:i<n:=by rw [HN.out];exact aI
   have u1:decide (i<n)=true:=zB ba
   have aw:=a9.out
   rw [List.flatMap_cons] at aw
   have ad:=aV.out t (by simp)
   have aA:=rtoken_ok wr b F ds p' k j W d t aB (HP.out.chg ax.out a4.out) h0F hk hj hw0 hw1 h1 ad aw.left
   have bc:=hid aw.right
   have bh:=hid aq
   have aC:=hid aU
   have bl:=hid ad
   have al:=fun w' v F0 (ho:Own w' 3 v F0 ((l.take i).map vi))=>grow_ok w' l v F0 i t ho (by rw [<-HN.out];exact hl) aI aq ad.ok
   have ae:i+max t.len 1<=n:=by
    rcases aq with ⟨a1,_,_⟩ | ⟨a1,a2,_⟩
    ·rw [a1];omega
    ·rw [<-HN.out] at a2;omega
   have bb:t.dist<=i:=by
    rcases aq with ⟨_,a1,_⟩ | ⟨_,_,_,a1,_⟩
    ·omega
    ·exact a1
   have a3:t.len<=n-i:=by omega
   have a6:=hid al
   have aE:=hid ae
   obtain ⟨tl,ai⟩:=zX (t.len)
   obtain ⟨td,ah⟩:=zX (t.dist)
   obtain ⟨tx,ar⟩:=zX (t.lit)
   have az:tokV t=.agg #[.int .i64 tl,.int .i64 td,.int .i64 tx]:=by rw [ai,ah,ar];rfl
   rw [<-ah] at bb
   rw [<-ai] at a3
   have u2:decide ((i:Int)<(td:Int))=false:=zA (by omega)
   have bi:decide (i<td)=false:=zA (by omega)
   obtain ⟨ni,aN⟩:=zX (n-i)
   have bk:(n:Int)-(i:Int)=(ni:Int):=by omega
   have u3:decide (ni<tl)=false:=zA (by omega)
   have bd:=hid az
   rw [ap]
   rw [ap] at aa aW
   rw [az] at aA
   clear aw aI aq aU al ae ai ah ar az aN ac ad
   go_wp2_with fail
   refine aA.mono ?_
   rintro e w3 ⟨rfl,au,ak⟩
   have ag:=aa.chg ak (fun x hx hm=>by simp at hm;have:=ao.out x hx;omega)
   clear aA aB aa
   have av:=Blk.new w3 201 #[.int .i64 tl,.int .i64 td,.int .i64 tx]
   have k0:=av.cell 0
   have k1:=av.cell 1
   have k2:=av.cell 2
   simp at k0 k1 k2
   have af:=ag.alloc (.cells #[.int .i64 tl,.int .i64 td,.int .i64 tx] 201)
   have aj:=a6.out _ _ _ af
   rw [bd.out] at aj
   have aH:=hid au
   have am:=hid ak
   clear ag af au ak av
   go_wp2_with fail
   refine aj.mono ?_
   rintro e w5 ⟨v5,F5,rfl,an,aM⟩
   clear aj k0 k1 k2
   go_wp2_with fail
   go_roundg q
   case measure=>omega
   case rel =>
    refine ⟨i+max t.len 1,p'+(tokBits k j W d t).length,R,F5,by simpa using aQ,aE.out,an,aC,hid (fun t' ht'=>aV.out t' (by simp [ht'])),(aH.out.same ((zR [] w3).alloc _)).chg aM.chg (fun x hx hm=>by have:=a5.out x hx;have:=ao.out x hm;omega),bc,hid ?_,hid ?_,hid ?_⟩
    ·have:=a0.out
     rw [List.flatMap_cons,zC] at this
     omega
    ·exact ((ax.out.trans_same am.out).alloc _).trans aM.chg (fun x hx => .inr (ao.out x hx))
    ·intro x hx
     rcases aM.new x hx with h9 | h9
     ·exact ao.out x h9
     ·have:=ax.out.size;have:=am.out.size;simp at h9;omega
end Go.Proofs.YtepjepkgcdfboaaGreatDoor
