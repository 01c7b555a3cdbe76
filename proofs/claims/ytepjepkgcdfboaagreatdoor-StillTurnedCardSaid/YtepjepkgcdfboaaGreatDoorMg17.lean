/- package match by its contracts, the second part: distances. -/
import Derived.Test.YtepjepkgcdfboaaGreatDoorMg04
import Derived.Test.YtepjepkgcdfboaaGreatDoorMg16
import Derived.Test.YtepjepkgcdfboaaGreatDoorMg18
import Derived.Test.YtepjepkgcdfboaaGreatDoorMg34
set_option linter.unusedVariables false
set_option linter.unusedSimpArgs false
set_option maxHeartbeats 4000000
set_option maxRecDepth 100000
namespace Go.Proofs.YtepjepkgcdfboaaGreatDoor
open Go.RowKit
theorem e6l:Tryz.zeroCells204=((List.replicate 65 0).map i64).toArray:=by kernel_rfl
theorem f4r:Tryz.zeroCells203=((List.replicate 1025 0).map i64).toArray:=by kernel_rfl
theorem e8q (l:List Int) (A:Option Addr) (cap at_ br:Nat) (rs:List Nat) (w:World) (hat:at_<l.length) (hll:l.length<=4096) (hc:a0d vi w A l) (hr:Vec w br 203 rs) (hro:b7u rs) (hA:Apt A l [br]) :
  Calls Tryz.prog 163 #[.slice A l.length cap,.int .i64 at_,.pointer (some ⟨br,0,none⟩)] w fun e w' =>
   e=.returned (.agg ((b5f l at_ rs).dists.map i64).toArray)/\Vec w' br 203 (b5f l at_ rs).runs/\Chg [br] w w':=by
 have bx:=Blk.lt hr
 obtain ⟨n,hn⟩:=zX (l.length)
 rw [<-hn] at hat hll ⊢
 obtain ⟨M,hM⟩:=zX (min at_ 1024)
 have a6:b5f l at_ rs=dGo l at_ M 1 (c5a rs):=by rw [hM];rfl
 rw [a6]
 have aB:=c0p hro
 obtain ⟨S,hS⟩:=zX (dGo l at_ M 1 (c5a rs))
 have aN:S.Ok:=by rw [hS];exact e1w _ _ _ aB (by omega)
 rw [<-hS]
 have HN:=hid hn
 have HS:=hid hS
 have HA:=hid hA
 have a1:=hid aB
 have aZ:=hid aN
 have bv:M<=at_:=by omega
 have bq:M<=1024:=by omega
 have bd:at_<=M\/1024<=M:=by omega
 have a7:Vec (w.alloc (.cells Tryz.zeroCells204 204)) w.heap.size 204 (List.replicate 65 0):=by have:=Blk.new w 204 Tryz.zeroCells204;rw [e6l] at this;rw [e6l];exact this
 have bm:Vec ((w.alloc (.cells Tryz.zeroCells204 204)).alloc (.cells Tryz.zeroCells204 204)) (w.heap.size+1) 204 (List.replicate 65 0):=by
  have:=Blk.new (w.alloc (.cells Tryz.zeroCells204 204)) 204 Tryz.zeroCells204
  rw [show (w.alloc (.cells Tryz.zeroCells204 204)).heap.size=w.heap.size+1 by simp] at this
  rw [e6l] at this ⊢
  exact this
 have bj:Chg [br] w ((w.alloc (.cells Tryz.zeroCells204 204)).alloc (.cells Tryz.zeroCells204 204)):=((zR [br] w).alloc _).alloc _
 have a0:Vec ((w.alloc (.cells Tryz.zeroCells204 204)).alloc (.cells Tryz.zeroCells204 204)) w.heap.size 204 (List.replicate 65 0):=Blk.alloc a7 _
 have bl:Vec ((w.alloc (.cells Tryz.zeroCells204 204)).alloc (.cells Tryz.zeroCells204 204)) br 203 rs:=Blk.alloc (Blk.alloc hr _) _
 have bg:(if (1024:Int)<(at_:Int) then (1024:Int) else (at_:Int))=(M:Int):=by split<;>omega
 clear hn a6 hS hA aB aN hro hM hr a7 bd
 go_enter Tryz.func163,Tryz.ntmps163
 go_wp2_with fail
 go_loopg [8,9] M (fun j m iv wr=>∃ (d:Nat) (s:DSt),iv=.int .i64 d/\m=.int .i64 s.longest/\d+j=M+1/\1<=d/\Hid (S=dGo l at_ j d s)/\Hid s.Ok/\Vec wr br 203 s.runs/\Vec wr (w.heap.size+1) 204 s.dists/\Vec wr w.heap.size 204 (List.replicate 65 0)/\Chg [br] w wr)
 case atStart=>exact ⟨1,c5a rs,rfl,rfl,by omega,zQ _,HS,a1,bl,bm,a0,bj⟩
 case round =>
  obtain ⟨d,s,rfl,rfl,hj,bo,HG,ah,ag,aF,ax,aw⟩:=hrel
  rcases gk with _ | j
  ·have bi:S=s:=HG.out
   have bn:d=M+1:=by omega
   clear HG
   have t1:decide ((d:Int)<=(M:Int))=false:=zA (by omega)
   have aG:(Tryz.prog.info? 204).map (·.size)=some 65:=by kernel_rfl
   subst bi
   have aP:(S.dists.map i64).length=65:=by rw [zE];exact aZ.out.dl
   have aQ:(S.dists.map i64).toArray.size=65:=by simpa using aP
   have aJ:(List.replicate 65 0 |>.map i64).toArray.size=65:=by simp
   have aU:Blk (wr.setCells w.heap.size 0 (S.dists.map i64)) w.heap.size 204 (S.dists.map i64).toArray:=Blk.setCells ax _ (by rw [aJ,aP])
   have aV:Chg [br] w (wr.setCells w.heap.size 0 (S.dists.map i64)):=Chg.setCells (.inr (zQ _)) _ _ _ aw
   have ac:Vec (wr.setCells w.heap.size 0 (S.dists.map i64)) br 203 S.runs:=Blk.chg ag (Chg.setCells (F:=[w.heap.size]) (.inl (by simp)) _ _ _ (zR _ _)) (by simp;omega)
   have HE:(S.dists.map i64).toArray.toList=S.dists.map i64:=rfl
   go_wp2_with (first
    | refine wpList_load_row rfl 204 (.tmp 7) rfl (w.heap.size+1) rfl _ _ _ _ aF Tryz.underlying204 rfl (by rw [aQ];exact aG) ?_
    | refine wpList_store_mid rfl 204 (.tmp 6) (.tmp 54) rfl w.heap.size 0 (S.dists.map i64).toArray rfl rfl (Blk.there ax (by rw [aQ,aJ];exact zQ _)) (by rw [aQ];exact aG) (f3c _) ?_)
   all_goals exact bodyPost_ret (v:=.agg (S.dists.map i64).toArray) (results_cell_row rfl _ _ w.heap.size _ _ (0,0) _ rfl aU Tryz.underlying204 rfl (by rw [aQ];exact aG)) rfl ⟨rfl,ac,aV⟩
  ·have bn:d<=M:=by omega
   have aH:=ah.out
   have aR:d<s.runs.length:=by rw [aH.rl];omega
   have aY:a0d vi wr A l:=hc.keep HA.out aw
   have aW:at_<l.length:=by rw [<-HN.out];exact hat
   have aj:at_-d<l.length:=by omega
   obtain ⟨g,o,rfl,ca⟩:=aY.at_ aW
   obtain ⟨g',o',e',cb⟩:=aY.at_ aj
   injection e' with e'
   injection e' with e1 e2 _
   subst e1
   subst e2
   have ga:l[at_]=l.getD at_ 0:=by rw [zD,zF aW];rfl
   have gb:l[at_-d]=l.getD (at_-d) 0:=by rw [zD,zF aj];rfl
   rw [ga] at ca
   rw [gb] at cb
   have a8:dGo l at_ (j+1) d s=dGo l at_ j (d+1) (b5d l at_ s d):=rfl
   rw [a8] at HG
   have aM:=c6r (l:=l) (at_:=at_) aH (show d<=1024 by omega)
   have aI:a8k l at_ s.runs d=if l.getD at_ 0=l.getD (at_-d) 0 then min (s.runs.getD d 0+1) 64 else 0:=rfl
   have bh:=d7o l at_ s.runs d
   have ap:b5d l at_ s d=⟨s.runs.set d (a8k l at_ s.runs d),a6z (a8k l at_ s.runs d-s.longest) s.dists s.longest d,max s.longest (a8k l at_ s.runs d)⟩:=rfl
   have bw:=aH.l64
   have be:s.runs.getD d 0<=64:=by rw [zD,zF aR];exact aH.r64 _ (zG aR)
   have aA:=ag.cell aR
   have aC:=Blk.frozen ag d
   generalize a8k l at_ s.runs d=r at *
   generalize l.getD at_ 0=xa at *
   generalize l.getD (at_-d) 0=xb at *
   generalize s.runs.getD d 0=ro at *
   have bs:wr.cell? ⟨g,o+at_,none⟩=some (.int .i64 xa):=ca
   have bf:wr.cell? ⟨g,o+(at_-d),none⟩=some (.int .i64 xb):=cb
   have bc:(at_:Int)-(d:Int)=((at_-d:Nat):Int):=by omega
   obtain ⟨ad,aO⟩:=zX (at_-d)
   rw [<-aO] at bf bc aj
   have bk:ad<n:=by rw [HN.out];exact aj
   have t1:decide ((d:Int)<=(M:Int))=true:=zB (by omega)
   have al:=hid ap
   have aX:=hid aI
   have a3:=hid aM
   clear ca cb ga gb a8 aM ap aH aW aR aj aY aI aO
   have a9:Hid (xa≠xb->r=0):=hid fun hq=>by rw [aX.out,if_neg hq]
   have a4:Hid (xa=xb->r=min (ro+1) 64):=hid fun hq=>by rw [aX.out,if_pos hq]
   clear aX
   have aE:(xa=xb/\r=ro+1/\ro<64)\/(xa=xb/\r=64/\ro=64)\/(xa≠xb/\r=0):=by
    by_cases hq:xa=xb
    ·have:=a4.out hq
     omega
    ·exact .inr (.inr ⟨hq,a9.out hq⟩)
   clear a9 a4
   rcases aE with ⟨hq,aD,aS⟩ | ⟨hq,aD,aS⟩ | ⟨hq,aD⟩
   ·have t3:(xa==xb)=true:=by simpa using hq
    have t4:decide ((64:Int)<(ro:Int)+1)=false:=zA (by omega)
    have er:(ro:Int)+1=(r:Int):=by omega
    clear aD hq
    go_upto_region 6 with (fail)
    go_quiet (fail)
    go_upto_region 7 with (fail)
    have ae:=ag.chg ((zR [] wr).drewN nq) (by simp)
    have ab:=ae.cell (i:=d) (by rw [ah.out.rl];omega)
    have aa:=Blk.frozen ae d
    refine a0c 11 (by kernel_rfl) (by kernel_rfl) ?_
    simp only [List.take_succ_cons,List.take_zero,List.drop_succ_cons,List.drop_zero]
    repeat (go_big_quiet_step (fail))
    refine wpQuiet_nil ?_
    intro _ aT
    obtain ⟨ak,rfl⟩:=aT
    go_wp2_with fail
    have ac:=ag.chg ((zR [] wr).drewN (nq+ak)) (by simp)
    have ay:=ac.set_ d r
    have ao:=Blk.far (aF.chg ((zR [] wr).drewN (nq+ak)) (by simp)) (p:=⟨br,d,none⟩) (by simp;omega) (.int .i64 r)
    have am:=Blk.far (ax.chg ((zR [] wr).drewN (nq+ak)) (by simp)) (p:=⟨br,d,none⟩) (by simp;omega) (.int .i64 r)
    have av:=(aw.drewN (nq+ak)).setCell (p:=⟨br,d,none⟩) (.inl (by simp)) (.int .i64 r)
    have an:(s.runs.set d r).length=1025:=by rw [List.length_set];exact ah.out.rl
    have ar:(s.runs.set d r).getD d 0=r:=by rw [zD,List.getElem?_set_self (by rw [ah.out.rl];omega)];rfl
    have aK:=hid an
    have aL:=hid ar
    clear an ar aA aC ab aa ag ae aF ax aw
    go_loopg [8] (r-s.longest) (fun j2 iv wr2=>∃ (m:Nat) (D:List Nat),iv=.int .i64 m/\Hid (a6z (r-s.longest) s.dists s.longest d=a6z j2 D m d)/\m+j2=max s.longest r/\s.longest<=m/\Hid (D.length=65)/\Vec wr2 br 203 (s.runs.set d r)/\Vec wr2 (w.heap.size+1) 204 D/\Vec wr2 w.heap.size 204 (List.replicate 65 0)/\Chg [br] w wr2)
    case atStart=>exact ⟨s.longest,s.dists,rfl,hid rfl,by omega,zQ _,hid ah.out.dl,ay,ao,am,av⟩
    case round =>
     obtain ⟨m,D,rfl,HF,a5,bb,az,ai,af,au,aq⟩:=hrel
     clear ay ao am av
     have yc:=ai.cell (i:=d) (by rw [aK.out];omega)
     rw [aL.out] at yc
     rcases gk with _ | j2
     ·have t5:decide ((m:Int)<(r:Int))=false:=zA (by omega)
      go_wp2_with fail
      go_roundg j
      case measure=>omega
      case rel =>
       have hD:a6z (r-s.longest) s.dists s.longest d=D:=HF.out
       refine ⟨d+1,b5d l at_ s d,by go_num,?_,by omega,by omega,HG,a3,?_,?_,au,aq⟩
       ·rw [al.out];exact congrArg (fun z:Nat=>Value.int .i64 z) (show m=max s.longest r by omega)
       ·rw [al.out];exact ai
       ·rw [al.out];show Vec _ _ _ (a6z (r-s.longest) s.dists s.longest d);rw [hD];exact af
     ·have ba:m<r:=by omega
      have t5:decide ((m:Int)<(r:Int))=true:=zB (by omega)
      have cD:=af.cell (i:=m+1) (by rw [az.out];omega)
      have fD:=Blk.frozen af (m+1)
      go_wp2_with fail
      go_roundg j2
      case measure=>omega
      case rel =>
       refine ⟨m+1,D.set (m+1) d,by go_num,HF,by omega,by omega,hid (by rw [List.length_set];exact az.out),Blk.far ai (by simp;omega) _,af.set_ _ _,Blk.far au (by simp) _,aq.setCell (.inr (by simp)) _⟩
   ·have t3:(xa==xb)=true:=by simpa using hq
    have t4:decide ((64:Int)<(ro:Int)+1)=true:=zB (by omega)
    have bu:(64:Int)<(ro:Int)+1:=by omega
    have a2:=hid aD
    have bp:=hid aS
    clear aD aS hq
    go_upto_region 6 with (fail)
    go_quiet (fail)
    go_upto_region 7 with (fail)
    have ae:=ag.chg ((zR [] wr).drewN nq) (by simp)
    have ab:=ae.cell (i:=d) (by rw [ah.out.rl];omega)
    have aa:=Blk.frozen ae d
    refine a0c 11 (by kernel_rfl) (by kernel_rfl) ?_
    simp only [List.take_succ_cons,List.take_zero,List.drop_succ_cons,List.drop_zero]
    repeat (go_big_quiet_step (fail))
    refine wpQuiet_nil ?_
    intro _ aT
    obtain ⟨ak,rfl⟩:=aT
    go_wp2_with fail
    have ac:=ag.chg ((zR [] wr).drewN (nq+ak)) (by simp)
    have ay:Vec (((wr.drewN (nq+ak))).setCell ⟨br,d,none⟩ (.int .i64 64)) br 203 (s.runs.set d r):=by rw [a2.out];exact ac.set_ d 64
    have ao:=Blk.far (aF.chg ((zR [] wr).drewN (nq+ak)) (by simp)) (p:=⟨br,d,none⟩) (by simp;omega) (.int .i64 64)
    have am:=Blk.far (ax.chg ((zR [] wr).drewN (nq+ak)) (by simp)) (p:=⟨br,d,none⟩) (by simp;omega) (.int .i64 64)
    have av:=(aw.drewN (nq+ak)).setCell (p:=⟨br,d,none⟩) (.inl (by simp)) (.int .i64 64)
    have an:(s.runs.set d r).length=1025:=by rw [List.length_set];exact ah.out.rl
    have ar:(s.runs.set d r).getD d 0=r:=by rw [zD,List.getElem?_set_self (by rw [ah.out.rl];omega)];rfl
    have aK:=hid an
    have aL:=hid ar
    clear an ar aA aC ab aa ag ae aF ax aw
    go_loopg [8] (r-s.longest) (fun j2 iv wr2=>∃ (m:Nat) (D:List Nat),iv=.int .i64 m/\Hid (a6z (r-s.longest) s.dists s.longest d=a6z j2 D m d)/\m+j2=max s.longest r/\s.longest<=m/\Hid (D.length=65)/\Vec wr2 br 203 (s.runs.set d r)/\Vec wr2 (w.heap.size+1) 204 D/\Vec wr2 w.heap.size 204 (List.replicate 65 0)/\Chg [br] w wr2)
    case atStart=>exact ⟨s.longest,s.dists,rfl,hid rfl,by omega,zQ _,hid ah.out.dl,ay,ao,am,av⟩
    case round =>
     obtain ⟨m,D,rfl,HF,a5,bb,az,ai,af,au,aq⟩:=hrel
     clear ay ao am av
     have yc:=ai.cell (i:=d) (by rw [aK.out];omega)
     rw [aL.out] at yc
     rcases gk with _ | j2
     ·have t5:decide ((m:Int)<(r:Int))=false:=zA (by omega)
      go_wp2_with fail
      go_roundg j
      case measure=>omega
      case rel =>
       have hD:a6z (r-s.longest) s.dists s.longest d=D:=HF.out
       refine ⟨d+1,b5d l at_ s d,by go_num,?_,by omega,by omega,HG,a3,?_,?_,au,aq⟩
       ·rw [al.out];exact congrArg (fun z:Nat=>Value.int .i64 z) (show m=max s.longest r by omega)
       ·rw [al.out];exact ai
       ·rw [al.out];show Vec _ _ _ (a6z (r-s.longest) s.dists s.longest d);rw [hD];exact af
     ·have ba:m<r:=by omega
      have t5:decide ((m:Int)<(r:Int))=true:=zB (by omega)
      have cD:=af.cell (i:=m+1) (by rw [az.out];omega)
      have fD:=Blk.frozen af (m+1)
      go_wp2_with fail
      go_roundg j2
      case measure=>omega
      case rel =>
       refine ⟨m+1,D.set (m+1) d,by go_num,HF,by omega,by omega,hid (by rw [List.length_set];exact az.out),Blk.far ai (by simp;omega) _,af.set_ _ _,Blk.far au (by simp) _,aq.setCell (.inr (by simp)) _⟩
   ·have t3:(xa==xb)=false:=by simpa using hq
    have a2:=hid aD
    clear aD hq
    go_upto_region 6 with (fail)
    go_quiet (fail)
    have ab:=(ag.chg ((zR [] wr).drewN nq) (by simp)).cell (i:=d) (by rw [ah.out.rl];omega)
    have aa:=Blk.frozen (ag.chg ((zR [] wr).drewN nq) (by simp)) d
    go_wp2_with fail
    have ac:=ag.chg ((zR [] wr).drewN nq) (by simp)
    have ay:Vec (((wr.drewN nq)).setCell ⟨br,d,none⟩ (.int .i64 0)) br 203 (s.runs.set d r):=by rw [a2.out];exact ac.set_ d 0
    have ao:=Blk.far (aF.chg ((zR [] wr).drewN nq) (by simp)) (p:=⟨br,d,none⟩) (by simp;omega) (.int .i64 0)
    have am:=Blk.far (ax.chg ((zR [] wr).drewN nq) (by simp)) (p:=⟨br,d,none⟩) (by simp;omega) (.int .i64 0)
    have av:=(aw.drewN nq).setCell (p:=⟨br,d,none⟩) (.inl (by simp)) (.int .i64 0)
    have an:(s.runs.set d r).length=1025:=by rw [List.length_set];exact ah.out.rl
    have ar:(s.runs.set d r).getD d 0=r:=by rw [zD,List.getElem?_set_self (by rw [ah.out.rl];omega)];rfl
    have aK:=hid an
    have aL:=hid ar
    clear an ar aA aC ab aa ag aF ax aw
    go_loopg [8] (r-s.longest) (fun j2 iv wr2=>∃ (m:Nat) (D:List Nat),iv=.int .i64 m/\Hid (a6z (r-s.longest) s.dists s.longest d=a6z j2 D m d)/\m+j2=max s.longest r/\s.longest<=m/\Hid (D.length=65)/\Vec wr2 br 203 (s.runs.set d r)/\Vec wr2 (w.heap.size+1) 204 D/\Vec wr2 w.heap.size 204 (List.replicate 65 0)/\Chg [br] w wr2)
    case atStart=>exact ⟨s.longest,s.dists,rfl,hid rfl,by omega,zQ _,hid ah.out.dl,ay,ao,am,av⟩
    case round =>
     obtain ⟨m,D,rfl,HF,a5,bb,az,ai,af,au,aq⟩:=hrel
     clear ay ao am av
     have yc:=ai.cell (i:=d) (by rw [aK.out];omega)
     rw [aL.out] at yc
     rcases gk with _ | j2
     ·have t5:decide ((m:Int)<(r:Int))=false:=zA (by omega)
      go_wp2_with fail
      go_roundg j
      case measure=>omega
      case rel =>
       have hD:a6z (r-s.longest) s.dists s.longest d=D:=HF.out
       refine ⟨d+1,b5d l at_ s d,by go_num,?_,by omega,by omega,HG,a3,?_,?_,au,aq⟩
       ·rw [al.out];exact congrArg (fun z:Nat=>Value.int .i64 z) (show m=max s.longest r by omega)
       ·rw [al.out];exact ai
       ·rw [al.out];show Vec _ _ _ (a6z (r-s.longest) s.dists s.longest d);rw [hD];exact af
     ·have ba:m<r:=by omega
      have t5:decide ((m:Int)<(r:Int))=true:=zB (by omega)
      have cD:=af.cell (i:=m+1) (by rw [az.out];omega)
      have fD:=Blk.frozen af (m+1)
      go_wp2_with fail
      go_roundg j2
      case measure=>omega
      case rel =>
       refine ⟨m+1,D.set (m+1) d,by go_num,HF,by omega,by omega,hid (by rw [List.length_set];exact az.out),Blk.far ai (by simp;omega) _,af.set_ _ _,Blk.far au (by simp) _,aq.setCell (.inr (by simp)) _⟩
theorem c8q:b6m Tryz.prog 164 201 (.agg #[.int .i64 0,.int .i64 0,.int .i64 0]) 3 24:=.mk' Tryz.underlying164 (by kernel_rfl)
def d7z (w:World) (g:Nat) (l:List Tok):Prop:=Blk w g 201 (l.flatMap a2l).toArray
theorem d7z.cell {w:World} {g:Nat} {l:List Tok} (h:d7z w g l) {i:Nat} (hi:i<l.length) :
  w.cell? ⟨g,i*3,none⟩=some (.int .i64 (a4s l i).len)/\w.cell? ⟨g,i*3+1,none⟩=some (.int .i64 (a4s l i).dist)/\w.cell? ⟨g,i*3+2,none⟩=some (.int .i64 (a4s l i).lit):=by
 have hg:l[i]?=some (a4s l i):=by unfold a4s;rw [zD,zF hi];rfl
 obtain ⟨a,b,c⟩:=b8r hg
 refine ⟨?_,?_,?_⟩
 ·rw [Blk.cell h];simpa using a
 ·rw [Blk.cell h];simpa using b
 ·rw [Blk.cell h];simpa using c
theorem e7l (l:List Tok) (i:Nat) (t:Tok):(((l.flatMap a2l).set (i*3) (.int .i64 t.len)).set (i*3+1) (.int .i64 t.dist)).set (i*3+2) (.int .i64 t.lit)=(l.set i t).flatMap a2l:=by
 induction l generalizing i with
 | nil=>simp
 | cons s l ih =>
  cases i with
  | zero=>simp [a2l]
  | succ i =>
   rw [List.set_cons_succ,List.flatMap_cons,List.flatMap_cons,<-ih i]
   have e:a2l s=[.int .i64 s.len,.int .i64 s.dist,.int .i64 s.lit]:=rfl
   rw [e,show (i+1)*3=i*3+1+1+1 by omega,show i*3+1+1+1+1=(i*3+1)+1+1+1 by omega,show i*3+1+1+1+2=(i*3+2)+1+1+1 by omega]
   simp only [List.cons_append,List.nil_append,List.set_cons_succ]
theorem d7z.set_ {w:World} {g:Nat} {l:List Tok} (h:d7z w g l) (i:Nat) (t:Tok) :
  d7z (((w.setCell ⟨g,i*3,none⟩ (.int .i64 t.len)).setCell ⟨g,i*3+1,none⟩ (.int .i64 t.dist)).setCell ⟨g,i*3+2,none⟩ (.int .i64 t.lit)) g (l.set i t):=by
 have h1:=((Blk.set_ h (i*3) (.int .i64 t.len)).set_ (i*3+1) (.int .i64 t.dist)).set_ (i*3+2) (.int .i64 t.lit)
 unfold d7z
 rw [<-e7l]
 simpa using h1
theorem d9o (v:Value) (n:Nat):madeCells #[v,v,v] (n*3)=(List.replicate (n*3) v).toArray:=by
 apply Array.ext
 ·simp [size_madeCells]
 ·intro j h1 h2
  have h3:j%3<3:=Nat.mod_lt _ (by decide)
  have:∀ k,k<3->(#[v,v,v]:Array Value)[k]! = v:=fun k hk=>by
   match k,hk with
   | 0,_=>rfl
   | 1,_=>rfl
   | 2,_=>rfl
  simp only [madeCells,Array.getElem_map,Array.getElem_range,List.getElem_toArray,List.getElem_replicate]
  exact this _ h3
theorem e2l (n:Nat):(List.replicate n (⟨0,0,0⟩:Tok)).flatMap a2l=List.replicate (n*3) (.int .i64 0):=by
 induction n with
 | zero=>rfl
 | succ n ih =>
  rw [List.replicate_succ,List.flatMap_cons,ih,show (n+1)*3=n*3+1+1+1 by omega,List.replicate_succ,List.replicate_succ,List.replicate_succ]
  rfl
theorem e3p (kl kc:IntKind) (n:Nat) (hn:n<=1099511627776) (w:World) :
  (Instr.makeSlice 164 (.int kl (n:Int)) (.int kc (n:Int))).run Tryz.prog w=.ok (.slice (some ⟨w.heap.size,0,none⟩) n n) (w.alloc (.cells ((List.replicate n (⟨0,0,0⟩:Tok)).flatMap a2l).toArray 201)):=by
 obtain ⟨i,hi,hz,aa,ab⟩:=c8q.hi
 have hr:=run_make (P:=Tryz.prog) w 164 201 i _ c8q.ht hi hz kl kc n n (by omega) (Int.le_refl _) (by rw [ab];omega) (by omega)
 rw [hr,aa,e2l]
 simp only [Int.toNat_natCast]
 have e:(Value.agg #[.int .i64 0,.int .i64 0,.int .i64 0]).cells=#[.int .i64 0,.int .i64 0,.int .i64 0]:=rfl
 rw [e,d9o]
theorem f4w (D:List Nat) (hD:D.length=65) (m:Nat) (hm:m<65) (w:World) :
  (Instr.index 204 (.agg (D.map i64).toArray) (.int .i64 m)).run Tryz.prog w=.ok (.int .i64 (D.getD m 0:Nat)) w:=by
 have h5:D[m]?=some (D.getD m 0):=by
  have:m<D.length:=by omega
  simp [zD,zF this]
 generalize D.getD m 0=x at *
 have h6:(0:Int)<=(m:Int)/\(m:Int)<65:=by omega
 simp [Instr.index,run_underlying Tryz.underlying204,asIntOf,go_sem,h6,h5,hm,i64]
structure f3e (w:World) (b:Nat) (s:LSt):Prop where
 vr:Vec w b 203 s.runs
 vc:Vec w (b+1) 3 s.costs
 vf:d7z w (b+1+1) s.first
theorem f3r (w:World) (n:Nat):f3e (((w.alloc (.cells Tryz.zeroCells203 203)).alloc (.cells (List.replicate (n+1) (Value.int .i64 0)).toArray 3)).alloc (.cells ((List.replicate n (⟨0,0,0⟩:Tok)).flatMap a2l).toArray 201)) w.heap.size (c5f n):=by
 refine ⟨Blk.alloc (Blk.alloc ?_ _) _,Blk.alloc ?_ _,?_⟩
 ·have:=Blk.new w 203 Tryz.zeroCells203
  rw [f4r] at this ⊢
  exact this
 ·have:=Blk.new (w.alloc (.cells Tryz.zeroCells203 203)) 3 (List.replicate (n+1) (Value.int .i64 0)).toArray
  rw [show (w.alloc (.cells Tryz.zeroCells203 203)).heap.size=w.heap.size+1 by simp] at this
  have e:((c5f n).costs.map i64).toArray=(List.replicate (n+1) (Value.int .i64 0)).toArray:=by
   show ((List.replicate (n+1) 0).map i64).toArray=_
   rw [List.map_replicate]
   rfl
  rw [<-e] at this ⊢
  exact this
 ·have:=Blk.new ((w.alloc (.cells Tryz.zeroCells203 203)).alloc (.cells (List.replicate (n+1) (Value.int .i64 0)).toArray 3)) 201 ((List.replicate n (⟨0,0,0⟩:Tok)).flatMap a2l).toArray
  rw [show ((w.alloc (.cells Tryz.zeroCells203 203)).alloc (.cells (List.replicate (n+1) (Value.int .i64 0)).toArray 3)).heap.size=w.heap.size+1+1 by simp] at this
  exact this
theorem f3e.same {w w':World} {b:Nat} {s:LSt} (h:f3e w b s) (hc:Chg [] w w'):f3e w' b s:=⟨h.vr.chg hc (by simp),h.vc.chg hc (by simp),Blk.chg h.vf hc (by simp)⟩
theorem e8l (l:List Int) (A:Option Addr) (cap lit cp:Nat) (w:World) (hll:l.length<=4096) (hc:a0d vi w A l) (h0:1<=lit) (h1:lit<=1048576) (h2:1<=cp) (h3:cp<=1048576) :
  Calls Tryz.prog 118 #[.slice A l.length cap,.int .i64 lit,.int .i64 cp] w fun e w' =>
   ∃ (A':Option Addr) (cap':Nat),e=.returned (.slice A' (a5z l lit cp).length cap')/\d8b w' A' (a5z l lit cp)/\Chg [] w w'/\∀ ad,A'=some ad->w.heap.size<=ad.block:=by
 have aj:=b7c l lit cp
 have aP:a5z l lit cp=a9e (b4e l lit cp).first l.length l.length 0:=rfl
 have ar:b4e l lit cp=lGo l lit cp l.length (c5f l.length):=rfl
 have aT:=b2v l lit cp
 have au:=c1h l.length lit
 have ac:=fun k s (a:LSt.Ok l.length lit (k+1) s) (b:k<l.length)=>c7c (l:=l) (cp:=cp) a b
 have ap:=fun k s (a:LSt.Ok l.length lit (k+1) s) (b:k<l.length)=>e3a (l:=l) a b
 have ae:=fun at_ br rs w (a:at_<l.length) (b:a0d vi w A l) c d e=>e8q l A cap at_ br rs w a hll b c d e
 obtain ⟨T,hT⟩:=zX (a5z l lit cp)
 rw [<-hT] at aP aj ⊢
 obtain ⟨S,hS⟩:=zX (b4e l lit cp)
 rw [<-hS] at aP ar aT
 obtain ⟨n,hn⟩:=zX (l.length)
 rw [<-hn] at aP ar aT au ac ap ae hll aj ⊢
 have t1:decide ((lit:Int)<1)=false:=zA (by omega)
 have t2:decide ((1048576:Int)<(lit:Int))=false:=zA (by omega)
 have t3:decide ((cp:Int)<1)=false:=zA (by omega)
 have t4:decide ((1048576:Int)<(cp:Int))=false:=zA (by omega)
 have aM:=a1p (P:=Tryz.prog) a0p rfl .i64 .i64 (n+1) (by omega) (by omega)
 have e1:((n+1:Nat):Int)=(n:Int)+1:=by omega
 rw [e1] at aM
 have bd:=e3p .i64 .i64 n (by omega)
 have HT:=hid aP
 have HS:=hid ar
 have bn:=hid aT
 have a7:=hid au
 have bW:=hid ac
 have bS:=hid ap
 have bQ:=hid ae
 have HN:=hid hn
 have bN:=hid aj
 clear aP ar aT au ac ap ae hn aj hT hS
 go_enter Tryz.func118,Tryz.ntmps118
 go_wp2_with fail
 have aa:=f3r w n
 have ab:Chg [] w (((w.alloc (.cells Tryz.zeroCells203 203)).alloc (.cells (List.replicate (n+1) (Value.int .i64 0)).toArray 3)).alloc (.cells ((List.replicate n (⟨0,0,0⟩:Tok)).flatMap a2l).toArray 201)):=(((zR [] w).alloc _).alloc _).alloc _
 have eR:(List.replicate (n+1) (Value.int .i64 0)).toArray=Array.replicate (n+1) (Value.int .i64 0):=by simp
 rw [eR] at aa ab
 clear aM bd eR
 go_loopg [10] n (fun k iv wr=>∃ (s:LSt) (a:Int),iv=.int .i64 a/\a=(k:Int)-1/\k<=n/\Hid (S=lGo l lit cp k s)/\Hid (s.Ok n lit k)/\f3e wr w.heap.size s/\Chg [] w wr)
 case atStart=>exact ⟨c5f n,_,rfl,rfl,zQ _,HS,a7,aa,ab⟩
 case round =>
  obtain ⟨s,a,rfl,ha,cg,HG,aQ,aa,ab⟩:=hrel
  rcases gk with _ | k
  ·have bZ:a<0:=by omega
   clear ha
   have tn:decide ((0:Int)<=a)=false:=zA (by omega)
   have bM:S=s:=HG.out
   subst bM
   have bx:S.first.length=n:=bn.out.pair.fl
   have bm:∀ t∈S.first,t.ok:=bn.out.pair.fo
   have be:=hid bx
   have bJ:=hid bm
   have ax:=aa.vf
   clear bx bm aa hc
   go_wp2_with fail
   go_loopg [14,15] n (fun j v iv wr=>∃ (i:Nat) (done:List Tok) (F:List Nat),iv=.int .i64 i/\Hid (T=done++a9e S.first n j i)/\n<=i+j/\i<=n+64/\b7t wr 201 3 v F done.length (done.flatMap a2l)/\(∀ x∈F,w.heap.size+1+1<x)/\d7z wr (w.heap.size+1+1) S.first/\Chg [] w wr)
   case atStart=>exact ⟨0,[],[],rfl,HT,by omega,by omega,b7t.nil _ _ _,by simp,ax,ab⟩
   case round =>
    clear ax ab
    obtain ⟨i,done,F,rfl,ay,cm,cc,ag,hF,ax,ab⟩:=hrel
    obtain ⟨A',cap',rfl,_,_,bT,b3⟩:=ag.open_
    by_cases hin:i<n
    ·have t5:decide ((i:Int)<(n:Int))=true:=zB (by omega)
     rcases gk with _ | j
     ·omega
     obtain ⟨c1,c2,c3⟩:=ax.cell (i:=i) (by rw [be.out];exact hin)
     have aU:a9e S.first n (j+1) i=a4s S.first i::a9e S.first n j (i+max (a4s S.first i).len 1):=by rw [a9e,if_pos hin]
     rw [aU] at ay
     clear aU
     have bC:done.length+1<=4096:=by
      have h6:=bN.out
      rw [ay.out,zC,zK] at h6
      omega
     have bk:(a4s S.first i).ok:=by
      unfold a4s
      have bp:i<S.first.length:=by rw [be.out];exact hin
      rw [zD,zF bp]
      exact bJ.out _ (zG bp)
     have ch:(a4s S.first i).len<=64:=by
      rcases bk with h | h
      ·have:=(Tok.isLit_iff.1 h).1;omega
      ·exact (Tok.isCopy_iff.1 h).2.1
     have bB:(done++[a4s S.first i]).flatMap a2l=done.flatMap a2l++a2l (a4s S.first i):=by simp
     have bG:=hid bB
     have bz:a2l (a4s S.first i)=[.int .i64 (a4s S.first i).len,.int .i64 (a4s S.first i).dist,.int .i64 (a4s S.first i).lit]:=rfl
     obtain ⟨dn,aC⟩:=zX (done.length)
     have aB:=hid aC
     have bU:max (a4s S.first i).len 1=(a4s S.first i).len/\1<=(a4s S.first i).len\/max (a4s S.first i).len 1=1/\(a4s S.first i).len<1:=by omega
     generalize ht:a4s S.first i=t at *
     rw [<-aC] at ag bC ⊢
     generalize hta:t.len=ta at *
     generalize htb:t.dist=tb at *
     generalize htd:t.lit=td at *
     have bi:=hid bz
     have bR:=hid (And.intro ht hta)
     have aW:=hid hF
     have ai:=Blk.new wr 201 #[.int .i64 ta,.int .i64 tb,.int .i64 td]
     have am:=ag.same ((zR [] wr).alloc (.cells #[.int .i64 ta,.int .i64 tb,.int .i64 td] 201))
     clear bz bk bB ht aC hta htb htd hF ag
     go_wp2_with (at_builtin;refine b0z rfl rfl c8q rfl (by decide) rfl am [.int .i64 ta,.int .i64 tb,.int .i64 td] rfl rfl ?c1 ?c2 ?c3 ?c4 ?_)
     case c1 =>
      intro q u hq
      match q,hq with
      | 0,hq=>rw [<-hq];exact ai.cell 0
      | 1,hq=>rw [<-hq];exact ai.cell 1
      | 2,hq=>rw [<-hq];exact ai.cell 2
      | q+3,hq=>simp at hq
     case c2=>intro u hu;simp at hu;rcases hu with rfl | rfl | rfl<;>rfl
     case c3=>omega
     case c4=>omega
     intro g' bY w3 ao af
     have az:d7z w3 (w.heap.size+1+1) S.first:=Blk.chg (Blk.alloc ax _) af.chg (fun hm=>by have:=aW.out _ hm;omega)
     have aE:Chg [] w w3:=(ab.alloc _).trans af.chg (fun x hx => .inr (by have:=aW.out _ hx;omega))
     have bf:∀ x∈[g'],w.heap.size+1+1<x:=fun x hx=>by
      rcases af.new x hx with h | h
      ·exact aW.out _ h
      ·have h7:=Blk.lt ax
       have h8:(wr.alloc (.cells #[.int .i64 ta,.int .i64 tb,.int .i64 td] 201)).heap.size=wr.heap.size+1:=by simp
       omega
     obtain ⟨d1,d2,d3⟩:=az.cell (i:=i) (by rw [be.out];exact hin)
     have HD:=hid bC
     obtain ⟨bE,aF⟩:a4s S.first i=t/\t.len=ta:=bR.out
     rw [bE,aF] at d1
     clear d2 d3 ax ab ai am af c1 c2 c3 bE aF
     have bF:=hid bf
     have bs:=hid az
     have bv:=hid aE
     have bI:=hid ao
     clear bf az aE ao
     rcases bU with ⟨a5,bX⟩ | ⟨a5,bX⟩
     ·rw [a5] at ay
      have tm:decide ((ta:Int)<1)=false:=zA (by omega)
      have b6:(1:Int)<=(ta:Int):=by omega
      go_wp2_with fail
      go_roundg j
      case measure=>omega
      case rel =>
       refine ⟨i+ta,done++[t],[g'],by go_num,hid (by rw [ay.out,zH];rfl),by omega,by omega,?_,bF.out,bs.out,bv.out⟩
       have h9:=bI.out
       rw [aB.out,show done.length+1=(done++[t]).length by simp] at h9
       rw [bG.out,bi.out,aB.out,show done.length+1=(done++[t]).length by simp]
       exact h9
     ·rw [a5] at ay
      have tm:decide ((ta:Int)<1)=true:=zB (by omega)
      have b6:(ta:Int)<1:=by omega
      go_wp2_with fail
      go_roundg j
      case measure=>omega
      case rel =>
       refine ⟨i+1,done++[t],[g'],by go_num,hid (by rw [ay.out,zH];rfl),by omega,by omega,?_,bF.out,bs.out,bv.out⟩
       have h9:=bI.out
       rw [aB.out,show done.length+1=(done++[t]).length by simp] at h9
       rw [bG.out,bi.out,aB.out,show done.length+1=(done++[t]).length by simp]
       exact h9
    ·have t5:decide ((i:Int)<(n:Int))=false:=zA (by omega)
     have aU:a9e S.first n gk i=[]:=by
      cases gk with
      | zero=>rfl
      | succ f=>rw [a9e,if_neg hin]
     go_wp2_with fail
     go_ret
     have hT:T=done:=by rw [ay.out,aU,List.append_nil]
     rw [hT]
     refine ⟨A',cap',rfl,bT,ab,fun ad e => ?_⟩
     obtain ⟨g,rfl,b5,_⟩:=b3 ad e
     have:=hF g (by rw [b5];simp)
     show w.heap.size<=g
     omega
  ·obtain rfl:a=(k:Int):=by omega
   clear ha
   have hk:k<n:=by omega
   have aA:=aQ.out
   have bq:=hc.same ab
   have aZ:k<l.length:=by rw [<-HN.out];exact hk
   obtain ⟨g,o,rfl,cd,_⟩:=hc.ex (by omega)
   obtain ⟨g',o',e',cl⟩:=bq.at_ aZ
   injection e' with e'
   injection e' with e2 e3 _
   subst e2
   subst e3
   have n1:¬ g=w.heap.size+1:=by omega
   have n2:¬ g=w.heap.size+1+1:=by omega
   have n3:¬ w.heap.size+1=g:=by omega
   have n4:¬ w.heap.size+1+1=g:=by omega
   have gl:l[k]=l.getD k 0:=by rw [zD,zF aZ];rfl
   rw [gl] at cl
   have b0:wr.cell? ⟨g,o+k,none⟩=some (.int .i64 (l.getD k 0)):=cl
   have bu:lGo l lit cp (k+1) s=lGo l lit cp k (d0w l lit cp k s):=rfl
   rw [bu] at HG
   have bl:=bS.out k s aA hk
   have c1:=aa.vc.cell (i:=k+1) (by rw [aA.pair.cl];omega)
   have cf:s.costs.getD (k+1) 0<=4294967296:=by
    have h4:=b6x aA.pair.cb (k+1)
    have h5:(n-(k+1))*lit<=4096*1048576:=zL (by omega) h1
    simp only at h4
    omega
   have f1:=Blk.frozen aa.vc k
   have f2:=Blk.frozen aa.vf (k*3)
   have f3:=Blk.frozen aa.vf (k*3+1)
   have f4:=Blk.frozen aa.vf (k*3+2)
   obtain ⟨c2,c3,c4⟩:=aa.vf.cell (i:=k) (by rw [aA.pair.fl];exact hk)
   have c0:=aa.vc.cell (i:=k) (by rw [aA.pair.cl];omega)
   have bh:d6m l lit k s=(s.costs.set k (s.costs.getD (k+1) 0+lit),s.first.set k ⟨0,0,l.getD k 0⟩):=rfl
   have aK:Vec (wr.setCell ⟨w.heap.size+1,k,none⟩ (.int .i64 ((s.costs.getD (k+1) 0+lit:Nat):Int))) (w.heap.size+1) 3 (s.costs.set k (s.costs.getD (k+1) 0+lit)):=aa.vc.set_ k _
   generalize aG:s.costs.getD (k+1) 0=sc at *
   generalize hlk:l.getD k 0=lk at *
   have ca:=hid aG
   have ci:=hid hlk
   have bL:=hid bl
   have bK:=hid bh
   have bP:=hid aK
   have bH:=hid aa
   clear cl gl bu bq aZ aA aG hlk bl bh aK aa
   go_wp2_with fail
   have hx:f3e ((((wr.setCell ⟨w.heap.size+1,k,none⟩ (.int .i64 ((sc:Int)+(lit:Int)))).setCell ⟨w.heap.size+1+1,k*3,none⟩ (.int .i64 0)).setCell ⟨w.heap.size+1+1,k*3+1,none⟩ (.int .i64 0)).setCell ⟨w.heap.size+1+1,k*3+2,none⟩ (.int .i64 lk)) w.heap.size ⟨(d6m l lit k s).1,(d6m l lit k s).2,s.runs⟩:=by
    have bw:=bP.out
    rw [Int.natCast_add] at bw
    rw [bK.out]
    exact ⟨Blk.far (Blk.far (Blk.far (Blk.far bH.out.vr (by simp) _) (by first | (simp;done) | (simp;omega)) _) (by first | (simp;done) | (simp;omega)) _) (by first | (simp;done) | (simp;omega)) _,
     Blk.far (Blk.far (Blk.far bw (by simp) _) (by simp) _) (by simp) _,
     d7z.set_ (Blk.far bH.out.vf (by simp) _) k ⟨0,0,lk⟩⟩
   have a9:Chg [] w ((((wr.setCell ⟨w.heap.size+1,k,none⟩ (.int .i64 ((sc:Int)+(lit:Int)))).setCell ⟨w.heap.size+1+1,k*3,none⟩ (.int .i64 0)).setCell ⟨w.heap.size+1+1,k*3+1,none⟩ (.int .i64 0)).setCell ⟨w.heap.size+1+1,k*3+2,none⟩ (.int .i64 lk)):=(((ab.setCell (.inr (by first | (simp;done) | (simp;omega))) _).setCell (.inr (by first | (simp;done) | (simp;omega))) _).setCell (.inr (by first | (simp;done) | (simp;omega))) _).setCell (.inr (by first | (simp;done) | (simp;omega))) _
   have a8:b7u s.runs:=⟨aQ.out.rl,fun x hx=>(aQ.out.rb x hx).1⟩
   refine (bQ.out k w.heap.size s.runs _ hk (hc.same a9) hx.vr a8 (fun _ ad e hm=>by injection e with e;subst e;simp at hm;omega)).mono ?_
   rintro e w2 ⟨rfl,aw,aV⟩
   have aD:=hx.vc.chg aV (by simp)
   have aN:d7z w2 (w.heap.size+1+1) (d6m l lit k s).2:=Blk.chg hx.vf aV (by simp;omega)
   have aI:Chg [] w w2:=a9.trans aV (fun x hx=>by simp at hx;omega)
   have ba:=c6t (l:=l) (at_:=k) a8
   have aY:=c6s (l:=l) (at_:=k) (rs:=s.runs) (B:=n-(k+1)) (fun x hx=>(aQ.out.rb x hx).2)
   have ar:d0w l lit cp k s=⟨(b7b cp k (b5f l k s.runs).dists 65 0 (d6m l lit k s)).1,(b7b cp k (b5f l k s.runs).dists 65 0 (d6m l lit k s)).2,(b5f l k s.runs).runs⟩:=rfl
   have bA:=bW.out k s aQ.out hk
   generalize (b5f l k s.runs)=DS at *
   obtain ⟨R,D,Lg⟩:=DS
   have aS:D.length=65:=ba.dl
   have bD:∀ x∈D,x<=1024:=ba.d1024
   have bo:∀ m,D.getD m 0≠0->k+m<=n:=fun m hm=>by
    have h5:=aY.db m hm
    have h6:=aY.lb
    simp only at h5 h6
    omega
   simp only at aw
   have bb:=hid ar
   have bO:=hid bA
   have a0:=hid aS
   have bj:=hid bD
   have aB:=hid bo
   clear ar bA aS bD bo ba aY hx a9 a8 aV f1 f2 f3 f4 c0 c1 c2 c3 c4 b0 ab
   go_wp2_with fail
   go_loopg [65] 65 (fun j iv wr=>∃ (m:Nat) (p:List Nat × List Tok),iv=.int .i64 m/\m+j=65/\Hid (b7b cp k D 65 0 (d6m l lit k s)=b7b cp k D j m p)/\Hid (b9s n ((n-k)*lit) p)/\Vec wr w.heap.size 203 R/\Vec wr (w.heap.size+1) 3 p.1/\d7z wr (w.heap.size+1+1) p.2/\Chg [] w wr)
   case atStart=>exact ⟨0,d6m l lit k s,rfl,rfl,hid rfl,bL,aw,aD,aN,aI⟩
   case round =>
    obtain ⟨m,p,rfl,ce,HP,an,aX,av,aq,aL⟩:=hrel
    clear aw aD aN aI
    rcases gk with _ | j
    ·obtain rfl:m=65:=by omega
     have hP:b7b cp k D 65 0 (d6m l lit k s)=p:=HP.out
     go_wp2_with fail
     go_roundg k
     case measure=>omega
     case rel =>
      refine ⟨d0w l lit cp k s,_,rfl,by omega,by omega,HG,bO,?_,aL⟩
      rw [bb.out,hP]
      exact ⟨aX,av,aq⟩
    ·have a6:m<65:=by omega
     have ty:decide ((m:Int)<65)=true:=zB (by omega)
     have cj:=f4w D a0.out m a6
     have b7:=b6x bj.out m
     have aC:=aB.out m
     have aO:b7b cp k D (j+1) m p=b7b cp k D j (m+1) (d9f cp k D m p):=rfl
     have ak:d9f cp k D m p=if m<3\/D.getD m 0=0 then p else if p.1.getD (k+m) 0+cp<=p.1.getD k 0 then (p.1.set k (p.1.getD (k+m) 0+cp),p.2.set k ⟨m,D.getD m 0,0⟩) else p:=rfl
     have aJ:=e3c (cp:=cp) (at_:=k) (m:=m) an.out (by omega) bj.out
     rw [aO] at HP
     have bg:k+m<=n->(p.1.getD (k+m) 0<=4294967296/\wr.cell? ⟨w.heap.size+1,k+m,none⟩=some (.int .i64 ((p.1.getD (k+m) 0:Nat):Int))):=fun h=>⟨by
      have h4:=b6x an.out.cb (k+m)
      have h5:(n-k)*lit<=4096*1048576:=zL (by omega) h1
      omega,av.cell (by rw [an.out.cl];omega)⟩
     have c0:=av.cell (i:=k) (by rw [an.out.cl];omega)
     have f1:=Blk.frozen av k
     have f2:=Blk.frozen aq (k*3)
     have f3:=Blk.frozen aq (k*3+1)
     have f4:=Blk.frozen aq (k*3+2)
     obtain ⟨c2,c3,c4⟩:=aq.cell (i:=k) (by rw [an.out.fl];exact hk)
     have al:=fun v=>av.set_ k v
     generalize hx1:p.1.getD (k+m) 0=ckm at *
     generalize hx2:p.1.getD k 0=ck at *
     generalize hx3:D.getD m 0=dm at *
     have HX:=hid (And.intro hx1 (And.intro hx2 hx3))
     have bc:=hid al
     have a4:=hid aJ
     have ah:=hid ak
     have bV:=hid bg
     have HV:=hid (And.intro aX (And.intro av aq))
     have aH:=hid aC
     clear hx1 hx2 hx3 al aO aJ ak bg aX av aq aC
     by_cases q1:m<3
     ·have s1:decide ((m:Int)<3)=true:=zB (by omega)
      go_wp2_with fail
      go_roundg j
      case measure=>omega
      case rel =>
       have e:d9f cp k D m p=p:=by rw [ah.out,if_pos (.inl q1)]
       rw [e] at HP
       obtain ⟨a1,a2,a3⟩:=HV.out
       exact ⟨m+1,p,by go_num,by omega,HP,an,a1,a2,a3,aL⟩
     ·have s1:decide ((m:Int)<3)=false:=zA (by omega)
      by_cases q2:dm=0
      ·have s2:((dm:Int)==0)=true:=by simp [q2]
       have b4:=hid q2
       clear q2
       go_wp2_with fail
       go_roundg j
       case measure=>omega
       case rel =>
        have e:d9f cp k D m p=p:=by rw [ah.out,if_pos (.inr b4.out)]
        rw [e] at HP
        obtain ⟨a1,a2,a3⟩:=HV.out
        exact ⟨m+1,p,by go_num,by omega,HP,an,a1,a2,a3,aL⟩
      ·have s2:((dm:Int)==0)=false:=by simpa using q2
       obtain ⟨b1,b2⟩:=bV.out (aH.out q2)
       have b9:k+m<=n:=aH.out q2
       by_cases q3:ckm+cp<=ck
       ·have s3:decide ((ckm:Int)+(cp:Int)<=(ck:Int))=true:=zB (by omega)
        go_wp2_with fail
        go_roundg j
        case measure=>omega
        case rel =>
         have e:d9f cp k D m p=(p.1.set k (ckm+cp),p.2.set k ⟨m,dm,0⟩):=by rw [ah.out,if_neg (by omega),if_pos q3]
         have aR:=a4.out
         rw [e] at HP aR
         obtain ⟨a1,a2,a3⟩:=HV.out
         have aG:=bc.out (ckm+cp)
         rw [Int.natCast_add] at aG
         refine ⟨m+1,_,by go_num,by omega,HP,hid aR,?_,?_,?_,?_⟩
         ·exact Blk.far (Blk.far (Blk.far (Blk.far a1 (by first | (simp;done) | (simp;omega)) _) (by first | (simp;done) | (simp;omega)) _) (by first | (simp;done) | (simp;omega)) _) (by first | (simp;done) | (simp;omega)) _
         ·exact Blk.far (Blk.far (Blk.far aG (by simp) _) (by simp) _) (by simp) _
         ·exact d7z.set_ (Blk.far a3 (by simp) _) k ⟨m,dm,0⟩
         ·exact (((aL.setCell (.inr (by first | (simp;done) | (simp;omega))) _).setCell (.inr (by first | (simp;done) | (simp;omega))) _).setCell (.inr (by first | (simp;done) | (simp;omega))) _).setCell (.inr (by first | (simp;done) | (simp;omega))) _
       ·have s3:decide ((ckm:Int)+(cp:Int)<=(ck:Int))=false:=zA (by omega)
        go_wp2_with fail
        go_roundg j
        case measure=>omega
        case rel =>
         have e:d9f cp k D m p=p:=by rw [ah.out,if_neg (by omega),if_neg q3]
         rw [e] at HP
         obtain ⟨a1,a2,a3⟩:=HV.out
         exact ⟨m+1,p,by go_num,by omega,HP,an,a1,a2,a3,aL⟩
theorem a0d.one {α:Type} {f:α->Value} {w:World} {A:Option Addr} {l:List α} (h:a0d f w A l) {m:Nat} {x:α} (hm:l[m]?=some x) :
  ∃ g o,A=some ⟨g,o,none⟩/\a0d f w (some ⟨g,o+m,none⟩) [x]:=by
 have hl:=(List.getElem?_eq_some_iff.1 hm).1
 obtain ⟨g,o,e,hg,hc⟩:=h.ex (by omega)
 refine ⟨g,o,e,⟨fun _=>⟨g,o+m,rfl,hg,fun i a ha => ?_⟩⟩⟩
 match i,ha with
 | 0,ha=>simp at ha;subst ha;exact hc m _ hm
 | i+1,ha=>simp at ha
theorem e8v (w:World) (b:Nat) (F bs:List Nat) (T:List Tok) (A:Option Addr) (cap W d:Nat) (h:a2n w b F bs) (hp:Pts w) (h0F:0∉F) (hw0:1<=W) (hw1:W<=64) (h0:1<=d) (h1:d<=16) (hT:T.length<=4096) (hok:∀ t∈T,c3j d t)
  (hc:d8b w A T) (hA:∀ ad,A=some ad->ad.block∉F) (hbs:bs.length<137438953472) :
  Calls Tryz.prog 117 #[.pointer (some ⟨b,0,none⟩),.slice A T.length cap,.int .i64 W,.int .i64 d] w fun e w'=>e=.returned (.int .i64 0)/\∃ F',a2n w' b F' (bs++a3h T W d)/\a0u F F' w w':=by
 have aV:=fun w h=>f3t T A cap w (by omega) (fun t ht=>(hok t ht).ok) h
 have aR:a3h T W d=a0b (a6u (a0h T)) 5++a0b (a6u (a0l W T)) 5++T.flatMap (a2v (a6u (a0h T)) (a6u (a0l W T)) W d):=rfl
 have ci:=c6n hok
 have ck:=c3o (W:=W) hok
 obtain ⟨cZ,c0⟩:=a9c h0 h1
 obtain ⟨n,hn⟩:=zX (T.length)
 rw [<-hn] at aV hT ⊢
 have t1:decide ((W:Int)<1)=false:=zA (by omega)
 have t2:decide ((64:Int)<(W:Int))=false:=zA (by omega)
 have t3:decide ((d:Int)<1)=false:=zA (by omega)
 have t4:decide ((16:Int)<(d:Int))=false:=zA (by omega)
 have cD:=hid aR
 have cJ:=hid ci
 have cI:=hid ck
 have HN:=hid hn
 have cf:=hid hok
 have HA:=hid hA
 have ce:Hid (∀ x∈F,x<w.heap.size):=hid h.lt
 clear aR ci ck hn hok hA
 go_enter Tryz.func117,Tryz.ntmps117
 go_wp2_with fail
 refine (aV _ hc).mono ?_
 rintro e w1 ⟨rfl,af⟩
 go_wp2_with fail
 go_loopg [9,10,39] n (fun j v9 v10 iv wr=>∃ (i:Nat) (F9 F10:List Nat),iv=.int .i64 i/\i+j=n/\Own wr 3 v9 F9 ((a0h (T.take i)).map vi)/\Own wr 3 v10 F10 ((a0l W (T.take i)).map vi) /\
   (∀ x∈F9,w.heap.size<=x/\x∉F10)/\(∀ x∈F10,w.heap.size<=x)/\Chg [] w wr)
 case atStart=>exact ⟨0,[],[],rfl,by omega,Own.nil _ _,Own.nil _ _,by simp,by simp,af⟩
 case round =>
  clear af aV
  obtain ⟨i,F9,F10,rfl,c9,aE,ah,bb,aC,aM⟩:=hrel
  rcases gk with _ | j
  ·obtain rfl:i=n:=by omega
   have cg:T.take i=T:=by rw [HN.out,zN]
   rw [cg] at aE ah
   have a3:=b8a T
   rw [<-HN.out] at a3
   have aK:=b0i W T
   obtain ⟨A9,bP,rfl,bV,cz,bM⟩:=aE.oq
   obtain ⟨bX,aO,rfl,bd,b7,aX⟩:=ah.oq
   have bk:Apt A9 (a0h T) F:=aE.apt (fun x hx hm=>by have:=ce.out x hm;have:=(bb x hx).1;omega)
   have aL:Apt bX (a0l W T) F:=ah.apt (fun x hx hm=>by have:=ce.out x hm;have:=aC x hx;omega)
   have bA:=c8b (a0h T) A9 bP wr cJ.out bM (by omega)
   have aH:=c8b (a0l W T) bX aO wr cI.out aX (by omega)
   have hk:=a8p (a0h T)
   have bG:=a8p (a0l W T)
   obtain ⟨kk,cs⟩:=zX (a6u (a0h T))
   obtain ⟨jk,cy⟩:=zX (a6u (a0l W T))
   have aR:=cD.out
   rw [<-cs] at bA hk aR
   rw [<-cy] at aH bG aR
   obtain ⟨n9,bD⟩:=zX ((a0h T).length)
   rw [<-bD] at aK bV bA a3 ⊢
   rw [aK] at aH bd ⊢
   have aG:=h.same aM
   have bf:d8b wr A T:=hc.same aM
   have bK:=hid aR
   have cT:=hid aK
   have ct:=hid bD
   clear aR aK bD cs cy cg aE ah bb aC h hp hc
   go_wp2_with fail
   refine bA.mono ?_
   rintro e w' ⟨rfl,rfl⟩
   go_wp2_with fail
   refine aH.mono ?_
   rintro e w' ⟨rfl,rfl⟩
   go_wp2_with fail
   refine (a0t _ b F bs kk 5 aG (by omega) (by omega) (by omega)).mono ?_
   rintro e w2 ⟨rfl,F2,bg,bc⟩
   go_wp2_with fail
   refine (a0t _ b F2 _ jk 5 bg (by omega) (by omega) (by rw [zC,a0a];omega)).mono ?_
   rintro e w3 ⟨rfl,F3,ba,be⟩
   have an:=bc.trans be
   clear bA aH aG bg bc be
   have a6:∀ x:Int,0<=x->x<2^d->x.toNat<2^d:=fun x a b=>by
    have e:((x.toNat:Nat):Int)=x:=Int.toNat_of_nonneg a
    have e2:((2^d:Nat):Int)=(2:Int)^d:=by simp
    omega
   have cR:=hid a6
   clear a6
   go_wp2_with fail
   go_loopg [15,88] i (fun j cv iv wr2=>∃ (q:Nat) (F' aZ:List Nat),cv=.int .i64 ((a0h (T.take q)).length:Nat)/\iv=.int .i64 q/\q+j=i/\a2n wr2 b F' aZ/\Hid (aZ=bs++a0b kk 5++a0b jk 5++(T.take q).flatMap (a2v kk jk W d))/\aZ.length<=bs.length+10+131*q/\a0u F F' wr wr2)
   case atStart=>exact ⟨0,F3,_,rfl,rfl,by omega,ba,hid (by simp),by rw [zC,zC,a0a,a0a];omega,an⟩
   case round =>
    clear ba an
    obtain ⟨q,F',aZ,rfl,rfl,cV,aG,Hb,c8,an⟩:=hrel
    rcases gk with _ | j
    ·obtain rfl:q=i:=by omega
     go_wp2_with fail
     go_ret
     refine ⟨rfl,F',?_,a0u.pre aM an⟩
     have e:T.take q=T:=by rw [HN.out,zN]
     have h5:=Hb.out
     rw [e,zH,zH] at h5
     rw [bK.out,zH,<-h5]
     exact aG
    ·have bI:q<i:=by omega
     have aS:q<T.length:=by rw [<-HN.out];exact bI
     have bi:=cf.out T[q] (zG aS)
     obtain ⟨t,ht⟩:=zX (T[q])
     have ai:T[q]?=some t:=by rw [ht];exact zF aS
     rw [<-ht] at bi
     have a0:d8b _ A T:=a0d.keep bf (fun _ ad e=>HA.out ad e) an.chg
     have aP:=bM.keep bk an.chg
     have aA:=aX.keep aL an.chg
     have ar:=bk.grow bM an
     have al:=aL.grow aX an
     obtain ⟨g,o,rfl,c1,c2,c3⟩:=a0.at_ ai
     have ab:T.take (q+1)=T.take q++[t]:=by rw [ht];exact a0o T aS
     have ao:=b5b (T.take q) t
     rw [<-ab] at ao
     have bB:(T.take (q+1)).flatMap (a2v kk jk W d)=(T.take q).flatMap (a2v kk jk W d)++a2v kk jk W d t:=by rw [ab];simp
     have aa:=fun w=>b9j t w
     have aW:e1a t=.agg #[.int .i64 t.len,.int .i64 t.dist,.int .i64 t.lit]:=rfl
     rw [aW] at aa
     rcases bi with ⟨ak,az,bF⟩ | ⟨ak,az⟩
     ·have ag:a0h (T.take (q+1))=a0h (T.take q):=by rw [ao,ak];simp
      have a2:a2v kk jk W d t=a0b 0 1++a0b t.lit.toNat d:=by unfold a2v;rw [if_pos ak]
      have bz:=cR.out t.lit az bF
      rw [ak] at aa
      have bU:t.lit=((t.lit.toNat:Nat):Int):=(Int.toNat_of_nonneg az).symm
      obtain ⟨ln,cw⟩:=zX (t.lit.toNat)
      rw [<-cw] at a2 bz bU
      rw [bU] at aa c3
      have cH:ln<65536:=Nat.lt_of_lt_of_le bz (by have:=Nat.pow_le_pow_right (n:=2) (by decide) h1;exact this)
      have hb:=Blk.new wr 201 #[.int .i64 t.len,.int .i64 t.dist,.int .i64 ln]
      have af:=(zR [] wr).alloc (.cells #[.int .i64 t.len,.int .i64 t.dist,.int .i64 ln] 201)
      have aU:=hid (And.intro ag (And.intro a2 bB))
      clear ao ag a2 bB ab bU cw aW ai ht ak az bF a0 aP aA ar al
      generalize t.len=ta at *
      generalize t.dist=tb at *
      have cC:=hid bz
      clear bz
      have bv:wr.heap.size∉F':=fun hm=>by have:=aG.lt _ hm;omega
      go_wp2_with fail
      refine (aa _).mono ?_
      rintro e w4 ⟨rfl,ae⟩
      have b5:=hb.chg ae (by simp)
      have au:=aG.same (af.tq ae)
      have aQ:=an.same (af.tq ae)
      clear hb aG an aa af ae c1 c2 c3
      go_wp2_with fail
      refine (a0t _ b F' aZ 0 1 au (by omega) (by omega) (by omega)).mono ?_
      rintro e w5 ⟨rfl,F5,av,aj⟩
      have cp:=b5.chg aj.chg bv
      have b2:=cp.cell 2
      simp only [List.size_toArray,zK,List.length_nil,List.getElem?_toArray,List.getElem?_cons_zero,List.getElem?_cons_succ] at b2
      clear b5 cp au bv
      go_wp2_with fail
      refine (a0t _ b F5 _ ln d av (by omega) cC.out (by rw [zC,a0a];omega)).mono ?_
      rintro e w6 ⟨rfl,F6,ay,aB⟩
      clear av b2
      go_wp2_with fail
      go_roundg j
      case measure=>omega
      case rel =>
       refine ⟨q+1,F6,_,?_,by go_num,by omega,ay,hid ?_,?_,(aQ.trans aj).trans aB⟩
       ·rw [aU.out.1]
       ·rw [aU.out.2.2,aU.out.2.1,Hb.out];simp only [zH]
       ·rw [zC,zC,a0a,a0a];omega
     ·have aq:(a0h (T.take (q+1))).length=(a0h (T.take q)).length+1:=by rw [ao,ak];simp
      have a2:a2v kk jk W d t=a0b 1 1++a4d kk (lenOf t)++a4d jk (a7c W t):=by unfold a2v;rw [ak];rfl
      have bu:=d3a T ai ak
      have aY:=c9w W T ai ak
      have cF:=c5i az
      have bH:=c0k W az
      have bN:(a0h (T.take q)).length<n9:=by rw [ct.out];exact (List.getElem?_eq_some_iff.1 bu).1
      obtain ⟨c,cl⟩:=zX ((a0h (T.take q)).length)
      rw [<-cl] at bu aY bN aq ⊢
      obtain ⟨g9,o9,rfl,aJ⟩:=aP.one bu
      obtain ⟨cA,cB,rfl,aD⟩:=aA.one aY
      rw [ak] at aa
      have hb:=Blk.new wr 201 #[.int .i64 t.len,.int .i64 t.dist,.int .i64 t.lit]
      have af:=(zR [] wr).alloc (.cells #[.int .i64 t.len,.int .i64 t.dist,.int .i64 t.lit] 201)
      have bR:Apt (some ⟨g9,o9+c,none⟩) [lenOf t] F':=ar.to (by simp;have:=ct.out;omega) (fun ad e=>⟨_,rfl,by injection e with e;rw [<-e]⟩)
      have aN:Apt (some ⟨cA,cB+c,none⟩) [a7c W t] F':=al.to (by simp;have:=cT.out;omega) (fun ad e=>⟨_,rfl,by injection e with e;rw [<-e]⟩)
      have aU:=hid (And.intro aq (And.intro a2 bB))
      clear ao aq a2 bB ab aW ai ht ak az a0 aP aA ar al bu aY cl
      generalize lenOf t=lo at *
      generalize a7c W t=co at *
      generalize t.len=ta at *
      generalize t.dist=tb at *
      generalize t.lit=tc at *
      go_wp2_with fail
      refine (aa _).mono ?_
      rintro e w4 ⟨rfl,ae⟩
      have au:=aG.same (af.tq ae)
      have aQ:=an.same (af.tq ae)
      have q9:=aJ.same (af.tq ae)
      have bQ:=aD.same (af.tq ae)
      clear hb aG an aa af ae c1 c2 c3 aJ aD
      go_wp2_with fail
      refine (a0t _ b F' aZ 1 1 au (by omega) (by omega) (by omega)).mono ?_
      rintro e w5 ⟨rfl,F5,av,aj⟩
      have r9:=q9.keep bR aj.chg
      have bL:=bQ.keep aN aj.chg
      have bl:=bR.grow q9 aj
      have ax:=aN.grow bQ aj
      go_wp2_with fail
      have bO:∀ x∈[lo],a2e x:=fun x hx=>by rw [zU.1 hx];exact cF
      have b4:∀ x∈[co],a2e x:=fun x hx=>by rw [zU.1 hx];exact bH
      refine (c8i _ b F5 _ kk [lo] _ (bP-c) av hk bO r9 bl (by rw [zC,a0a];simp;omega)).mono ?_
      rintro e w6 ⟨rfl,F6,ay,aB⟩
      have cx:=bL.keep ax aB.chg
      have aw:=ax.grow bL aB
      have cb:a0r kk [lo]=a4d kk lo:=by simp [a0r]
      have b6:a0r jk [co]=a4d jk co:=by simp [a0r]
      have c6:=a5x kk lo
      have cM:=a5x jk co
      have cU:=a6j kk lo hk
      have cL:=a6j jk co bG
      rw [cb] at ay
      clear av r9 bL bl ax au q9 bQ bR aN
      go_wp2_with fail
      refine (c8i _ b F6 _ jk [co] _ (aO-c) ay bG b4 cx aw (by rw [zC,zC,a0a];simp;omega)).mono ?_
      rintro e w7 ⟨rfl,F7,bp,bZ⟩
      rw [b6] at bp
      clear ay cx aw cb b6
      go_wp2_with fail
      go_roundg j
      case measure=>omega
      case rel =>
       refine ⟨q+1,F7,_,?_,by go_num,by omega,bp,hid ?_,?_,((aQ.trans aj).trans aB).trans bZ⟩
       ·rw [aU.out.1];go_num
       ·rw [aU.out.2.2,aU.out.2.1,Hb.out];simp only [zH]
       ·rw [zC,zC,zC,a0a];omega
  ·have bI:i<n:=by omega
   have aS:i<T.length:=by rw [<-HN.out];exact bI
   have bi:=cf.out T[i] (zG aS)
   obtain ⟨t,ht⟩:=zX (T[i])
   have ai:T[i]?=some t:=by rw [ht];exact zF aS
   rw [<-ht] at bi
   have bf:=hc.same aM
   obtain ⟨g,o,rfl,c1,c2,c3⟩:=bf.at_ ai
   have ab:T.take (i+1)=T.take i++[t]:=by rw [ht];exact a0o T aS
   have ao:=b5b (T.take i) t
   have am:=c3n W (T.take i) t
   rw [<-ab] at ao am
   have aa:=fun w=>b9j t w
   have aW:e1a t=.agg #[.int .i64 t.len,.int .i64 t.dist,.int .i64 t.lit]:=rfl
   rw [aW] at aa
   have hb:=Blk.new wr 201 #[.int .i64 t.len,.int .i64 t.dist,.int .i64 t.lit]
   have af:=(zR [] wr).alloc (.cells #[.int .i64 t.len,.int .i64 t.dist,.int .i64 t.lit] 201)
   have a3:=b8a (T.take i)
   have aK:=b0i W (T.take i)
   rw [zI] at a3
   rcases bi with ⟨ak,az,bF⟩ | ⟨ak,az⟩
   ·rw [ak] at aa ao am
    have ag:a0h (T.take (i+1))=a0h (T.take i):=by rw [ao];simp
    have ac:a0l W (T.take (i+1))=a0l W (T.take i):=by rw [am];simp
    have HS:=hid (And.intro ag ac)
    generalize t.len=ta at *
    generalize t.dist=tb at *
    generalize t.lit=tc at *
    have t5:decide (tc<0)=false:=zA (by omega)
    have t6:decide ((2:Int)^d<=tc)=false:=zA (by omega)
    clear ao am ag ac ab ai ht aW a3 aK ak
    go_wp2_with fail
    refine (aa _).mono ?_
    rintro e w2 ⟨rfl,ae⟩
    have aI:=hb.chg ae (by simp)
    have b2:=aI.cell 2
    simp only [List.size_toArray,zK,List.length_nil,List.getElem?_toArray,List.getElem?_cons_zero,List.getElem?_cons_succ] at b2
    have bw:=aM.tq (af.tq ae)
    have k9:=aE.same (af.tq ae)
    have bh:=ah.same (af.tq ae)
    clear hb aI af ae aM bf c1 c2 c3 aE ah
    go_wp2_with fail
    go_quiet (fail)
    go_wp2_with fail
    go_roundg j
    case measure=>omega
    case rel =>
     refine ⟨i+1,F9,F10,by go_num,by omega,?_,?_,bb,aC,bw.drewN nq⟩
     ·rw [HS.out.1];exact k9.drewN nq
     ·rw [HS.out.2];exact bh.drewN nq
   ·rw [ak] at aa ao am
    have ag:(a0h (T.take (i+1))).map vi=(a0h (T.take i)).map vi++[.int .i64 (lenOf t)]:=by rw [ao];simp [vi]
    have ac:(a0l W (T.take (i+1))).map vi=(a0l W (T.take i)).map vi++[.int .i64 (a7c W t)]:=by rw [am];simp [vi]
    have cQ:=Tok.isCopy_iff.1 az
    obtain ⟨p1,p2,p3,p4,p5⟩:=cQ
    have cd:=(c6l (d:=t.dist) (W:=W) p3).1
    have bW:=fun w (hp:Pts w)=>e8p t.dist W w hp p3 p4 hw0 hw1
    have a5:=fun w=>b2j (t.len-3) w (by omega)
    have ap:=fun w=>b2j (b4z t.dist W-1) w (by omega)
    have e1:a1l (t.len-3)=lenOf t:=rfl
    have e2:a1l (b4z t.dist W-1)=a7c W t:=rfl
    rw [e1] at a5
    rw [e2] at ap
    clear e1 e2
    obtain ⟨lo,cc⟩:=zX (lenOf t)
    obtain ⟨co,cm⟩:=zX (a7c W t)
    rw [<-cc] at a5 ag
    rw [<-cm] at ap ac
    obtain ⟨cn,bm⟩:=zX (b4z t.dist W)
    rw [<-bm] at ap cd bW
    obtain ⟨cq,a0⟩:=zX (cn-1)
    rw [<-a0] at ap
    obtain ⟨lq,ch⟩:=zX (t.len-3)
    rw [<-ch] at a5
    have e3:(t.len:Int)-3=(lq:Int):=by omega
    have e4:(cn:Int)-1=(cq:Int):=by omega
    have cL:cq<=1100:=by omega
    have cM:lq<=64:=by omega
    have a1:((a0l W (T.take i)).map vi).length=((a0h (T.take i)).map vi).length:=by rw [zE,zE,aK]
    have cj:((a0h (T.take i)).map vi).length<=4096:=by rw [zE];omega
    obtain ⟨L9,cr⟩:=zX ((a0h (T.take i)).map vi)
    obtain ⟨cW,bo⟩:=zX ((a0l W (T.take i)).map vi)
    rw [<-cr] at aE ag a1 cj
    rw [<-bo] at ah ac a1
    clear cr bo
    obtain ⟨M9,bC⟩:=zX (L9.length)
    rw [<-bC] at a1 cj
    have HS:=hid (And.intro ag ac)
    clear cc cm bm a0 ch ag ac
    generalize t.len=ta at *
    generalize t.dist=tb at *
    generalize t.lit=tc at *
    subst p5
    have cK:=hid bW
    have cE:=hid ap
    have HU:=hid a5
    clear ao am ab ai ht aW a3 aK ak cd bW a5 ap az
    go_wp2_with fail
    refine (aa _).mono ?_
    rintro e w2 ⟨rfl,ae⟩
    have aI:=hb.chg ae (by simp)
    have b0:=aI.cell 0
    have b1:=aI.cell 1
    simp only [List.size_toArray,zK,List.length_nil,List.getElem?_toArray,List.getElem?_cons_zero,List.getElem?_cons_succ] at b0 b1
    have bw:=aM.tq (af.tq ae)
    have k9:=aE.same (af.tq ae)
    have bh:=ah.same (af.tq ae)
    obtain ⟨A9,bP,cu,_⟩:=k9.open_
    obtain ⟨bX,aO,br,_⟩:=bh.open_
    rw [<-bC] at cu
    rw [a1] at br
    subst cu
    subst br
    have bY:=hid bh
    have bT:=hid bC
    have aT:=hid a1
    have HO:=hid (And.intro bb aC)
    have cN:=hid (And.intro aE.lt ah.lt)
    clear hb af ae aM bf c1 c2 c3 aE ah aa bC a1 bb aC
    have c7:=k9.lt
    have b3:=bh.lt
    have cY:wr.heap.size<w2.heap.size:=aI.lt
    have bv:wr.heap.size∉F9:=fun hm=>by have:=cN.out.1 _ hm;omega
    go_wp2_with fail
    refine (HU.out _).mono ?_
    rintro e w' ⟨rfl,rfl⟩
    have ca:=k9.same ((zR [] w2).alloc (.cells #[.int .i64 lo] 3))
    have bq:=Blk.new w2 3 #[.int .i64 lo]
    go_wp2_with (at_builtin;refine a0f rfl rfl a0p rfl rfl ca (.int .i64 lo) rfl ?c1 ?c2 ?c3 ?c4 ?_)
    case c1=>exact bq.cell 0
    case c2=>rfl
    case c3=>rw [<-bT.out];omega
    case c4=>rw [<-bT.out];omega
    intro g1 cS w3 bx a4
    rw [<-bT.out] at bx ⊢
    have b9:=(aI.alloc (.cells #[.int .i64 lo] 3)).chg a4.chg bv
    have d1:=b9.cell 1
    simp only [List.size_toArray,zK,List.length_nil,List.getElem?_toArray,List.getElem?_cons_zero,List.getElem?_cons_succ] at d1
    have bJ:Chg [] w w3:=(bw.alloc _).trans a4.chg (fun x hx => .inr (HO.out.1 x hx).1)
    have a9:=(bY.out.same ((zR [] w2).alloc (.cells #[.int .i64 lo] 3))).chg a4.chg (fun x hx hm=>(HO.out.1 x hm).2 hx)
    have cP:=hp.same bJ
    clear bq ca b0 b1 aI
    have c5:g1<w3.heap.size:=bx.lt
    go_wp2_with fail
    refine (cK.out _ cP).mono ?_
    rintro e w4 ⟨rfl,n4,rfl⟩
    go_wp2_with fail
    refine (cE.out _).mono ?_
    rintro e w' ⟨rfl,rfl⟩
    have a7:=(a9.drewN n4).same ((zR [] (w3.drewN n4)).alloc (.cells #[.int .i64 co] 3))
    have bq:=Blk.new (w3.drewN n4) 3 #[.int .i64 co]
    go_wp2_with (at_builtin;refine a0f rfl rfl a0p rfl rfl a7 (.int .i64 co) rfl ?c1 ?c2 ?c3 ?c4 ?_)
    case c1=>exact bq.cell 0
    case c2=>rfl
    case c3=>rw [aT.out];omega
    case c4=>rw [aT.out];omega
    intro g2 cO w5 bj aF
    rw [aT.out] at bj ⊢
    have a8:g1∉F10:=fun hm=>by
     rcases a4.new g1 (by simp) with h5 | h5
     ·exact (HO.out.1 _ h5).2 hm
     ·have:=b3 _ hm
      have h8:(w2.alloc (.cells #[.int .i64 lo] 3)).heap.size=w2.heap.size+1:=by simp
      omega
    have bS:=(bx.chg ((((zR F10 w3).drewN n4).alloc (.cells #[.int .i64 co] 3)).tq aF.chg) a8)
    have cG:Chg [] w w5:=((bJ.drewN n4).alloc (.cells #[.int .i64 co] 3)).trans aF.chg (fun x hx => .inr (HO.out.2 x hx))
    have cX:((w3.drewN n4).alloc (.cells #[.int .i64 co] 3)).heap.size=w3.heap.size+1:=by simp
    have bE:w.heap.size<=g1:=by
     rcases a4.new g1 (by simp) with h5 | h5
     ·exact (HO.out.1 _ h5).1
     ·have h8:(w2.alloc (.cells #[.int .i64 lo] 3)).heap.size=w2.heap.size+1:=by simp
      have:=bw.size
      omega
    have bn:w.heap.size<=g2/\g1≠g2:=by
     rcases aF.new g2 (by simp) with h5 | h5
     ·exact ⟨HO.out.2 _ h5,fun e=>a8 (e ▸ h5)⟩
     ·have:=bJ.size
      exact ⟨by omega,by omega⟩
    clear b9 bq a7 bx a4 aF a9 d1
    go_wp2_with fail
    go_roundg j
    case measure=>omega
    case rel =>
     refine ⟨i+1,[g1],[g2],by go_num,by omega,?_,?_,?_,?_,cG⟩
     ·rw [HS.out.1];exact bS.toOwn
     ·rw [HS.out.2];exact bj.toOwn
     ·intro x hx;rw [zU.1 hx];exact ⟨bE,by simp;exact bn.2⟩
     ·intro x hx;rw [zU.1 hx];exact bn.1
def a1v (l:List Int) (n:Nat):List Nat:=l.flatMap fun v=>a0b v.toNat n
theorem b4t (l:List Int) (n:Nat):(a1v l n).length=n*l.length:=by
 induction l with
 | nil=>simp [a1v]
 | cons x l ih =>
  have e:a1v (x::l) n=a0b x.toNat n++a1v l n:=rfl
  rw [e,zC,a0a,ih,zK,Nat.mul_add,Nat.mul_one,Nat.add_comm]
theorem c4q (l:List Int) (x:Int) (n:Nat):a1v (l++[x]) n=a1v l n++a0b x.toNat n:=by simp [a1v]
theorem c2i (w:World) (b:Nat) (F bs:List Nat) (l:List Int) (A:Option Addr) (cap n:Nat) (h:a2n w b F bs) (hn:n<=16) (hl:l.length<=4096) (hs:a1u n l) (hc:a0d vi w A l) (hA:Apt A l F) (hbs:bs.length<137438953472) :
  Calls Tryz.prog 114 #[.pointer (some ⟨b,0,none⟩),.slice A l.length cap,.int .i64 n] w fun e w'=>e=.returned (.tuple #[])/\∃ F',a2n w' b F' (bs++a1v l n)/\a0u F F' w w':=by
 obtain ⟨m,hm⟩:=zX (l.length)
 rw [<-hm] at hl ⊢
 have HN:=hid hm
 have HS:=hid hs
 clear hm hs
 go_enter Tryz.func114,Tryz.ntmps114
 go_wp2_with fail
 go_loopg [10] m (fun j iv wr=>∃ (i:Nat) (F' aa:List Nat),iv=.int .i64 i/\i+j=m/\a2n wr b F' aa/\Hid (aa=bs++a1v (l.take i) n)/\aa.length<=bs.length+16*i/\a0u F F' w wr)
 case atStart=>exact ⟨0,F,bs,rfl,by omega,h,hid (by simp [a1v]),by omega,a0u.refl _ _⟩
 case round =>
  obtain ⟨i,F',aa,rfl,ap,ai,Hb,an,af⟩:=hrel
  rcases gk with _ | j
  ·obtain rfl:i=m:=by omega
   go_wp2
   go_end0
   refine ⟨rfl,F',?_,af⟩
   have e:l.take i=l:=by rw [HN.out,zN]
   have h5:=Hb.out
   rw [e] at h5
   rw [<-h5]
   exact ai
  ·have aj:i<m:=by omega
   have ac:i<l.length:=by rw [<-HN.out];exact aj
   obtain ⟨g,o,rfl,cl⟩:=(hc.keep hA af.chg).at_ ac
   have ah:=a0o l ac
   have ae:=HS.out l[i] (zG ac)
   obtain ⟨x,hx⟩:=zX (l[i])
   rw [<-hx] at cl ah ae
   have ag:x=((x.toNat:Nat):Int):=(Int.toNat_of_nonneg ae.1).symm
   have ad:x.toNat<2^n:=by
    have e2:((2^n:Nat):Int)=(2:Int)^n:=by simp
    omega
   have ab:=c4q (l.take i) x n
   rw [<-ah] at ab
   obtain ⟨k,hk⟩:=zX (x.toNat)
   rw [<-hk] at ag ad ab
   rw [ag] at cl
   have ao:_=some (Value.int .i64 k):=cl
   have ak:k<65536:=Nat.lt_of_lt_of_le ad (by have:=Nat.pow_le_pow_right (n:=2) (by decide) hn;exact this)
   have am:=hid ab
   have al:=hid ad
   clear ab ad hk ag ae ah hx cl ac
   go_wp2_with fail
   refine (a0t _ b F' aa k n ai (by omega) al.out (by omega)).mono ?_
   rintro e w2 ⟨rfl,F2,h2,g2⟩
   go_wp2_with fail
   go_roundg j
   case measure=>omega
   case rel =>
    refine ⟨i+1,F2,_,by go_num,by omega,h2,hid ?_,?_,af.trans g2⟩
    ·rw [am.out,Hb.out,zH]
    ·rw [zC,a0a];omega
def a8a (l:List Int) (W i:Nat):Nbr:=nbr l W (i%W) (i / W)
theorem b9q (l:List Int) (A:Option Addr) (cap W d i:Nat) (w:World) (h0:1<=d) (h1:d<=16) (hW0:1<=W) (hW1:W<=64) (hi:i<=l.length) (hiW:i<64*W) (hs:a1u d l) (hc:a0d vi w A l) (hll:l.length<=4096) :
  Calls Tryz.prog 146 #[.slice A l.length cap,.int .i64 W,.int .i64 d,.int .i64 i] w fun e w'=>e=.returned (.tuple #[.int .i64 (a3d 7 (a8a l W i) d),.int .i64 (b3h (a8a l W i) d)])/\Chg [] w w':=by
 obtain ⟨x,hx⟩:=zX (i%W)
 obtain ⟨y,hy⟩:=zX (i / W)
 have ag:x<W:=by rw [hx];exact Nat.mod_lt _ (by omega)
 have ad:y<64:=by rw [hy];exact Nat.div_lt_of_lt_mul (by rw [zY];exact hiW)
 have af:y*W+x=i:=by rw [hx,hy,zY];exact Nat.div_add_mod i W
 have e1:(i:Int)%(W:Int)=(x:Int):=by rw [hx];simp
 have e2:(i:Int) / (W:Int)=(y:Int):=by rw [hy];simp
 have aa:=fun w hc=>c7l l A cap W x y w hW0 hW1 ag ad (by omega) hc (by omega)
 have ae:=b5s hs W x y
 have ac:=fun w=>e6z (nbr l W x y) d w h0 h1 ae
 have ab:=fun w=>d6y 7 (nbr l W x y) d w (by omega) h0 h1 ae
 have d1:a8a l W i=nbr l W x y:=by unfold a8a;rw [<-hx,<-hy]
 rw [d1]
 obtain ⟨n,hn⟩:=zX (l.length)
 rw [<-hn] at aa ⊢
 generalize nbr l W x y=g at *
 generalize b3h g d=cl at *
 generalize a3d 7 g d=gs at *
 obtain ⟨ga,gb,gc,ge⟩:=g
 simp only at aa ac ab
 have HN:=hid aa
 have aj:(1:Int)<=(W:Int):=by omega
 clear hx hy af aa ae d1 hn hs hi
 go_enter Tryz.func146,Tryz.ntmps146
 go_wp2_with fail
 go_quiet ((go_at_call 190;exact c5p (HN.out _ (hc.same ((zR [] w).drewN _)))))
 go_wp2_with fail
 refine (ab _).mono ?_
 rintro e w1 ⟨rfl,ah⟩
 go_wp2_with fail
 refine (ac _).mono ?_
 rintro e w2 ⟨rfl,ai⟩
 go_wp2_with fail
 exact bodyPost_ret (v:=.tuple #[.int .i64 gs,.int .i64 cl]) (by simp [results,Tryz.results146,go_sem]) rfl ⟨rfl,(((zR [] w).drewN nq).tq ah).tq ai⟩
def a3c (l:List Int) (W d i:Nat):Nat:=a8f (a1b (l.getD i 0-a3d 7 (a8a l W i) d) d)
def a1w (l:List Int) (W d:Nat):List Nat:=(List.range l.length).map (a3c l W d)
def a8v (l:List Int) (W d:Nat):List Int:=(a1w l W d).map Int.ofNat
theorem a9o (l:List Int) (W:Nat) {d:Nat} (h0:1<=d) (i:Nat):a3c l W d i<2^d:=by
 obtain ⟨h1,h2⟩:=a2s (l.getD i 0-a3d 7 (a8a l W i) d) h0
 have h3:=a6w h0
 have h4:((2^d:Nat):Int)=(2:Int)^d:=by simp
 unfold a3c a8f
 split<;>omega
theorem a7y (l:List Int) (W d:Nat):(a1w l W d).length=l.length:=by simp [a1w]
theorem d3i (l:List Int) (W d:Nat):(a8v l W d).length=l.length:=by simp [a8v,a1w]
theorem c0t (l:List Int) (A:Option Addr) (cap W d:Nat) (w:World) (h0:1<=d) (h1:d<=16) (hW0:1<=W) (hW1:W<=64) (hlW:l.length<=64*W) (hs:a1u d l) (hc:a0d vi w A l) (hll:l.length<=4096) :
  Calls Tryz.prog 112 #[.slice A l.length cap,.int .i64 W,.int .i64 d] w fun e w'=>∃ v g,e=.returned v/\Row w' 3 v g ((a8v l W d).map vi)/\Chg [] w w'/\w.heap.size<=g:=by
 have ab:=fun i (hi:i<l.length) w hc=>b9q l A cap W d i w h0 h1 hW0 hW1 (by omega) (by omega) hs hc hll
 have au:a8v l W d=(List.range l.length).map fun i=>(a3c l W d i:Int):=by simp [a8v,a1w,List.map_map]
 obtain ⟨m,hm⟩:=zX (l.length)
 rw [<-hm] at ab au hll ⊢
 have aS:=a1p (P:=Tryz.prog) a0p rfl .i64 .i64 m (by omega) (by omega)
 have HN:=hid ab
 have aN:=hid au
 have HM:=hid hm
 have HS:=hid hs
 clear ab au hm hs
 go_enter Tryz.func112,Tryz.ntmps112
 go_wp2_with fail
 have ae:=Row.zeros w m (by omega)
 obtain ⟨B,hB⟩:=zX (w.heap.size)
 rw [<-hB] at ae ⊢
 have HB:=hid hB
 have aC:Chg [] w (w.alloc (.cells (List.replicate m (Value.int .i64 0)).toArray 3)):=(zR [] w).alloc _
 clear hB
 go_loopg [17] m (fun j iv wr=>∃ (done:List Int),iv=.int .i64 done.length/\done.length+j=m/\Hid (done=(List.range done.length).map fun i=>(a3c l W d i:Int))/\Row wr 3 (.slice (some ⟨B,0,none⟩) m m) B ((a1a done m).map vi)/\Chg [] w wr)
 case atStart=>exact ⟨[],rfl,by simp,hid rfl,ae,aC⟩
 case round =>
  obtain ⟨done,rfl,aI,Hd,ai,aw⟩:=hrel
  clear ae aC
  rcases gk with _ | j
  ·have ar:done.length=m:=by omega
   rw [ar]
   go_wp2
   go_ret
   refine ⟨_,B,rfl,?_,aw,by have:=HB.out;omega⟩
   rw [a7l ar,Hd.out,ar] at ai
   rw [aN.out]
   exact ai
  ·obtain ⟨i,hi⟩:=zX (done.length)
   have aE:i<m:=by omega
   have az:i<l.length:=by rw [<-HM.out];exact aE
   have ac:done++[(a3c l W d i:Int)]=(List.range (i+1)).map fun i=>(a3c l W d i:Int):=by
    rw [List.range_succ,zM,hi,<-Hd.out];rfl
   have ao:=hc.same aw
   obtain ⟨g,o,rfl,aa⟩:=ao.at_ az
   have aD:l[i]=l.getD i 0:=by rw [zD,zF az];rfl
   rw [aD] at aa
   have ad:wr.cell? ⟨g,o+i,none⟩=some (.int .i64 (l.getD i 0)):=aa
   have av:=HN.out i aE wr ao
   have ak:=a9p (b5s HS.out W (i%W) (i / W)) 7
   have an:=a5d HS.out i
   have al:a3c l W d i=a8f (a1b (l.getD i 0-a3d 7 (a8a l W i) d) d):=rfl
   have aJ:a8a l W i=nbr l W (i%W) (i / W):=rfl
   rw [<-aJ] at ak
   have aj:=a9o l W h0 i
   obtain ⟨aO,aP⟩:=a9c h0 h1
   obtain ⟨gs,aG⟩:=zX (a3d 7 (a8a l W i) d)
   rw [<-aG] at av ak al
   obtain ⟨v,hv⟩:=zX (l.getD i 0)
   rw [<-hv] at ad an al
   have aH:=fun w=>a7x (v-gs) d w h0 h1
   have ax:=a2s (v-gs) h0
   obtain ⟨fo,am⟩:=zX (a1b (v-gs) d)
   rw [<-am] at al aH ax
   have ay:=a7k h1 ax
   have ag:a2e fo:=by unfold a2e;omega
   have ap:=fun w=>b9o fo w ag
   rw [<-al] at ap
   obtain ⟨f,hf⟩:=zX (a3c l W d i)
   rw [<-hf] at ap aj ac
   have aK:f<65536:=by
    have h9:((2^d:Nat):Int)=(2:Int)^d:=by simp
    have aL:=Nat.pow_le_pow_right (n:=2) (by decide) h1
    exact Nat.lt_of_lt_of_le aj aL
   have aQ : -65536<=v-gs:=by have:=an.1;have:=ak.2;omega
   have aR:v-gs<=65536:=by have:=an.2;have:=ak.1;omega
   have aM:=hid ac
   have aB:=hid aI
   have HI:=hid hi
   rw [<-hi]
   clear ac aI hf am hv aG ak an al aJ aj aO aP ax ay ag aa aD az ao hi
   go_wp2_with fail
   refine av.mono ?_
   rintro e w2 ⟨rfl,aF⟩
   have af:=ai.chg aF (by simp)
   obtain ⟨aq,aA⟩:=af.fill_cell (by have:=aB.out;omega)
   rw [<-HI.out] at aq aA
   clear av ad
   go_wp2_with (first | (go_at_call 84;refine (aH _).mono ?_;rintro e w' ⟨rfl,rfl⟩) | (go_at_call 147;refine (ap _).mono ?_;rintro e w' ⟨rfl,rfl⟩))
   go_roundg j
   case measure=>omega
   case rel =>
    have ah:=af.fill (by have:=aB.out;omega) (f:Int)
    refine ⟨done++[(f:Int)],?_,?_,hid ?_,?_,?_⟩
    ·rw [zC,List.length_singleton,<-HI.out];go_num
    ·rw [zC,List.length_singleton];have:=aB.out;omega
    ·rw [zC,List.length_singleton,<-HI.out]
     exact aM.out
    ·rw [<-HI.out] at ah
     exact ah
    ·exact (aw.tq aF).setCell (.inr (by have:=HB.out;simp;omega)) _
theorem a4o (W H d:Nat) (w:World) (hw0:1<=W) (hw1:W<=16) (hh0:1<=H) (hh1:H<=16) (h0:1<=d) (h1:d<=16) :
  Calls Tryz.prog 109 #[.int .i64 W,.int .i64 H,.int .i64 d] w fun e w'=>e=.returned (.bool true)/\w=w':=by
 have t1:decide ((1:Int)<=(W:Int))=true:=zB (by omega)
 have t2:decide ((W:Int)<=16)=true:=zB (by omega)
 have t3:decide ((1:Int)<=(H:Int))=true:=zB (by omega)
 have t4:decide ((H:Int)<=16)=true:=zB (by omega)
 have t5:decide ((1:Int)<=(d:Int))=true:=zB (by omega)
 have t6:decide ((d:Int)<=16)=true:=zB (by omega)
 go_enter Tryz.func109,Tryz.ntmps109
 go_wp2
 go_ret
 exact ⟨rfl,rfl⟩
theorem a9s (l:List Int) (A:Option Addr) (cap W H d:Nat) (w:World) (hw0:1<=W) (hw1:W<=16) (hh0:1<=H) (hh1:H<=16) (h0:1<=d) (h1:d<=16) (hl:l.length=W*H) (hs:a1u d l) (hc:a0d vi w A l) :
  Calls Tryz.prog 85 #[.slice A l.length cap,.int .i64 W,.int .i64 H,.int .i64 d] w fun e w'=>e=.returned (.bool true)/\w=w':=by
 obtain ⟨ak,al⟩:=a9c h0 h1
 obtain ⟨m,hm⟩:=zX (l.length)
 rw [<-hm] at hl ⊢
 have ag:(W:Int)*(H:Int)=(m:Int):=by rw [hl];simp
 have t7:((m:Int) != (m:Int))=false:=by simp
 have an:m<=256:=by rw [hl];exact zL hw1 hh1
 have HN:=hid hm
 have HS:=hid hs
 clear hm hl hs
 go_enter Tryz.func85,Tryz.ntmps85
 go_wp2_with (go_at_call 109;refine (a4o _ _ _ _ hw0 hw1 hh0 hh1 h0 h1).mono ?_;rintro e w' ⟨rfl,rfl⟩)
 go_loopg [26] m (fun j i wr=>j<=m/\i=.int .i64 ((m-j:Nat):Int)/\w=wr)
 case atStart=>exact ⟨zQ _,by simp,rfl⟩
 case round =>
  obtain ⟨hj,rfl,rfl⟩:=hrel
  rcases gk with _ | j
  ·have t8:decide (((m-0:Nat):Int)<(m:Int))=false:=by simp
   go_wp2
   go_ret
   exact ⟨rfl,rfl⟩
  ·obtain ⟨i,ac⟩:=zX (m-(j+1))
   rw [<-ac]
   have ah:i<m:=by omega
   have ad:m-j=i+1:=by omega
   have HI:=hid ad
   clear ac ad
   have af:i<l.length:=by rw [<-HN.out];exact ah
   obtain ⟨g,o,rfl,aa⟩:=hc.at_ af
   have hx:=HS.out l[i] (zG _)
   obtain ⟨x,ae⟩:=zX (l[i])
   rw [<-ae] at aa hx
   have ab:w.cell? ⟨g,o+i,none⟩=some (.int .i64 x):=aa
   obtain ⟨am,aj⟩:=hx
   have t9:decide (x<0)=false:=zA (by omega)
   have ai:decide ((2:Int)^d<=x)=false:=zA (by omega)
   clear aa ae af
   go_wp2
   go_roundg j
   case measure=>omega
   case rel =>
    rw [HI.out]
    exact ⟨by omega,by go_num,rfl⟩
theorem c5s (w:World) (b:Nat) (F ds:List Nat) (p k most u:Nat) (h:a1r w b F ds p) (hk:k<=25) (hu:u<=most) (hm:most<=65536) (ha:a0y ds p (a4d k (a1l u))) :
  Calls Tryz.prog 262 #[.pointer (some ⟨b,0,none⟩),.int .i64 k,.int .i64 most] w fun e w'=>e=.returned (.tuple #[.int .i64 u,.int .i64 0])/\a1r w' b F ds (p+(a4d k (a1l u)).length)/\Chg [b] w w':=by
 have ag:=b2i (u:=u) (by omega)
 have hg:=c8h w b F ds p k [a1l u] h hk (fun z hz=>by rw [zU.1 hz];exact ag) (by simp) (by simpa [a0r] using ha)
 rw [show (([a1l u]:List Int).length:Int)=1 from rfl] at hg
 have af:(a0r k [a1l u]).length=(a4d k (a1l u)).length:=by simp [a0r]
 rw [af] at hg
 have ac:=fun w'=>b9o (a1l u) w' ag
 rw [c8g] at ac
 have t1:decide ((u:Int)<=(most:Int))=true:=zB (by omega)
 have aj:decide (u<=most)=true:=zB (by omega)
 have am:IntKind.u64.wrap (most:Int)=(most:Int):=IntWalk.u64_in _ (by omega)
 have al:IntKind.i64.wrap (u:Int)=(u:Int):=IntWalk.i64_in _ (by omega)
 generalize a1l u=x at *
 generalize (a4d k x).length=q at *
 clear h ha af
 go_enter Tryz.func262,Tryz.ntmps262
 go_wp2_with fail
 refine hg.mono ?_
 rintro e w1 ⟨v,G,rfl,own,ai,ah,hG⟩
 rcases own.cases with ⟨_,ae,_⟩ | ⟨g4,ab,rfl⟩
 ·exfalso
  have:=congrArg List.length ae
  simp at this
 obtain ⟨c4,rfl,_,_,aa,_⟩:=ab.oq
 have e0:=aa 0 x rfl
 have ak:w1.cell? ⟨g4,0,none⟩=some (.int .i64 x):=e0
 rw [show (([x]:List Int).length)=1 from rfl]
 have ad:=ac w1
 clear hg own ab aa e0 ac
 go_wp2_with fail
 refine ad.mono ?_
 rintro e w' ⟨rfl,rfl⟩
 go_wp2
 go_ret2
 exact ⟨rfl,ai,ah⟩
theorem e5n (w:World) (b:Nat) (F ds:List Nat) (p k j W d:Nat) (t:Tok) (h:a1r w b F ds p) (hp:Pts w) (h0F:0∉F) (hk:k<=25) (hj:j<=25) (hw0:1<=W) (hw1:W<=64) (hd:d<=16) (ht:c3j d t) (ha:a0y ds p (a2v k j W d t)) :
  Calls Tryz.prog 228 #[.pointer (some ⟨b,0,none⟩),.int .i64 k,.int .i64 j,.int .i64 W,.int .i64 d] w fun e w'=>e=.returned (.tuple #[e1a t,.int .i64 0])/\a1r w' b F ds (p+(a2v k j W d t).length)/\Chg [b] w w':=by
 obtain ⟨br,aG⟩:=zX (w.heap.size)
 obtain ⟨w0,af⟩:=zX (w.alloc (.cells #[.int .i64 0,.int .i64 0,.int .i64 0] 201))
 have aN:Blk w0 br 201 #[.int .i64 0,.int .i64 0,.int .i64 0]:=by rw [af,aG];exact Blk.new w _ _
 have ar:Chg [] w w0:=by rw [af];exact (zR [] w).alloc _
 have au:=h.same ar
 have a4:=hp.same ar
 have aR:br∉F:=fun hm=>by have:=h.lt _ hm;omega
 have ad:b≠br:=by have:=h.lt b h.mem;omega
 have aH:=h.mem
 have aS:=hid af
 have aw:=hid aG
 clear af aG h hp
 unfold a2v at ha ⊢
 rcases ht with ⟨hl,aM,aF⟩ | ⟨hl,hc⟩
 ·rw [if_pos hl] at ha ⊢
  have aY:=Tok.isLit_iff.1 hl
  obtain ⟨a,c,x⟩:=t
  obtain ⟨rfl,rfl⟩:a=0/\c=0:=aY
  simp only at aM aF ha ⊢
  have an:e1a ⟨0,0,x⟩=.agg #[.int .i64 0,.int .i64 0,.int .i64 x]:=rfl
  rw [an]
  obtain ⟨X,hX⟩:∃ X:Nat,X=x.toNat:=⟨_,rfl⟩
  have az:x=(X:Int):=by omega
  have aC:X<2^d:=by
   have e:(2:Int)^d=((2^d:Nat):Int):=by simp
   rw [e,az] at aF
   omega
  have aV:X<65536:=Nat.lt_of_lt_of_le aC (show 2^d<=2^16 from Nat.pow_le_pow_right (by decide) hd)
  rw [<-hX] at ha ⊢
  rw [az]
  have ap:=a0j w0 b F ds p 1 0 au (by omega) (by decide) ha.left
  have aj:=ha.right
  rw [a0a] at aj
  have ai:=fun w' (hr:a1r w' b F ds (p+1))=>a0j w' b F ds (p+1) d X hr (by omega) aC aj
  rw [zC,a0a,a0a]
  have bc:IntKind.i64.wrap (X:Int)=(X:Int):=IntWalk.i64_in _ (by omega)
  have aI:=hid ai
  clear hX az aC aM aF ha aj ai hl an
  go_enter Tryz.func228,Tryz.ntmps228
  go_wp2_with fail
  rw [<-aS.out,<-aw.out]
  refine ap.mono ?_
  rintro e w1 ⟨rfl,aE,am⟩
  have ao:=aN.chg am (by simpa using ad.symm)
  clear ap au
  go_wp2_with fail
  refine (aI.out w1 aE).mono ?_
  rintro e w2 ⟨rfl,aq,al⟩
  have ae:=ao.chg al (by simpa using ad.symm)
  have q0:=ae.cell 0
  have q1:=ae.cell 1
  have q2:=ae.cell 2
  have z0:=ae.frozen 0
  have z1:=ae.frozen 1
  have z2:=ae.frozen 2
  simp at q0 q1 q2
  obtain ⟨wF,ag⟩:=zX (((w2.setCell ⟨br,0,none⟩ (.int .i64 0)).setCell ⟨br,1,none⟩ (.int .i64 0)).setCell ⟨br,2,none⟩ (.int .i64 X))
  have aa:Blk wF br 201 #[.int .i64 0,.int .i64 0,.int .i64 X]:=by
   rw [ag]
   simpa using ((ae.set_ 0 (.int .i64 0)).set_ 1 (.int .i64 0)).set_ 2 (.int .i64 X)
  have ac:Chg [br] w2 wF:=by rw [ag];exact (((zR [br] w2).setCell (.inl (by simp)) _).setCell (.inl (by simp)) _).setCell (.inl (by simp)) _
  have f0:=aa.cell 0
  have f1:=aa.cell 1
  have f2:=aa.cell 2
  simp at f0 f1 f2
  have aD:=hid ag
  clear ag aa ao
  go_wp2_with (go_at_call 69;refine (a2b _ b F ds _ aq).mono ?_;rintro e w' ⟨rfl,rfl⟩)
  rw [<-aD.out]
  refine bodyPost_ret (v:=.tuple #[.agg #[.int .i64 0,.int .i64 0,.int .i64 X],.int .i64 0]) (by simp [results,Tryz.results228,go_sem,f0,f1,f2]) rfl ?_
  exact ⟨rfl,(aq.cast (by omega)).chg ac (fun z hz hm=>by simp at hm;exact aR (hm ▸ hz)),(((ar.mono (by simp)).tq am).tq al).trans ac (fun z hz => .inr (by simp at hz;have:=aw.out;omega))⟩
 ·rw [if_neg (by simp [hl])] at ha ⊢
  have a1:=Tok.isCopy_iff.1 hc
  obtain ⟨n,c,x⟩:=t
  obtain ⟨ba,aZ,a0,aA,rfl⟩:3<=n/\n<=64/\1<=c/\c<=1024/\x=0:=a1
  have an:e1a ⟨n,c,0⟩=.agg #[.int .i64 n,.int .i64 c,.int .i64 0]:=rfl
  rw [an]
  have ax:=c6l (d:=c) (W:=W) a0
  have ap:=a0j w0 b F ds p 1 1 au (by omega) (by decide) ha.left.left
  have aj:=ha.left.right
  have av:=ha.right
  have e2:lenOf ⟨n,c,0⟩=a1l (n-3):=rfl
  have e3:a7c W ⟨n,c,0⟩=a1l (b4z c W-1):=rfl
  rw [zC,a0a,e2] at av
  rw [a0a,e2] at aj
  rw [e3] at av
  have ai:=fun w' (hr:a1r w' b F ds (p+1))=>c5s w' b F ds (p+1) k 61 (n-3) hr hk (by omega) (by decide) aj
  have ak:=fun w' (hr:a1r w' b F ds (p+(1+(a4d k (a1l (n-3))).length)))=>c5s w' b F ds _ j 1047 (b4z c W-1) hr hj (by omega) (by decide) av
  rw [zC,zC,a0a,e2,e3]
  have ab:=fun w' (hp:Pts w')=>d6x (b4z c W) W w' hp ax.1.1 (by omega) hw0 hw1
  rw [ax.2] at ab
  obtain ⟨cd,aL⟩:=zX (b4z c W)
  rw [<-aL] at ak ab ax ⊢
  obtain ⟨c0,aP⟩:=zX (cd-1)
  have a8:(c0:Int)+1=(cd:Int):=by omega
  rw [<-aP] at ak ⊢
  obtain ⟨n0,aK⟩:=zX (n-3)
  have a9:(n0:Int)+3=(n:Int):=by omega
  rw [<-aK] at ai ak ⊢
  generalize (a4d k (a1l n0)).length=q1 at *
  generalize (a4d j (a1l c0)).length=q2 at *
  rw [show ((61:Nat):Int)=61 from rfl] at ai
  rw [show ((1047:Nat):Int)=1047 from rfl] at ak
  have t1:(((1:Nat):Int)==0)=false:=rfl
  have aQ:cd<=1048:=by omega
  have aI:=hid ai
  have a2:=hid ak
  have aT:=hid ab
  clear ha aj av ai ak ab aL aP aK e2 e3 hl hc an ax
  go_enter Tryz.func228,Tryz.ntmps228
  go_wp2_with fail
  rw [<-aS.out,<-aw.out]
  refine ap.mono ?_
  rintro e w1 ⟨rfl,aE,am⟩
  have ao:=aN.chg am (by simpa using ad.symm)
  have a5:=a4.chg am (fun hm=>by simp at hm;exact h0F (hm ▸ aH))
  clear ap au
  go_wp2_with fail
  refine (aI.out w1 aE).mono ?_
  rintro e w2 ⟨rfl,aq,al⟩
  have ae:=ao.chg al (by simpa using ad.symm)
  have a6:=a5.chg al (fun hm=>by simp at hm;exact h0F (hm ▸ aH))
  go_wp2_with fail
  refine (a2.out w2 (aq.cast (by omega))).mono ?_
  rintro e w3 ⟨rfl,aX,ay⟩
  have aO:=ae.chg ay (by simpa using ad.symm)
  have aW:=a6.chg ay (fun hm=>by simp at hm;exact h0F (hm ▸ aH))
  go_wp2_with fail
  refine (aT.out w3 aW).mono ?_
  rintro e bb ⟨rfl,n4,rfl⟩
  obtain ⟨w4,aB⟩:=zX (w3.drewN n4)
  have aJ:Chg [] w3 w4:=by rw [aB];exact (zR [] w3).drewN n4
  rw [<-aB]
  have ah:=aO.chg aJ (by simp)
  have q0:=ah.cell 0
  have aU:=ah.cell 1
  have a3:=ah.cell 2
  have z0:=ah.frozen 0
  have z1:=ah.frozen 1
  have z2:=ah.frozen 2
  simp at q0 aU a3
  obtain ⟨wF,ag⟩:=zX (((w4.setCell ⟨br,0,none⟩ (.int .i64 n)).setCell ⟨br,1,none⟩ (.int .i64 c)).setCell ⟨br,2,none⟩ (.int .i64 0))
  have aa:Blk wF br 201 #[.int .i64 n,.int .i64 c,.int .i64 0]:=by
   rw [ag]
   simpa using ((ah.set_ 0 (.int .i64 n)).set_ 1 (.int .i64 c)).set_ 2 (.int .i64 0)
  have ac:Chg [br] w4 wF:=by rw [ag];exact (((zR [br] w4).setCell (.inl (by simp)) _).setCell (.inl (by simp)) _).setCell (.inl (by simp)) _
  have f0:=aa.cell 0
  have f1:=aa.cell 1
  have f2:=aa.cell 2
  simp at f0 f1 f2
  have aD:=hid ag
  have a7:=aX.same aJ
  clear ag aa ao ae aO aB
  go_wp2_with fail
  rw [<-aD.out]
  refine bodyPost_ret (v:=.tuple #[.agg #[.int .i64 n,.int .i64 c,.int .i64 0],.int .i64 0]) (by simp [results,Tryz.results228,go_sem,f0,f1,f2]) rfl ?_
  exact ⟨rfl,(a7.cast (by omega)).chg ac (fun z hz hm=>by simp at hm;exact aR (hm ▸ hz)),(((((ar.mono (by simp)).tq am).tq al).tq ay).trans aJ (by simp)).trans ac (fun z hz => .inr (by simp at hz;have:=aw.out;omega))⟩
theorem f1m (w:World) (l:List Int) (v:Value) (F:List Nat) (i:Nat) (t:Tok) (ho:Own w 3 v F ((l.take i).map vi)) (hl:l.length<=4096) (hil:i<l.length) (ht:d8a l i t) (hok:t.ok) :
  Calls Tryz.prog 229 #[v,e1a t] w fun e w'=>∃ v' F',e=.returned v'/\Own w' 3 v' F' ((l.take (i+max t.len 1)).map vi)/\a0u F F' w w':=by
 obtain ⟨bt,al⟩:=zX (w.heap.size)
 have ai:=fun w'=>b9j t w'
 have aY:(l.take i).length=i:=by rw [zI];omega
 have aS:=hid ho.lt
 rcases ht with ⟨h1,h2,h3⟩ | ⟨h1,h2,h3,h4,h5⟩
 ·have ac:t.isLit=true:=Tok.isLit_iff.2 ⟨h1,h2⟩
  rw [ac] at ai
  obtain ⟨a,c,x⟩:=t
  simp only at h1 h2 h3
  subst h1 h2
  have an:e1a ⟨0,0,x⟩=.agg #[.int .i64 0,.int .i64 0,.int .i64 x]:=rfl
  rw [an] at ai ⊢
  have aI:l.take (i+max 0 1)=l.take i++[x]:=by
   rw [show i+max 0 1=i+1 by omega,a0o l hil,h3,zD,zF hil]
   rfl
  simp only
  rw [aI]
  obtain ⟨xs,am⟩:=zX (l.take i)
  rw [<-am] at ho aY ⊢
  obtain ⟨w0,ah⟩:=zX (w.alloc (.cells #[.int .i64 0,.int .i64 0,.int .i64 x] 201))
  have ad:Blk w0 bt 201 #[.int .i64 0,.int .i64 0,.int .i64 x]:=by rw [ah,al];exact Blk.new w _ _
  have ap:Chg [] w w0:=by rw [ah];exact (zR [] w).alloc _
  have av:=ho.same ap
  have q0:=ad.cell 0
  have q1:=ad.cell 1
  have q2:=ad.cell 2
  simp at q0 q1 q2
  have aE:=hid ah
  have ar:=hid al
  clear h3 aI am ac hok an ah al ho
  go_enter Tryz.func229,Tryz.ntmps229
  go_wp2_with fail
  rw [<-aE.out]
  refine (ai w0).mono ?_
  rintro e w1 ⟨rfl,ak⟩
  have aN:=(ad.chg ak (by simp)).cell 2
  simp at aN
  rw [ar.out] at aN
  have aw:=av.same ak
  clear ai q0 q1 q2 ad av
  go_wp2_with (at_builtin;refine a0f rfl rfl a0p rfl rfl (aw.alloc _) (.int .i64 x) rfl ?c1 ?c2 ?c3 ?c4 ?_)
  case c1=>simp [go_sem]
  case c2=>rfl
  case c3=>rw [zE];omega
  case c4=>rw [zE];omega
  intro g2 ax w2 ay aq
  go_wp2_with fail
  go_ret
  exact ⟨_,[g2],rfl,by have:=ay.toOwn;simpa [vi] using this,a0u.pre ((ap.tq ak).alloc _) aq⟩
 ·have ac:t.isLit=false:=by
   cases hq:t.isLit with
   | false=>rfl
   | true=>have := Tok.isLit_iff.1 hq;omega
  rw [ac] at ai
  have aK:=Tok.isCopy_iff.1 (by rcases hok with h | h;rw [ac] at h;cases h;exact h)
  obtain ⟨n,c,x⟩:=t
  simp only at h1 h2 h3 h4 h5 aK
  obtain rfl:x=0:=aK.2.2.2.2
  have an:e1a ⟨n,c,0⟩=.agg #[.int .i64 n,.int .i64 c,.int .i64 0]:=rfl
  rw [an] at ai ⊢
  have aH:i+max n 1=i+n:=by omega
  simp only
  rw [aH]
  obtain ⟨w0,ah⟩:=zX (w.alloc (.cells #[.int .i64 n,.int .i64 c,.int .i64 0] 201))
  have ad:Blk w0 bt 201 #[.int .i64 n,.int .i64 c,.int .i64 0]:=by rw [ah,al];exact Blk.new w _ _
  have ap:Chg [] w w0:=by rw [ah];exact (zR [] w).alloc _
  have av:=ho.same ap
  have q0:=ad.cell 0
  have q1:=ad.cell 1
  have q2:=ad.cell 2
  simp at q0 q1 q2
  have aE:=hid ah
  have ar:=hid al
  have H5:=hid h5
  clear aH ac hok an ah al ho h5
  go_enter Tryz.func229,Tryz.ntmps229
  go_wp2_with fail
  rw [<-aE.out]
  refine (ai w0).mono ?_
  rintro e w1 ⟨rfl,ak⟩
  have aA:=ad.chg ak (by simp)
  have aB:=aA.cell 0
  simp at aB
  rw [ar.out] at aB
  have aw:=av.same ak
  have aJ:a0u F F w w1:=(a0u.refl F w).same (ap.tq ak)
  have ao:bt∉F:=fun hm=>by have:=aS.out _ hm;have:=ar.out;omega
  clear ai q0 q1 q2 ad av
  go_wp2_with fail
  go_loopg [0,14] n (fun k vl iv wr=>∃ (m:Nat) (F':List Nat),iv=.int .i64 m/\m+k=n/\Own wr 3 vl F' ((l.take (i+m)).map vi)/\Blk wr bt 201 #[.int .i64 n,.int .i64 c,.int .i64 0]/\bt∉F'/\a0u F F' w wr)
  case atStart=>exact ⟨0,F,rfl,by omega,aw,aA,ao,aJ⟩
  case round =>
   clear aw aA ao aJ aB
   obtain ⟨m,F',rfl,a3,ab,aj,aP,aF⟩:=hrel
   rcases gk with _ | k
   ·obtain rfl:n=m:=by omega
    have t5:decide ((n:Int)<(n:Int))=false:=by simp
    have aW:decide (n<n)=false:=by simp
    obtain ⟨A,aV,rfl,_,_,_⟩:=ab.oq
    go_wp2_with fail
    go_ret
    exact ⟨_,F',rfl,ab,aF⟩
   ·have aQ:m<n:=by omega
    have t5:decide ((m:Int)<(n:Int))=true:=zB (by omega)
    have aW:decide (m<n)=true:=zB aQ
    have au:(l.take (i+m)).length=i+m:=by rw [zI];omega
    obtain ⟨q,hq⟩:=zX (i+m-c)
    have aL:q<i+m:=by omega
    obtain ⟨A,aV,rfl,az,a0,aa⟩:=ab.oq
    obtain ⟨ga,oa,rfl,af⟩:=aa.at_ (m:=q) (by rw [au];exact aL)
    have aO:(l.take (i+m))[q]=l.getD (i+m) 0:=by
     rw [H5.out m aQ,<-hq,List.getElem_take,zD,zF (by omega)]
     rfl
    rw [aO] at af
    have aD:i+m<l.length:=by omega
    have ae:=a0o l aD
    have aG:l[i+m]=l.getD (i+m) 0:=by rw [zD,zF aD];rfl
    rw [aG] at ae
    generalize l.getD (i+m) 0=y at *
    have aC:wr.cell? ⟨ga,oa+q,none⟩=some (.int .i64 y):=af
    obtain ⟨im,ag⟩:=zX (i+m)
    rw [<-ag] at au ab ae aL aa az
    obtain ⟨xs,am⟩:=zX (l.take im)
    rw [<-am] at au ab ae az aa
    have a1:(im:Int)-(c:Int)=(q:Int):=by omega
    have aM:=aj.cell 1
    simp at aM
    rw [ar.out] at aM
    rw [au] at ab az
    have aR:=ab.alloc (.cells #[.int .i64 y] 3)
    have aZ:=hid ae
    have aU:=hid ag
    have aT:im<=4096:=by omega
    rw [<-ag,<-am,au]
    clear af aO aG ae ag am aa hq aD
    go_wp2_with (at_builtin;refine a0f rfl rfl a0p rfl rfl aR (.int .i64 y) rfl ?c1 ?c2 ?c3 ?c4 ?_)
    case c1=>simp [go_sem]
    case c2=>rfl
    case c3=>rw [zE];omega
    case c4=>rw [zE];omega
    intro g2 ax w2 ay aq
    go_wp2_with fail
    go_roundg k
    case measure=>omega
    case rel =>
     have a2:g2∉F'\/g2∈F':=by by_cases hh:g2∈F'<;>simp [hh]
     have aX:bt∉[g2]:=fun hm=>by
      simp at hm
      rcases aq.new g2 (by simp) with h9 | h9
      ·exact aP (hm ▸ h9)
      ·have:=aj.lt;simp at h9;omega
     have e1:i+(m+1)=im+1:=by have:=aU.out;omega
     refine ⟨m+1,[g2],by go_num,by omega,?_,(Blk.alloc aj _).chg aq.chg aP,aX,(aF.alloc _).trans aq⟩
     rw [e1,aZ.out,zM]
     have:=ay.toOwn
     exact this
theorem e8u (w:World) (b:Nat) (F ds:List Nat) (p:Nat) (l:List Int) (W d:Nat) (T:List Tok) (h:a1r w b F ds p) (hp:Pts w) (h0F:0∉F) (hw0:1<=W) (hw1:W<=64) (h0:1<=d) (h1:d<=16) (hl:l.length<=4096) (hT:b2p l 0 T) (hok:∀ t∈T,c3j d t) (ha:a0y ds p (a3h T W d)) :
  Calls Tryz.prog 180 #[.pointer (some ⟨b,0,none⟩),.int .i64 l.length,.int .i64 W,.int .i64 d] w fun e w'=>∃ v G,e=.returned (.tuple #[v,.int .i64 0])/\Own w' 3 v G (l.map vi)/\a1r w' b F ds (p+(a3h T W d).length)/\Chg [b] w w'/\∀ x∈G,w.heap.size<=x:=by
 have aV:a3h T W d=a0b (a6u (a0h T)) 5++a0b (a6u (a0l W T)) 5++T.flatMap (a2v (a6u (a0h T)) (a6u (a0l W T)) W d):=rfl
 rw [aV] at ha ⊢
 rw [zC,zC,a0a,a0a]
 have hk:=a8p (a0h T)
 have hj:=a8p (a0l W T)
 generalize a6u (a0h T)=k at *
 generalize a6u (a0l W T)=j at *
 have aS:=a0j w b F ds p 5 k h (by omega) (by omega) ha.left.left
 have aE:=ha.left.right
 have aC:=ha.right
 rw [a0a] at aE
 rw [zC,a0a,a0a] at aC
 have aT:=fun w' (hr:a1r w' b F ds (p+5))=>a0j w' b F ds (p+5) 5 j hr (by omega) (by omega) aE
 obtain ⟨n,hn⟩:=zX (l.length)
 rw [<-hn] at hl ⊢
 have t1:decide ((W:Int)<1)=false:=zA (by omega)
 have t2:decide ((64:Int)<(W:Int))=false:=zA (by omega)
 have t3:decide ((d:Int)<1)=false:=zA (by omega)
 have t4:decide ((16:Int)<(d:Int))=false:=zA (by omega)
 have t5:decide ((n:Int)<0)=false:=zA (by omega)
 have t6:decide ((4096:Int)<(n:Int))=false:=zA (by omega)
 have t7:decide ((25:Int)<(k:Int))=false:=zA (by omega)
 have t8:decide ((25:Int)<(j:Int))=false:=zA (by omega)
 have bl:=b0q (P:=Tryz.prog) a0p rfl .i64 .i64 n (by omega) (by omega)
 have bi:=h.lt b h.mem
 have HN:=hid hn
 have HA:=hid aC
 have HT:=hid hT
 have a9:=hid hok
 have bc:=hid aT
 have a5:=hid h.lt
 have HP:=hid hp
 have bb:Hid (0∉[b]):=hid (by simp;intro e;exact h0F (e ▸ h.mem))
 clear hn aC hT hok aT ha aE aV hp h
 go_enter Tryz.func180,Tryz.ntmps180
 go_wp2_with fail
 refine aS.mono ?_
 rintro e w1 ⟨rfl,aX,aI⟩
 clear aS
 go_wp2_with fail
 refine (bc.out w1 aX).mono ?_
 rintro e w2 ⟨rfl,aB,aG⟩
 have ac:=Row.room w2 n (by omega)
 obtain ⟨B,hB⟩:=zX (w2.heap.size)
 have aM:Chg [] w2 (w2.alloc (.cells (List.replicate n (Value.int .i64 0)).toArray 3)):=(zR [] w2).alloc _
 have aR:=aB.same aM
 have ak:=(aI.tq aG).trans aM (by simp)
 have aQ:w.heap.size<=B:=by rw [hB];exact (aI.tq aG).size
 rw [<-hB] at ac
 have HB:=hid hB
 clear aX aI aG aM hB
 go_wp2_with (go_at_call 69;refine (a2b _ b F ds _ aB).mono ?_;rintro e w' ⟨rfl,rfl⟩)
 rw [<-HB.out]
 go_loopg [13,14,15] T.length (fun q vl va vb wr=>∃ (i p':Nat) (R:List Tok) (F':List Nat),R.length=q/\i<=n/\Own wr 3 vl F' ((l.take i).map vi)/\Hid (b2p l i R)/\Hid (∀ t∈R,c3j d t)/\a1r wr b F ds p'/\Hid (a0y ds p' (R.flatMap (a2v k j W d)))/\Hid (p'+(R.flatMap (a2v k j W d)).length=p+(5+5)+(T.flatMap (a2v k j W d)).length)/\Hid (Chg [b] w wr)/\Hid (∀ x∈F',w.heap.size<=x))
 case atStart=>exact ⟨0,p+(5+5),T,[B],rfl,by omega,by simpa using ac.toOwn,HT,a9,aR.cast (by omega),HA,hid rfl,hid ak,hid (by simpa using aQ)⟩
 case round =>
  clear ac aB aR ak aQ
  obtain ⟨i,p',R,F',aY,bm,aa,aN,aZ,az,a6,aW,aw,al⟩:=hrel
  obtain ⟨A,bg,rfl,aP,bh,ab⟩:=aa.oq
  have aq:(l.take i).length=i:=by rw [zI,<-HN.out];omega
  cases R with
  | nil =>
   have aU:n<=i:=by have:=aN.out;rw [HN.out];exact this
   obtain rfl:n=i:=by omega
   have u1:decide (n<n)=false:=by simp
   have e1:l.take n=l:=by rw [HN.out,zN]
   have a0:=aW.out
   rw [aq]
   rw [aq,e1] at aa
   have aJ:Hid (p'=p+(5+5+(T.flatMap (a2v k j W d)).length)):=hid (by
    rw [show (([]:List Tok).flatMap (a2v k j W d))=[] from rfl,List.length_nil] at a0
    omega)
   clear a0 e1 ab aP aq
   go_wp2_with fail
   go_ret2
   exact ⟨_,F',rfl,aa,az.cast aJ.out,aw.out,al.out⟩
  | cons t R =>
   obtain ⟨aK,au,aO⟩:=aN.out
   rcases gk with _ | q
   ·simp at aY
   have bd:i<n:=by rw [HN.out];exact aK
   have u1:decide (i<n)=true:=zB bd
   have av:=a6.out
   rw [List.flatMap_cons] at av
   have ad:=aZ.out t (by simp)
   have aH:=e5n wr b F ds p' k j W d t az (HP.out.chg aw.out bb.out) h0F hk hj hw0 hw1 h1 ad av.left
   have a7:=hid av.right
   have be:=hid au
   have aL:=hid aO
   have bk:=hid ad
   have ao:=fun w' v F0 (ho:Own w' 3 v F0 ((l.take i).map vi))=>f1m w' l v F0 i t ho (by rw [<-HN.out];exact hl) aK au ad.ok
   have ae:i+max t.len 1<=n:=by
    rcases au with ⟨a1,_,_⟩ | ⟨a1,a2,_⟩
    ·rw [a1];omega
    ·rw [<-HN.out] at a2;omega
   have a4:t.dist<=i:=by
    rcases au with ⟨_,a1,_⟩ | ⟨_,_,_,a1,_⟩
    ·omega
    ·exact a1
   have a3:t.len<=n-i:=by omega
   have a8:=hid ao
   have aA:=hid ae
   obtain ⟨tl,aj⟩:=zX (t.len)
   obtain ⟨td,ai⟩:=zX (t.dist)
   obtain ⟨tx,am⟩:=zX (t.lit)
   have ay:e1a t=.agg #[.int .i64 tl,.int .i64 td,.int .i64 tx]:=by rw [aj,ai,am];rfl
   rw [<-ai] at a4
   rw [<-aj] at a3
   have u2:decide ((i:Int)<(td:Int))=false:=zA (by omega)
   have bf:decide (i<td)=false:=zA (by omega)
   obtain ⟨ni,aU⟩:=zX (n-i)
   have bj:(n:Int)-(i:Int)=(ni:Int):=by omega
   have u3:decide (ni<tl)=false:=zA (by omega)
   have ba:=hid ay
   rw [aq]
   rw [aq] at aa aP
   rw [ay] at aH
   clear av aK au aO ao ae aj ai am ay aU ab ad
   go_wp2_with fail
   refine aH.mono ?_
   rintro e w3 ⟨rfl,ap,ak⟩
   have af:=aa.chg ak (fun x hx hm=>by simp at hm;have:=al.out x hx;omega)
   clear aH az aa
   have ax:=Blk.new w3 201 #[.int .i64 tl,.int .i64 td,.int .i64 tx]
   have k0:=ax.cell 0
   have k1:=ax.cell 1
   have k2:=ax.cell 2
   simp at k0 k1 k2
   have ag:=af.alloc (.cells #[.int .i64 tl,.int .i64 td,.int .i64 tx] 201)
   have ah:=a8.out _ _ _ ag
   rw [ba.out] at ah
   have aD:=hid ap
   have ar:=hid ak
   clear af ag ap ak ax
   go_wp2_with fail
   refine ah.mono ?_
   rintro e w5 ⟨v5,F5,rfl,an,aF⟩
   clear ah k0 k1 k2
   go_wp2_with fail
   go_roundg q
   case measure=>omega
   case rel =>
    refine ⟨i+max t.len 1,p'+(a2v k j W d t).length,R,F5,by simpa using aY,aA.out,an,aL,hid (fun t' ht'=>aZ.out t' (by simp [ht'])),(aD.out.same ((zR [] w3).alloc _)).chg aF.chg (fun x hx hm=>by have:=a5.out x hx;have:=al.out x hm;omega),a7,hid ?_,hid ?_,hid ?_⟩
    ·have:=aW.out
     rw [List.flatMap_cons,zC] at this
     omega
    ·exact ((aw.out.tq ar.out).alloc _).trans aF.chg (fun x hx => .inr (al.out x hx))
    ·intro x hx
     rcases aF.new x hx with h9 | h9
     ·exact al.out x h9
     ·have:=aw.out.size;have:=ar.out.size;simp at h9;omega
end Go.Proofs.YtepjepkgcdfboaaGreatDoor
