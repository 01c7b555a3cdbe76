/- package match by its contracts, the second part: distances. -/
import Derived.Test.YtijpbkakncglgaaGreatDoorMg16
import Derived.Test.YtijpbkakncglgaaGreatDoorMg17
import Derived.Test.YtijpbkakncglgaaGreatDoorMg36
set_option linter.unusedVariables false
set_option linter.unusedSimpArgs false
set_option maxHeartbeats 4000000
set_option maxRecDepth 100000
namespace Go.Proofs.YtijpbkakncglgaaGreatDoor
open Go.RowKit
theorem zero95:Tryz.zeroCells154=((List.replicate 65 0).map i64).toArray:=by kernel_rfl
theorem zero94:Tryz.zeroCells153=((List.replicate 1025 0).map i64).toArray:=by kernel_rfl
theorem mdist_ok (l:List Int) (A:Option Addr) (cap at_ br:Nat) (rs:List Nat) (w:World) (hat:at_<l.length) (hll:l.length≤4096) (hc:Cells vi w A l) (hr:Vec w br 153 rs) (hro:RunsOk rs) (hA:Apt A l [br]) :
  Calls Tryz.prog 129 #[.slice A l.length cap,.int .i64 at_,.pointer (some ⟨br,0,none⟩)] w fun e w' =>
   e=.returned (.agg ((distF l at_ rs).dists.map i64).toArray)∧Vec w' br 153 (distF l at_ rs).runs∧Chg [br] w w':=by
 have hbr:=Blk.lt hr
 obtain ⟨n,hn⟩:∃ n,n=l.length:=⟨_,rfl⟩
 rw [←hn] at hat hll ⊢
 obtain ⟨M,hM⟩:∃ M,M=min at_ 1024:=⟨_,rfl⟩
 have hdf:distF l at_ rs=dGo l at_ M 1 (dStart rs):=by rw [hM];rfl
 rw [hdf]
 have hok0:=dStart_ok hro
 obtain ⟨S,hS⟩:∃ S,S=dGo l at_ M 1 (dStart rs):=⟨_,rfl⟩
 have hSok:S.Ok:=by rw [hS];exact dGo_ok _ _ _ hok0 (by omega)
 rw [←hS]
 have HN:=hid hn
 have HS:=hid hS
 have HA:=hid hA
 have HOK0:=hid hok0
 have HSOK:=hid hSok
 have hM1:M≤at_:=by omega
 have hM2:M≤1024:=by omega
 have hM3:at_≤M∨1024≤M:=by omega
 have hz6:Vec (w.alloc (.cells Tryz.zeroCells154 154)) w.heap.size 154 (List.replicate 65 0):=by have:=Blk.new w 154 Tryz.zeroCells154;rw [zero95] at this;rw [zero95];exact this
 have hz7:Vec ((w.alloc (.cells Tryz.zeroCells154 154)).alloc (.cells Tryz.zeroCells154 154)) (w.heap.size+1) 154 (List.replicate 65 0):=by
  have:=Blk.new (w.alloc (.cells Tryz.zeroCells154 154)) 154 Tryz.zeroCells154
  rw [show (w.alloc (.cells Tryz.zeroCells154 154)).heap.size=w.heap.size+1 by simp] at this
  rw [zero95] at this ⊢
  exact this
 have ch0:Chg [br] w ((w.alloc (.cells Tryz.zeroCells154 154)).alloc (.cells Tryz.zeroCells154 154)):=((Chg.refl [br] w).alloc _).alloc _
 have hz6':Vec ((w.alloc (.cells Tryz.zeroCells154 154)).alloc (.cells Tryz.zeroCells154 154)) w.heap.size 154 (List.replicate 65 0):=Blk.alloc hz6 _
 have hr':Vec ((w.alloc (.cells Tryz.zeroCells154 154)).alloc (.cells Tryz.zeroCells154 154)) br 153 rs:=Blk.alloc (Blk.alloc hr _) _
 have hmin:(if (1024:Int)<(at_:Int) then (1024:Int) else (at_:Int))=(M:Int):=by split<;>omega
 clear hn hdf hS hA hok0 hSok hro hM hr hz6 hM3
 go_enter Tryz.func129,Tryz.ntmps129
 go_wp2_with fail
 go_loopg [8,9] M (fun j m iv wr=>∃ (d:Nat) (s:DSt),iv=.int .i64 d∧m=.int .i64 s.longest∧d+j=M+1∧1≤d∧Hid (S=dGo l at_ j d s)∧Hid s.Ok∧Vec wr br 153 s.runs∧Vec wr (w.heap.size+1) 154 s.dists∧Vec wr w.heap.size 154 (List.replicate 65 0)∧Chg [br] w wr)
 case atStart=>exact ⟨1,dStart rs,rfl,rfl,by omega,Nat.le_refl _,HS,HOK0,hr',hz7,hz6',ch0⟩
 case round =>
  obtain ⟨d,s,rfl,rfl,hj,hd1,HG,HSO,hvr,hv7,hv6,hch⟩:=hrel
  rcases gk with _ | j
  ·have hSs:S=s:=HG.out
   have hdM:d=M+1:=by omega
   clear HG
   have t1:decide ((d:Int)≤(M:Int))=false:=zA (by omega)
   have hi65:(Tryz.prog.info? 154).map (·.size)=some 65:=by kernel_rfl
   subst hSs
   have hlen:(S.dists.map i64).length=65:=by rw [zE];exact HSOK.out.dl
   have hsz:(S.dists.map i64).toArray.size=65:=by simpa using hlen
   have hz65:(List.replicate 65 0 |>.map i64).toArray.size=65:=by simp
   have hfin:Blk (wr.setCells w.heap.size 0 (S.dists.map i64)) w.heap.size 154 (S.dists.map i64).toArray:=Blk.setCells hv6 _ (by rw [hz65,hlen])
   have hch2:Chg [br] w (wr.setCells w.heap.size 0 (S.dists.map i64)):=Chg.setCells (.inr (Nat.le_refl _)) _ _ _ hch
   have hvr2:Vec (wr.setCells w.heap.size 0 (S.dists.map i64)) br 153 S.runs:=Blk.chg hvr (Chg.setCells (F:=[w.heap.size]) (.inl (by simp)) _ _ _ (Chg.refl _ _)) (by simp;omega)
   have HE:(S.dists.map i64).toArray.toList=S.dists.map i64:=rfl
   go_wp2_with (first
    | refine wpList_load_row rfl 154 (.tmp 7) rfl (w.heap.size+1) rfl _ _ _ _ hv7 Tryz.underlying154 rfl (by rw [hsz];exact hi65) ?_
    | refine wpList_store_mid rfl 154 (.tmp 6) (.tmp 54) rfl w.heap.size 0 (S.dists.map i64).toArray rfl rfl (Blk.there hv6 (by rw [hsz,hz65];exact Nat.le_refl _)) (by rw [hsz];exact hi65) (vec_one _) ?_)
   all_goals exact bodyPost_ret (v:=.agg (S.dists.map i64).toArray) (results_cell_row rfl _ _ w.heap.size _ _ (0,0) _ rfl hfin Tryz.underlying154 rfl (by rw [hsz];exact hi65)) rfl ⟨rfl,hvr2,hch2⟩
  ·have hdM:d≤M:=by omega
   have hso:=HSO.out
   have hdl:d<s.runs.length:=by rw [hso.rl];omega
   have hcr:Cells vi wr A l:=hc.keep HA.out hch
   have hal:at_<l.length:=by rw [←HN.out];exact hat
   have hdl2:at_-d<l.length:=by omega
   obtain ⟨g,o,rfl,ca⟩:=hcr.at_ hal
   obtain ⟨g',o',e',cb⟩:=hcr.at_ hdl2
   injection e' with e'
   injection e' with e1 e2 _
   subst e1
   subst e2
   have ga:l[at_]=l.getD at_ 0:=by rw [zD,zF hal];rfl
   have gb:l[at_-d]=l.getD (at_-d) 0:=by rw [zD,zF hdl2];rfl
   rw [ga] at ca
   rw [gb] at cb
   have hgo:dGo l at_ (j+1) d s=dGo l at_ j (d+1) (dStep l at_ s d):=rfl
   rw [hgo] at HG
   have hso2:=dStep_ok (l:=l) (at_:=at_) hso (show d≤1024 by omega)
   have hrun:runAt l at_ s.runs d=if l.getD at_ 0=l.getD (at_-d) 0 then min (s.runs.getD d 0+1) 64 else 0:=rfl
   have hrle:=runAt_le l at_ s.runs d
   have hstep:dStep l at_ s d=⟨s.runs.set d (runAt l at_ s.runs d),fillD (runAt l at_ s.runs d-s.longest) s.dists s.longest d,max s.longest (runAt l at_ s.runs d)⟩:=rfl
   have hxa:=hso.l64
   have hr64:s.runs.getD d 0≤64:=by rw [zD,zF hdl];exact hso.r64 _ (zG hdl)
   have crun:=hvr.cell hdl
   have frun:=Blk.frozen hvr d
   generalize runAt l at_ s.runs d=r at *
   generalize l.getD at_ 0=xa at *
   generalize l.getD (at_-d) 0=xb at *
   generalize s.runs.getD d 0=ro at *
   have ca':wr.cell? ⟨g,o+at_,none⟩=some (.int .i64 xa):=ca
   have cb':wr.cell? ⟨g,o+(at_-d),none⟩=some (.int .i64 xb):=cb
   have ead:(at_:Int)-(d:Int)=((at_-d:Nat):Int):=by omega
   obtain ⟨ad,hadn⟩:∃ ad,ad=at_-d:=⟨_,rfl⟩
   rw [←hadn] at cb' ead hdl2
   have hadl:ad<n:=by rw [HN.out];exact hdl2
   have t1:decide ((d:Int)≤(M:Int))=true:=zB (by omega)
   have HHS:=hid hstep
   have HHR:=hid hrun
   have HO2:=hid hso2
   clear ca cb ga gb hgo hso2 hstep hso hal hdl hdl2 hcr hrun hadn
   have HOR:Hid (xa≠xb→r=0):=hid fun hq=>by rw [HHR.out,if_neg hq]
   have HOE:Hid (xa=xb→r=min (ro+1) 64):=hid fun hq=>by rw [HHR.out,if_pos hq]
   clear HHR
   have hsplit:(xa=xb∧r=ro+1∧ro<64)∨(xa=xb∧r=64∧ro=64)∨(xa≠xb∧r=0):=by
    by_cases hq:xa=xb
    ·have:=HOE.out hq
     omega
    ·exact .inr (.inr ⟨hq,HOR.out hq⟩)
   clear HOR HOE
   rcases hsplit with ⟨hq,hr1,hr2⟩ | ⟨hq,hr1,hr2⟩ | ⟨hq,hr1⟩
   ·have t3:(xa==xb)=true:=by simpa using hq
    have t4:decide ((64:Int)<(ro:Int)+1)=false:=zA (by omega)
    have er:(ro:Int)+1=(r:Int):=by omega
    clear hr1 hq
    go_upto_region 6 with (fail)
    go_quiet (fail)
    go_upto_region 7 with (fail)
    have hvr1:=hvr.chg ((Chg.refl [] wr).drewN nq) (by simp)
    have crun1:=hvr1.cell (i:=d) (by rw [HSO.out.rl];omega)
    have frun1:=Blk.frozen hvr1 d
    refine wp_region_quiet_tail 11 (by kernel_rfl) (by kernel_rfl) ?_
    simp only [List.take_succ_cons,List.take_zero,List.drop_succ_cons,List.drop_zero]
    repeat (go_big_quiet_step (fail))
    refine wpQuiet_nil ?_
    intro _ hw'
    obtain ⟨nq2,rfl⟩:=hw'
    go_wp2_with fail
    have hvr2:=hvr.chg ((Chg.refl [] wr).drewN (nq+nq2)) (by simp)
    have xvr:=hvr2.set_ d r
    have xv7:=Blk.far (hv7.chg ((Chg.refl [] wr).drewN (nq+nq2)) (by simp)) (p:=⟨br,d,none⟩) (by simp;omega) (.int .i64 r)
    have xv6:=Blk.far (hv6.chg ((Chg.refl [] wr).drewN (nq+nq2)) (by simp)) (p:=⟨br,d,none⟩) (by simp;omega) (.int .i64 r)
    have xch:=(hch.drewN (nq+nq2)).setCell (p:=⟨br,d,none⟩) (.inl (by simp)) (.int .i64 r)
    have hdd:(s.runs.set d r).length=1025:=by rw [List.length_set];exact HSO.out.rl
    have hgd:(s.runs.set d r).getD d 0=r:=by rw [zD,List.getElem?_set_self (by rw [HSO.out.rl];omega)];rfl
    have HDD:=hid hdd
    have HGD:=hid hgd
    clear hdd hgd crun frun crun1 frun1 hvr hvr1 hv7 hv6 hch
    go_loopg [8] (r-s.longest) (fun j2 iv wr2=>∃ (m:Nat) (D:List Nat),iv=.int .i64 m∧Hid (fillD (r-s.longest) s.dists s.longest d=fillD j2 D m d)∧m+j2=max s.longest r∧s.longest≤m∧Hid (D.length=65)∧Vec wr2 br 153 (s.runs.set d r)∧Vec wr2 (w.heap.size+1) 154 D∧Vec wr2 w.heap.size 154 (List.replicate 65 0)∧Chg [br] w wr2)
    case atStart=>exact ⟨s.longest,s.dists,rfl,hid rfl,by omega,Nat.le_refl _,hid HSO.out.dl,xvr,xv7,xv6,xch⟩
    case round =>
     obtain ⟨m,D,rfl,HF,hm1,hm2,HDL,yvr,yv7,yv6,ych⟩:=hrel
     clear xvr xv7 xv6 xch
     have yc:=yvr.cell (i:=d) (by rw [HDD.out];omega)
     rw [HGD.out] at yc
     rcases gk with _ | j2
     ·have t5:decide ((m:Int)<(r:Int))=false:=zA (by omega)
      go_wp2_with fail
      go_roundg j
      case measure=>omega
      case rel =>
       have hD:fillD (r-s.longest) s.dists s.longest d=D:=HF.out
       refine ⟨d+1,dStep l at_ s d,by go_num,?_,by omega,by omega,HG,HO2,?_,?_,yv6,ych⟩
       ·rw [HHS.out];exact congrArg (fun z:Nat=>Value.int .i64 z) (show m=max s.longest r by omega)
       ·rw [HHS.out];exact yvr
       ·rw [HHS.out];show Vec _ _ _ (fillD (r-s.longest) s.dists s.longest d);rw [hD];exact yv7
     ·have hmr:m<r:=by omega
      have t5:decide ((m:Int)<(r:Int))=true:=zB (by omega)
      have cD:=yv7.cell (i:=m+1) (by rw [HDL.out];omega)
      have fD:=Blk.frozen yv7 (m+1)
      go_wp2_with fail
      go_roundg j2
      case measure=>omega
      case rel =>
       refine ⟨m+1,D.set (m+1) d,by go_num,HF,by omega,by omega,hid (by rw [List.length_set];exact HDL.out),Blk.far yvr (by simp;omega) _,yv7.set_ _ _,Blk.far yv6 (by simp) _,ych.setCell (.inr (by simp)) _⟩
   ·have t3:(xa==xb)=true:=by simpa using hq
    have t4:decide ((64:Int)<(ro:Int)+1)=true:=zB (by omega)
    have t4':(64:Int)<(ro:Int)+1:=by omega
    have HR1:=hid hr1
    have HR2:=hid hr2
    clear hr1 hr2 hq
    go_upto_region 6 with (fail)
    go_quiet (fail)
    go_upto_region 7 with (fail)
    have hvr1:=hvr.chg ((Chg.refl [] wr).drewN nq) (by simp)
    have crun1:=hvr1.cell (i:=d) (by rw [HSO.out.rl];omega)
    have frun1:=Blk.frozen hvr1 d
    refine wp_region_quiet_tail 11 (by kernel_rfl) (by kernel_rfl) ?_
    simp only [List.take_succ_cons,List.take_zero,List.drop_succ_cons,List.drop_zero]
    repeat (go_big_quiet_step (fail))
    refine wpQuiet_nil ?_
    intro _ hw'
    obtain ⟨nq2,rfl⟩:=hw'
    go_wp2_with fail
    have hvr2:=hvr.chg ((Chg.refl [] wr).drewN (nq+nq2)) (by simp)
    have xvr:Vec (((wr.drewN (nq+nq2))).setCell ⟨br,d,none⟩ (.int .i64 64)) br 153 (s.runs.set d r):=by rw [HR1.out];exact hvr2.set_ d 64
    have xv7:=Blk.far (hv7.chg ((Chg.refl [] wr).drewN (nq+nq2)) (by simp)) (p:=⟨br,d,none⟩) (by simp;omega) (.int .i64 64)
    have xv6:=Blk.far (hv6.chg ((Chg.refl [] wr).drewN (nq+nq2)) (by simp)) (p:=⟨br,d,none⟩) (by simp;omega) (.int .i64 64)
    have xch:=(hch.drewN (nq+nq2)).setCell (p:=⟨br,d,none⟩) (.inl (by simp)) (.int .i64 64)
    have hdd:(s.runs.set d r).length=1025:=by rw [List.length_set];exact HSO.out.rl
    have hgd:(s.runs.set d r).getD d 0=r:=by rw [zD,List.getElem?_set_self (by rw [HSO.out.rl];omega)];rfl
    have HDD:=hid hdd
    have HGD:=hid hgd
    clear hdd hgd crun frun crun1 frun1 hvr hvr1 hv7 hv6 hch
    go_loopg [8] (r-s.longest) (fun j2 iv wr2=>∃ (m:Nat) (D:List Nat),iv=.int .i64 m∧Hid (fillD (r-s.longest) s.dists s.longest d=fillD j2 D m d)∧m+j2=max s.longest r∧s.longest≤m∧Hid (D.length=65)∧Vec wr2 br 153 (s.runs.set d r)∧Vec wr2 (w.heap.size+1) 154 D∧Vec wr2 w.heap.size 154 (List.replicate 65 0)∧Chg [br] w wr2)
    case atStart=>exact ⟨s.longest,s.dists,rfl,hid rfl,by omega,Nat.le_refl _,hid HSO.out.dl,xvr,xv7,xv6,xch⟩
    case round =>
     obtain ⟨m,D,rfl,HF,hm1,hm2,HDL,yvr,yv7,yv6,ych⟩:=hrel
     clear xvr xv7 xv6 xch
     have yc:=yvr.cell (i:=d) (by rw [HDD.out];omega)
     rw [HGD.out] at yc
     rcases gk with _ | j2
     ·have t5:decide ((m:Int)<(r:Int))=false:=zA (by omega)
      go_wp2_with fail
      go_roundg j
      case measure=>omega
      case rel =>
       have hD:fillD (r-s.longest) s.dists s.longest d=D:=HF.out
       refine ⟨d+1,dStep l at_ s d,by go_num,?_,by omega,by omega,HG,HO2,?_,?_,yv6,ych⟩
       ·rw [HHS.out];exact congrArg (fun z:Nat=>Value.int .i64 z) (show m=max s.longest r by omega)
       ·rw [HHS.out];exact yvr
       ·rw [HHS.out];show Vec _ _ _ (fillD (r-s.longest) s.dists s.longest d);rw [hD];exact yv7
     ·have hmr:m<r:=by omega
      have t5:decide ((m:Int)<(r:Int))=true:=zB (by omega)
      have cD:=yv7.cell (i:=m+1) (by rw [HDL.out];omega)
      have fD:=Blk.frozen yv7 (m+1)
      go_wp2_with fail
      go_roundg j2
      case measure=>omega
      case rel =>
       refine ⟨m+1,D.set (m+1) d,by go_num,HF,by omega,by omega,hid (by rw [List.length_set];exact HDL.out),Blk.far yvr (by simp;omega) _,yv7.set_ _ _,Blk.far yv6 (by simp) _,ych.setCell (.inr (by simp)) _⟩
   ·have t3:(xa==xb)=false:=by simpa using hq
    have HR1:=hid hr1
    clear hr1 hq
    go_upto_region 6 with (fail)
    go_quiet (fail)
    have crun1:=(hvr.chg ((Chg.refl [] wr).drewN nq) (by simp)).cell (i:=d) (by rw [HSO.out.rl];omega)
    have frun1:=Blk.frozen (hvr.chg ((Chg.refl [] wr).drewN nq) (by simp)) d
    go_wp2_with fail
    have hvr2:=hvr.chg ((Chg.refl [] wr).drewN nq) (by simp)
    have xvr:Vec (((wr.drewN nq)).setCell ⟨br,d,none⟩ (.int .i64 0)) br 153 (s.runs.set d r):=by rw [HR1.out];exact hvr2.set_ d 0
    have xv7:=Blk.far (hv7.chg ((Chg.refl [] wr).drewN nq) (by simp)) (p:=⟨br,d,none⟩) (by simp;omega) (.int .i64 0)
    have xv6:=Blk.far (hv6.chg ((Chg.refl [] wr).drewN nq) (by simp)) (p:=⟨br,d,none⟩) (by simp;omega) (.int .i64 0)
    have xch:=(hch.drewN nq).setCell (p:=⟨br,d,none⟩) (.inl (by simp)) (.int .i64 0)
    have hdd:(s.runs.set d r).length=1025:=by rw [List.length_set];exact HSO.out.rl
    have hgd:(s.runs.set d r).getD d 0=r:=by rw [zD,List.getElem?_set_self (by rw [HSO.out.rl];omega)];rfl
    have HDD:=hid hdd
    have HGD:=hid hgd
    clear hdd hgd crun frun crun1 frun1 hvr hv7 hv6 hch
    go_loopg [8] (r-s.longest) (fun j2 iv wr2=>∃ (m:Nat) (D:List Nat),iv=.int .i64 m∧Hid (fillD (r-s.longest) s.dists s.longest d=fillD j2 D m d)∧m+j2=max s.longest r∧s.longest≤m∧Hid (D.length=65)∧Vec wr2 br 153 (s.runs.set d r)∧Vec wr2 (w.heap.size+1) 154 D∧Vec wr2 w.heap.size 154 (List.replicate 65 0)∧Chg [br] w wr2)
    case atStart=>exact ⟨s.longest,s.dists,rfl,hid rfl,by omega,Nat.le_refl _,hid HSO.out.dl,xvr,xv7,xv6,xch⟩
    case round =>
     obtain ⟨m,D,rfl,HF,hm1,hm2,HDL,yvr,yv7,yv6,ych⟩:=hrel
     clear xvr xv7 xv6 xch
     have yc:=yvr.cell (i:=d) (by rw [HDD.out];omega)
     rw [HGD.out] at yc
     rcases gk with _ | j2
     ·have t5:decide ((m:Int)<(r:Int))=false:=zA (by omega)
      go_wp2_with fail
      go_roundg j
      case measure=>omega
      case rel =>
       have hD:fillD (r-s.longest) s.dists s.longest d=D:=HF.out
       refine ⟨d+1,dStep l at_ s d,by go_num,?_,by omega,by omega,HG,HO2,?_,?_,yv6,ych⟩
       ·rw [HHS.out];exact congrArg (fun z:Nat=>Value.int .i64 z) (show m=max s.longest r by omega)
       ·rw [HHS.out];exact yvr
       ·rw [HHS.out];show Vec _ _ _ (fillD (r-s.longest) s.dists s.longest d);rw [hD];exact yv7
     ·have hmr:m<r:=by omega
      have t5:decide ((m:Int)<(r:Int))=true:=zB (by omega)
      have cD:=yv7.cell (i:=m+1) (by rw [HDL.out];omega)
      have fD:=Blk.frozen yv7 (m+1)
      go_wp2_with fail
      go_roundg j2
      case measure=>omega
      case rel =>
       refine ⟨m+1,D.set (m+1) d,by go_num,HF,by omega,by omega,hid (by rw [List.length_set];exact HDL.out),Blk.far yvr (by simp;omega) _,yv7.set_ _ _,Blk.far yv6 (by simp) _,ych.setCell (.inr (by simp)) _⟩
theorem tok_elem:Elem Tryz.prog 115 132 (.agg #[.int .i64 0,.int .i64 0,.int .i64 0]) 3 24:=.mk' Tryz.underlying115 (by kernel_rfl)
def TVec (w:World) (g:Nat) (l:List Tok):Prop:=Blk w g 132 (l.flatMap tokCells).toArray
theorem TVec.cell {w:World} {g:Nat} {l:List Tok} (h:TVec w g l) {i:Nat} (hi:i<l.length) :
  w.cell? ⟨g,i*3,none⟩=some (.int .i64 (tokAt l i).len)∧w.cell? ⟨g,i*3+1,none⟩=some (.int .i64 (tokAt l i).dist)∧w.cell? ⟨g,i*3+2,none⟩=some (.int .i64 (tokAt l i).lit):=by
 have hg:l[i]?=some (tokAt l i):=by unfold tokAt;rw [zD,zF hi];rfl
 obtain ⟨a,b,c⟩:=tok_flat_get hg
 refine ⟨?_,?_,?_⟩
 ·rw [Blk.cell h];simpa using a
 ·rw [Blk.cell h];simpa using b
 ·rw [Blk.cell h];simpa using c
theorem flat_set (l:List Tok) (i:Nat) (t:Tok):(((l.flatMap tokCells).set (i*3) (.int .i64 t.len)).set (i*3+1) (.int .i64 t.dist)).set (i*3+2) (.int .i64 t.lit)=(l.set i t).flatMap tokCells:=by
 induction l generalizing i with
 | nil=>simp
 | cons s l ih =>
  cases i with
  | zero=>simp [tokCells]
  | succ i =>
   rw [List.set_cons_succ,List.flatMap_cons,List.flatMap_cons,←ih i]
   have e:tokCells s=[.int .i64 s.len,.int .i64 s.dist,.int .i64 s.lit]:=rfl
   rw [e,show (i+1)*3=i*3+1+1+1 by omega,show i*3+1+1+1+1=(i*3+1)+1+1+1 by omega,show i*3+1+1+1+2=(i*3+2)+1+1+1 by omega]
   simp only [List.cons_append,List.nil_append,List.set_cons_succ]
theorem TVec.set_ {w:World} {g:Nat} {l:List Tok} (h:TVec w g l) (i:Nat) (t:Tok) :
  TVec (((w.setCell ⟨g,i*3,none⟩ (.int .i64 t.len)).setCell ⟨g,i*3+1,none⟩ (.int .i64 t.dist)).setCell ⟨g,i*3+2,none⟩ (.int .i64 t.lit)) g (l.set i t):=by
 have h1:=((Blk.set_ h (i*3) (.int .i64 t.len)).set_ (i*3+1) (.int .i64 t.dist)).set_ (i*3+2) (.int .i64 t.lit)
 unfold TVec
 rw [←flat_set]
 simpa using h1
theorem madeCells3 (v:Value) (n:Nat):madeCells #[v,v,v] (n*3)=(List.replicate (n*3) v).toArray:=by
 apply Array.ext
 ·simp [size_madeCells]
 ·intro j h1 h2
  have h3:j%3<3:=Nat.mod_lt _ (by decide)
  have:∀ k,k<3→(#[v,v,v]:Array Value)[k]! = v:=fun k hk=>by
   match k,hk with
   | 0,_=>rfl
   | 1,_=>rfl
   | 2,_=>rfl
  simp only [madeCells,Array.getElem_map,Array.getElem_range,List.getElem_toArray,List.getElem_replicate]
  exact this _ h3
theorem flat_zero (n:Nat):(List.replicate n (⟨0,0,0⟩:Tok)).flatMap tokCells=List.replicate (n*3) (.int .i64 0):=by
 induction n with
 | zero=>rfl
 | succ n ih =>
  rw [List.replicate_succ,List.flatMap_cons,ih,show (n+1)*3=n*3+1+1+1 by omega,List.replicate_succ,List.replicate_succ,List.replicate_succ]
  rfl
theorem make_toks (kl kc:IntKind) (n:Nat) (hn:n≤1099511627776) (w:World) :
  (Instr.makeSlice 115 (.int kl (n:Int)) (.int kc (n:Int))).run Tryz.prog w=.ok (.slice (some ⟨w.heap.size,0,none⟩) n n) (w.alloc (.cells ((List.replicate n (⟨0,0,0⟩:Tok)).flatMap tokCells).toArray 132)):=by
 obtain ⟨i,hi,hz,hsize,hby⟩:=tok_elem.hi
 have hr:=run_make (P:=Tryz.prog) w 115 132 i _ tok_elem.ht hi hz kl kc n n (by omega) (Int.le_refl _) (by rw [hby];omega) (by omega)
 rw [hr,hsize,flat_zero]
 simp only [Int.toNat_natCast]
 have e:(Value.agg #[.int .i64 0,.int .i64 0,.int .i64 0]).cells=#[.int .i64 0,.int .i64 0,.int .i64 0]:=rfl
 rw [e,madeCells3]
theorem idx65 (D:List Nat) (hD:D.length=65) (m:Nat) (hm:m<65) (w:World) :
  (Instr.index 154 (.agg (D.map i64).toArray) (.int .i64 m)).run Tryz.prog w=.ok (.int .i64 (D.getD m 0:Nat)) w:=by
 have h5:D[m]?=some (D.getD m 0):=by
  have:m<D.length:=by omega
  simp [zD,zF this]
 generalize D.getD m 0=x at *
 have h6:(0:Int)≤(m:Int)∧(m:Int)<65:=by omega
 simp [Instr.index,run_underlying Tryz.underlying154,asIntOf,go_sem,h6,h5,hm,i64]
structure IsLs (w:World) (b:Nat) (s:LSt):Prop where
 vr:Vec w b 153 s.runs
 vc:Vec w (b+1) 3 s.costs
 vf:TVec w (b+1+1) s.first
theorem ls_new (w:World) (n:Nat):IsLs (((w.alloc (.cells Tryz.zeroCells153 153)).alloc (.cells (List.replicate (n+1) (Value.int .i64 0)).toArray 3)).alloc (.cells ((List.replicate n (⟨0,0,0⟩:Tok)).flatMap tokCells).toArray 132)) w.heap.size (lStart n):=by
 refine ⟨Blk.alloc (Blk.alloc ?_ _) _,Blk.alloc ?_ _,?_⟩
 ·have:=Blk.new w 153 Tryz.zeroCells153
  rw [zero94] at this ⊢
  exact this
 ·have:=Blk.new (w.alloc (.cells Tryz.zeroCells153 153)) 3 (List.replicate (n+1) (Value.int .i64 0)).toArray
  rw [show (w.alloc (.cells Tryz.zeroCells153 153)).heap.size=w.heap.size+1 by simp] at this
  have e:((lStart n).costs.map i64).toArray=(List.replicate (n+1) (Value.int .i64 0)).toArray:=by
   show ((List.replicate (n+1) 0).map i64).toArray=_
   rw [List.map_replicate]
   rfl
  rw [←e] at this ⊢
  exact this
 ·have:=Blk.new ((w.alloc (.cells Tryz.zeroCells153 153)).alloc (.cells (List.replicate (n+1) (Value.int .i64 0)).toArray 3)) 132 ((List.replicate n (⟨0,0,0⟩:Tok)).flatMap tokCells).toArray
  rw [show ((w.alloc (.cells Tryz.zeroCells153 153)).alloc (.cells (List.replicate (n+1) (Value.int .i64 0)).toArray 3)).heap.size=w.heap.size+1+1 by simp] at this
  exact this
theorem IsLs.same {w w':World} {b:Nat} {s:LSt} (h:IsLs w b s) (hc:Chg [] w w'):IsLs w' b s:=⟨h.vr.chg hc (by simp),h.vc.chg hc (by simp),Blk.chg h.vf hc (by simp)⟩
theorem least_ok (l:List Int) (A:Option Addr) (cap lit cp:Nat) (w:World) (hll:l.length≤4096) (hc:Cells vi w A l) (h0:1≤lit) (h1:lit≤1048576) (h2:1≤cp) (h3:cp≤1048576) :
  Calls Tryz.prog 91 #[.slice A l.length cap,.int .i64 lit,.int .i64 cp] w fun e w' =>
   ∃ (A':Option Addr) (cap':Nat),e=.returned (.slice A' (leastF l lit cp).length cap')∧Toks w' A' (leastF l lit cp)∧Chg [] w w'∧∀ ad,A'=some ad→w.heap.size≤ad.block:=by
 have hlen:=leastF_len l lit cp
 have htf:leastF l lit cp=tokGo (leastSt l lit cp).first l.length l.length 0:=rfl
 have hst:leastSt l lit cp=lGo l lit cp l.length (lStart l.length):=rfl
 have hok:=leastSt_ok l lit cp
 have hok0:=lStart_ok l.length lit
 have hstep:=fun k s (a:LSt.Ok l.length lit (k+1) s) (b:k<l.length)=>lStep_ok (l:=l) (cp:=cp) a b
 have hbeg:=fun k s (a:LSt.Ok l.length lit (k+1) s) (b:k<l.length)=>lBeg_ok (l:=l) a b
 have hdist:=fun at_ br rs w (a:at_<l.length) (b:Cells vi w A l) c d e=>mdist_ok l A cap at_ br rs w a hll b c d e
 obtain ⟨T,hT⟩:∃ T,T=leastF l lit cp:=⟨_,rfl⟩
 rw [←hT] at htf hlen ⊢
 obtain ⟨S,hS⟩:∃ S,S=leastSt l lit cp:=⟨_,rfl⟩
 rw [←hS] at htf hst hok
 obtain ⟨n,hn⟩:∃ n,n=l.length:=⟨_,rfl⟩
 rw [←hn] at htf hst hok hok0 hstep hbeg hdist hll hlen ⊢
 have t1:decide ((lit:Int)<1)=false:=zA (by omega)
 have t2:decide ((1048576:Int)<(lit:Int))=false:=zA (by omega)
 have t3:decide ((cp:Int)<1)=false:=zA (by omega)
 have t4:decide ((1048576:Int)<(cp:Int))=false:=zA (by omega)
 have hmk1:=run_make1 (P:=Tryz.prog) int_elem rfl .i64 .i64 (n+1) (by omega) (by omega)
 have e1:((n+1:Nat):Int)=(n:Int)+1:=by omega
 rw [e1] at hmk1
 have hmk2:=make_toks .i64 .i64 n (by omega)
 have HT:=hid htf
 have HS:=hid hst
 have HOK:=hid hok
 have HOK0:=hid hok0
 have HST:=hid hstep
 have HBG:=hid hbeg
 have HDI:=hid hdist
 have HN:=hid hn
 have HLN:=hid hlen
 clear htf hst hok hok0 hstep hbeg hdist hn hlen hT hS
 go_enter Tryz.func91,Tryz.ntmps91
 go_wp2_with fail
 have hls:=ls_new w n
 have hch:Chg [] w (((w.alloc (.cells Tryz.zeroCells153 153)).alloc (.cells (List.replicate (n+1) (Value.int .i64 0)).toArray 3)).alloc (.cells ((List.replicate n (⟨0,0,0⟩:Tok)).flatMap tokCells).toArray 132)):=(((Chg.refl [] w).alloc _).alloc _).alloc _
 have eR:(List.replicate (n+1) (Value.int .i64 0)).toArray=Array.replicate (n+1) (Value.int .i64 0):=by simp
 rw [eR] at hls hch
 clear hmk1 hmk2 eR
 go_loopg [10] n (fun k iv wr=>∃ (s:LSt) (a:Int),iv=.int .i64 a∧a=(k:Int)-1∧k≤n∧Hid (S=lGo l lit cp k s)∧Hid (s.Ok n lit k)∧IsLs wr w.heap.size s∧Chg [] w wr)
 case atStart=>exact ⟨lStart n,_,rfl,rfl,Nat.le_refl _,HS,HOK0,hls,hch⟩
 case round =>
  obtain ⟨s,a,rfl,ha,hkn,HG,HSO,hls,hch⟩:=hrel
  rcases gk with _ | k
  ·have hneg:a<0:=by omega
   clear ha
   have tn:decide ((0:Int)≤a)=false:=zA (by omega)
   have hSs:S=s:=HG.out
   subst hSs
   have hfl:S.first.length=n:=HOK.out.pair.fl
   have hfo:∀ t∈S.first,t.ok:=HOK.out.pair.fo
   have HFL:=hid hfl
   have HFO:=hid hfo
   have hvf:=hls.vf
   clear hfl hfo hls hc
   go_wp2_with fail
   go_loopg [14,15] n (fun j v iv wr=>∃ (i:Nat) (done:List Tok) (F:List Nat),iv=.int .i64 i∧Hid (T=done++tokGo S.first n j i)∧n≤i+j∧i≤n+64∧OwnK wr 132 3 v F done.length (done.flatMap tokCells)∧(∀ x∈F,w.heap.size+1+1<x)∧TVec wr (w.heap.size+1+1) S.first∧Chg [] w wr)
   case atStart=>exact ⟨0,[],[],rfl,HT,by omega,by omega,OwnK.nil _ _ _,by simp,hvf,hch⟩
   case round =>
    clear hvf hch
    obtain ⟨i,done,F,rfl,HTT,hi1,hi2,hown,hF,hvf,hch⟩:=hrel
    obtain ⟨A',cap',rfl,_,_,hcl,hA'⟩:=hown.open_
    by_cases hin:i<n
    ·have t5:decide ((i:Int)<(n:Int))=true:=zB (by omega)
     rcases gk with _ | j
     ·omega
     obtain ⟨c1,c2,c3⟩:=hvf.cell (i:=i) (by rw [HFL.out];exact hin)
     have hTT:tokGo S.first n (j+1) i=tokAt S.first i::tokGo S.first n j (i+max (tokAt S.first i).len 1):=by rw [tokGo,if_pos hin]
     rw [hTT] at HTT
     clear hTT
     have hdl:done.length+1≤4096:=by
      have h6:=HLN.out
      rw [HTT.out,zC,List.length_cons] at h6
      omega
     have hto:(tokAt S.first i).ok:=by
      unfold tokAt
      have hil:i<S.first.length:=by rw [HFL.out];exact hin
      rw [zD,zF hil]
      exact HFO.out _ (zG hil)
     have htl:(tokAt S.first i).len≤64:=by
      rcases hto with h | h
      ·have:=(Tok.isLit_iff.1 h).1;omega
      ·exact (Tok.isCopy_iff.1 h).2.1
     have hfm:(done++[tokAt S.first i]).flatMap tokCells=done.flatMap tokCells++tokCells (tokAt S.first i):=by simp
     have HFM:=hid hfm
     have htc:tokCells (tokAt S.first i)=[.int .i64 (tokAt S.first i).len,.int .i64 (tokAt S.first i).dist,.int .i64 (tokAt S.first i).lit]:=rfl
     obtain ⟨dn,hdn⟩:∃ dn,dn=done.length:=⟨_,rfl⟩
     have HDN:=hid hdn
     have hmx:max (tokAt S.first i).len 1=(tokAt S.first i).len∧1≤(tokAt S.first i).len∨max (tokAt S.first i).len 1=1∧(tokAt S.first i).len<1:=by omega
     generalize ht:tokAt S.first i=t at *
     rw [←hdn] at hown hdl ⊢
     generalize hta:t.len=ta at *
     generalize htb:t.dist=tb at *
     generalize htd:t.lit=td at *
     have HTC:=hid htc
     have HTE:=hid (And.intro ht hta)
     have HFF:=hid hF
     have hblk:=Blk.new wr 132 #[.int .i64 ta,.int .i64 tb,.int .i64 td]
     have hown1:=hown.same ((Chg.refl [] wr).alloc (.cells #[.int .i64 ta,.int .i64 tb,.int .i64 td] 132))
     clear htc hto hfm ht hdn hta htb htd hF hown
     go_wp2_with (at_builtin;refine wpList_append_k1 rfl rfl tok_elem rfl (by decide) rfl hown1 [.int .i64 ta,.int .i64 tb,.int .i64 td] rfl rfl ?c1 ?c2 ?c3 ?c4 ?_)
     case c1 =>
      intro q u hq
      match q,hq with
      | 0,hq=>rw [←hq];exact hblk.cell 0
      | 1,hq=>rw [←hq];exact hblk.cell 1
      | 2,hq=>rw [←hq];exact hblk.cell 2
      | q+3,hq=>simp at hq
     case c2=>intro u hu;simp at hu;rcases hu with rfl | rfl | rfl<;>rfl
     case c3=>omega
     case c4=>omega
     intro g' cap2 w3 hown3 hgr3
     have hvf3:TVec w3 (w.heap.size+1+1) S.first:=Blk.chg (Blk.alloc hvf _) hgr3.chg (fun hm=>by have:=HFF.out _ hm;omega)
     have hch3:Chg [] w w3:=(hch.alloc _).trans hgr3.chg (fun x hx => .inr (by have:=HFF.out _ hx;omega))
     have hF3:∀ x∈[g'],w.heap.size+1+1<x:=fun x hx=>by
      rcases hgr3.new x hx with h | h
      ·exact HFF.out _ h
      ·have h7:=Blk.lt hvf
       have h8:(wr.alloc (.cells #[.int .i64 ta,.int .i64 tb,.int .i64 td] 132)).heap.size=wr.heap.size+1:=by simp
       omega
     obtain ⟨d1,d2,d3⟩:=hvf3.cell (i:=i) (by rw [HFL.out];exact hin)
     have HD:=hid hdl
     obtain ⟨ht2,hta2⟩:tokAt S.first i=t∧t.len=ta:=HTE.out
     rw [ht2,hta2] at d1
     clear d2 d3 hvf hch hblk hown1 hgr3 c1 c2 c3 ht2 hta2
     have HFG:=hid hF3
     have HV3:=hid hvf3
     have HC3:=hid hch3
     have HO3:=hid hown3
     clear hF3 hvf3 hch3 hown3
     rcases hmx with ⟨hm1,hm2⟩ | ⟨hm1,hm2⟩
     ·rw [hm1] at HTT
      have tm:decide ((ta:Int)<1)=false:=zA (by omega)
      have tm':(1:Int)≤(ta:Int):=by omega
      go_wp2_with fail
      go_roundg j
      case measure=>omega
      case rel =>
       refine ⟨i+ta,done++[t],[g'],by go_num,hid (by rw [HTT.out,List.append_assoc];rfl),by omega,by omega,?_,HFG.out,HV3.out,HC3.out⟩
       have h9:=HO3.out
       rw [HDN.out,show done.length+1=(done++[t]).length by simp] at h9
       rw [HFM.out,HTC.out,HDN.out,show done.length+1=(done++[t]).length by simp]
       exact h9
     ·rw [hm1] at HTT
      have tm:decide ((ta:Int)<1)=true:=zB (by omega)
      have tm':(ta:Int)<1:=by omega
      go_wp2_with fail
      go_roundg j
      case measure=>omega
      case rel =>
       refine ⟨i+1,done++[t],[g'],by go_num,hid (by rw [HTT.out,List.append_assoc];rfl),by omega,by omega,?_,HFG.out,HV3.out,HC3.out⟩
       have h9:=HO3.out
       rw [HDN.out,show done.length+1=(done++[t]).length by simp] at h9
       rw [HFM.out,HTC.out,HDN.out,show done.length+1=(done++[t]).length by simp]
       exact h9
    ·have t5:decide ((i:Int)<(n:Int))=false:=zA (by omega)
     have hTT:tokGo S.first n gk i=[]:=by
      cases gk with
      | zero=>rfl
      | succ f=>rw [tokGo,if_neg hin]
     go_wp2_with fail
     go_ret
     have hT:T=done:=by rw [HTT.out,hTT,List.append_nil]
     rw [hT]
     refine ⟨A',cap',rfl,hcl,hch,fun ad e => ?_⟩
     obtain ⟨g,rfl,hFg,_⟩:=hA' ad e
     have:=hF g (by rw [hFg];simp)
     show w.heap.size≤g
     omega
  ·obtain rfl:a=(k:Int):=by omega
   clear ha
   have hk:k<n:=by omega
   have hso:=HSO.out
   have hcr:=hc.same hch
   have hkl:k<l.length:=by rw [←HN.out];exact hk
   obtain ⟨g,o,rfl,hgw,_⟩:=hc.ex (by omega)
   obtain ⟨g',o',e',cl⟩:=hcr.at_ hkl
   injection e' with e'
   injection e' with e2 e3 _
   subst e2
   subst e3
   have n1:¬ g=w.heap.size+1:=by omega
   have n2:¬ g=w.heap.size+1+1:=by omega
   have n3:¬ w.heap.size+1=g:=by omega
   have n4:¬ w.heap.size+1+1=g:=by omega
   have gl:l[k]=l.getD k 0:=by rw [zD,zF hkl];rfl
   rw [gl] at cl
   have cl':wr.cell? ⟨g,o+k,none⟩=some (.int .i64 (l.getD k 0)):=cl
   have hgo:lGo l lit cp (k+1) s=lGo l lit cp k (lStep l lit cp k s):=rfl
   rw [hgo] at HG
   have hb2:=HBG.out k s hso hk
   have c1:=hls.vc.cell (i:=k+1) (by rw [hso.pair.cl];omega)
   have hcb:s.costs.getD (k+1) 0≤4294967296:=by
    have h4:=getD_le hso.pair.cb (k+1)
    have h5:(n-(k+1))*lit≤4096*1048576:=Nat.mul_le_mul (by omega) h1
    simp only at h4
    omega
   have f1:=Blk.frozen hls.vc k
   have f2:=Blk.frozen hls.vf (k*3)
   have f3:=Blk.frozen hls.vf (k*3+1)
   have f4:=Blk.frozen hls.vf (k*3+2)
   obtain ⟨c2,c3,c4⟩:=hls.vf.cell (i:=k) (by rw [hso.pair.fl];exact hk)
   have c0:=hls.vc.cell (i:=k) (by rw [hso.pair.cl];omega)
   have hbg:lBeg l lit k s=(s.costs.set k (s.costs.getD (k+1) 0+lit),s.first.set k ⟨0,0,l.getD k 0⟩):=rfl
   have hls2:Vec (wr.setCell ⟨w.heap.size+1,k,none⟩ (.int .i64 ((s.costs.getD (k+1) 0+lit:Nat):Int))) (w.heap.size+1) 3 (s.costs.set k (s.costs.getD (k+1) 0+lit)):=hls.vc.set_ k _
   generalize hsc:s.costs.getD (k+1) 0=sc at *
   generalize hlk:l.getD k 0=lk at *
   have HSC:=hid hsc
   have HLK:=hid hlk
   have HB2:=hid hb2
   have HBE:=hid hbg
   have HL2:=hid hls2
   have HLS:=hid hls
   clear cl gl hgo hcr hkl hso hsc hlk hb2 hbg hls2 hls
   go_wp2_with fail
   have hx:IsLs ((((wr.setCell ⟨w.heap.size+1,k,none⟩ (.int .i64 ((sc:Int)+(lit:Int)))).setCell ⟨w.heap.size+1+1,k*3,none⟩ (.int .i64 0)).setCell ⟨w.heap.size+1+1,k*3+1,none⟩ (.int .i64 0)).setCell ⟨w.heap.size+1+1,k*3+2,none⟩ (.int .i64 lk)) w.heap.size ⟨(lBeg l lit k s).1,(lBeg l lit k s).2,s.runs⟩:=by
    have hl2:=HL2.out
    rw [Int.natCast_add] at hl2
    rw [HBE.out]
    exact ⟨Blk.far (Blk.far (Blk.far (Blk.far HLS.out.vr (by simp) _) (by first | (simp;done) | (simp;omega)) _) (by first | (simp;done) | (simp;omega)) _) (by first | (simp;done) | (simp;omega)) _,
     Blk.far (Blk.far (Blk.far hl2 (by simp) _) (by simp) _) (by simp) _,
     TVec.set_ (Blk.far HLS.out.vf (by simp) _) k ⟨0,0,lk⟩⟩
   have hxc:Chg [] w ((((wr.setCell ⟨w.heap.size+1,k,none⟩ (.int .i64 ((sc:Int)+(lit:Int)))).setCell ⟨w.heap.size+1+1,k*3,none⟩ (.int .i64 0)).setCell ⟨w.heap.size+1+1,k*3+1,none⟩ (.int .i64 0)).setCell ⟨w.heap.size+1+1,k*3+2,none⟩ (.int .i64 lk)):=(((hch.setCell (.inr (by first | (simp;done) | (simp;omega))) _).setCell (.inr (by first | (simp;done) | (simp;omega))) _).setCell (.inr (by first | (simp;done) | (simp;omega))) _).setCell (.inr (by first | (simp;done) | (simp;omega))) _
   have hro:RunsOk s.runs:=⟨HSO.out.rl,fun x hx=>(HSO.out.rb x hx).1⟩
   refine (HDI.out k w.heap.size s.runs _ hk (hc.same hxc) hx.vr hro (fun _ ad e hm=>by injection e with e;subst e;simp at hm;omega)).mono ?_
   rintro e w2 ⟨rfl,hvr2,ch2⟩
   have hvc2:=hx.vc.chg ch2 (by simp)
   have hvf2:TVec w2 (w.heap.size+1+1) (lBeg l lit k s).2:=Blk.chg hx.vf ch2 (by simp;omega)
   have hch2:Chg [] w w2:=hxc.trans ch2 (fun x hx=>by simp at hx;omega)
   have hdo:=distF_ok (l:=l) (at_:=k) hro
   have hdi:=distF_in (l:=l) (at_:=k) (rs:=s.runs) (B:=n-(k+1)) (fun x hx=>(HSO.out.rb x hx).2)
   have hst:lStep l lit cp k s=⟨(lPick cp k (distF l k s.runs).dists 65 0 (lBeg l lit k s)).1,(lPick cp k (distF l k s.runs).dists 65 0 (lBeg l lit k s)).2,(distF l k s.runs).runs⟩:=rfl
   have hs2:=HST.out k s HSO.out hk
   generalize (distF l k s.runs)=DS at *
   obtain ⟨R,D,Lg⟩:=DS
   have hD65:D.length=65:=hdo.dl
   have hD1:∀ x∈D,x≤1024:=hdo.d1024
   have hDn:∀ m,D.getD m 0≠0→k+m≤n:=fun m hm=>by
    have h5:=hdi.db m hm
    have h6:=hdi.lb
    simp only at h5 h6
    omega
   simp only at hvr2
   have HST2:=hid hst
   have HS2:=hid hs2
   have HD65:=hid hD65
   have HD1:=hid hD1
   have HDN:=hid hDn
   clear hst hs2 hD65 hD1 hDn hdo hdi hx hxc hro ch2 f1 f2 f3 f4 c0 c1 c2 c3 c4 cl' hch
   go_wp2_with fail
   go_loopg [65] 65 (fun j iv wr=>∃ (m:Nat) (p:List Nat × List Tok),iv=.int .i64 m∧m+j=65∧Hid (lPick cp k D 65 0 (lBeg l lit k s)=lPick cp k D j m p)∧Hid (PairOk n ((n-k)*lit) p)∧Vec wr w.heap.size 153 R∧Vec wr (w.heap.size+1) 3 p.1∧TVec wr (w.heap.size+1+1) p.2∧Chg [] w wr)
   case atStart=>exact ⟨0,lBeg l lit k s,rfl,rfl,hid rfl,HB2,hvr2,hvc2,hvf2,hch2⟩
   case round =>
    obtain ⟨m,p,rfl,hmj,HP,HPO,yvr,yvc,yvf,ych⟩:=hrel
    clear hvr2 hvc2 hvf2 hch2
    rcases gk with _ | j
    ·obtain rfl:m=65:=by omega
     have hP:lPick cp k D 65 0 (lBeg l lit k s)=p:=HP.out
     go_wp2_with fail
     go_roundg k
     case measure=>omega
     case rel =>
      refine ⟨lStep l lit cp k s,_,rfl,by omega,by omega,HG,HS2,?_,ych⟩
      rw [HST2.out,hP]
      exact ⟨yvr,yvc,yvf⟩
    ·have hm65:m<65:=by omega
     have ty:decide ((m:Int)<65)=true:=zB (by omega)
     have hix:=idx65 D HD65.out m hm65
     have hd1:=getD_le HD1.out m
     have hdn:=HDN.out m
     have hone:lPick cp k D (j+1) m p=lPick cp k D j (m+1) (lOne cp k D m p):=rfl
     have hone2:lOne cp k D m p=if m<3∨D.getD m 0=0 then p else if p.1.getD (k+m) 0+cp≤p.1.getD k 0 then (p.1.set k (p.1.getD (k+m) 0+cp),p.2.set k ⟨m,D.getD m 0,0⟩) else p:=rfl
     have hpo2:=lOne_ok (cp:=cp) (at_:=k) (m:=m) HPO.out (by omega) HD1.out
     rw [hone] at HP
     have hcm:k+m≤n→(p.1.getD (k+m) 0≤4294967296∧wr.cell? ⟨w.heap.size+1,k+m,none⟩=some (.int .i64 ((p.1.getD (k+m) 0:Nat):Int))):=fun h=>⟨by
      have h4:=getD_le HPO.out.cb (k+m)
      have h5:(n-k)*lit≤4096*1048576:=Nat.mul_le_mul (by omega) h1
      omega,yvc.cell (by rw [HPO.out.cl];omega)⟩
     have c0:=yvc.cell (i:=k) (by rw [HPO.out.cl];omega)
     have f1:=Blk.frozen yvc k
     have f2:=Blk.frozen yvf (k*3)
     have f3:=Blk.frozen yvf (k*3+1)
     have f4:=Blk.frozen yvf (k*3+2)
     obtain ⟨c2,c3,c4⟩:=yvf.cell (i:=k) (by rw [HPO.out.fl];exact hk)
     have hsetc:=fun v=>yvc.set_ k v
     generalize hx1:p.1.getD (k+m) 0=ckm at *
     generalize hx2:p.1.getD k 0=ck at *
     generalize hx3:D.getD m 0=dm at *
     have HX:=hid (And.intro hx1 (And.intro hx2 hx3))
     have HSC2:=hid hsetc
     have HPO2:=hid hpo2
     have HONE:=hid hone2
     have HCM:=hid hcm
     have HV:=hid (And.intro yvr (And.intro yvc yvf))
     have HDN2:=hid hdn
     clear hx1 hx2 hx3 hsetc hone hpo2 hone2 hcm yvr yvc yvf hdn
     by_cases q1:m<3
     ·have s1:decide ((m:Int)<3)=true:=zB (by omega)
      go_wp2_with fail
      go_roundg j
      case measure=>omega
      case rel =>
       have e:lOne cp k D m p=p:=by rw [HONE.out,if_pos (.inl q1)]
       rw [e] at HP
       obtain ⟨a1,a2,a3⟩:=HV.out
       exact ⟨m+1,p,by go_num,by omega,HP,HPO,a1,a2,a3,ych⟩
     ·have s1:decide ((m:Int)<3)=false:=zA (by omega)
      by_cases q2:dm=0
      ·have s2:((dm:Int)==0)=true:=by simp [q2]
       have HQ2:=hid q2
       clear q2
       go_wp2_with fail
       go_roundg j
       case measure=>omega
       case rel =>
        have e:lOne cp k D m p=p:=by rw [HONE.out,if_pos (.inr HQ2.out)]
        rw [e] at HP
        obtain ⟨a1,a2,a3⟩:=HV.out
        exact ⟨m+1,p,by go_num,by omega,HP,HPO,a1,a2,a3,ych⟩
      ·have s2:((dm:Int)==0)=false:=by simpa using q2
       obtain ⟨b1,b2⟩:=HCM.out (HDN2.out q2)
       have hkm:k+m≤n:=HDN2.out q2
       by_cases q3:ckm+cp≤ck
       ·have s3:decide ((ckm:Int)+(cp:Int)≤(ck:Int))=true:=zB (by omega)
        go_wp2_with fail
        go_roundg j
        case measure=>omega
        case rel =>
         have e:lOne cp k D m p=(p.1.set k (ckm+cp),p.2.set k ⟨m,dm,0⟩):=by rw [HONE.out,if_neg (by omega),if_pos q3]
         have hpo3:=HPO2.out
         rw [e] at HP hpo3
         obtain ⟨a1,a2,a3⟩:=HV.out
         have hsc:=HSC2.out (ckm+cp)
         rw [Int.natCast_add] at hsc
         refine ⟨m+1,_,by go_num,by omega,HP,hid hpo3,?_,?_,?_,?_⟩
         ·exact Blk.far (Blk.far (Blk.far (Blk.far a1 (by first | (simp;done) | (simp;omega)) _) (by first | (simp;done) | (simp;omega)) _) (by first | (simp;done) | (simp;omega)) _) (by first | (simp;done) | (simp;omega)) _
         ·exact Blk.far (Blk.far (Blk.far hsc (by simp) _) (by simp) _) (by simp) _
         ·exact TVec.set_ (Blk.far a3 (by simp) _) k ⟨m,dm,0⟩
         ·exact (((ych.setCell (.inr (by first | (simp;done) | (simp;omega))) _).setCell (.inr (by first | (simp;done) | (simp;omega))) _).setCell (.inr (by first | (simp;done) | (simp;omega))) _).setCell (.inr (by first | (simp;done) | (simp;omega))) _
       ·have s3:decide ((ckm:Int)+(cp:Int)≤(ck:Int))=false:=zA (by omega)
        go_wp2_with fail
        go_roundg j
        case measure=>omega
        case rel =>
         have e:lOne cp k D m p=p:=by rw [HONE.out,if_neg (by omega),if_neg q3]
         rw [e] at HP
         obtain ⟨a1,a2,a3⟩:=HV.out
         exact ⟨m+1,p,by go_num,by omega,HP,HPO,a1,a2,a3,ych⟩
theorem Cells.one {α:Type} {f:α→Value} {w:World} {A:Option Addr} {l:List α} (h:Cells f w A l) {m:Nat} {x:α} (hm:l[m]?=some x) :
  ∃ g o,A=some ⟨g,o,none⟩∧Cells f w (some ⟨g,o+m,none⟩) [x]:=by
 have hl:=(List.getElem?_eq_some_iff.1 hm).1
 obtain ⟨g,o,e,hg,hc⟩:=h.ex (by omega)
 refine ⟨g,o,e,⟨fun _=>⟨g,o+m,rfl,hg,fun i a ha => ?_⟩⟩⟩
 match i,ha with
 | 0,ha=>simp at ha;subst ha;exact hc m _ hm
 | i+1,ha=>simp at ha
theorem mtput_ok (w:World) (b:Nat) (F bs:List Nat) (T:List Tok) (A:Option Addr) (cap W d:Nat) (h:IsWr w b F bs) (hp:Pts w) (h0F:0∉F) (hw0:1≤W) (hw1:W≤64) (h0:1≤d) (h1:d≤16) (hT:T.length≤4096) (hok:∀ t∈T,TokOk d t)
  (hc:Toks w A T) (hA:∀ ad,A=some ad→ad.block∉F) (hbs:bs.length<137438953472) :
  Calls Tryz.prog 90 #[.pointer (some ⟨b,0,none⟩),.slice A T.length cap,.int .i64 W,.int .i64 d] w fun e w'=>e=.returned (.int .i64 0)∧∃ F',IsWr w' b F' (bs++matchBits T W d)∧Grow F F' w w':=by
 have hmay:=fun w h=>may_ok T A cap w (by omega) (fun t ht=>(hok t ht).ok) h
 have hmb:matchBits T W d=bitsOf (rbest (copyLens T)) 5++bitsOf (rbest (copyCodes W T)) 5++T.flatMap (tokBits (rbest (copyLens T)) (rbest (copyCodes W T)) W d):=rfl
 have hlw:=copyLens_wide hok
 have hcw:=copyCodes_wide (W:=W) hok
 obtain ⟨hp0,hp1⟩:=pow_d h0 h1
 obtain ⟨n,hn⟩:∃ n,n=T.length:=⟨_,rfl⟩
 rw [←hn] at hmay hT ⊢
 have t1:decide ((W:Int)<1)=false:=zA (by omega)
 have t2:decide ((64:Int)<(W:Int))=false:=zA (by omega)
 have t3:decide ((d:Int)<1)=false:=zA (by omega)
 have t4:decide ((16:Int)<(d:Int))=false:=zA (by omega)
 have HMB:=hid hmb
 have HLW:=hid hlw
 have HCW:=hid hcw
 have HN:=hid hn
 have HOK:=hid hok
 have HA:=hid hA
 have HLT:Hid (∀ x∈F,x<w.heap.size):=hid h.lt
 clear hmb hlw hcw hn hok hA
 go_enter Tryz.func90,Tryz.ntmps90
 go_wp2_with fail
 refine (hmay _ hc).mono ?_
 rintro e w1 ⟨rfl,ch1⟩
 go_wp2_with fail
 go_loopg [9,10,39] n (fun j v9 v10 iv wr=>∃ (i:Nat) (F9 F10:List Nat),iv=.int .i64 i∧i+j=n∧Own wr 3 v9 F9 ((copyLens (T.take i)).map vi)∧Own wr 3 v10 F10 ((copyCodes W (T.take i)).map vi) ∧
   (∀ x∈F9,w.heap.size≤x∧x∉F10)∧(∀ x∈F10,w.heap.size≤x)∧Chg [] w wr)
 case atStart=>exact ⟨0,[],[],rfl,by omega,Own.nil _ _,Own.nil _ _,by simp,by simp,ch1⟩
 case round =>
  clear ch1 hmay
  obtain ⟨i,F9,F10,rfl,hij,ho9,ho10,hF9,hF10,hch⟩:=hrel
  rcases gk with _ | j
  ·obtain rfl:i=n:=by omega
   have htn:T.take i=T:=by rw [HN.out,List.take_length]
   rw [htn] at ho9 ho10
   have hll:=copyLens_len T
   rw [←HN.out] at hll
   have hcl:=copyCodes_len W T
   obtain ⟨A9,cp9,rfl,hcp9,hcm9,hc9⟩:=ho9.open_map
   obtain ⟨A10,cp10,rfl,hcp10,hcm10,hc10⟩:=ho10.open_map
   have hap9:Apt A9 (copyLens T) F:=ho9.apt (fun x hx hm=>by have:=HLT.out x hm;have:=(hF9 x hx).1;omega)
   have hap10:Apt A10 (copyCodes W T) F:=ho10.apt (fun x hx hm=>by have:=HLT.out x hm;have:=hF10 x hx;omega)
   have hb9:=rbest_ok (copyLens T) A9 cp9 wr HLW.out hc9 (by omega)
   have hb10:=rbest_ok (copyCodes W T) A10 cp10 wr HCW.out hc10 (by omega)
   have hk:=rbest_le (copyLens T)
   have hjj:=rbest_le (copyCodes W T)
   obtain ⟨kk,hkk⟩:∃ k,k=rbest (copyLens T):=⟨_,rfl⟩
   obtain ⟨jk,hjk⟩:∃ k,k=rbest (copyCodes W T):=⟨_,rfl⟩
   have hmb:=HMB.out
   rw [←hkk] at hb9 hk hmb
   rw [←hjk] at hb10 hjj hmb
   obtain ⟨n9,hn9⟩:∃ n9,n9=(copyLens T).length:=⟨_,rfl⟩
   rw [←hn9] at hcl hcp9 hb9 hll ⊢
   rw [hcl] at hb10 hcp10 ⊢
   have hwr:=h.same hch
   have hcr:Toks wr A T:=hc.same hch
   have HMB2:=hid hmb
   have HCL:=hid hcl
   have HN9:=hid hn9
   clear hmb hcl hn9 hkk hjk htn ho9 ho10 hF9 hF10 h hp hc
   go_wp2_with fail
   refine hb9.mono ?_
   rintro e w' ⟨rfl,rfl⟩
   go_wp2_with fail
   refine hb10.mono ?_
   rintro e w' ⟨rfl,rfl⟩
   go_wp2_with fail
   refine (wput_ok _ b F bs kk 5 hwr (by omega) (by omega) (by omega)).mono ?_
   rintro e w2 ⟨rfl,F2,hwr2,hgr2⟩
   go_wp2_with fail
   refine (wput_ok _ b F2 _ jk 5 hwr2 (by omega) (by omega) (by rw [zC,bitsOf_len];omega)).mono ?_
   rintro e w3 ⟨rfl,F3,hwr3,hgr3⟩
   have hgr:=hgr2.trans hgr3
   clear hb9 hb10 hwr hwr2 hgr2 hgr3
   have hpow:∀ x:Int,0≤x→x<2^d→x.toNat<2^d:=fun x a b=>by
    have e:((x.toNat:Nat):Int)=x:=Int.toNat_of_nonneg a
    have e2:((2^d:Nat):Int)=(2:Int)^d:=by simp
    omega
   have HPW:=hid hpow
   clear hpow
   go_wp2_with fail
   go_loopg [15,88] i (fun j cv iv wr2=>∃ (q:Nat) (F' bs':List Nat),cv=.int .i64 ((copyLens (T.take q)).length:Nat)∧iv=.int .i64 q∧q+j=i∧IsWr wr2 b F' bs'∧Hid (bs'=bs++bitsOf kk 5++bitsOf jk 5++(T.take q).flatMap (tokBits kk jk W d))∧bs'.length≤bs.length+10+131*q∧Grow F F' wr wr2)
   case atStart=>exact ⟨0,F3,_,rfl,rfl,by omega,hwr3,hid (by simp),by rw [zC,zC,bitsOf_len,bitsOf_len];omega,hgr⟩
   case round =>
    clear hwr3 hgr
    obtain ⟨q,F',bs',rfl,rfl,hqj,hwr,Hb,hbl,hgr⟩:=hrel
    rcases gk with _ | j
    ·obtain rfl:q=i:=by omega
     go_wp2_with fail
     go_ret
     refine ⟨rfl,F',?_,Grow.pre hch hgr⟩
     have e:T.take q=T:=by rw [HN.out,List.take_length]
     have h5:=Hb.out
     rw [e,List.append_assoc,List.append_assoc] at h5
     rw [HMB2.out,List.append_assoc,←h5]
     exact hwr
    ·have hin:q<i:=by omega
     have hil:q<T.length:=by rw [←HN.out];exact hin
     have htk:=HOK.out T[q] (zG hil)
     obtain ⟨t,ht⟩:∃ t,t=T[q]:=⟨_,rfl⟩
     have hget:T[q]?=some t:=by rw [ht];exact zF hil
     rw [←ht] at htk
     have hcq:Toks _ A T:=Cells.keep hcr (fun _ ad e=>HA.out ad e) hgr.chg
     have hc9q:=hc9.keep hap9 hgr.chg
     have hc10q:=hc10.keep hap10 hgr.chg
     have hap9q:=hap9.grow hc9 hgr
     have hap10q:=hap10.grow hc10 hgr
     obtain ⟨g,o,rfl,c1,c2,c3⟩:=hcq.at_ hget
     have htake:T.take (q+1)=T.take q++[t]:=by rw [ht];exact take_snoc' T hil
     have hs9:=copyLens_snoc (T.take q) t
     rw [←htake] at hs9
     have hfb:(T.take (q+1)).flatMap (tokBits kk jk W d)=(T.take q).flatMap (tokBits kk jk W d)++tokBits kk jk W d t:=by rw [htake];simp
     have hlit:=fun w=>isLit_ok t w
     have htv:tokV t=.agg #[.int .i64 t.len,.int .i64 t.dist,.int .i64 t.lit]:=rfl
     rw [htv] at hlit
     rcases htk with ⟨hl1,hl2,hl3⟩ | ⟨hl1,hl2⟩
     ·have hs9':copyLens (T.take (q+1))=copyLens (T.take q):=by rw [hs9,hl1];simp
      have htb:tokBits kk jk W d t=bitsOf 0 1++bitsOf t.lit.toNat d:=by unfold tokBits;rw [if_pos hl1]
      have hlp:=HPW.out t.lit hl2 hl3
      rw [hl1] at hlit
      have htl:t.lit=((t.lit.toNat:Nat):Int):=(Int.toNat_of_nonneg hl2).symm
      obtain ⟨ln,hln⟩:∃ ln,ln=t.lit.toNat:=⟨_,rfl⟩
      rw [←hln] at htb hlp htl
      rw [htl] at hlit c3
      have hl16:ln<65536:=Nat.lt_of_lt_of_le hlp (by have:=Nat.pow_le_pow_right (n:=2) (by decide) h1;exact this)
      have hb:=Blk.new wr 132 #[.int .i64 t.len,.int .i64 t.dist,.int .i64 ln]
      have ch1:=(Chg.refl [] wr).alloc (.cells #[.int .i64 t.len,.int .i64 t.dist,.int .i64 ln] 132)
      have HTB:=hid (And.intro hs9' (And.intro htb hfb))
      clear hs9 hs9' htb hfb htake htl hln htv hget ht hl1 hl2 hl3 hcq hc9q hc10q hap9q hap10q
      generalize t.len=ta at *
      generalize t.dist=tb at *
      have HLP:=hid hlp
      clear hlp
      have hbx:wr.heap.size∉F':=fun hm=>by have:=hwr.lt _ hm;omega
      go_wp2_with fail
      refine (hlit _).mono ?_
      rintro e w4 ⟨rfl,ch2⟩
      have hb4:=hb.chg ch2 (by simp)
      have hwr4:=hwr.same (ch1.trans_same ch2)
      have hgr4:=hgr.same (ch1.trans_same ch2)
      clear hb hwr hgr hlit ch1 ch2 c1 c2 c3
      go_wp2_with fail
      refine (wput_ok _ b F' bs' 0 1 hwr4 (by omega) (by omega) (by omega)).mono ?_
      rintro e w5 ⟨rfl,F5,hwr5,hgr5⟩
      have hb5:=hb4.chg hgr5.chg hbx
      have b2:=hb5.cell 2
      simp only [List.size_toArray,List.length_cons,List.length_nil,List.getElem?_toArray,List.getElem?_cons_zero,List.getElem?_cons_succ] at b2
      clear hb4 hb5 hwr4 hbx
      go_wp2_with fail
      refine (wput_ok _ b F5 _ ln d hwr5 (by omega) HLP.out (by rw [zC,bitsOf_len];omega)).mono ?_
      rintro e w6 ⟨rfl,F6,hwr6,hgr6⟩
      clear hwr5 b2
      go_wp2_with fail
      go_roundg j
      case measure=>omega
      case rel =>
       refine ⟨q+1,F6,_,?_,by go_num,by omega,hwr6,hid ?_,?_,(hgr4.trans hgr5).trans hgr6⟩
       ·rw [HTB.out.1]
       ·rw [HTB.out.2.2,HTB.out.2.1,Hb.out];simp only [List.append_assoc]
       ·rw [zC,zC,bitsOf_len,bitsOf_len];omega
     ·have hlen1:(copyLens (T.take (q+1))).length=(copyLens (T.take q)).length+1:=by rw [hs9,hl1];simp
      have htb:tokBits kk jk W d t=bitsOf 1 1++rbits kk (lenOf t)++rbits jk (codeOf W t):=by unfold tokBits;rw [hl1];rfl
      have hx9:=copyLens_at T hget hl1
      have hx10:=copyCodes_at W T hget hl1
      have hw9:=lenOf_wide hl2
      have hw10:=codeOf_wide W hl2
      have hcn9:(copyLens (T.take q)).length<n9:=by rw [HN9.out];exact (List.getElem?_eq_some_iff.1 hx9).1
      obtain ⟨c,hcc⟩:∃ c,c=(copyLens (T.take q)).length:=⟨_,rfl⟩
      rw [←hcc] at hx9 hx10 hcn9 hlen1 ⊢
      obtain ⟨g9,o9,rfl,hone9⟩:=hc9q.one hx9
      obtain ⟨g10,o10,rfl,hone10⟩:=hc10q.one hx10
      rw [hl1] at hlit
      have hb:=Blk.new wr 132 #[.int .i64 t.len,.int .i64 t.dist,.int .i64 t.lit]
      have ch1:=(Chg.refl [] wr).alloc (.cells #[.int .i64 t.len,.int .i64 t.dist,.int .i64 t.lit] 132)
      have hp9:Apt (some ⟨g9,o9+c,none⟩) [lenOf t] F':=hap9q.to (by simp;have:=HN9.out;omega) (fun ad e=>⟨_,rfl,by injection e with e;rw [←e]⟩)
      have hp10:Apt (some ⟨g10,o10+c,none⟩) [codeOf W t] F':=hap10q.to (by simp;have:=HCL.out;omega) (fun ad e=>⟨_,rfl,by injection e with e;rw [←e]⟩)
      have HTB:=hid (And.intro hlen1 (And.intro htb hfb))
      clear hs9 hlen1 htb hfb htake htv hget ht hl1 hl2 hcq hc9q hc10q hap9q hap10q hx9 hx10 hcc
      generalize lenOf t=lo at *
      generalize codeOf W t=co at *
      generalize t.len=ta at *
      generalize t.dist=tb at *
      generalize t.lit=tc at *
      go_wp2_with fail
      refine (hlit _).mono ?_
      rintro e w4 ⟨rfl,ch2⟩
      have hwr4:=hwr.same (ch1.trans_same ch2)
      have hgr4:=hgr.same (ch1.trans_same ch2)
      have q9:=hone9.same (ch1.trans_same ch2)
      have q10:=hone10.same (ch1.trans_same ch2)
      clear hb hwr hgr hlit ch1 ch2 c1 c2 c3 hone9 hone10
      go_wp2_with fail
      refine (wput_ok _ b F' bs' 1 1 hwr4 (by omega) (by omega) (by omega)).mono ?_
      rintro e w5 ⟨rfl,F5,hwr5,hgr5⟩
      have r9:=q9.keep hp9 hgr5.chg
      have r10:=q10.keep hp10 hgr5.chg
      have hp9':=hp9.grow q9 hgr5
      have hp10':=hp10.grow q10 hgr5
      go_wp2_with fail
      have hl1w:∀ x∈[lo],wideP x:=fun x hx=>by rw [List.mem_singleton.1 hx];exact hw9
      have hl2w:∀ x∈[co],wideP x:=fun x hx=>by rw [List.mem_singleton.1 hx];exact hw10
      refine (rput_ok _ b F5 _ kk [lo] _ (cp9-c) hwr5 hk hl1w r9 hp9' (by rw [zC,bitsOf_len];simp;omega)).mono ?_
      rintro e w6 ⟨rfl,F6,hwr6,hgr6⟩
      have s10:=r10.keep hp10' hgr6.chg
      have hp10'':=hp10'.grow r10 hgr6
      have hra:rbitsAll kk [lo]=rbits kk lo:=by simp [rbitsAll]
      have hrb:rbitsAll jk [co]=rbits jk co:=by simp [rbitsAll]
      have hla:=rbits_len kk lo
      have hlb:=rbits_len jk co
      have hca:=rcost_le kk lo hk
      have hcb:=rcost_le jk co hjj
      rw [hra] at hwr6
      clear hwr5 r9 r10 hp9' hp10' hwr4 q9 q10 hp9 hp10
      go_wp2_with fail
      refine (rput_ok _ b F6 _ jk [co] _ (cp10-c) hwr6 hjj hl2w s10 hp10'' (by rw [zC,zC,bitsOf_len];simp;omega)).mono ?_
      rintro e w7 ⟨rfl,F7,hwr7,hgr7⟩
      rw [hrb] at hwr7
      clear hwr6 s10 hp10'' hra hrb
      go_wp2_with fail
      go_roundg j
      case measure=>omega
      case rel =>
       refine ⟨q+1,F7,_,?_,by go_num,by omega,hwr7,hid ?_,?_,((hgr4.trans hgr5).trans hgr6).trans hgr7⟩
       ·rw [HTB.out.1];go_num
       ·rw [HTB.out.2.2,HTB.out.2.1,Hb.out];simp only [List.append_assoc]
       ·rw [zC,zC,zC,bitsOf_len];omega
  ·have hin:i<n:=by omega
   have hil:i<T.length:=by rw [←HN.out];exact hin
   have htk:=HOK.out T[i] (zG hil)
   obtain ⟨t,ht⟩:∃ t,t=T[i]:=⟨_,rfl⟩
   have hget:T[i]?=some t:=by rw [ht];exact zF hil
   rw [←ht] at htk
   have hcr:=hc.same hch
   obtain ⟨g,o,rfl,c1,c2,c3⟩:=hcr.at_ hget
   have htake:T.take (i+1)=T.take i++[t]:=by rw [ht];exact take_snoc' T hil
   have hs9:=copyLens_snoc (T.take i) t
   have hs10:=copyCodes_snoc W (T.take i) t
   rw [←htake] at hs9 hs10
   have hlit:=fun w=>isLit_ok t w
   have htv:tokV t=.agg #[.int .i64 t.len,.int .i64 t.dist,.int .i64 t.lit]:=rfl
   rw [htv] at hlit
   have hb:=Blk.new wr 132 #[.int .i64 t.len,.int .i64 t.dist,.int .i64 t.lit]
   have ch1:=(Chg.refl [] wr).alloc (.cells #[.int .i64 t.len,.int .i64 t.dist,.int .i64 t.lit] 132)
   have hll:=copyLens_len (T.take i)
   have hcl:=copyCodes_len W (T.take i)
   rw [List.length_take] at hll
   rcases htk with ⟨hl1,hl2,hl3⟩ | ⟨hl1,hl2⟩
   ·rw [hl1] at hlit hs9 hs10
    have hs9':copyLens (T.take (i+1))=copyLens (T.take i):=by rw [hs9];simp
    have hs10':copyCodes W (T.take (i+1))=copyCodes W (T.take i):=by rw [hs10];simp
    have HS:=hid (And.intro hs9' hs10')
    generalize t.len=ta at *
    generalize t.dist=tb at *
    generalize t.lit=tc at *
    have t5:decide (tc<0)=false:=zA (by omega)
    have t6:decide ((2:Int)^d≤tc)=false:=zA (by omega)
    clear hs9 hs10 hs9' hs10' htake hget ht htv hll hcl hl1
    go_wp2_with fail
    refine (hlit _).mono ?_
    rintro e w2 ⟨rfl,ch2⟩
    have hb2:=hb.chg ch2 (by simp)
    have b2:=hb2.cell 2
    simp only [List.size_toArray,List.length_cons,List.length_nil,List.getElem?_toArray,List.getElem?_cons_zero,List.getElem?_cons_succ] at b2
    have ch3:=hch.trans_same (ch1.trans_same ch2)
    have k9:=ho9.same (ch1.trans_same ch2)
    have k10:=ho10.same (ch1.trans_same ch2)
    clear hb hb2 ch1 ch2 hch hcr c1 c2 c3 ho9 ho10
    go_wp2_with fail
    go_quiet (fail)
    go_wp2_with fail
    go_roundg j
    case measure=>omega
    case rel =>
     refine ⟨i+1,F9,F10,by go_num,by omega,?_,?_,hF9,hF10,ch3.drewN nq⟩
     ·rw [HS.out.1];exact k9.drewN nq
     ·rw [HS.out.2];exact k10.drewN nq
   ·rw [hl1] at hlit hs9 hs10
    have hs9':(copyLens (T.take (i+1))).map vi=(copyLens (T.take i)).map vi++[.int .i64 (lenOf t)]:=by rw [hs9];simp [vi]
    have hs10':(copyCodes W (T.take (i+1))).map vi=(copyCodes W (T.take i)).map vi++[.int .i64 (codeOf W t)]:=by rw [hs10];simp [vi]
    have hcp:=Tok.isCopy_iff.1 hl2
    obtain ⟨p1,p2,p3,p4,p5⟩:=hcp
    have hcn:=(codeN_ok (d:=t.dist) (W:=W) p3).1
    have hcd:=fun w (hp:Pts w)=>mcode_ok t.dist W w hp p3 p4 hw0 hw1
    have hun:=fun w=>unfold_ok (t.len-3) w (by omega)
    have hun2:=fun w=>unfold_ok (codeN t.dist W-1) w (by omega)
    have e1:unfoldI (t.len-3)=lenOf t:=rfl
    have e2:unfoldI (codeN t.dist W-1)=codeOf W t:=rfl
    rw [e1] at hun
    rw [e2] at hun2
    clear e1 e2
    obtain ⟨lo,hlo⟩:∃ lo,lo=lenOf t:=⟨_,rfl⟩
    obtain ⟨co,hco⟩:∃ co,co=codeOf W t:=⟨_,rfl⟩
    rw [←hlo] at hun hs9'
    rw [←hco] at hun2 hs10'
    obtain ⟨cn,hcn'⟩:∃ cn,cn=codeN t.dist W:=⟨_,rfl⟩
    rw [←hcn'] at hun2 hcn hcd
    obtain ⟨cq,hcq⟩:∃ cq,cq=cn-1:=⟨_,rfl⟩
    rw [←hcq] at hun2
    obtain ⟨lq,hlq⟩:∃ lq,lq=t.len-3:=⟨_,rfl⟩
    rw [←hlq] at hun
    have e3:(t.len:Int)-3=(lq:Int):=by omega
    have e4:(cn:Int)-1=(cq:Int):=by omega
    have hcb:cq≤1100:=by omega
    have hlb:lq≤64:=by omega
    have hM0:((copyCodes W (T.take i)).map vi).length=((copyLens (T.take i)).map vi).length:=by rw [zE,zE,hcl]
    have hM1:((copyLens (T.take i)).map vi).length≤4096:=by rw [zE];omega
    obtain ⟨L9,hL9⟩:∃ L,L=(copyLens (T.take i)).map vi:=⟨_,rfl⟩
    obtain ⟨L10,hL10⟩:∃ L,L=(copyCodes W (T.take i)).map vi:=⟨_,rfl⟩
    rw [←hL9] at ho9 hs9' hM0 hM1
    rw [←hL10] at ho10 hs10' hM0
    clear hL9 hL10
    obtain ⟨M9,hM9⟩:∃ M,M=L9.length:=⟨_,rfl⟩
    rw [←hM9] at hM0 hM1
    have HS:=hid (And.intro hs9' hs10')
    clear hlo hco hcn' hcq hlq hs9' hs10'
    generalize t.len=ta at *
    generalize t.dist=tb at *
    generalize t.lit=tc at *
    subst p5
    have HCD:=hid hcd
    have HU2:=hid hun2
    have HU:=hid hun
    clear hs9 hs10 htake hget ht htv hll hcl hl1 hcn hcd hun hun2 hl2
    go_wp2_with fail
    refine (hlit _).mono ?_
    rintro e w2 ⟨rfl,ch2⟩
    have hb2:=hb.chg ch2 (by simp)
    have b0:=hb2.cell 0
    have b1:=hb2.cell 1
    simp only [List.size_toArray,List.length_cons,List.length_nil,List.getElem?_toArray,List.getElem?_cons_zero,List.getElem?_cons_succ] at b0 b1
    have ch3:=hch.trans_same (ch1.trans_same ch2)
    have k9:=ho9.same (ch1.trans_same ch2)
    have k10:=ho10.same (ch1.trans_same ch2)
    obtain ⟨A9,cp9,hv9,_⟩:=k9.open_
    obtain ⟨A10,cp10,hv10,_⟩:=k10.open_
    rw [←hM9] at hv9
    rw [hM0] at hv10
    subst hv9
    subst hv10
    have HK10:=hid k10
    have HM9:=hid hM9
    have HM10:=hid hM0
    have HO:=hid (And.intro hF9 hF10)
    have HWL:=hid (And.intro ho9.lt ho10.lt)
    clear hb ch1 ch2 hch hcr c1 c2 c3 ho9 ho10 hlit hM9 hM0 hF9 hF10
    have hk9:=k9.lt
    have hk10:=k10.lt
    have hw2:wr.heap.size<w2.heap.size:=hb2.lt
    have hbx:wr.heap.size∉F9:=fun hm=>by have:=HWL.out.1 _ hm;omega
    go_wp2_with fail
    refine (HU.out _).mono ?_
    rintro e w' ⟨rfl,rfl⟩
    have k9':=k9.same ((Chg.refl [] w2).alloc (.cells #[.int .i64 lo] 3))
    have hbn:=Blk.new w2 3 #[.int .i64 lo]
    go_wp2_with (at_builtin;refine wpList_append_o1 rfl rfl int_elem rfl rfl k9' (.int .i64 lo) rfl ?c1 ?c2 ?c3 ?c4 ?_)
    case c1=>exact hbn.cell 0
    case c2=>rfl
    case c3=>rw [←HM9.out];omega
    case c4=>rw [←HM9.out];omega
    intro g1 cap1 w3 hr9 hg9
    rw [←HM9.out] at hr9 ⊢
    have hb3:=(hb2.alloc (.cells #[.int .i64 lo] 3)).chg hg9.chg hbx
    have d1:=hb3.cell 1
    simp only [List.size_toArray,List.length_cons,List.length_nil,List.getElem?_toArray,List.getElem?_cons_zero,List.getElem?_cons_succ] at d1
    have ch4:Chg [] w w3:=(ch3.alloc _).trans hg9.chg (fun x hx => .inr (HO.out.1 x hx).1)
    have k10':=(HK10.out.same ((Chg.refl [] w2).alloc (.cells #[.int .i64 lo] 3))).chg hg9.chg (fun x hx hm=>(HO.out.1 x hm).2 hx)
    have hps:=hp.same ch4
    clear hbn k9' b0 b1 hb2
    have hg1:g1<w3.heap.size:=hr9.lt
    go_wp2_with fail
    refine (HCD.out _ hps).mono ?_
    rintro e w4 ⟨rfl,n4,rfl⟩
    go_wp2_with fail
    refine (HU2.out _).mono ?_
    rintro e w' ⟨rfl,rfl⟩
    have k10b:=(k10'.drewN n4).same ((Chg.refl [] (w3.drewN n4)).alloc (.cells #[.int .i64 co] 3))
    have hbn:=Blk.new (w3.drewN n4) 3 #[.int .i64 co]
    go_wp2_with (at_builtin;refine wpList_append_o1 rfl rfl int_elem rfl rfl k10b (.int .i64 co) rfl ?c1 ?c2 ?c3 ?c4 ?_)
    case c1=>exact hbn.cell 0
    case c2=>rfl
    case c3=>rw [HM10.out];omega
    case c4=>rw [HM10.out];omega
    intro g2 cap2 w5 hr10 hg10
    rw [HM10.out] at hr10 ⊢
    have hg1F:g1∉F10:=fun hm=>by
     rcases hg9.new g1 (by simp) with h5 | h5
     ·exact (HO.out.1 _ h5).2 hm
     ·have:=hk10 _ hm
      have h8:(w2.alloc (.cells #[.int .i64 lo] 3)).heap.size=w2.heap.size+1:=by simp
      omega
    have hr9b:=(hr9.chg ((((Chg.refl F10 w3).drewN n4).alloc (.cells #[.int .i64 co] 3)).trans_same hg10.chg) hg1F)
    have ch6:Chg [] w w5:=((ch4.drewN n4).alloc (.cells #[.int .i64 co] 3)).trans hg10.chg (fun x hx => .inr (HO.out.2 x hx))
    have hs3:((w3.drewN n4).alloc (.cells #[.int .i64 co] 3)).heap.size=w3.heap.size+1:=by simp
    have hg1w:w.heap.size≤g1:=by
     rcases hg9.new g1 (by simp) with h5 | h5
     ·exact (HO.out.1 _ h5).1
     ·have h8:(w2.alloc (.cells #[.int .i64 lo] 3)).heap.size=w2.heap.size+1:=by simp
      have:=ch3.size
      omega
    have hg2w:w.heap.size≤g2∧g1≠g2:=by
     rcases hg10.new g2 (by simp) with h5 | h5
     ·exact ⟨HO.out.2 _ h5,fun e=>hg1F (e ▸ h5)⟩
     ·have:=ch4.size
      exact ⟨by omega,by omega⟩
    clear hb3 hbn k10b hr9 hg9 hg10 k10' d1
    go_wp2_with fail
    go_roundg j
    case measure=>omega
    case rel =>
     refine ⟨i+1,[g1],[g2],by go_num,by omega,?_,?_,?_,?_,ch6⟩
     ·rw [HS.out.1];exact hr9b.toOwn
     ·rw [HS.out.2];exact hr10.toOwn
     ·intro x hx;rw [List.mem_singleton.1 hx];exact ⟨hg1w,by simp;exact hg2w.2⟩
     ·intro x hx;rw [List.mem_singleton.1 hx];exact hg2w.1
def allOf (l:List Int) (n:Nat):List Nat:=l.flatMap fun v=>bitsOf v.toNat n
theorem allOf_len (l:List Int) (n:Nat):(allOf l n).length=n*l.length:=by
 induction l with
 | nil=>simp [allOf]
 | cons x l ih =>
  have e:allOf (x::l) n=bitsOf x.toNat n++allOf l n:=rfl
  rw [e,zC,bitsOf_len,ih,List.length_cons,Nat.mul_add,Nat.mul_one,Nat.add_comm]
theorem allOf_snoc (l:List Int) (x:Int) (n:Nat):allOf (l++[x]) n=allOf l n++bitsOf x.toNat n:=by simp [allOf]
theorem putAll_ok (w:World) (b:Nat) (F bs:List Nat) (l:List Int) (A:Option Addr) (cap n:Nat) (h:IsWr w b F bs) (hn:n≤16) (hl:l.length≤4096) (hs:SmpOk n l) (hc:Cells vi w A l) (hA:Apt A l F) (hbs:bs.length<137438953472) :
  Calls Tryz.prog 87 #[.pointer (some ⟨b,0,none⟩),.slice A l.length cap,.int .i64 n] w fun e w'=>e=.returned (.tuple #[])∧∃ F',IsWr w' b F' (bs++allOf l n)∧Grow F F' w w':=by
 obtain ⟨m,hm⟩:∃ m,m=l.length:=⟨_,rfl⟩
 rw [←hm] at hl ⊢
 have HN:=hid hm
 have HS:=hid hs
 clear hm hs
 go_enter Tryz.func87,Tryz.ntmps87
 go_wp2_with fail
 go_loopg [10] m (fun j iv wr=>∃ (i:Nat) (F' bs':List Nat),iv=.int .i64 i∧i+j=m∧IsWr wr b F' bs'∧Hid (bs'=bs++allOf (l.take i) n)∧bs'.length≤bs.length+16*i∧Grow F F' w wr)
 case atStart=>exact ⟨0,F,bs,rfl,by omega,h,hid (by simp [allOf]),by omega,Grow.refl _ _⟩
 case round =>
  obtain ⟨i,F',bs',rfl,hij,hwr,Hb,hbl,hgr⟩:=hrel
  rcases gk with _ | j
  ·obtain rfl:i=m:=by omega
   go_wp2
   go_end0
   refine ⟨rfl,F',?_,hgr⟩
   have e:l.take i=l:=by rw [HN.out,List.take_length]
   have h5:=Hb.out
   rw [e] at h5
   rw [←h5]
   exact hwr
  ·have him:i<m:=by omega
   have hil:i<l.length:=by rw [←HN.out];exact him
   obtain ⟨g,o,rfl,cl⟩:=(hc.keep hA hgr.chg).at_ hil
   have htk:=take_snoc' l hil
   have hsx:=HS.out l[i] (zG hil)
   obtain ⟨x,hx⟩:∃ x,x=l[i]:=⟨_,rfl⟩
   rw [←hx] at cl htk hsx
   have hxn:x=((x.toNat:Nat):Int):=(Int.toNat_of_nonneg hsx.1).symm
   have hlt:x.toNat<2^n:=by
    have e2:((2^n:Nat):Int)=(2:Int)^n:=by simp
    omega
   have hal:=allOf_snoc (l.take i) x n
   rw [←htk] at hal
   obtain ⟨k,hk⟩:∃ k,k=x.toNat:=⟨_,rfl⟩
   rw [←hk] at hxn hlt hal
   rw [hxn] at cl
   have cl':_=some (Value.int .i64 k):=cl
   have hk16:k<65536:=Nat.lt_of_lt_of_le hlt (by have:=Nat.pow_le_pow_right (n:=2) (by decide) hn;exact this)
   have HAL:=hid hal
   have HLT:=hid hlt
   clear hal hlt hk hxn hsx htk hx cl hil
   go_wp2_with fail
   refine (wput_ok _ b F' bs' k n hwr (by omega) HLT.out (by omega)).mono ?_
   rintro e w2 ⟨rfl,F2,h2,g2⟩
   go_wp2_with fail
   go_roundg j
   case measure=>omega
   case rel =>
    refine ⟨i+1,F2,_,by go_num,by omega,h2,hid ?_,?_,hgr.trans g2⟩
    ·rw [HAL.out,Hb.out,List.append_assoc]
    ·rw [zC,bitsOf_len];omega
def nbrAt (l:List Int) (W i:Nat):Nbr:=nbr l W (i%W) (i / W)
theorem tnear_ok (l:List Int) (A:Option Addr) (cap W d i:Nat) (w:World) (h0:1≤d) (h1:d≤16) (hW0:1≤W) (hW1:W≤64) (hi:i≤l.length) (hiW:i<64*W) (hs:SmpOk d l) (hc:Cells vi w A l) (hll:l.length≤4096) :
  Calls Tryz.prog 107 #[.slice A l.length cap,.int .i64 W,.int .i64 d,.int .i64 i] w fun e w'=>e=.returned (.tuple #[.int .i64 (guessI 7 (nbrAt l W i) d),.int .i64 (classI (nbrAt l W i) d)])∧Chg [] w w':=by
 obtain ⟨x,hx⟩:∃ x,x=i%W:=⟨_,rfl⟩
 obtain ⟨y,hy⟩:∃ y,y=i / W:=⟨_,rfl⟩
 have hxW:x<W:=by rw [hx];exact Nat.mod_lt _ (by omega)
 have hy64:y<64:=by rw [hy];exact Nat.div_lt_of_lt_mul (by rw [Nat.mul_comm];exact hiW)
 have hyx:y*W+x=i:=by rw [hx,hy,Nat.mul_comm];exact Nat.div_add_mod i W
 have e1:(i:Int)%(W:Int)=(x:Int):=by rw [hx];simp
 have e2:(i:Int) / (W:Int)=(y:Int):=by rw [hy];simp
 have hnear:=fun w hc=>near_ok l A cap W x y w hW0 hW1 hxW hy64 (by omega) hc (by omega)
 have hnb:=nbr_ok hs W x y
 have hcls:=fun w=>class_ok (nbr l W x y) d w h0 h1 hnb
 have hone:=fun w=>one_ok 7 (nbr l W x y) d w (by omega) h0 h1 hnb
 have d1:nbrAt l W i=nbr l W x y:=by unfold nbrAt;rw [←hx,←hy]
 rw [d1]
 obtain ⟨n,hn⟩:∃ n,n=l.length:=⟨_,rfl⟩
 rw [←hn] at hnear ⊢
 generalize nbr l W x y=g at *
 generalize classI g d=cl at *
 generalize guessI 7 g d=gs at *
 obtain ⟨ga,gb,gc,ge⟩:=g
 simp only at hnear hcls hone
 have HN:=hid hnear
 have hW1':(1:Int)≤(W:Int):=by omega
 clear hx hy hyx hnear hnb d1 hn hs hi
 go_enter Tryz.func107,Tryz.ntmps107
 go_wp2_with fail
 go_quiet ((go_at_call 144;exact quiet_drew (HN.out _ (hc.same ((Chg.refl [] w).drewN _)))))
 go_wp2_with fail
 refine (hone _).mono ?_
 rintro e w1 ⟨rfl,ch1⟩
 go_wp2_with fail
 refine (hcls _).mono ?_
 rintro e w2 ⟨rfl,ch2⟩
 go_wp2_with fail
 exact bodyPost_ret (v:=.tuple #[.int .i64 gs,.int .i64 cl]) (by simp [results,Tryz.results107,go_sem]) rfl ⟨rfl,(((Chg.refl [] w).drewN nq).trans_same ch1).trans_same ch2⟩
def foldOf (l:List Int) (W d i:Nat):Nat:=rfold (foldI (l.getD i 0-guessI 7 (nbrAt l W i) d) d)
def foldedN (l:List Int) (W d:Nat):List Nat:=(List.range l.length).map (foldOf l W d)
def foldedL (l:List Int) (W d:Nat):List Int:=(foldedN l W d).map Int.ofNat
theorem foldOf_lt (l:List Int) (W:Nat) {d:Nat} (h0:1≤d) (i:Nat):foldOf l W d i<2^d:=by
 obtain ⟨h1,h2⟩:=foldI_range (l.getD i 0-guessI 7 (nbrAt l W i) d) h0
 have h3:=two_pow_half h0
 have h4:((2^d:Nat):Int)=(2:Int)^d:=by simp
 unfold foldOf rfold
 split<;>omega
theorem foldedN_len (l:List Int) (W d:Nat):(foldedN l W d).length=l.length:=by simp [foldedN]
theorem foldedL_len (l:List Int) (W d:Nat):(foldedL l W d).length=l.length:=by simp [foldedL,foldedN]
theorem folded_ok (l:List Int) (A:Option Addr) (cap W d:Nat) (w:World) (h0:1≤d) (h1:d≤16) (hW0:1≤W) (hW1:W≤64) (hlW:l.length≤64*W) (hs:SmpOk d l) (hc:Cells vi w A l) (hll:l.length≤4096) :
  Calls Tryz.prog 85 #[.slice A l.length cap,.int .i64 W,.int .i64 d] w fun e w'=>∃ v g,e=.returned v∧Row w' 3 v g ((foldedL l W d).map vi)∧Chg [] w w'∧w.heap.size≤g:=by
 have hnear:=fun i (hi:i<l.length) w hc=>tnear_ok l A cap W d i w h0 h1 hW0 hW1 (by omega) (by omega) hs hc hll
 have hfl:foldedL l W d=(List.range l.length).map fun i=>(foldOf l W d i:Int):=by simp [foldedL,foldedN,List.map_map]
 obtain ⟨m,hm⟩:∃ m,m=l.length:=⟨_,rfl⟩
 rw [←hm] at hnear hfl hll ⊢
 have hmk:=run_make1 (P:=Tryz.prog) int_elem rfl .i64 .i64 m (by omega) (by omega)
 have HN:=hid hnear
 have HFL:=hid hfl
 have HM:=hid hm
 have HS:=hid hs
 clear hnear hfl hm hs
 go_enter Tryz.func85,Tryz.ntmps85
 go_wp2_with fail
 have hrow0:=Row.zeros w m (by omega)
 obtain ⟨B,hB⟩:∃ B,B=w.heap.size:=⟨_,rfl⟩
 rw [←hB] at hrow0 ⊢
 have HB:=hid hB
 have ch0:Chg [] w (w.alloc (.cells (List.replicate m (Value.int .i64 0)).toArray 3)):=(Chg.refl [] w).alloc _
 clear hB
 go_loopg [17] m (fun j iv wr=>∃ (done:List Int),iv=.int .i64 done.length∧done.length+j=m∧Hid (done=(List.range done.length).map fun i=>(foldOf l W d i:Int))∧Row wr 3 (.slice (some ⟨B,0,none⟩) m m) B ((fillL done m).map vi)∧Chg [] w wr)
 case atStart=>exact ⟨[],rfl,by simp,hid rfl,hrow0,ch0⟩
 case round =>
  obtain ⟨done,rfl,hdl,Hd,hrow,hch⟩:=hrel
  clear hrow0 ch0
  rcases gk with _ | j
  ·have hdm:done.length=m:=by omega
   rw [hdm]
   go_wp2
   go_ret
   refine ⟨_,B,rfl,?_,hch,by have:=HB.out;omega⟩
   rw [fillL_full hdm,Hd.out,hdm] at hrow
   rw [HFL.out]
   exact hrow
  ·obtain ⟨i,hi⟩:∃ i,i=done.length:=⟨_,rfl⟩
   have him:i<m:=by omega
   have hil:i<l.length:=by rw [←HM.out];exact him
   have hstep:done++[(foldOf l W d i:Int)]=(List.range (i+1)).map fun i=>(foldOf l W d i:Int):=by
    rw [List.range_succ,List.map_append,hi,←Hd.out];rfl
   have hcl:=hc.same hch
   obtain ⟨g,o,rfl,hcell⟩:=hcl.at_ hil
   have hxe:l[i]=l.getD i 0:=by rw [zD,zF hil];rfl
   rw [hxe] at hcell
   have hcell':wr.cell? ⟨g,o+i,none⟩=some (.int .i64 (l.getD i 0)):=hcell
   have hnr:=HN.out i him wr hcl
   have hgr:=guessI_ok (nbr_ok HS.out W (i%W) (i / W)) 7
   have hvr:=getD_ok HS.out i
   have hfo:foldOf l W d i=rfold (foldI (l.getD i 0-guessI 7 (nbrAt l W i) d) d):=rfl
   have hnd:nbrAt l W i=nbr l W (i%W) (i / W):=rfl
   rw [←hnd] at hgr
   have hflt:=foldOf_lt l W h0 i
   obtain ⟨hp0,hp1⟩:=pow_d h0 h1
   obtain ⟨gs,hgs⟩:∃ x,x=guessI 7 (nbrAt l W i) d:=⟨_,rfl⟩
   rw [←hgs] at hnr hgr hfo
   obtain ⟨v,hv⟩:∃ x,x=l.getD i 0:=⟨_,rfl⟩
   rw [←hv] at hcell' hvr hfo
   have hfd:=fun w=>fold_ok (v-gs) d w h0 h1
   have hfr:=foldI_range (v-gs) h0
   obtain ⟨fo,hfov⟩:∃ x,x=foldI (v-gs) d:=⟨_,rfl⟩
   rw [←hfov] at hfo hfd hfr
   have hmid:=errRange16 h1 hfr
   have hwide:wideP fo:=by unfold wideP;omega
   have hrf:=fun w=>rfold_ok fo w hwide
   rw [←hfo] at hrf
   obtain ⟨f,hf⟩:∃ f,f=foldOf l W d i:=⟨_,rfl⟩
   rw [←hf] at hrf hflt hstep
   have hf16:f<65536:=by
    have h9:((2^d:Nat):Int)=(2:Int)^d:=by simp
    have h10:=Nat.pow_le_pow_right (n:=2) (by decide) h1
    exact Nat.lt_of_lt_of_le hflt h10
   have hv0 : -65536≤v-gs:=by have:=hvr.1;have:=hgr.2;omega
   have hv1:v-gs≤65536:=by have:=hvr.2;have:=hgr.1;omega
   have HST:=hid hstep
   have HDL:=hid hdl
   have HI:=hid hi
   rw [←hi]
   clear hstep hdl hf hfov hv hgs hgr hvr hfo hnd hflt hp0 hp1 hfr hmid hwide hcell hxe hil hcl hi
   go_wp2_with fail
   refine hnr.mono ?_
   rintro e w2 ⟨rfl,ch2⟩
   have hrow2:=hrow.chg ch2 (by simp)
   obtain ⟨hce2,hfr2⟩:=hrow2.fill_cell (by have:=HDL.out;omega)
   rw [←HI.out] at hce2 hfr2
   clear hnr hcell'
   go_wp2_with (first | (go_at_call 67;refine (hfd _).mono ?_;rintro e w' ⟨rfl,rfl⟩) | (go_at_call 117;refine (hrf _).mono ?_;rintro e w' ⟨rfl,rfl⟩))
   go_roundg j
   case measure=>omega
   case rel =>
    have hrow3:=hrow2.fill (by have:=HDL.out;omega) (f:Int)
    refine ⟨done++[(f:Int)],?_,?_,hid ?_,?_,?_⟩
    ·rw [zC,List.length_singleton,←HI.out];go_num
    ·rw [zC,List.length_singleton];have:=HDL.out;omega
    ·rw [zC,List.length_singleton,←HI.out]
     exact HST.out
    ·rw [←HI.out] at hrow3
     exact hrow3
    ·exact (hch.trans_same ch2).setCell (.inr (by have:=HB.out;simp;omega)) _
theorem isSize_yes (W H d:Nat) (w:World) (hw0:1≤W) (hw1:W≤16) (hh0:1≤H) (hh1:H≤16) (h0:1≤d) (h1:d≤16) :
  Calls Tryz.prog 74 #[.int .i64 W,.int .i64 H,.int .i64 d] w fun e w'=>e=.returned (.bool true)∧w=w':=by
 have t1:decide ((1:Int)≤(W:Int))=true:=zB (by omega)
 have t2:decide ((W:Int)≤16)=true:=zB (by omega)
 have t3:decide ((1:Int)≤(H:Int))=true:=zB (by omega)
 have t4:decide ((H:Int)≤16)=true:=zB (by omega)
 have t5:decide ((1:Int)≤(d:Int))=true:=zB (by omega)
 have t6:decide ((d:Int)≤16)=true:=zB (by omega)
 go_enter Tryz.func74,Tryz.ntmps74
 go_wp2
 go_ret
 exact ⟨rfl,rfl⟩
theorem isTile_yes (l:List Int) (A:Option Addr) (cap W H d:Nat) (w:World) (hw0:1≤W) (hw1:W≤16) (hh0:1≤H) (hh1:H≤16) (h0:1≤d) (h1:d≤16) (hl:l.length=W*H) (hs:SmpOk d l) (hc:Cells vi w A l) :
  Calls Tryz.prog 68 #[.slice A l.length cap,.int .i64 W,.int .i64 H,.int .i64 d] w fun e w'=>e=.returned (.bool true)∧w=w':=by
 obtain ⟨hp0,hp1⟩:=pow_d h0 h1
 obtain ⟨m,hm⟩:∃ m,m=l.length:=⟨_,rfl⟩
 rw [←hm] at hl ⊢
 have hmul:(W:Int)*(H:Int)=(m:Int):=by rw [hl];simp
 have t7:((m:Int) != (m:Int))=false:=by simp
 have hm4:m≤256:=by rw [hl];exact Nat.mul_le_mul hw1 hh1
 have HN:=hid hm
 have HS:=hid hs
 clear hm hl hs
 go_enter Tryz.func68,Tryz.ntmps68
 go_wp2_with (go_at_call 74;refine (isSize_yes _ _ _ _ hw0 hw1 hh0 hh1 h0 h1).mono ?_;rintro e w' ⟨rfl,rfl⟩)
 go_loopg [26] m (fun j i wr=>j≤m∧i=.int .i64 ((m-j:Nat):Int)∧w=wr)
 case atStart=>exact ⟨Nat.le_refl _,by simp,rfl⟩
 case round =>
  obtain ⟨hj,rfl,rfl⟩:=hrel
  rcases gk with _ | j
  ·have t8:decide (((m-0:Nat):Int)<(m:Int))=false:=by simp
   go_wp2
   go_ret
   exact ⟨rfl,rfl⟩
  ·obtain ⟨i,hi1⟩:∃ i,i=m-(j+1):=⟨_,rfl⟩
   rw [←hi1]
   have hi2:i<m:=by omega
   have hi3:m-j=i+1:=by omega
   have HI:=hid hi3
   clear hi1 hi3
   have hml:i<l.length:=by rw [←HN.out];exact hi2
   obtain ⟨g,o,rfl,hcell⟩:=hc.at_ hml
   have hx:=HS.out l[i] (zG _)
   obtain ⟨x,hxx⟩:∃ x,x=l[i]:=⟨_,rfl⟩
   rw [←hxx] at hcell hx
   have hcell':w.cell? ⟨g,o+i,none⟩=some (.int .i64 x):=hcell
   obtain ⟨hx0,hx1⟩:=hx
   have t9:decide (x<0)=false:=zA (by omega)
   have t10:decide ((2:Int)^d≤x)=false:=zA (by omega)
   clear hcell hxx hml
   go_wp2
   go_roundg j
   case measure=>omega
   case rel =>
    rw [HI.out]
    exact ⟨by omega,by go_num,rfl⟩
theorem rnumber_ok (w:World) (b:Nat) (F ds:List Nat) (p k most u:Nat) (h:IsRd w b F ds p) (hk:k≤25) (hu:u≤most) (hm:most≤65536) (ha:Ahead ds p (rbits k (unfoldI u))) :
  Calls Tryz.prog 153 #[.pointer (some ⟨b,0,none⟩),.int .i64 k,.int .i64 most] w fun e w'=>e=.returned (.tuple #[.int .i64 u,.int .i64 0])∧IsRd w' b F ds (p+(rbits k (unfoldI u)).length)∧Chg [b] w w':=by
 have hwd:=unfoldI_wide (u:=u) (by omega)
 have hg:=rgets_ok w b F ds p k [unfoldI u] h hk (fun z hz=>by rw [List.mem_singleton.1 hz];exact hwd) (by simp) (by simpa [rbitsAll] using ha)
 rw [show (([unfoldI u]:List Int).length:Int)=1 from rfl] at hg
 have hrl:(rbitsAll k [unfoldI u]).length=(rbits k (unfoldI u)).length:=by simp [rbitsAll]
 rw [hrl] at hg
 have hfo:=fun w'=>rfold_ok (unfoldI u) w' hwd
 rw [rfold_unfoldI] at hfo
 have t1:decide ((u:Int)≤(most:Int))=true:=zB (by omega)
 have t1':decide (u≤most)=true:=zB (by omega)
 have hw1:IntKind.u64.wrap (most:Int)=(most:Int):=IntWalk.u64_in _ (by omega)
 have hw2:IntKind.i64.wrap (u:Int)=(u:Int):=IntWalk.i64_in _ (by omega)
 generalize unfoldI u=x at *
 generalize (rbits k x).length=q at *
 clear h ha hrl
 go_enter Tryz.func153,Tryz.ntmps153
 go_wp2_with fail
 refine hg.mono ?_
 rintro e w1 ⟨v,G,rfl,own,hr1,ch1,hG⟩
 rcases own.cases with ⟨_,hnil,_⟩ | ⟨g4,row4,rfl⟩
 ·exfalso
  have:=congrArg List.length hnil
  simp at this
 obtain ⟨c4,rfl,_,_,hcell4,_⟩:=row4.open_map
 have e0:=hcell4 0 x rfl
 have e0':w1.cell? ⟨g4,0,none⟩=some (.int .i64 x):=e0
 rw [show (([x]:List Int).length)=1 from rfl]
 have hfo1:=hfo w1
 clear hg own row4 hcell4 e0 hfo
 go_wp2_with fail
 refine hfo1.mono ?_
 rintro e w' ⟨rfl,rfl⟩
 go_wp2
 go_ret2
 exact ⟨rfl,hr1,ch1⟩
theorem rtoken_ok (w:World) (b:Nat) (F ds:List Nat) (p k j W d:Nat) (t:Tok) (h:IsRd w b F ds p) (hp:Pts w) (h0F:0∉F) (hk:k≤25) (hj:j≤25) (hw0:1≤W) (hw1:W≤64) (hd:d≤16) (ht:TokOk d t) (ha:Ahead ds p (tokBits k j W d t)) :
  Calls Tryz.prog 104 #[.pointer (some ⟨b,0,none⟩),.int .i64 k,.int .i64 j,.int .i64 W,.int .i64 d] w fun e w'=>e=.returned (.tuple #[tokV t,.int .i64 0])∧IsRd w' b F ds (p+(tokBits k j W d t).length)∧Chg [b] w w':=by
 obtain ⟨br,hbr⟩:∃ br,br=w.heap.size:=⟨_,rfl⟩
 obtain ⟨w0,hw0'⟩:∃ w0,w0=w.alloc (.cells #[.int .i64 0,.int .i64 0,.int .i64 0] 132):=⟨_,rfl⟩
 have hb0:Blk w0 br 132 #[.int .i64 0,.int .i64 0,.int .i64 0]:=by rw [hw0',hbr];exact Blk.new w _ _
 have ch0:Chg [] w w0:=by rw [hw0'];exact (Chg.refl [] w).alloc _
 have hr0:=h.same ch0
 have hp0:=hp.same ch0
 have hbb:br∉F:=fun hm=>by have:=h.lt _ hm;omega
 have hbbr:b≠br:=by have:=h.lt b h.mem;omega
 have hbF:=h.mem
 have HW0:=hid hw0'
 have HBR:=hid hbr
 clear hw0' hbr h hp
 unfold tokBits at ha ⊢
 rcases ht with ⟨hl,hx0,hx1⟩ | ⟨hl,hc⟩
 ·rw [if_pos hl] at ha ⊢
  have hli:=Tok.isLit_iff.1 hl
  obtain ⟨a,c,x⟩:=t
  obtain ⟨rfl,rfl⟩:a=0∧c=0:=hli
  simp only at hx0 hx1 ha ⊢
  have htv:tokV ⟨0,0,x⟩=.agg #[.int .i64 0,.int .i64 0,.int .i64 x]:=rfl
  rw [htv]
  obtain ⟨X,hX⟩:∃ X:Nat,X=x.toNat:=⟨_,rfl⟩
  have hxX:x=(X:Int):=by omega
  have hXd:X<2^d:=by
   have e:(2:Int)^d=((2^d:Nat):Int):=by simp
   rw [e,hxX] at hx1
   omega
  have hX16:X<65536:=Nat.lt_of_lt_of_le hXd (show 2^d≤2^16 from Nat.pow_le_pow_right (by decide) hd)
  rw [←hX] at ha ⊢
  rw [hxX]
  have hg1:=rget_ahead w0 b F ds p 1 0 hr0 (by omega) (by decide) ha.left
  have ha2:=ha.right
  rw [bitsOf_len] at ha2
  have hg2:=fun w' (hr:IsRd w' b F ds (p+1))=>rget_ahead w' b F ds (p+1) d X hr (by omega) hXd ha2
  rw [zC,bitsOf_len,bitsOf_len]
  have hw2:IntKind.i64.wrap (X:Int)=(X:Int):=IntWalk.i64_in _ (by omega)
  have HG2:=hid hg2
  clear hX hxX hXd hx0 hx1 ha ha2 hg2 hl htv
  go_enter Tryz.func104,Tryz.ntmps104
  go_wp2_with fail
  rw [←HW0.out,←HBR.out]
  refine hg1.mono ?_
  rintro e w1 ⟨rfl,hr1,ch1⟩
  have hb1:=hb0.chg ch1 (by simpa using hbbr.symm)
  clear hg1 hr0
  go_wp2_with fail
  refine (HG2.out w1 hr1).mono ?_
  rintro e w2 ⟨rfl,hr2,ch2⟩
  have hb2:=hb1.chg ch2 (by simpa using hbbr.symm)
  have q0:=hb2.cell 0
  have q1:=hb2.cell 1
  have q2:=hb2.cell 2
  have z0:=hb2.frozen 0
  have z1:=hb2.frozen 1
  have z2:=hb2.frozen 2
  simp at q0 q1 q2
  obtain ⟨wF,hwF⟩:∃ wF,wF=((w2.setCell ⟨br,0,none⟩ (.int .i64 0)).setCell ⟨br,1,none⟩ (.int .i64 0)).setCell ⟨br,2,none⟩ (.int .i64 X):=⟨_,rfl⟩
  have hbF':Blk wF br 132 #[.int .i64 0,.int .i64 0,.int .i64 X]:=by
   rw [hwF]
   simpa using ((hb2.set_ 0 (.int .i64 0)).set_ 1 (.int .i64 0)).set_ 2 (.int .i64 X)
  have hfar:Chg [br] w2 wF:=by rw [hwF];exact (((Chg.refl [br] w2).setCell (.inl (by simp)) _).setCell (.inl (by simp)) _).setCell (.inl (by simp)) _
  have f0:=hbF'.cell 0
  have f1:=hbF'.cell 1
  have f2:=hbF'.cell 2
  simp at f0 f1 f2
  have HWF:=hid hwF
  clear hwF hbF' hb1
  go_wp2_with (go_at_call 60;refine (err_ok _ b F ds _ hr2).mono ?_;rintro e w' ⟨rfl,rfl⟩)
  rw [←HWF.out]
  refine bodyPost_ret (v:=.tuple #[.agg #[.int .i64 0,.int .i64 0,.int .i64 X],.int .i64 0]) (by simp [results,Tryz.results104,go_sem,f0,f1,f2]) rfl ?_
  exact ⟨rfl,(hr2.cast (by omega)).chg hfar (fun z hz hm=>by simp at hm;exact hbb (hm ▸ hz)),(((ch0.mono (by simp)).trans_same ch1).trans_same ch2).trans hfar (fun z hz => .inr (by simp at hz;have:=HBR.out;omega))⟩
 ·rw [if_neg (by simp [hl])] at ha ⊢
  have hci:=Tok.isCopy_iff.1 hc
  obtain ⟨n,c,x⟩:=t
  obtain ⟨hn3,hn64,hc1,hc1024,rfl⟩:3≤n∧n≤64∧1≤c∧c≤1024∧x=0:=hci
  have htv:tokV ⟨n,c,0⟩=.agg #[.int .i64 n,.int .i64 c,.int .i64 0]:=rfl
  rw [htv]
  have hcn:=codeN_ok (d:=c) (W:=W) hc1
  have hg1:=rget_ahead w0 b F ds p 1 1 hr0 (by omega) (by decide) ha.left.left
  have ha2:=ha.left.right
  have ha3:=ha.right
  have e2:lenOf ⟨n,c,0⟩=unfoldI (n-3):=rfl
  have e3:codeOf W ⟨n,c,0⟩=unfoldI (codeN c W-1):=rfl
  rw [zC,bitsOf_len,e2] at ha3
  rw [bitsOf_len,e2] at ha2
  rw [e3] at ha3
  have hg2:=fun w' (hr:IsRd w' b F ds (p+1))=>rnumber_ok w' b F ds (p+1) k 61 (n-3) hr hk (by omega) (by decide) ha2
  have hg3:=fun w' (hr:IsRd w' b F ds (p+(1+(rbits k (unfoldI (n-3))).length)))=>rnumber_ok w' b F ds _ j 1047 (codeN c W-1) hr hj (by omega) (by decide) ha3
  rw [zC,zC,bitsOf_len,e2,e3]
  have hnear:=fun w' (hp:Pts w')=>mnear_ok (codeN c W) W w' hp hcn.1.1 (by omega) hw0 hw1
  rw [hcn.2] at hnear
  obtain ⟨cd,hcd⟩:∃ cd,cd=codeN c W:=⟨_,rfl⟩
  rw [←hcd] at hg3 hnear hcn ⊢
  obtain ⟨c0,hc0⟩:∃ c0,c0=cd-1:=⟨_,rfl⟩
  have hcc:(c0:Int)+1=(cd:Int):=by omega
  rw [←hc0] at hg3 ⊢
  obtain ⟨n0,hn0⟩:∃ n0,n0=n-3:=⟨_,rfl⟩
  have hnn:(n0:Int)+3=(n:Int):=by omega
  rw [←hn0] at hg2 hg3 ⊢
  generalize (rbits k (unfoldI n0)).length=q1 at *
  generalize (rbits j (unfoldI c0)).length=q2 at *
  rw [show ((61:Nat):Int)=61 from rfl] at hg2
  rw [show ((1047:Nat):Int)=1047 from rfl] at hg3
  have t1:(((1:Nat):Int)==0)=false:=rfl
  have hcd11:cd≤1048:=by omega
  have HG2:=hid hg2
  have HG3:=hid hg3
  have HNR:=hid hnear
  clear ha ha2 ha3 hg2 hg3 hnear hcd hc0 hn0 e2 e3 hl hc htv hcn
  go_enter Tryz.func104,Tryz.ntmps104
  go_wp2_with fail
  rw [←HW0.out,←HBR.out]
  refine hg1.mono ?_
  rintro e w1 ⟨rfl,hr1,ch1⟩
  have hb1:=hb0.chg ch1 (by simpa using hbbr.symm)
  have hp1:=hp0.chg ch1 (fun hm=>by simp at hm;exact h0F (hm ▸ hbF))
  clear hg1 hr0
  go_wp2_with fail
  refine (HG2.out w1 hr1).mono ?_
  rintro e w2 ⟨rfl,hr2,ch2⟩
  have hb2:=hb1.chg ch2 (by simpa using hbbr.symm)
  have hp2:=hp1.chg ch2 (fun hm=>by simp at hm;exact h0F (hm ▸ hbF))
  go_wp2_with fail
  refine (HG3.out w2 (hr2.cast (by omega))).mono ?_
  rintro e w3 ⟨rfl,hr3,ch3⟩
  have hb3:=hb2.chg ch3 (by simpa using hbbr.symm)
  have hp3:=hp2.chg ch3 (fun hm=>by simp at hm;exact h0F (hm ▸ hbF))
  go_wp2_with fail
  refine (HNR.out w3 hp3).mono ?_
  rintro e w4' ⟨rfl,n4,rfl⟩
  obtain ⟨w4,hw4⟩:∃ w4,w4=w3.drewN n4:=⟨_,rfl⟩
  have ch4:Chg [] w3 w4:=by rw [hw4];exact (Chg.refl [] w3).drewN n4
  rw [←hw4]
  have hb4:=hb3.chg ch4 (by simp)
  have q0:=hb4.cell 0
  have q1':=hb4.cell 1
  have q2':=hb4.cell 2
  have z0:=hb4.frozen 0
  have z1:=hb4.frozen 1
  have z2:=hb4.frozen 2
  simp at q0 q1' q2'
  obtain ⟨wF,hwF⟩:∃ wF,wF=((w4.setCell ⟨br,0,none⟩ (.int .i64 n)).setCell ⟨br,1,none⟩ (.int .i64 c)).setCell ⟨br,2,none⟩ (.int .i64 0):=⟨_,rfl⟩
  have hbF':Blk wF br 132 #[.int .i64 n,.int .i64 c,.int .i64 0]:=by
   rw [hwF]
   simpa using ((hb4.set_ 0 (.int .i64 n)).set_ 1 (.int .i64 c)).set_ 2 (.int .i64 0)
  have hfar:Chg [br] w4 wF:=by rw [hwF];exact (((Chg.refl [br] w4).setCell (.inl (by simp)) _).setCell (.inl (by simp)) _).setCell (.inl (by simp)) _
  have f0:=hbF'.cell 0
  have f1:=hbF'.cell 1
  have f2:=hbF'.cell 2
  simp at f0 f1 f2
  have HWF:=hid hwF
  have hr4:=hr3.same ch4
  clear hwF hbF' hb1 hb2 hb3 hw4
  go_wp2_with fail
  rw [←HWF.out]
  refine bodyPost_ret (v:=.tuple #[.agg #[.int .i64 n,.int .i64 c,.int .i64 0],.int .i64 0]) (by simp [results,Tryz.results104,go_sem,f0,f1,f2]) rfl ?_
  exact ⟨rfl,(hr4.cast (by omega)).chg hfar (fun z hz hm=>by simp at hm;exact hbb (hm ▸ hz)),(((((ch0.mono (by simp)).trans_same ch1).trans_same ch2).trans_same ch3).trans ch4 (by simp)).trans hfar (fun z hz => .inr (by simp at hz;have:=HBR.out;omega))⟩
theorem grow_ok (w:World) (l:List Int) (v:Value) (F:List Nat) (i:Nat) (t:Tok) (ho:Own w 3 v F ((l.take i).map vi)) (hl:l.length≤4096) (hil:i<l.length) (ht:TokAt l i t) (hok:t.ok) :
  Calls Tryz.prog 105 #[v,tokV t] w fun e w'=>∃ v' F',e=.returned v'∧Own w' 3 v' F' ((l.take (i+max t.len 1)).map vi)∧Grow F F' w w':=by
 obtain ⟨bt,hbt⟩:∃ bt,bt=w.heap.size:=⟨_,rfl⟩
 have hli:=fun w'=>isLit_ok t w'
 have htk:(l.take i).length=i:=by rw [List.length_take];omega
 have HLT:=hid ho.lt
 rcases ht with ⟨h1,h2,h3⟩ | ⟨h1,h2,h3,h4,h5⟩
 ·have hlit:t.isLit=true:=Tok.isLit_iff.2 ⟨h1,h2⟩
  rw [hlit] at hli
  obtain ⟨a,c,x⟩:=t
  simp only at h1 h2 h3
  subst h1 h2
  have htv:tokV ⟨0,0,x⟩=.agg #[.int .i64 0,.int .i64 0,.int .i64 x]:=rfl
  rw [htv] at hli ⊢
  have hnx:l.take (i+max 0 1)=l.take i++[x]:=by
   rw [show i+max 0 1=i+1 by omega,take_snoc' l hil,h3,zD,zF hil]
   rfl
  simp only
  rw [hnx]
  obtain ⟨xs,hxs⟩:∃ xs,xs=l.take i:=⟨_,rfl⟩
  rw [←hxs] at ho htk ⊢
  obtain ⟨w0,hw0⟩:∃ w0,w0=w.alloc (.cells #[.int .i64 0,.int .i64 0,.int .i64 x] 132):=⟨_,rfl⟩
  have hb0:Blk w0 bt 132 #[.int .i64 0,.int .i64 0,.int .i64 x]:=by rw [hw0,hbt];exact Blk.new w _ _
  have ch0:Chg [] w w0:=by rw [hw0];exact (Chg.refl [] w).alloc _
  have ho0:=ho.same ch0
  have q0:=hb0.cell 0
  have q1:=hb0.cell 1
  have q2:=hb0.cell 2
  simp at q0 q1 q2
  have HW0:=hid hw0
  have HBT:=hid hbt
  clear h3 hnx hxs hlit hok htv hw0 hbt ho
  go_enter Tryz.func105,Tryz.ntmps105
  go_wp2_with fail
  rw [←HW0.out]
  refine (hli w0).mono ?_
  rintro e w1 ⟨rfl,ch1⟩
  have q2':=(hb0.chg ch1 (by simp)).cell 2
  simp at q2'
  rw [HBT.out] at q2'
  have ho1:=ho0.same ch1
  clear hli q0 q1 q2 hb0 ho0
  go_wp2_with (at_builtin;refine wpList_append_o1 rfl rfl int_elem rfl rfl (ho1.alloc _) (.int .i64 x) rfl ?c1 ?c2 ?c3 ?c4 ?_)
  case c1=>simp [go_sem]
  case c2=>rfl
  case c3=>rw [zE];omega
  case c4=>rw [zE];omega
  intro g2 cap2 w2 hr2 gr2
  go_wp2_with fail
  go_ret
  exact ⟨_,[g2],rfl,by have:=hr2.toOwn;simpa [vi] using this,Grow.pre ((ch0.trans_same ch1).alloc _) gr2⟩
 ·have hlit:t.isLit=false:=by
   cases hq:t.isLit with
   | false=>rfl
   | true=>have := Tok.isLit_iff.1 hq;omega
  rw [hlit] at hli
  have hcp:=Tok.isCopy_iff.1 (by rcases hok with h | h;rw [hlit] at h;cases h;exact h)
  obtain ⟨n,c,x⟩:=t
  simp only at h1 h2 h3 h4 h5 hcp
  obtain rfl:x=0:=hcp.2.2.2.2
  have htv:tokV ⟨n,c,0⟩=.agg #[.int .i64 n,.int .i64 c,.int .i64 0]:=rfl
  rw [htv] at hli ⊢
  have hmx:i+max n 1=i+n:=by omega
  simp only
  rw [hmx]
  obtain ⟨w0,hw0⟩:∃ w0,w0=w.alloc (.cells #[.int .i64 n,.int .i64 c,.int .i64 0] 132):=⟨_,rfl⟩
  have hb0:Blk w0 bt 132 #[.int .i64 n,.int .i64 c,.int .i64 0]:=by rw [hw0,hbt];exact Blk.new w _ _
  have ch0:Chg [] w w0:=by rw [hw0];exact (Chg.refl [] w).alloc _
  have ho0:=ho.same ch0
  have q0:=hb0.cell 0
  have q1:=hb0.cell 1
  have q2:=hb0.cell 2
  simp at q0 q1 q2
  have HW0:=hid hw0
  have HBT:=hid hbt
  have H5:=hid h5
  clear hmx hlit hok htv hw0 hbt ho h5
  go_enter Tryz.func105,Tryz.ntmps105
  go_wp2_with fail
  rw [←HW0.out]
  refine (hli w0).mono ?_
  rintro e w1 ⟨rfl,ch1⟩
  have hb1:=hb0.chg ch1 (by simp)
  have q0':=hb1.cell 0
  simp at q0'
  rw [HBT.out] at q0'
  have ho1:=ho0.same ch1
  have gr1:Grow F F w w1:=(Grow.refl F w).same (ch0.trans_same ch1)
  have hbtF:bt∉F:=fun hm=>by have:=HLT.out _ hm;have:=HBT.out;omega
  clear hli q0 q1 q2 hb0 ho0
  go_wp2_with fail
  go_loopg [0,14] n (fun k vl iv wr=>∃ (m:Nat) (F':List Nat),iv=.int .i64 m∧m+k=n∧Own wr 3 vl F' ((l.take (i+m)).map vi)∧Blk wr bt 132 #[.int .i64 n,.int .i64 c,.int .i64 0]∧bt∉F'∧Grow F F' w wr)
  case atStart=>exact ⟨0,F,rfl,by omega,ho1,hb1,hbtF,gr1⟩
  case round =>
   clear ho1 hb1 hbtF gr1 q0'
   obtain ⟨m,F',rfl,hmk,hown,hblk,hbF,hgr⟩:=hrel
   rcases gk with _ | k
   ·obtain rfl:n=m:=by omega
    have t5:decide ((n:Int)<(n:Int))=false:=by simp
    have t5':decide (n<n)=false:=by simp
    obtain ⟨A,cap,rfl,_,_,_⟩:=hown.open_map
    go_wp2_with fail
    go_ret
    exact ⟨_,F',rfl,hown,hgr⟩
   ·have hmn:m<n:=by omega
    have t5:decide ((m:Int)<(n:Int))=true:=zB (by omega)
    have t5':decide (m<n)=true:=zB hmn
    have htl:(l.take (i+m)).length=i+m:=by rw [List.length_take];omega
    obtain ⟨q,hq⟩:∃ q,q=i+m-c:=⟨_,rfl⟩
    have hqi:q<i+m:=by omega
    obtain ⟨A,cap,rfl,hcl,hcm,hcells⟩:=hown.open_map
    obtain ⟨ga,oa,rfl,hcell⟩:=hcells.at_ (m:=q) (by rw [htl];exact hqi)
    have hqv:(l.take (i+m))[q]=l.getD (i+m) 0:=by
     rw [H5.out m hmn,←hq,List.getElem_take,zD,zF (by omega)]
     rfl
    rw [hqv] at hcell
    have him:i+m<l.length:=by omega
    have htk2:=take_snoc' l him
    have hyv:l[i+m]=l.getD (i+m) 0:=by rw [zD,zF him];rfl
    rw [hyv] at htk2
    generalize l.getD (i+m) 0=y at *
    have hcell':wr.cell? ⟨ga,oa+q,none⟩=some (.int .i64 y):=hcell
    obtain ⟨im,him2⟩:∃ im,im=i+m:=⟨_,rfl⟩
    rw [←him2] at htl hown htk2 hqi hcells hcl
    obtain ⟨xs,hxs⟩:∃ xs,xs=l.take im:=⟨_,rfl⟩
    rw [←hxs] at htl hown htk2 hcl hcells
    have eq1:(im:Int)-(c:Int)=(q:Int):=by omega
    have c1':=hblk.cell 1
    simp at c1'
    rw [HBT.out] at c1'
    rw [htl] at hown hcl
    have hal:=hown.alloc (.cells #[.int .i64 y] 3)
    have HTK:=hid htk2
    have HIM:=hid him2
    have him4:im≤4096:=by omega
    rw [←him2,←hxs,htl]
    clear hcell hqv hyv htk2 him2 hxs hcells hq him
    go_wp2_with (at_builtin;refine wpList_append_o1 rfl rfl int_elem rfl rfl hal (.int .i64 y) rfl ?c1 ?c2 ?c3 ?c4 ?_)
    case c1=>simp [go_sem]
    case c2=>rfl
    case c3=>rw [zE];omega
    case c4=>rw [zE];omega
    intro g2 cap2 w2 hr2 gr2
    go_wp2_with fail
    go_roundg k
    case measure=>omega
    case rel =>
     have hgF:g2∉F'∨g2∈F':=by by_cases hh:g2∈F'<;>simp [hh]
     have hbg:bt∉[g2]:=fun hm=>by
      simp at hm
      rcases gr2.new g2 (by simp) with h9 | h9
      ·exact hbF (hm ▸ h9)
      ·have:=hblk.lt;simp at h9;omega
     have e1:i+(m+1)=im+1:=by have:=HIM.out;omega
     refine ⟨m+1,[g2],by go_num,by omega,?_,(Blk.alloc hblk _).chg gr2.chg hbF,hbg,(hgr.alloc _).trans gr2⟩
     rw [e1,HTK.out,List.map_append]
     have:=hr2.toOwn
     exact this
theorem mtget_ok (w:World) (b:Nat) (F ds:List Nat) (p:Nat) (l:List Int) (W d:Nat) (T:List Tok) (h:IsRd w b F ds p) (hp:Pts w) (h0F:0∉F) (hw0:1≤W) (hw1:W≤64) (h0:1≤d) (h1:d≤16) (hl:l.length≤4096) (hT:ToksFrom l 0 T) (hok:∀ t∈T,TokOk d t) (ha:Ahead ds p (matchBits T W d)) :
  Calls Tryz.prog 79 #[.pointer (some ⟨b,0,none⟩),.int .i64 l.length,.int .i64 W,.int .i64 d] w fun e w'=>∃ v G,e=.returned (.tuple #[v,.int .i64 0])∧Own w' 3 v G (l.map vi)∧IsRd w' b F ds (p+(matchBits T W d).length)∧Chg [b] w w'∧∀ x∈G,w.heap.size≤x:=by
 have hmb:matchBits T W d=bitsOf (rbest (copyLens T)) 5++bitsOf (rbest (copyCodes W T)) 5++T.flatMap (tokBits (rbest (copyLens T)) (rbest (copyCodes W T)) W d):=rfl
 rw [hmb] at ha ⊢
 rw [zC,zC,bitsOf_len,bitsOf_len]
 have hk:=rbest_le (copyLens T)
 have hj:=rbest_le (copyCodes W T)
 generalize rbest (copyLens T)=k at *
 generalize rbest (copyCodes W T)=j at *
 have hg1:=rget_ahead w b F ds p 5 k h (by omega) (by omega) ha.left.left
 have ha2:=ha.left.right
 have ha3:=ha.right
 rw [bitsOf_len] at ha2
 rw [zC,bitsOf_len,bitsOf_len] at ha3
 have hg2:=fun w' (hr:IsRd w' b F ds (p+5))=>rget_ahead w' b F ds (p+5) 5 j hr (by omega) (by omega) ha2
 obtain ⟨n,hn⟩:∃ n,n=l.length:=⟨_,rfl⟩
 rw [←hn] at hl ⊢
 have t1:decide ((W:Int)<1)=false:=zA (by omega)
 have t2:decide ((64:Int)<(W:Int))=false:=zA (by omega)
 have t3:decide ((d:Int)<1)=false:=zA (by omega)
 have t4:decide ((16:Int)<(d:Int))=false:=zA (by omega)
 have t5:decide ((n:Int)<0)=false:=zA (by omega)
 have t6:decide ((4096:Int)<(n:Int))=false:=zA (by omega)
 have t7:decide ((25:Int)<(k:Int))=false:=zA (by omega)
 have t8:decide ((25:Int)<(j:Int))=false:=zA (by omega)
 have hmk:=run_make_room (P:=Tryz.prog) int_elem rfl .i64 .i64 n (by omega) (by omega)
 have hbl:=h.lt b h.mem
 have HN:=hid hn
 have HA:=hid ha3
 have HT:=hid hT
 have HOK:=hid hok
 have HG2:=hid hg2
 have HLT:=hid h.lt
 have HP:=hid hp
 have HB0:Hid (0∉[b]):=hid (by simp;intro e;exact h0F (e ▸ h.mem))
 clear hn ha3 hT hok hg2 ha ha2 hmb hp h
 go_enter Tryz.func79,Tryz.ntmps79
 go_wp2_with fail
 refine hg1.mono ?_
 rintro e w1 ⟨rfl,hr1,ch1⟩
 clear hg1
 go_wp2_with fail
 refine (HG2.out w1 hr1).mono ?_
 rintro e w2 ⟨rfl,hr2,ch2⟩
 have hrow0:=Row.room w2 n (by omega)
 obtain ⟨B,hB⟩:∃ B,B=w2.heap.size:=⟨_,rfl⟩
 have chA:Chg [] w2 (w2.alloc (.cells (List.replicate n (Value.int .i64 0)).toArray 3)):=(Chg.refl [] w2).alloc _
 have hr3:=hr2.same chA
 have ch3:=(ch1.trans_same ch2).trans chA (by simp)
 have hwB:w.heap.size≤B:=by rw [hB];exact (ch1.trans_same ch2).size
 rw [←hB] at hrow0
 have HB:=hid hB
 clear hr1 ch1 ch2 chA hB
 go_wp2_with (go_at_call 60;refine (err_ok _ b F ds _ hr2).mono ?_;rintro e w' ⟨rfl,rfl⟩)
 rw [←HB.out]
 go_loopg [13,14,15] T.length (fun q vl va vb wr=>∃ (i p':Nat) (R:List Tok) (F':List Nat),R.length=q∧i≤n∧Own wr 3 vl F' ((l.take i).map vi)∧Hid (ToksFrom l i R)∧Hid (∀ t∈R,TokOk d t)∧IsRd wr b F ds p'∧Hid (Ahead ds p' (R.flatMap (tokBits k j W d)))∧Hid (p'+(R.flatMap (tokBits k j W d)).length=p+(5+5)+(T.flatMap (tokBits k j W d)).length)∧Hid (Chg [b] w wr)∧Hid (∀ x∈F',w.heap.size≤x))
 case atStart=>exact ⟨0,p+(5+5),T,[B],rfl,by omega,by simpa using hrow0.toOwn,HT,HOK,hr3.cast (by omega),HA,hid rfl,hid ch3,hid (by simpa using hwB)⟩
 case round =>
  clear hrow0 hr2 hr3 ch3 hwB
  obtain ⟨i,p',R,F',hRq,hin,hown,HTF,HRO,hrd,HAR,HPR,HCH,HF'⟩:=hrel
  obtain ⟨A,cap,rfl,hcl,hcm,hcells⟩:=hown.open_map
  have htl:(l.take i).length=i:=by rw [List.length_take,←HN.out];omega
  cases R with
  | nil =>
   have hni:n≤i:=by have:=HTF.out;rw [HN.out];exact this
   obtain rfl:n=i:=by omega
   have u1:decide (n<n)=false:=by simp
   have e1:l.take n=l:=by rw [HN.out,List.take_length]
   have hpr:=HPR.out
   rw [htl]
   rw [htl,e1] at hown
   have HPR2:Hid (p'=p+(5+5+(T.flatMap (tokBits k j W d)).length)):=hid (by
    rw [show (([]:List Tok).flatMap (tokBits k j W d))=[] from rfl,List.length_nil] at hpr
    omega)
   clear hpr e1 hcells hcl htl
   go_wp2_with fail
   go_ret2
   exact ⟨_,F',rfl,hown,hrd.cast HPR2.out,HCH.out,HF'.out⟩
  | cons t R =>
   obtain ⟨hi2,hta,htf⟩:=HTF.out
   rcases gk with _ | q
   ·simp at hRq
   have hil:i<n:=by rw [HN.out];exact hi2
   have u1:decide (i<n)=true:=zB hil
   have hA1:=HAR.out
   rw [List.flatMap_cons] at hA1
   have htok:=HRO.out t (by simp)
   have hto:=rtoken_ok wr b F ds p' k j W d t hrd (HP.out.chg HCH.out HB0.out) h0F hk hj hw0 hw1 h1 htok hA1.left
   have HA2:=hid hA1.right
   have HTA:=hid hta
   have HTF2:=hid htf
   have HTK:=hid htok
   have hgro:=fun w' v F0 (ho:Own w' 3 v F0 ((l.take i).map vi))=>grow_ok w' l v F0 i t ho (by rw [←HN.out];exact hl) hi2 hta htok.ok
   have hlen2:i+max t.len 1≤n:=by
    rcases hta with ⟨a1,_,_⟩ | ⟨a1,a2,_⟩
    ·rw [a1];omega
    ·rw [←HN.out] at a2;omega
   have hd1:t.dist≤i:=by
    rcases hta with ⟨_,a1,_⟩ | ⟨_,_,_,a1,_⟩
    ·omega
    ·exact a1
   have hd2:t.len≤n-i:=by omega
   have HGR:=hid hgro
   have HLEN:=hid hlen2
   obtain ⟨tl,htle⟩:∃ tl,tl=t.len:=⟨_,rfl⟩
   obtain ⟨td,htde⟩:∃ td,td=t.dist:=⟨_,rfl⟩
   obtain ⟨tx,htxe⟩:∃ tx,tx=t.lit:=⟨_,rfl⟩
   have htv:tokV t=.agg #[.int .i64 tl,.int .i64 td,.int .i64 tx]:=by rw [htle,htde,htxe];rfl
   rw [←htde] at hd1
   rw [←htle] at hd2
   have u2:decide ((i:Int)<(td:Int))=false:=zA (by omega)
   have u2':decide (i<td)=false:=zA (by omega)
   obtain ⟨ni,hni⟩:∃ ni,ni=n-i:=⟨_,rfl⟩
   have eni:(n:Int)-(i:Int)=(ni:Int):=by omega
   have u3:decide (ni<tl)=false:=zA (by omega)
   have HTV:=hid htv
   rw [htl]
   rw [htl] at hown hcl
   rw [htv] at hto
   clear hA1 hi2 hta htf hgro hlen2 htle htde htxe htv hni hcells htok
   go_wp2_with fail
   refine hto.mono ?_
   rintro e w3 ⟨rfl,hrd3,ch3⟩
   have hown3:=hown.chg ch3 (fun x hx hm=>by simp at hm;have:=HF'.out x hx;omega)
   clear hto hrd hown
   have hbk:=Blk.new w3 132 #[.int .i64 tl,.int .i64 td,.int .i64 tx]
   have k0:=hbk.cell 0
   have k1:=hbk.cell 1
   have k2:=hbk.cell 2
   simp at k0 k1 k2
   have hown4:=hown3.alloc (.cells #[.int .i64 tl,.int .i64 td,.int .i64 tx] 132)
   have hgr4:=HGR.out _ _ _ hown4
   rw [HTV.out] at hgr4
   have HRD3:=hid hrd3
   have HCH3:=hid ch3
   clear hown3 hown4 hrd3 ch3 hbk
   go_wp2_with fail
   refine hgr4.mono ?_
   rintro e w5 ⟨v5,F5,rfl,hown5,gr5⟩
   clear hgr4 k0 k1 k2
   go_wp2_with fail
   go_roundg q
   case measure=>omega
   case rel =>
    refine ⟨i+max t.len 1,p'+(tokBits k j W d t).length,R,F5,by simpa using hRq,HLEN.out,hown5,HTF2,hid (fun t' ht'=>HRO.out t' (by simp [ht'])),(HRD3.out.same ((Chg.refl [] w3).alloc _)).chg gr5.chg (fun x hx hm=>by have:=HLT.out x hx;have:=HF'.out x hm;omega),HA2,hid ?_,hid ?_,hid ?_⟩
    ·have:=HPR.out
     rw [List.flatMap_cons,zC] at this
     omega
    ·exact ((HCH.out.trans_same HCH3.out).alloc _).trans gr5.chg (fun x hx => .inr (HF'.out x hx))
    ·intro x hx
     rcases gr5.new x hx with h9 | h9
     ·exact HF'.out x h9
     ·have:=HCH.out.size;have:=HCH3.out.size;simp at h9;omega
end Go.Proofs.YtijpbkakncglgaaGreatDoor
