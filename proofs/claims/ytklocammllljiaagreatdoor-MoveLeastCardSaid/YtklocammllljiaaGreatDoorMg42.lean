/- Pictures out of other ones, plain Lean: what a block costs, and its bits. -/
import Derived.Test.YtklocammllljiaaGreatDoorMg39
import Derived.Test.YtklocammllljiaaGreatDoorMg41
set_option linter.unusedVariables false
set_option linter.unusedSimpArgs false
set_option maxHeartbeats 4000000
set_option maxRecDepth 100000
namespace Go.Proofs.YtklocammllljiaaGreatDoor
open Go.RowKit
def mvOk (W H:Nat) (s:Sq) (m:Int × Int):Prop:=-4<=m.1/\m.1<=4/\-4<=m.2/\m.2<=4/\0<=(s.x:Int)+m.1/\0<=(s.y:Int)+m.2/\(s.x:Int)+m.1+s.w<=W/\(s.y:Int)+m.2+s.h<=H
def oldB (p:PicD) (i:Nat) (s:Sq) (m:Int × Int):List Int:=partF (p.P.getD i []) p.W ((s.x:Int)+m.1).toNat ((s.y:Int)+m.2).toNat s.w s.h
theorem oldB_len (p:PicD) (i:Nat) (s:Sq) (m:Int × Int):(oldB p i s m).length=s.h*s.w:=partF_len _ _ _ _ _ _
theorem oldB_smp {p:PicD} (h:p.Ok) {i:Nat} (hi:i<p.P.length) (s:Sq) (m:Int × Int):SmpOk p.d (oldB p i s m):=partF_smp (h.smp _ (plane_mem hi)) _ _ _ _ _
def costL (now old:List Int) (d:Nat):Nat:=(List.zipWith (fun a b=>(foldI (a-b) d).natAbs) now old).sum
def costB (p q:PicD) (s:Sq) (m:Int × Int):Nat:=((List.range q.P.length).map fun i=>costL (oldB q i s (0,0)) (oldB p i s m) q.d).sum
def sameB (p q:PicD) (s:Sq) (m:Int × Int):Bool:=(List.range q.P.length).all fun i=>decide (oldB q i s (0,0)=oldB p i s m)
def diffB (p q:PicD) (i:Nat) (s:Sq) (m:Int × Int):List Int:=diffW (oldB q i s (0,0)) (oldB p i s m) q.d
theorem diffB_len (p q:PicD) (i:Nat) (s:Sq) (m:Int × Int):(diffB p q i s m).length=s.w*s.h:=by
 unfold diffB
 rw [diffW_len (by rw [oldB_len,oldB_len]),oldB_len,zY]
def tileBest (D:List Int) (w h d:Nat):List Nat:=tileBits (bestKind D w h d) D w h d
def vecBits (m:Int × Int):List Nat:=bitsOf (m.1+4).toNat 4++bitsOf (m.2+4).toNat 4
def changeBits (p q:PicD) (s:Sq) (m:Int × Int) (n:Nat):List Nat:=(List.range n).flatMap fun i=>tileBest (diffB p q i s m) s.w s.h q.d
theorem changeBits_succ (p q:PicD) (s:Sq) (m:Int × Int) (n:Nat):changeBits p q s m (n+1)=changeBits p q s m n++tileBest (diffB p q n s m) s.w s.h q.d:=by
 unfold changeBits
 rw [List.range_succ,List.flatMap_append]
 simp
def blockBits (p q:PicD) (s:Sq) (m:Int × Int):List Nat :=
 if sameB p q s m=true then (if m=(0,0) then bitsOf 0 2 else bitsOf 1 2++vecBits m) else bitsOf 2 2++(vecBits m++changeBits p q s m q.P.length)
def moveBits (p q:PicD) (ss:List Sq) (ms:List (Int × Int)) (n:Nat):List Nat:=(List.range n).flatMap fun i=>blockBits p q (sqAt ss i) (ms.getD i (0,0))
theorem moveBits_succ (p q:PicD) (ss:List Sq) (ms:List (Int × Int)) (n:Nat):moveBits p q ss ms (n+1)=moveBits p q ss ms n++blockBits p q (sqAt ss n) (ms.getD n (0,0)):=by
 unfold moveBits
 rw [List.range_succ,List.flatMap_append]
 simp
theorem tileBest_len {D:List Int} {w h d:Nat} (hw0:1<=w) (hh0:1<=h) (h0:1<=d) (h1:d<=16) (hw:w<=16) (hh:h<=16) (hl:D.length=w*h):0<(tileBest D w h d).length/\(tileBest D w h d).length<200000 :=
 tile_len_small (bestKind_ok D w h d).1 hw0 hh0 h0 h1 hw hh hl (bestKind_ok D w h d).2.1
theorem changeBits_len (p q:PicD) {s:Sq} (m:Int × Int) (hw0:1<=s.w) (hh0:1<=s.h) (hw:s.w<=8) (hh:s.h<=8) (h0:1<=q.d) (h1:q.d<=16):∀ n,(changeBits p q s m n).length<=200000*n
 | 0=>by simp [changeBits]
 | n+1=>by
  rw [changeBits_succ,zC]
  have h2:=changeBits_len p q m hw0 hh0 hw hh h0 h1 n
  have h3:=(tileBest_len (D:=diffB p q n s m) hw0 hh0 h0 h1 (by omega) (by omega) (diffB_len _ _ _ _ _)).2
  omega
theorem vecBits_len (m:Int × Int):(vecBits m).length=8:=by unfold vecBits;rw [zC,bitsOf_len,bitsOf_len]
theorem blockBits_len (p q:PicD) {s:Sq} (m:Int × Int) (hw0:1<=s.w) (hh0:1<=s.h) (hw:s.w<=8) (hh:s.h<=8) (h0:1<=q.d) (h1:q.d<=16) (hn:q.P.length<=4):(blockBits p q s m).length<=800010:=by
 unfold blockBits
 split
 ·split
  ·rw [bitsOf_len];omega
  ·rw [zC,bitsOf_len,vecBits_len];omega
 ·have:=changeBits_len p q m hw0 hh0 hw hh h0 h1 q.P.length
  rw [zC,zC,bitsOf_len,vecBits_len]
  omega
theorem sqAt_mem {ss:List Sq} {i:Nat} (h:i<ss.length):sqAt ss i∈ss:=by
 unfold sqAt
 rw [zD,zF h]
 exact zG h
theorem moveBits_len (p q:PicD) {ss:List Sq} (ms:List (Int × Int)) (hs:∀ s∈ss,1<=s.w/\s.w<=8/\1<=s.h/\s.h<=8) (h0:1<=q.d) (h1:q.d<=16) (hn:q.P.length<=4):∀ n,n<=ss.length->(moveBits p q ss ms n).length<=800010*n
 | 0,_=>by simp [moveBits]
 | n+1,h=>by
  rw [moveBits_succ,zC]
  have h2:=moveBits_len p q ms hs h0 h1 hn n (by omega)
  obtain ⟨a,b,c,d⟩:=hs _ (sqAt_mem (i:=n) h)
  have h3:=blockBits_len p q (ms.getD n (0,0)) a c b d h0 h1 hn
  omega
def sqV (s:Sq):Value:=.agg #[.int .i64 s.x,.int .i64 s.y,.int .i64 s.w,.int .i64 s.h]
theorem part_ok {w:World} {p:PicD} {g o:Nat} {B:Nat->Option Addr} {c:Nat->Nat} {G:List Nat} (cap:Nat) (h:PicAt w p g o B c G) (i:Nat) (hi:i<p.P.length) (s:Sq) (m:Int × Int)
  (x0:0<=(s.x:Int)+m.1) (x1:(s.x:Int)+m.1+s.w<=p.W) (y0:0<=(s.y:Int)+m.2) (y1:(s.y:Int)+m.2+s.h<=p.H) (sx4:s.x<=64) (sy4:s.y<=64) :
  Calls Tryz.prog 124 #[picV p g o cap,.int .i64 i,sqV s,.int .i64 m.1,.int .i64 m.2] w fun e w'=>∃ v F,e=.returned v/\Own w' 3 v F ((oldB p i s m).map vi)/\Chg [] w w'/\∀ x∈F,w.heap.size<=x:=by
 have aw:=h.ok
 obtain ⟨dx,dy⟩:=m
 simp only at x0 x1 y0 y1 ⊢
 unfold picV sqV
 obtain ⟨W,hW⟩:=zX (p.W)
 obtain ⟨H,hH⟩:=zX (p.H)
 obtain ⟨d,hd⟩:=zX (p.d)
 obtain ⟨n,hn⟩:=zX (p.P.length)
 obtain ⟨sx,sy,sw,sh⟩:=s
 simp only at x0 x1 y0 y1 sx4 sy4 ⊢
 obtain ⟨X,hX⟩:∃ X:Nat,(X:Int)=(sx:Int)+dx:=⟨((sx:Int)+dx).toNat,by omega⟩
 obtain ⟨Y,hY⟩:∃ Y:Nat,(Y:Int)=(sy:Int)+dy:=⟨((sy:Int)+dy).toNat,by omega⟩
 have a1:X+sw<=W:=by omega
 have aZ:Y+sh<=H:=by omega
 have aT:W<=64:=by rw [hW];exact aw.w1
 have bg:H<=64:=by rw [hH];exact aw.h1
 obtain ⟨l,hl⟩:=zX (p.P.getD i [])
 have aR:l.length=W*H:=by rw [hl,hW,hH];exact h.len hi
 have af:oldB p i ⟨sx,sy,sw,sh⟩ (dx,dy)=partF l W X Y sw sh:=by
  unfold oldB
  simp only
  rw [<-hX,<-hY,<-hl,<-hW]
  rfl
 rw [af]
 obtain ⟨b,q,aI,hb,-⟩:=h.at_ hi
 have ae:=h.cap i hi
 obtain ⟨N,hN⟩:=zX (W*H)
 have ah:∀ w',Chg [] w w'->w'.cell? ⟨g,o+i,none⟩=some (.slice (some ⟨b,q,none⟩) N (c i))/\Cells vi w' (some ⟨b,q,none⟩) l:=by
  intro w' hc
  have h1:=(h.same hc).cell i hi
  have h2:=(h.same hc).cells i hi
  rw [aI] at h1 h2
  rw [<-hW,<-hH,<-hN] at h1
  exact ⟨h1,by rw [hl];exact h2⟩
 rw [<-hW,<-hH,<-hN] at ae
 obtain ⟨M,hM⟩:=zX (sw*sh)
 have ba:M<=4096:=by rw [hM];exact zL (show sw<=64 by omega) (show sh<=64 by omega)
 have a5:(sw:Int)*(sh:Int)=(M:Int):=by rw [hM];simp
 have a9:=run_make_room (P:=Tryz.prog) int_elem rfl .i64 .i64 M (by omega) (by omega)
 rw [<-hW,<-hH,<-hd,<-hn]
 have aM:Blk (w.alloc (.cells #[.int .i64 W,.int .i64 H,.int .i64 d,.slice (some ⟨g,o,none⟩) n cap] 25)) w.heap.size 25 #[.int .i64 W,.int .i64 H,.int .i64 d,.slice (some ⟨g,o,none⟩) n cap]:=Blk.new w _ _
 obtain ⟨wA,ad⟩:=zX ((w.alloc (.cells #[.int .i64 W,.int .i64 H,.int .i64 d,.slice (some ⟨g,o,none⟩) n cap] 25)).alloc (.cells #[.int .i64 sx,.int .i64 sy,.int .i64 sw,.int .i64 sh] 31))
 have aP:Chg [] w wA:=by rw [ad];exact ((zR [] w).alloc _).alloc _
 have aO:Blk wA w.heap.size 25 #[.int .i64 W,.int .i64 H,.int .i64 d,.slice (some ⟨g,o,none⟩) n cap]:=by rw [ad];exact aM.alloc _
 have aC:Blk wA (w.heap.size+1) 31 #[.int .i64 sx,.int .i64 sy,.int .i64 sw,.int .i64 sh]:=by rw [ad];exact Blk.new2 w _ _ _
 obtain ⟨w1,ak⟩:=zX (wA.alloc (.cells (List.replicate M (Value.int .i64 0)).toArray 3))
 have ab:Row w1 3 (.slice (some ⟨wA.heap.size,0,none⟩) 0 M) wA.heap.size []:=by rw [ak];exact Row.room wA M (by omega)
 have az:Chg [] wA w1:=by rw [ak];exact (zR [] wA).alloc _
 have aD:wA.heap.size=w.heap.size+1+1:=by rw [ad,alloc_size,alloc_size]
 have am:=hid aP
 have aX:=hid az
 have aF:=hid aO
 have al:=hid aC
 have aV:=hid ab
 have HZ:=hid aD
 have aY:Hid (w1=((w.alloc (.cells #[.int .i64 W,.int .i64 H,.int .i64 d,.slice (some ⟨g,o,none⟩) n cap] 25)).alloc (.cells #[.int .i64 sx,.int .i64 sy,.int .i64 sw,.int .i64 sh] 31)).alloc (.cells (Array.replicate M (Value.int .i64 0)) 3)):=hid (by rw [ak,ad,List.toArray_replicate])
 have aS:=hid ah
 have bl:i<n:=by omega
 have aN:=hid aR
 have HN:=hid hN
 have eX:(sx:Int)+dx=(X:Int):=hX.symm
 have eY:(sy:Int)+dy=(Y:Int):=hY.symm
 have ai:=hid aZ
 have aj:=hid a1
 clear hW hH hd hn aw hX af hl aR aI hb ah hM aM ad ak ab az aP aO aC aD h hi hN x0 x1 y0 y1 hY
 go_enter Tryz.func124,Tryz.ntmps124
 go_wp2_with fail
 rw [<-aY.out,<-HZ.out]
 obtain ⟨YH,ag⟩:=zX (Y+sh)
 have bj:(Y:Int)+(sh:Int)=(YH:Int):=by omega
 have ap:=hid ag
 have aW:YH<=64:=by have:=ai.out;omega
 have bh:sh<=64:=by have:=ai.out;omega
 have be:Y<=64:=by have:=ai.out;omega
 clear ag
 go_loopg [11,12,13] sh (fun j v11 v12 v13 wr=>∃ (k Yk:Nat) (F:List Nat),v12=.int .i64 Yk/\Hid (Yk=Y+k)/\k+j=sh/\Yk+j=YH/\Hid (Own wr 3 v11 F ((partF l W X Y sw k).map vi))/\Hid (Chg [] wA wr)/\Hid (∀ x∈F,wA.heap.size<=x))
 case atStart=>exact ⟨0,Y,[wA.heap.size],rfl,hid rfl,by omega,by have := ap.out;omega,hid (by simpa [partF] using aV.out.toOwn),aX,hid (by intro x hx;simp at hx;omega)⟩
 case round =>
  obtain ⟨k,Yk,F,rfl,an,bn,bi,HO,HC,HF⟩:=hrel
  have a0:=(aF.out.chg HC.out (by simp)).cell 0
  have a3:=(aF.out.chg HC.out (by simp)).cell 3
  have s0:=(al.out.chg HC.out (by simp)).cell 0
  have s1:=(al.out.chg HC.out (by simp)).cell 1
  have s2:=(al.out.chg HC.out (by simp)).cell 2
  have s3:=(al.out.chg HC.out (by simp)).cell 3
  simp at a0 a3 s0 s1 s2 s3
  rcases gk with _ | j
  ·have t1:decide (Yk<YH)=false:=zA (by omega)
   have aJ:k=sh:=by omega
   have ac:=HO.out
   rw [aJ] at ac
   have aq:=hid ac
   have au:Hid (∀ x∈F,w.heap.size<=x):=hid (fun x hx=>by have:=HF.out x hx;have:=am.out.size;omega)
   clear aJ ac
   go_wp2
   go_ret
   exact ⟨_,F,rfl,aq.out,am.out.trans_same HC.out,au.out⟩
  ·have t1:decide (Yk<YH)=true:=zB (by omega)
   obtain ⟨P,hP⟩:=zX (Yk*W)
   have eP:(Yk:Int)*(W:Int)=(P:Int):=by rw [hP];simp
   have aH:Yk<64:=by omega
   have bd:P<=4096:=by rw [hP];exact zL (show Yk<=64 by omega) aT
   obtain ⟨Q,hQ⟩:=zX (P+sx)
   have eQ:(P:Int)+(sx:Int)=(Q:Int):=by omega
   obtain ⟨at_,aL⟩:=zX (P+X)
   have bc:(Q:Int)+dx=(at_:Int):=by omega
   obtain ⟨hi,aE⟩:=zX (at_+sw)
   have bb:(at_:Int)+(sw:Int)=(hi:Int):=by omega
   have ao:hi<=N:=by
    have h1:=aj.out
    have h2:Yk+1<=H:=by have:=ai.out;have:=an.out;omega
    have h3:=Nat.mul_le_mul_right W h2
    rw [Nat.succ_mul] at h3
    have h4:=HN.out
    rw [zY W H] at h4
    omega
   obtain ⟨A',bk,-,ay⟩:=slice_mid (P:=Tryz.prog) Tryz.underlying22 size_int (some ⟨b,q,none⟩) N (c i) at_ sw hi aE ao ae.1
   have aa:Hid ((l.drop at_).take sw=(List.range sw).map fun i=>l.getD ((Y+k)*W+(X+i)) 0):=hid (by
    have h1:=row_slice (l:=l) (W:=W) (H:=H) (x:=X) (Y:=Yk) (w:=sw) aN.out aj.out (by have:=ai.out;have:=an.out;omega)
    rw [aL,hP,h1,an.out])
   obtain ⟨R,hR⟩:=zX ((l.drop at_).take sw)
   have aQ:R.length=sw:=by rw [hR,aa.out];simp
   have aK:l.length=N:=by rw [aN.out,HN.out]
   have aA:∀ wz,Chg [] w wz->Cells vi wz A' R:=fun wz hz=>by rw [hR];exact ay Int vi wz l aK (aS.out wz hz).2
   have ax:(partF l W X Y sw k).length<=4096:=by rw [partF_len];exact zL (show k<=64 by omega) (show sw<=64 by have:=aj.out;omega)
   have a6:Hid (partF l W X Y sw (k+1)=partF l W X Y sw k++R):=hid (by rw [partF_succ,hR,aa.out])
   have bm:=(aS.out wr (am.out.trans_same HC.out)).1
   have a4:=hid aA
   have aB:=hid ax
   have ar:=hid aQ
   have bf:sw<=64:=by have:=aj.out;omega
   have bo:X<=64:=by have:=aj.out;omega
   have bp:Q<=4200:=by omega
   have a2:at_<=4200:=by omega
   have aU:hi<=4300:=by omega
   clear hP hQ aL aE hR ay aA ax aQ aK
   go_wp2_with fail
   refine wp_region_quiet_tail 12 (by kernel_rfl) (by kernel_rfl) ?_
   simp only [List.take_succ_cons,List.take_zero,List.drop_succ_cons,List.drop_zero]
   repeat (go_big_quiet_step (fail))
   trace_state
   refine wpQuiet_nil ?_
   intro _ a8
   obtain ⟨nq,rfl⟩:=a8
   have av:=HO.out.drewN nq
   have aG:Cells (fun u=>u) (wr.drewN nq) A' (R.map vi):=by
    have h1:=a4.out (wr.drewN nq) ((am.out.trans_same HC.out).drewN nq)
    refine ⟨fun h0 => ?_⟩
    obtain ⟨b,o,e1,e2,e3⟩:=h1.ex (by simpa using h0)
    refine ⟨b,o,e1,e2,fun i a ha => ?_⟩
    rw [zW] at ha
    obtain ⟨x,hx,rfl⟩:=Option.map_eq_some_iff.1 ha
    exact e3 i x hx
   have a7:=hid aG
   clear aG
   go_wp2_with (at_builtin;refine wpList_append_s rfl rfl int_elem rfl rfl av (R.map vi) sw rfl ?c1 ?c2 ?c3 ?c4 ?c5 ?_)
   case c1=>rw [zE];exact ar.out.symm
   case c2=>exact a7.out
   case c3=>exact vi_one _
   case c4=>rw [zE,zE,ar.out];have := aB.out;omega
   case c5=>rw [zE,zE,ar.out];have := aB.out;omega
   intro v' F' w2 h2 h3
   go_wp2_with fail
   go_roundg j
   case measure=>omega
   case rel =>
    refine ⟨k+1,Yk+1,F',by go_num,hid (by rw [an.out];omega),by omega,by omega,hid ?_,hid ?_,hid ?_⟩
    ·rw [a6.out,zM]
     exact h2
    ·refine (HC.out.drewN nq).trans h3.chg fun x hx => .inr ?_
     exact HF.out x hx
    ·intro x hx
     rcases h3.new x hx with h | h
     ·exact HF.out x h
     ·have:=HC.out.size;simp at h;omega
theorem mabs_ok (v:Int) (w:World) (h0 : -1099511627776<=v) (h1:v<=1099511627776):Calls Tryz.prog 95 #[.int .i64 v] w fun e w'=>e=.returned (.int .i64 v.natAbs)/\w=w':=by
 by_cases hv:v<0
 ·have t1:decide (v<0)=true:=zB hv
  have e:(v.natAbs:Int)=-v:=by omega
  rw [e]
  clear e
  go_enter Tryz.func95,Tryz.ntmps95
  go_wp2
  go_ret
  exact ⟨rfl,rfl⟩
 ·have t1:decide (v<0)=false:=zA hv
  have e:(v.natAbs:Int)=v:=by omega
  rw [e]
  clear e
  go_enter Tryz.func95,Tryz.ntmps95
  go_wp2
  go_ret
  exact ⟨rfl,rfl⟩
def mvB (W H:Nat) (s:Sq) (m:Int × Int):Bool:=decide (-4<=m.1)&&(decide (m.1<=4)&&(decide (-4<=m.2)&&(decide (m.2<=4)&&(decide (0<=(s.x:Int)+m.1)&&(decide (0<=(s.y:Int)+m.2)&&(decide ((s.x:Int)+m.1+s.w<=W)&&decide ((s.y:Int)+m.2+s.h<=H)))))))
theorem mvB_iff (W H:Nat) (s:Sq) (m:Int × Int):mvB W H s m=true ↔ mvOk W H s m:=by
 unfold mvB mvOk
 simp only [Bool.and_eq_true,decide_eq_true_eq]
theorem mvB_false {W H:Nat} {s:Sq} {m:Int × Int} (h:¬ mvOk W H s m):mvB W H s m=false:=by
 rw [<-Bool.not_eq_true]
 exact fun e=>h ((mvB_iff W H s m).1 e)
theorem isMove_ok (W H d n g o cap:Nat) (s:Sq) (m:Int × Int) (w:World) (hW:W<=64) (hH:H<=64) (h1:s.x<=64) (h2:s.y<=64) (h3:s.w<=64) (h4:s.h<=64) (m1 : -64<=m.1) (m2:m.1<=64) (m3 : -64<=m.2) (m4:m.2<=64) :
  Calls Tryz.prog 94 #[.agg #[.int .i64 W,.int .i64 H,.int .i64 d,.slice (some ⟨g,o,none⟩) n cap],sqV s,.int .i64 m.1,.int .i64 m.2] w fun e w'=>e=.returned (.bool (mvB W H s m))/\Chg [] w w':=by
 have ac:=fun h=>mvB_false (W:=W) (H:=H) (s:=s) (m:=m) h
 have ab:=(mvB_iff W H s m).2
 generalize mvB W H s m=z at *
 unfold mvOk at ac ab
 obtain ⟨dx,dy⟩:=m
 obtain ⟨sx,sy,sw,sh⟩:=s
 unfold sqV
 simp only at h1 h2 h3 h4 m1 m2 m3 m4 ac ab ⊢
 obtain ⟨X,hX⟩:∃ X:Int,X=(sx:Int)+dx:=⟨_,rfl⟩
 obtain ⟨Y,hY⟩:∃ Y:Int,Y=(sy:Int)+dy:=⟨_,rfl⟩
 rw [<-hX,<-hY] at ac ab
 have eX:(sx:Int)+dx=X:=hX.symm
 have eY:(sy:Int)+dy=Y:=hY.symm
 obtain ⟨XW,ag⟩:∃ XW:Int,XW=X+(sw:Int):=⟨_,rfl⟩
 obtain ⟨YH,ah⟩:∃ YH:Int,YH=Y+(sh:Int):=⟨_,rfl⟩
 rw [<-ag,<-ah] at ac ab
 have aw:X+(sw:Int)=XW:=ag.symm
 have ax:Y+(sh:Int)=YH:=ah.symm
 have au : -64<=X:=by omega
 have aq:X<=128:=by omega
 have ar : -64<=Y:=by omega
 have av:Y<=128:=by omega
 have ap : -64<=XW:=by omega
 have ak:XW<=256:=by omega
 have aj : -64<=YH:=by omega
 have am:YH<=256:=by omega
 clear hX hY ag ah
 obtain ⟨wA,af⟩:=zX ((w.alloc (.cells #[.int .i64 W,.int .i64 H,.int .i64 d,.slice (some ⟨g,o,none⟩) n cap] 25)).alloc (.cells #[.int .i64 sx,.int .i64 sy,.int .i64 sw,.int .i64 sh] 31))
 have al:Hid (Chg [] w wA):=hid (by rw [af];exact ((zR [] w).alloc _).alloc _)
 have ai:Blk wA w.heap.size 25 #[.int .i64 W,.int .i64 H,.int .i64 d,.slice (some ⟨g,o,none⟩) n cap]:=by rw [af];exact (Blk.new w _ _).alloc _
 have ad:Blk wA (w.heap.size+1) 31 #[.int .i64 sx,.int .i64 sy,.int .i64 sw,.int .i64 sh]:=by rw [af];exact Blk.new2 w _ _ _
 have ao:=hid af
 have a0:=ai.cell 0
 have a1:=ai.cell 1
 have s0:=ad.cell 0
 have s1:=ad.cell 1
 have s2:=ad.cell 2
 have s3:=ad.cell 3
 simp at a0 a1 s0 s1 s2 s3
 have aa:=hid ac
 have an:=hid ab
 clear af ai ad ac ab
 by_cases c1:dx < -4
 ·obtain rfl:z=false:=aa.out (by omega)
  have t1:decide (dx < -4)=true:=zB c1
  go_enter Tryz.func94,Tryz.ntmps94
  go_wp2_with fail
  go_ret
  exact ⟨rfl,((zR [] w).alloc _).alloc _⟩
 have t1:decide (dx < -4)=false:=zA c1
 by_cases c2:4<dx
 ·obtain rfl:z=false:=aa.out (by omega)
  have t2:decide (4<dx)=true:=zB c2
  go_enter Tryz.func94,Tryz.ntmps94
  go_wp2_with fail
  go_ret
  exact ⟨rfl,((zR [] w).alloc _).alloc _⟩
 have t2:decide (4<dx)=false:=zA c2
 by_cases c3:dy < -4
 ·obtain rfl:z=false:=aa.out (by omega)
  have t3:decide (dy < -4)=true:=zB c3
  go_enter Tryz.func94,Tryz.ntmps94
  go_wp2_with fail
  go_ret
  exact ⟨rfl,((zR [] w).alloc _).alloc _⟩
 have t3:decide (dy < -4)=false:=zA c3
 by_cases c4:4<dy
 ·obtain rfl:z=false:=aa.out (by omega)
  have t4:decide (4<dy)=true:=zB c4
  go_enter Tryz.func94,Tryz.ntmps94
  go_wp2_with fail
  go_ret
  exact ⟨rfl,((zR [] w).alloc _).alloc _⟩
 have t4:decide (4<dy)=false:=zA c4
 go_enter Tryz.func94,Tryz.ntmps94
 go_wp2_with fail
 rw [<-ao.out]
 go_quiet (fail)
 have ae:=hid (al.out.drewN nq)
 by_cases c5:X<0
 ·obtain rfl:z=false:=aa.out (by omega)
  have t5:decide (0<=X)=false:=zA (by omega)
  go_wp2_with fail
  go_ret
  exact ⟨rfl,ae.out⟩
 have t5:decide (0<=X)=true:=zB (by omega)
 by_cases c6:Y<0
 ·obtain rfl:z=false:=aa.out (by omega)
  have t6:decide (0<=Y)=false:=zA (by omega)
  go_wp2_with fail
  go_ret
  exact ⟨rfl,ae.out⟩
 have t6:decide (0<=Y)=true:=zB (by omega)
 by_cases c7:XW<=W
 ·have t7:decide (XW<=(W:Int))=true:=zB c7
  by_cases c8:YH<=H
  ·have t8:decide (YH<=(H:Int))=true:=zB c8
   obtain rfl:z=true:=an.out (by omega)
   go_wp2_with fail
   go_ret
   exact ⟨rfl,ae.out⟩
  ·have t8:decide (YH<=(H:Int))=false:=zA c8
   obtain rfl:z=false:=aa.out (by omega)
   go_wp2_with fail
   go_ret
   exact ⟨rfl,ae.out⟩
 ·have t7:decide (XW<=(W:Int))=false:=zA c7
  obtain rfl:z=false:=aa.out (by omega)
  go_wp2_with fail
  go_ret
  exact ⟨rfl,ae.out⟩
def costTo (now old:List Int) (d k:Nat):Nat:=costL (now.take k) (old.take k) d
theorem costTo_succ {now old:List Int} {d k:Nat} (h1:k<now.length) (h2:k<old.length):costTo now old d (k+1)=costTo now old d k+(foldI (now[k]-old[k]) d).natAbs:=by
 unfold costTo costL
 rw [List.take_succ_eq_append_getElem h1,List.take_succ_eq_append_getElem h2,List.zipWith_append (by rw [zI,zI];omega)]
 simp
theorem costTo_full {now old:List Int} {d:Nat} (h:now.length=old.length):costTo now old d now.length=costL now old d:=by
 unfold costTo
 rw [zN,zT (by omega)]
theorem fold_abs {d:Nat} (h0:1<=d) (h1:d<=16) (v:Int):(foldI v d).natAbs<=32768:=by
 obtain ⟨a,b⟩:=foldI_range v h0
 have h2:=(pow_d h0 h1).2
 have h3:=two_pow_half h0
 generalize (2:Int)^(d-1)=x at *
 generalize (2:Int)^d=y at *
 omega
theorem costTo_le {d:Nat} (h0:1<=d) (h1:d<=16) (now old:List Int):∀ k,costTo now old d k<=32768*k
 | 0=>by simp [costTo,costL]
 | k+1=>by
  have hk:=costTo_le h0 h1 now old k
  rcases zZ k now.length with h2 | h2
  ·rcases zZ k old.length with h3 | h3
   ·rw [costTo_succ h2 h3]
    have:=fold_abs h0 h1 (now[k]-old[k])
    omega
   ·have e:costTo now old d (k+1)=costTo now old d k:=by
     unfold costTo costL
     rw [zT (i:=k+1) (by omega:old.length<=k+1),zT (i:=k) (by omega:old.length<=k)]
     rw [List.zipWith_eq_zipWith_take_min (l₁:=now.take (k+1)),List.zipWith_eq_zipWith_take_min (l₁:=now.take k),zI,zI,List.take_take,List.take_take]
     rw [show min (min (k+1) now.length) old.length=min (min k now.length) old.length by omega,show min (min (min k now.length) old.length) (k+1)=min (min (min k now.length) old.length) k by omega]
    omega
  ·have e:costTo now old d (k+1)=costTo now old d k:=by
    unfold costTo costL
    rw [zT (i:=k+1) (by omega:now.length<=k+1),zT (i:=k) (by omega:now.length<=k)]
    rw [List.zipWith_eq_zipWith_take_min (l₂:=old.take (k+1)),List.zipWith_eq_zipWith_take_min (l₂:=old.take k),zI,zI,List.take_take,List.take_take]
    rw [show min now.length (min (k+1) old.length)=min now.length (min k old.length) by omega,show min (min now.length (min k old.length)) (k+1)=min (min now.length (min k old.length)) k by omega]
   omega
def costP' (p q:PicD) (s:Sq) (m:Int × Int) (i:Nat):Nat:=((List.range i).map fun i=>costL (oldB q i s (0,0)) (oldB p i s m) q.d).sum
theorem costPl_succ (p q:PicD) (s:Sq) (m:Int × Int) (i:Nat):costP' p q s m (i+1)=costP' p q s m i+costL (oldB q i s (0,0)) (oldB p i s m) q.d:=by
 unfold costP'
 rw [List.range_succ,zM,List.sum_append]
 simp
theorem costPl_le (p q:PicD) (s:Sq) (m:Int × Int) (h0:1<=q.d) (h1:q.d<=16) (hw:s.w<=64) (hh:s.h<=64):∀ i,costP' p q s m i<=134217728*i
 | 0=>by simp [costP']
 | i+1=>by
  have h:=costPl_le p q s m h0 h1 hw hh i
  rw [costPl_succ,<-costTo_full (by rw [oldB_len,oldB_len])]
  have h2:=costTo_le h0 h1 (oldB q i s (0,0)) (oldB p i s m) (oldB q i s (0,0)).length
  have h3:(oldB q i s (0,0)).length<=4096:=by rw [oldB_len];exact zL hh hw
  omega
structure FitM (W H:Nat) (s:Sq) (m:Int × Int):Prop where
 x0:0<=(s.x:Int)+m.1
 x1:(s.x:Int)+m.1+s.w<=W
 y0:0<=(s.y:Int)+m.2
 y1:(s.y:Int)+m.2+s.h<=H
structure SqIn (W H:Nat) (s:Sq):Prop where
 x:s.x+s.w<=W
 y:s.y+s.h<=H
theorem SqIn.fit {W H:Nat} {s:Sq} (h:SqIn W H s):FitM W H s (0,0):=⟨by simp,by have:=h.x;simp;omega,by simp,by have:=h.y;simp;omega⟩
theorem mvOk.fit {W H:Nat} {s:Sq} {m:Int × Int} (h:mvOk W H s m):FitM W H s m:=⟨h.2.2.2.2.1,h.2.2.2.2.2.2.1,h.2.2.2.2.2.1,h.2.2.2.2.2.2.2⟩
theorem costOf_ok {w:World} {p q:PicD} {g o:Nat} {B:Nat->Option Addr} {c:Nat->Nat} {G:List Nat} (cap:Nat) (h:PicAt w p g o B c G)
  {g' o':Nat} {B':Nat->Option Addr} {c':Nat->Nat} {G':List Nat} (cap':Nat) (h':PicAt w q g' o' B' c' G') (ha:AlikeD p q) (s:Sq) (m:Int × Int) (hs:SqIn p.W p.H s) (hm:FitM p.W p.H s m) :
  Calls Tryz.prog 93 #[picV p g o cap,picV q g' o' cap',sqV s,.int .i64 m.1,.int .i64 m.2] w fun e w'=>e=.returned (.int .i64 (costB p q s m:Int))/\Chg [] w w':=by
 have aA:=h.ok
 have aM:s.w<=64:=by have:=hs.x;have:=aA.w1;omega
 have aV:s.h<=64:=by have:=hs.y;have:=aA.h1;omega
 have aZ:s.x<=64:=by have:=hs.x;have:=aA.w1;omega
 have aL:s.y<=64:=by have:=hs.y;have:=aA.h1;omega
 have aC:∀ w',Chg [] w w'->∀ i,i<q.P.length->_:=fun w' hc i hi=>part_ok cap (h.same hc) i (by rw [ha.n];exact hi) s m hm.x0 hm.x1 hm.y0 hm.y1 aZ aL
 have ao:=hs.fit
 have ax:∀ w',Chg [] w w'->∀ i,i<q.P.length->_:=fun w' hc i hi=>part_ok cap' (h'.same hc) i hi s (0,0) ao.x0 (by rw [<-ha.W];exact ao.x1) ao.y0 (by rw [<-ha.H];exact ao.y1) aZ aL
 have be:=costPl_le p q s m h'.ok.d0 h'.ok.d1 aM aV
 have a4:=costPl_succ p q s m
 have aX:costP' p q s m q.P.length=costB p q s m:=rfl
 have aK:∀ i k,costTo (oldB q i s (0,0)) (oldB p i s m) q.d k<=32768*k:=fun i k=>costTo_le h'.ok.d0 h'.ok.d1 _ _ k
 obtain ⟨n,hn⟩:=zX (q.P.length)
 obtain ⟨d,hd⟩:=zX (q.d)
 obtain ⟨M,hM⟩:=zX (s.h*s.w)
 have bS:M<=4096:=by rw [hM];exact zL aV aM
 have b5:n<=4:=by rw [hn];exact h'.ok.n1
 have aD:1<=d:=by rw [hd];exact h'.ok.d0
 have aB:d<=16:=by rw [hd];exact h'.ok.d1
 have aj:∀ i,(oldB q i s (0,0)).length=M:=fun i=>by rw [oldB_len,hM]
 have ai:∀ i,(oldB p i s m).length=M:=fun i=>by rw [oldB_len,hM]
 have ag:∀ i,i<q.P.length->SmpOk q.d (oldB q i s (0,0)):=fun i hi=>oldB_smp h'.ok hi s (0,0)
 have ad:∀ i,i<q.P.length->SmpOk q.d (oldB p i s m):=fun i hi=>by rw [<-ha.d];exact oldB_smp h.ok (by rw [ha.n];exact hi) s m
 have aQ:p.d=d:=by rw [hd];exact ha.d
 have aI:p.P.length=n:=by rw [hn];exact ha.n
 unfold picV sqV at aC ax ⊢
 rw [<-ha.W,<-ha.H] at ax ⊢
 rw [<-hn,aQ,aI] at aC
 rw [<-hn,<-hd] at ax
 rw [<-hn] at aX ag ad
 rw [<-hd] at aK a4 ag ad
 rw [<-hn,<-hd,aQ,aI]
 obtain ⟨w1,ak⟩:=zX ((((w.alloc (.cells #[.int .i64 p.W,.int .i64 p.H,.int .i64 d,.slice (some ⟨g,o,none⟩) n cap] 25)).alloc (.cells #[.int .i64 p.W,.int .i64 p.H,.int .i64 d,.slice (some ⟨g',o',none⟩) n cap'] 25)).alloc (.cells #[.int .i64 s.x,.int .i64 s.y,.int .i64 s.w,.int .i64 s.h] 31)))
 have bl:Blk w1 w.heap.size 25 #[.int .i64 p.W,.int .i64 p.H,.int .i64 d,.slice (some ⟨g,o,none⟩) n cap]:=by rw [ak];exact ((Blk.new w _ _).alloc _).alloc _
 have bn:Blk w1 (w.heap.size+1) 25 #[.int .i64 p.W,.int .i64 p.H,.int .i64 d,.slice (some ⟨g',o',none⟩) n cap']:=by rw [ak];exact (Blk.new2 w _ _ _).alloc _
 have bm:Blk w1 (w.heap.size+1+1) 31 #[.int .i64 s.x,.int .i64 s.y,.int .i64 s.w,.int .i64 s.h]:=by rw [ak];exact Blk.new3 w _ _ _ _
 have aT:Hid (Chg [] w w1):=hid (by rw [ak];exact (((zR [] w).alloc _).alloc _).alloc _)
 have bF:=hid ak
 have aE:=hid bl
 have am:=hid bn
 have ah:=hid bm
 have bo:=hid aC
 have bw:=hid ax
 have bz:=hid be
 have bp:=hid a4
 have bQ:=hid aX
 have bv:=hid aK
 have bC:=hid ag
 have bu:=hid ad
 have br:=hid aj
 have bq:=hid ai
 have bg:∀ v w,_:=fun v w=>fold_ok v d w aD aB
 have bf:∀ v,(foldI v d).natAbs<=32768:=fun v=>fold_abs aD aB v
 obtain ⟨bs,bM⟩:=pow_d aD aB
 have bP:=hid bg
 have bK:=hid bf
 clear ak bl bn bm aC ax be a4 aX aK ag ad aj ai bg bf aQ aI hn hd hM aA h h' ha hs hm ao aM aV aZ aL aD aB
 go_enter Tryz.func93,Tryz.ntmps93
 go_wp2_with fail
 rw [<-bF.out]
 go_loopg [11,12,13,14,15,19] n (fun j v11 v12 v13 v14 v15 v19 wr=>∃ i C:Nat,v11=.int .i64 C/\v19=.int .i64 i/\i+j=n/\C<=536870912/\Hid (C=costP' p q s m i)/\Hid (Chg [] w1 wr))
 case atStart=>exact ⟨0,0,rfl,rfl,by omega,by omega,hid (by simp [costP']),hid (zR _ _)⟩
 case round =>
  obtain ⟨i,C,rfl,rfl,bV,hC,HC,ac⟩:=hrel
  rcases gk with _ | j
  ·obtain rfl:i=n:=by omega
   have t1:decide (i<i)=false:=by simp
   have a5:Hid ((C:Int)=(costB p q s m:Int)):=hid (by rw [HC.out,bQ.out])
   go_wp2
   go_ret
   exact ⟨by rw [<-a5.out];rfl,aT.out.trans_same ac.out⟩
  ·have hi:i<n:=by omega
   have t1:decide (i<n)=true:=zB hi
   have a0:=(aE.out.chg ac.out (by simp)).cell 0
   have a1:=(aE.out.chg ac.out (by simp)).cell 1
   have a2:=(aE.out.chg ac.out (by simp)).cell 2
   have a3:=(aE.out.chg ac.out (by simp)).cell 3
   have s0:=(ah.out.chg ac.out (by simp)).cell 0
   have s1:=(ah.out.chg ac.out (by simp)).cell 1
   have s2:=(ah.out.chg ac.out (by simp)).cell 2
   have s3:=(ah.out.chg ac.out (by simp)).cell 3
   simp at a0 a1 a2 a3 s0 s1 s2 s3
   have a7:=bo.out wr (aT.out.trans_same ac.out) i hi
   go_wp2_with fail
   refine a7.mono ?_
   rintro e w4 ⟨v4,F4,rfl,av,a9,bO⟩
   have aa:=hid (ac.out.trans_same a9)
   have bj:=bw.out w4 (aT.out.trans_same aa.out) i hi
   clear a7 a0 a1 a2 a3 s0 s1 s2 s3
   have a0:=(am.out.chg aa.out (by simp)).cell 0
   have a1:=(am.out.chg aa.out (by simp)).cell 1
   have a2:=(am.out.chg aa.out (by simp)).cell 2
   have a3:=(am.out.chg aa.out (by simp)).cell 3
   have s0:=(ah.out.chg aa.out (by simp)).cell 0
   have s1:=(ah.out.chg aa.out (by simp)).cell 1
   have s2:=(ah.out.chg aa.out (by simp)).cell 2
   have s3:=(ah.out.chg aa.out (by simp)).cell 3
   simp at a0 a1 a2 a3 s0 s1 s2 s3
   go_wp2_with fail
   refine bj.mono ?_
   rintro e w5 ⟨v5,F5,rfl,ar,aP,bD⟩
   have al:=hid (aa.out.trans_same aP)
   clear bj a0 a1 a2 a3 s0 s1 s2 s3
   have b2:=(am.out.chg al.out (by simp)).cell 2
   simp at b2
   obtain ⟨A4,c4,rfl,bk,b6,aF⟩:=av.open_map
   obtain ⟨A5,c5,rfl,bh,b1,aS⟩:=ar.open_map
   obtain ⟨ay,ae⟩:=zX (oldB p i s m)
   obtain ⟨au,af⟩:=zX (oldB q i s (0,0))
   have ap:=bq.out i
   have an:=br.out i
   have aO:=bu.out i hi
   have aR:=bC.out i hi
   have ab:=bp.out i
   have aq:=bv.out i
   rw [<-ae] at ap aO aF bk ab aq
   rw [<-af] at an aR aS bh ab aq
   rw [<-ae,<-af,ap,an]
   rw [ap] at bk
   rw [an] at bh
   have az:=aF.same aP
   have b7:=hid ae
   have bY:=hid af
   have bi:=hid ap
   have aN:=hid an
   have bx:=hid aO
   have bA:=hid aR
   have bR:=hid ab
   have b4:=hid aq
   have bB:=hid az
   have bG:=hid aS
   have aY:C+costTo au ay d M<=671088640:=by have:=aq M;omega
   clear ae af ap an aO aR ab aq aF aS az av ar a9 aP bO bD aY
   go_wp2_with fail
   go_loopg [11,14,15,33] M (fun j2 v11 v14 v15 v33 wr2=>∃ k C2:Nat,v11=.int .i64 C2/\v33=.int .i64 k/\k+j2=M/\C2<=536870912+32768*k/\Hid (C2=C+costTo au ay d k)/\Hid (Chg [] w5 wr2))
   case atStart=>exact ⟨0,C,rfl,rfl,by omega,by omega,hid (by simp [costTo,costL]),hid (zR _ _)⟩
   case round =>
    obtain ⟨k,C2,rfl,rfl,b0,bW,bd,HQ⟩:=hrel
    rcases gk with _ | j2
    ·obtain rfl:k=M:=by omega
     have t2:decide (k<k)=false:=by simp
     have bc:Hid (C2=costP' p q s m (i+1)):=hid (by
      have h1:=bR.out
      rw [<-costTo_full (by rw [bi.out,aN.out]),aN.out] at h1
      rw [h1,bd.out,HC.out])
     have hb:C2<=536870912:=by have h1:=bz.out (i+1);rw [<-bc.out] at h1;omega
     go_wp2
     go_roundg j
     case measure=>omega
     case rel=>exact ⟨i+1,C2,rfl,by go_num,by omega,hb,bc,hid (al.out.trans_same HQ.out)⟩
    ·have hk:k<M:=by omega
     have t2:decide (k<M)=true:=zB hk
     have aJ:k<au.length:=by rw [aN.out];exact hk
     have aW:k<ay.length:=by rw [bi.out];exact hk
     obtain ⟨ga,oa,rfl,aG⟩:=(bB.out.same HQ.out).at_ aW
     obtain ⟨gb,ob,rfl,aU⟩:=(bG.out.same HQ.out).at_ aJ
     obtain ⟨x,hx⟩:=zX (au[k])
     obtain ⟨y,hy⟩:=zX (ay[k])
     rw [<-hy] at aG
     rw [<-hx] at aU
     have cA:wr.cell? ⟨ga,oa+k,none⟩=some (.int .i64 y):=aG
     have cB:wr.cell? ⟨gb,ob+k,none⟩=some (.int .i64 x):=aU
     have a8:=bA.out au[k] (zG _)
     have ba:=bx.out ay[k] (zG _)
     rw [<-hx] at a8
     rw [<-hy] at ba
     obtain ⟨b3,bE⟩:=a8
     obtain ⟨bZ,bL⟩:=ba
     have bX:x<65536:=by omega
     have bT:y<65536:=by omega
     have a6:=bP.out (x-y)
     have bb:=bK.out (x-y)
     have bJ:=(am.out.chg (al.out.trans_same HQ.out) (by simp)).cell 2
     simp at bJ
     have aw:=costTo_succ (d:=d) aJ aW
     rw [<-hx,<-hy] at aw
     obtain ⟨z,hz⟩:=zX (foldI (x-y) d)
     rw [<-hz] at a6 bb aw
     have aH:=fun w=>mabs_ok z w (by omega) (by omega)
     obtain ⟨u,hu⟩:=zX (z.natAbs)
     rw [<-hu] at aH bb aw
     have bH:=hid aw
     have bN:Hid (∀ w,Calls Tryz.prog 103 #[.int .i64 (x-y),.int .i64 d] w fun e w'=>e=.returned (.int .i64 z)/\w'=w):=hid (fun w=>(a6 w).mono fun e w' h=>⟨h.1,h.2.symm⟩)
     have bI:Hid (∀ w,Calls Tryz.prog 95 #[.int .i64 z] w fun e w'=>e=.returned (.int .i64 u)/\w'=w):=hid (fun w=>(aH w).mono fun e w' h=>⟨h.1,h.2.symm⟩)
     clear aG aU hx hy aw hz hu aJ aW a6 aH bE bL
     have ak:IntKind.i64.wrap (x-y)=x-y:=IntWalk.i64_in _ (by omega)
     have bU:IntKind.i64.wrap ((C2:Int)+(u:Int))=(C2:Int)+(u:Int):=IntWalk.i64_in _ (by omega)
     go_wp2_with fail
     go_quiet ((first | (go_at_call 103;exact Calls.quiet_of_same (bN.out _)) | (go_at_call 95;exact Calls.quiet_of_same (bI.out _))))
     go_wp2
     go_roundg j2
     case measure=>omega
     case rel=>exact ⟨k+1,C2+u,by go_num,by go_num,by omega,by omega,hid (by rw [bH.out,bd.out];omega),hid (HQ.out.drewN nq)⟩
structure BestM (p q:PicD) (s:Sq) (tried:Int × Int->Prop) (dx dy:Int) (c:Nat):Prop where
 ok:mvOk p.W p.H s (dx,dy)
 cost:c=costB p q s (dx,dy)
 le:∀ m,tried m->mvOk p.W p.H s m->c<=costB p q s m
 le0:c<=costB p q s (0,0)
 zero:costB p q s (0,0)=0->dx=0/\dy=0
theorem mvOk_zero {W H:Nat} {s:Sq} (h:SqIn W H s):mvOk W H s (0,0):=⟨by simp,by simp,by simp,by simp,by simp,by simp,by have:=h.x;simp;omega,by have:=h.y;simp;omega⟩
theorem BestM.start (p q:PicD) (s:Sq) (h:SqIn p.W p.H s):BestM p q s (fun _=>False) 0 0 (costB p q s (0,0)):=⟨mvOk_zero h,rfl,fun _ h=>h.elim,zQ _,fun _=>⟨rfl,rfl⟩⟩
theorem BestM.skip {p q:PicD} {s:Sq} {tried:Int × Int->Prop} {dx dy:Int} {c:Nat} (h:BestM p q s tried dx dy c) (m0:Int × Int) (hn:¬ mvOk p.W p.H s m0):BestM p q s (fun m=>tried m\/m=m0) dx dy c :=
 ⟨h.ok,h.cost,fun m hm ho=>by
  rcases hm with hm | rfl
  ·exact h.le m hm ho
  ·exact absurd ho hn,h.le0,h.zero⟩
theorem BestM.keep {p q:PicD} {s:Sq} {tried:Int × Int->Prop} {dx dy:Int} {c:Nat} (h:BestM p q s tried dx dy c) (m0:Int × Int) (hc:c<=costB p q s m0):BestM p q s (fun m=>tried m\/m=m0) dx dy c :=
 ⟨h.ok,h.cost,fun m hm ho=>by
  rcases hm with hm | rfl
  ·exact h.le m hm ho
  ·exact hc,h.le0,h.zero⟩
theorem BestM.take {p q:PicD} {s:Sq} {tried:Int × Int->Prop} {dx dy:Int} {c:Nat} (h:BestM p q s tried dx dy c) (u v:Int) (ho:mvOk p.W p.H s (u,v)) (hc:costB p q s (u,v)<c\/costB p q s (u,v)=c/\u.natAbs+v.natAbs<dx.natAbs+dy.natAbs):BestM p q s (fun m=>tried m\/m=(u,v)) u v (costB p q s (u,v)) where
 ok:=ho
 cost:=rfl
 le:=fun m hm hmo=>by
  rcases hm with hm | rfl
  ·have:=h.le m hm hmo
   omega
  ·exact zQ _
 le0:=by have:=h.le0;omega
 zero:=fun h0=>by
  obtain ⟨a,b⟩:=h.zero h0
  have:=h.le0
  subst a
  subst b
  rcases hc with hc | ⟨_,hc⟩
  ·omega
  ·simp at hc
theorem BestM.mono {p q:PicD} {s:Sq} {tried tried':Int × Int->Prop} {dx dy:Int} {c:Nat} (h:BestM p q s tried dx dy c) (hm:∀ m,tried' m->tried m):BestM p q s tried' dx dy c :=
 { h with le:=fun m h1 h2=>h.le m (hm m h1) h2 }
def triedUV (U V:Int) (m:Int × Int):Prop:=-4<=m.1/\m.1<=4/\-4<=m.2/\(m.2<V\/m.2=V/\m.1<U)
theorem tried_next {U V:Int} (m:Int × Int) (h:triedUV (U+1) V m):triedUV U V m\/m=(U,V):=by
 obtain ⟨a,b⟩:=m
 obtain ⟨h1,h2,h3,h4⟩:=h
 simp only at h1 h2 h3 h4
 by_cases he:a=U/\b=V
 ·right;rw [he.1,he.2]
 ·left
  refine ⟨h1,h2,h3,?_⟩
  simp only
  omega
theorem tried_row {V:Int} (m:Int × Int) (h:triedUV (-4) (V+1) m):triedUV 5 V m:=by
 obtain ⟨a,b⟩:=m
 obtain ⟨h1,h2,h3,h4⟩:=h
 simp only at h1 h2 h3 h4
 refine ⟨h1,h2,h3,?_⟩
 simp only
 omega
def SearchPost (w:World) (p q:PicD) (s:Sq) (e:Ending) (w':World):Prop :=
 ∃ (dx dy:Int) (c:Nat),e=.returned (.tuple #[.int .i64 dx,.int .i64 dy,.int .i64 c])/\BestM p q s (fun _=>True) dx dy c/\Chg [] w w'
theorem search_ok {w:World} {p q:PicD} {g o:Nat} {B:Nat->Option Addr} {c:Nat->Nat} {G:List Nat} (cap:Nat) (h:PicAt w p g o B c G)
  {g' o':Nat} {B':Nat->Option Addr} {c':Nat->Nat} {G':List Nat} (cap':Nat) (h':PicAt w q g' o' B' c' G') (ha:AlikeD p q) (s:Sq) (hs:SqIn p.W p.H s) :
  Calls Tryz.prog 52 #[picV p g o cap,picV q g' o' cap',sqV s] w (SearchPost w p q s):=by
 have ad:=h.ok
 have az:s.w<=64:=by have:=hs.x;have:=ad.w1;omega
 have aB:s.h<=64:=by have:=hs.y;have:=ad.h1;omega
 have aL:s.x<=64:=by have:=hs.x;have:=ad.w1;omega
 have aK:s.y<=64:=by have:=hs.y;have:=ad.h1;omega
 have aq:∀ w',Chg [] w w'->∀ m:Int × Int,FitM p.W p.H s m->_:=fun w' hc m hm=>costOf_ok cap (h.same hc) cap' (h'.same hc) ha s m hs hm
 have aA:∀ w' (m:Int × Int),-4<=m.1->m.1<=4->-4<=m.2->m.2<=4->_:=fun w' m m1 m2 m3 m4=>isMove_ok p.W p.H p.d p.P.length g o cap s m w' ad.w1 ad.h1 aL aK az aB (by omega) (by omega) (by omega) (by omega)
 have aS:∀ m,costB p q s m<=536870912:=fun m=>by
  have h1:=costPl_le p q s m h'.ok.d0 h'.ok.d1 az aB q.P.length
  have h2:=h'.ok.n1
  have h3:costB p q s m=costP' p q s m q.P.length:=rfl
  omega
 have aG:=BestM.start p q s hs
 have aR:=hs.fit
 unfold picV sqV at aq ⊢
 unfold sqV at aA
 obtain ⟨w1,ah⟩:=zX ((((w.alloc (.cells #[.int .i64 p.W,.int .i64 p.H,.int .i64 p.d,.slice (some ⟨g,o,none⟩) p.P.length cap] 25)).alloc (.cells #[.int .i64 q.W,.int .i64 q.H,.int .i64 q.d,.slice (some ⟨g',o',none⟩) q.P.length cap'] 25)).alloc (.cells #[.int .i64 s.x,.int .i64 s.y,.int .i64 s.w,.int .i64 s.h] 31)))
 have aj:Blk w1 w.heap.size 25 #[.int .i64 p.W,.int .i64 p.H,.int .i64 p.d,.slice (some ⟨g,o,none⟩) p.P.length cap]:=by rw [ah];exact ((Blk.new w _ _).alloc _).alloc _
 have an:Blk w1 (w.heap.size+1) 25 #[.int .i64 q.W,.int .i64 q.H,.int .i64 q.d,.slice (some ⟨g',o',none⟩) q.P.length cap']:=by rw [ah];exact (Blk.new2 w _ _ _).alloc _
 have am:Blk w1 (w.heap.size+1+1) 31 #[.int .i64 s.x,.int .i64 s.y,.int .i64 s.w,.int .i64 s.h]:=by rw [ah];exact Blk.new3 w _ _ _ _
 have au:Hid (Chg [] w w1):=hid (by rw [ah];exact (((zR [] w).alloc _).alloc _).alloc _)
 have aT:=hid ah
 have al:∀ wr,Chg [] w1 wr->(wr.cell? ⟨w.heap.size,0,none⟩=some (.int .i64 p.W)/\wr.cell? ⟨w.heap.size,1,none⟩=some (.int .i64 p.H)/\wr.cell? ⟨w.heap.size,2,none⟩=some (.int .i64 p.d)/\wr.cell? ⟨w.heap.size,3,none⟩=some (.slice (some ⟨g,o,none⟩) p.P.length cap)) /\
   (wr.cell? ⟨w.heap.size+1,0,none⟩=some (.int .i64 q.W)/\wr.cell? ⟨w.heap.size+1,1,none⟩=some (.int .i64 q.H)/\wr.cell? ⟨w.heap.size+1,2,none⟩=some (.int .i64 q.d)/\wr.cell? ⟨w.heap.size+1,3,none⟩=some (.slice (some ⟨g',o',none⟩) q.P.length cap')) /\
   (wr.cell? ⟨w.heap.size+1+1,0,none⟩=some (.int .i64 s.x)/\wr.cell? ⟨w.heap.size+1+1,1,none⟩=some (.int .i64 s.y)/\wr.cell? ⟨w.heap.size+1+1,2,none⟩=some (.int .i64 s.w)/\wr.cell? ⟨w.heap.size+1+1,3,none⟩=some (.int .i64 s.h)):=fun wr hc =>
  ⟨⟨(aj.chg hc (by simp)).cell 0,(aj.chg hc (by simp)).cell 1,(aj.chg hc (by simp)).cell 2,(aj.chg hc (by simp)).cell 3⟩,⟨(an.chg hc (by simp)).cell 0,(an.chg hc (by simp)).cell 1,(an.chg hc (by simp)).cell 2,(an.chg hc (by simp)).cell 3⟩,⟨(am.chg hc (by simp)).cell 0,(am.chg hc (by simp)).cell 1,(am.chg hc (by simp)).cell 2,(am.chg hc (by simp)).cell 3⟩⟩
 have ao:=hid al
 have a8:=hid aq
 have a6:=hid aA
 have aE:=hid aS
 have be:=hid aG
 have av:=aq w1 au.out (0,0) aR
 simp only at av
 clear ah aj an am al aq aA aS aG ad h h' ha hs aR az aB aL aK
 go_enter Tryz.func52,Tryz.ntmps52
 go_wp2_with fail
 rw [<-aT.out]
 refine av.mono ?_
 rintro e w2 ⟨rfl,aI⟩
 have bc:=hid aI
 obtain ⟨c0,ab⟩:=zX (costB p q s (0,0))
 rw [<-ab]
 have aX:=hid ab
 have aw:c0<=536870912:=by rw [ab];exact aE.out _
 clear av aI ab
 go_wp2_with fail
 go_loopg [6,7,8,9,10,11] 9 (fun j v6 v7 v8 v9 v10 v11 wr=>∃ (dx dy V:Int) (C:Nat),v6=.int .i64 dx/\v7=.int .i64 dy/\v8=.int .i64 C/\v9=.int .i64 V/\V+j=5/\-4<=V/\C<=536870912/\Hid (BestM p q s (triedUV (-4) V) dx dy C)/\Hid (Chg [] w1 wr))
 case atStart=>exact ⟨0,0,-4,c0,rfl,rfl,rfl,rfl,by omega,by omega,aw,hid (by rw [aX.out];exact be.out.mono fun m h=>by obtain ⟨_,_,h3,h4⟩ := h;omega),bc⟩
 case round =>
  obtain ⟨dx,dy,V,C,rfl,rfl,rfl,rfl,aP,aW,hC,HB,ai⟩:=hrel
  rcases gk with _ | j
  ·have t1:decide (V<=4)=false:=zA (by omega)
   have bg:V=5:=by omega
   have a9:=HB.out.mono (tried':=fun _=>True)
   go_wp2
   refine bodyPost_ret (v:=.tuple #[.int .i64 dx,.int .i64 dy,.int .i64 C]) (by simp [results,Tryz.results52,go_sem]) rfl ?_
   have hb:=HB.out
   refine ⟨dx,dy,C,rfl,⟨hb.ok,hb.cost,fun m _ ho=>hb.le m ?_ ho,hb.le0,hb.zero⟩,au.out.trans_same ai.out⟩
   obtain ⟨h1,h2,h3,h4,_⟩:=ho
   exact ⟨h1,h2,h3,by omega⟩
  ·have t1:decide (V<=4)=true:=zB (by omega)
   have a7:V<=4:=by omega
   have aZ:=hid aP
   clear aP
   go_wp2_with fail
   go_loopg [6,7,8,10,11] 9 (fun j2 v6 v7 v8 v10 v11 wr2=>∃ (dx dy U:Int) (C:Nat),v6=.int .i64 dx/\v7=.int .i64 dy/\v8=.int .i64 C/\v10=.int .i64 U/\U+j2=5/\-4<=U/\C<=536870912/\Hid (BestM p q s (triedUV U V) dx dy C)/\Hid (Chg [] w1 wr2))
   case atStart=>exact ⟨dx,dy,-4,C,rfl,rfl,rfl,rfl,by omega,by omega,hC,HB,ai⟩
   case round =>
    obtain ⟨dx,dy,U,C,rfl,rfl,rfl,rfl,aF,ba,hC,HB,ai⟩:=hrel
    rcases gk with _ | j2
    ·have t2:decide (U<=4)=false:=zA (by omega)
     have aN:U=5:=by omega
     have HU:=hid aN
     clear aN
     go_wp2
     go_roundg j
     case measure=>omega
     case rel=>exact ⟨dx,dy,V+1,C,rfl,rfl,rfl,by go_num,by have := aZ.out;omega,by omega,hC,hid (HB.out.mono fun m h=>by rw [HU.out];exact tried_row m h),ai⟩
    ·have t2:decide (U<=4)=true:=zB (by omega)
     have aY:U<=4:=by omega
     have ak:=hid aF
     clear aF
     obtain ⟨⟨a0,a1,a2,a3⟩,⟨b0,b1,b2,b3⟩,⟨s0,s1,s2,s3⟩⟩:=ao.out wr ai.out
     have hi:=a6.out wr (U,V) ba aY aW a7
     simp only at hi
     have ae:=mvB_iff p.W p.H s (U,V)
     obtain ⟨z,hz⟩:=zX (mvB p.W p.H s (U,V))
     rw [<-hz] at hi ae
     have ap:=hid ae
     clear hz ae
     go_wp2_with fail
     refine hi.mono ?_
     rintro e w3 ⟨rfl,aD⟩
     have ac:=hid (ai.out.trans_same aD)
     clear hi aD a0 a1 a2 a3 b0 b1 b2 b3 s0 s1 s2 s3
     cases z with
     | false =>
      have bd:Hid (¬ mvOk p.W p.H s (U,V)):=hid (fun h=>by have:=ap.out.2 h;simp at this)
      go_wp2_with fail
      go_roundg j2
      case measure=>omega
      case rel=>exact ⟨dx,dy,U+1,C,rfl,rfl,rfl,by go_num,by have := ak.out;omega,by omega,hC,hid ((HB.out.skip _ bd.out).mono fun m h=>tried_next m h),ac⟩
     | true =>
      have ag:Hid (mvOk p.W p.H s (U,V)):=hid (ap.out.1 rfl)
      obtain ⟨⟨a0,a1,a2,a3⟩,⟨b0,b1,b2,b3⟩,⟨s0,s1,s2,s3⟩⟩:=ao.out w3 ac.out
      have hc:=a8.out w3 (au.out.trans_same ac.out) (U,V) ag.out.fit
      have ar:=aE.out (U,V)
      simp only at hc
      obtain ⟨D,hD⟩:=zX (costB p q s (U,V))
      rw [<-hD] at hc ar
      have HD:=hid hD
      clear hD
      go_wp2_with fail
      refine hc.mono ?_
      rintro e w4 ⟨rfl,aH⟩
      have aa:=hid (ac.out.trans_same aH)
      clear hc aH a0 a1 a2 a3 b0 b1 b2 b3 s0 s1 s2 s3
      rcases Nat.lt_trichotomy D C with aJ | a4 | bf
      ·have t3:decide (D<C)=true:=zB aJ
       have af:Hid (BestM p q s (triedUV (U+1) V) U V D):=hid (by rw [HD.out];exact (HB.out.take U V ag.out (.inl (by rw [<-HD.out];exact aJ))).mono fun m h=>tried_next m h)
       go_wp2_with fail
       go_roundg j2
       case measure=>omega
       case rel=>exact ⟨U,V,U+1,D,rfl,rfl,rfl,by go_num,by have := ak.out;omega,by omega,ar,af,aa⟩
      ·subst a4
       have t3:decide (D<D)=false:=by simp
       have t4:((D:Int)==(D:Int))=true:=by simp
       have ad:=HB.out.ok
       obtain ⟨k1,k2,k3,k4,_⟩:=ad
       simp only at k1 k2 k3 k4
       have h1:=fun w=>mabs_ok U w (by omega) (by omega)
       have h2:=fun w=>mabs_ok V w (by omega) (by omega)
       have h3:=fun w=>mabs_ok dx w (by omega) (by omega)
       have h4:=fun w=>mabs_ok dy w (by omega) (by omega)
       obtain ⟨aU,aO⟩:=zX (U.natAbs)
       obtain ⟨aV,aM⟩:=zX (V.natAbs)
       obtain ⟨ax,aC⟩:=zX (dx.natAbs)
       obtain ⟨ay,aQ⟩:=zX (dy.natAbs)
       rw [<-aO] at h1
       rw [<-aM] at h2
       rw [<-aC] at h3
       rw [<-aQ] at h4
       have b1:aU<=4:=by omega
       have b2:aV<=4:=by omega
       have b3:ax<=4:=by omega
       have b4:ay<=4:=by omega
       obtain ⟨S1,bb⟩:=zX (aU+aV)
       obtain ⟨S2,a5⟩:=zX (ax+ay)
       have e1:(aU:Int)+(aV:Int)=(S1:Int):=by omega
       have e2:(ax:Int)+(ay:Int)=(S2:Int):=by omega
       have HA:Hid (S1=U.natAbs+V.natAbs/\S2=dx.natAbs+dy.natAbs):=hid ⟨by omega,by omega⟩
       have b5:S1<=8:=by omega
       have b6:S2<=8:=by omega
       clear aO aM aC aQ bb a5
       by_cases hS:S1<S2
       ·have t5:decide (S1<S2)=true:=zB hS
        have af:Hid (BestM p q s (triedUV (U+1) V) U V D):=hid (by
         have hA:=HA.out
         have h:=(HB.out.take U V ag.out (.inr ⟨HD.out.symm,by omega⟩)).mono fun m h=>tried_next m h
         rw [<-HD.out] at h
         exact h)
        go_wp2_with fail
        refine (h1 _).mono ?_
        rintro e w' ⟨rfl,rfl⟩
        go_wp2_with fail
        refine (h2 _).mono ?_
        rintro e w' ⟨rfl,rfl⟩
        go_wp2_with fail
        refine (h3 _).mono ?_
        rintro e w' ⟨rfl,rfl⟩
        go_wp2_with fail
        refine (h4 _).mono ?_
        rintro e w' ⟨rfl,rfl⟩
        go_wp2_with fail
        go_roundg j2
        case measure=>omega
        case rel=>exact ⟨U,V,U+1,D,rfl,rfl,rfl,by go_num,by have := ak.out;omega,by omega,ar,af,aa⟩
       ·have t5:decide (S1<S2)=false:=zA hS
        have af:Hid (BestM p q s (triedUV (U+1) V) dx dy D):=hid ((HB.out.keep (U,V) (by rw [<-HD.out];exact zQ _)).mono fun m h=>tried_next m h)
        go_wp2_with fail
        refine (h1 _).mono ?_
        rintro e w' ⟨rfl,rfl⟩
        go_wp2_with fail
        refine (h2 _).mono ?_
        rintro e w' ⟨rfl,rfl⟩
        go_wp2_with fail
        refine (h3 _).mono ?_
        rintro e w' ⟨rfl,rfl⟩
        go_wp2_with fail
        refine (h4 _).mono ?_
        rintro e w' ⟨rfl,rfl⟩
        go_wp2_with fail
        go_roundg j2
        case measure=>omega
        case rel=>exact ⟨dx,dy,U+1,D,rfl,rfl,rfl,by go_num,by have := ak.out;omega,by omega,ar,af,aa⟩
      ·have t3:decide (D<C)=false:=zA (by omega)
       have t4:((D:Int)==(C:Int))=false:=by rw [beq_eq_false_iff_ne];omega
       have af:Hid (BestM p q s (triedUV (U+1) V) dx dy C):=hid ((HB.out.keep (U,V) (by rw [<-HD.out];omega)).mono fun m h=>tried_next m h)
       go_wp2_with fail
       go_roundg j2
       case measure=>omega
       case rel=>exact ⟨dx,dy,U+1,C,rfl,rfl,rfl,by go_num,by have := ak.out;omega,by omega,hC,af,aa⟩
def bwP (p q:PicD) (bs:List Sq) (s:Sq) (i:Nat):PicD:=⟨p.W,p.H,p.d,(List.range p.P.length).map fun k=>mixF (q.P.getD k []) (p.P.getD k []) p.W (if k<i then bs++[s] else bs)⟩
theorem mixF_smp {q l:List Int} {d W:Nat} {bs:List Sq} (hq:SmpOk d q) (hl:SmpOk d l):SmpOk d (mixF q l W bs):=by
 intro v hv
 unfold mixF at hv
 obtain ⟨k,_,rfl⟩:=List.mem_map.1 hv
 split
 ·exact getD_smp hq k
 ·exact getD_smp hl k
theorem bwP_len (p q:PicD) (bs:List Sq) (s:Sq) (i:Nat):(bwP p q bs s i).P.length=p.P.length:=by simp [bwP]
theorem bwP_get {p q:PicD} (bs:List Sq) (s:Sq) (i:Nat) {k:Nat} (hk:k<p.P.length):(bwP p q bs s i).P[k]?=some (mixF (q.P.getD k []) (p.P.getD k []) p.W (if k<i then bs++[s] else bs)):=by
 unfold bwP
 rw [zW,List.getElem?_range hk]
 rfl
theorem bwP_ok {p q:PicD} (hp:p.Ok) (hq:q.Ok) (ha:AlikeD p q) (bs:List Sq) (s:Sq) (i:Nat):(bwP p q bs s i).Ok where
 w0:=hp.w0
 w1:=hp.w1
 h0:=hp.h0
 h1:=hp.h1
 d0:=hp.d0
 d1:=hp.d1
 n0:=by rw [bwP_len];exact hp.n0
 n1:=by rw [bwP_len];exact hp.n1
 len:=fun l hl=>by
  unfold bwP at hl
  obtain ⟨k,hk,rfl⟩:=List.mem_map.1 hl
  rw [mixF_len]
  exact hp.len _ (plane_mem (by simpa using hk))
 smp:=fun l hl=>by
  unfold bwP at hl
  obtain ⟨k,hk,rfl⟩:=List.mem_map.1 hl
  have aa:k<p.P.length:=by simpa using hk
  refine mixF_smp ?_ (hp.smp _ (plane_mem aa))
  show SmpOk p.d _
  rw [ha.d]
  exact hq.smp _ (plane_mem (by rw [<-ha.n];exact aa))
theorem bwP_succ {p q:PicD} (bs:List Sq) (s:Sq) {i:Nat} (hi:i<p.P.length):(bwP p q bs s i).P.set i (mixF (q.P.getD i []) (p.P.getD i []) p.W (bs++[s]))=(bwP p q bs s (i+1)).P:=by
 apply List.ext_getElem?
 intro k
 rcases zZ k p.P.length with hk | hk
 ·rw [bwP_get bs s (i+1) hk]
  by_cases he:i=k
  ·subst he
   rw [List.getElem?_set_self (by rw [bwP_len];exact hk),if_pos (by omega)]
  ·rw [List.getElem?_set_ne he,bwP_get bs s i hk]
   by_cases h1:k<i
   ·rw [if_pos h1,if_pos (by omega)]
   ·rw [if_neg h1,if_neg (by omega)]
 ·rw [List.getElem?_eq_none (by rw [List.length_set,bwP_len];exact hk),List.getElem?_eq_none (by rw [bwP_len];exact hk)]
theorem bwP_end (p q:PicD) (bs:List Sq) (s s':Sq):bwP p q bs s p.P.length=bwP p q (bs++[s]) s' 0:=by
 unfold bwP
 congr 1
 apply List.map_congr_left
 intro k hk
 have aa:k<p.P.length:=by simpa using hk
 rw [if_pos aa,if_neg (by omega)]
theorem bwP_start {p q:PicD} (s:Sq):bwP p q [] s 0=p:=by
 obtain ⟨W,H,d,P⟩:=p
 unfold bwP
 congr 1
 apply List.ext_getElem?
 intro k
 rcases zZ k P.length with hk | hk
 ·rw [zW,List.getElem?_range hk]
  simp only [Option.map_some,Nat.not_lt_zero,if_false]
  rw [mixF_nil,zD,zF hk]
  rfl
 ·rw [List.getElem?_eq_none (by simpa using hk),List.getElem?_eq_none hk]
theorem bwP_all {p q:PicD} (hp:p.Ok) (hq:q.Ok) (ha:AlikeD p q) (s:Sq):bwP p q (gridL p.W p.H 8) s 0=q:=by
 obtain ⟨a1,a2,a3,a4⟩:=ha
 obtain ⟨W,H,d,P⟩:=p
 obtain ⟨W',H',d',P'⟩:=q
 simp only at a1 a2 a3 a4
 subst a1
 subst a2
 subst a3
 unfold bwP
 congr 1
 apply List.ext_getElem?
 intro k
 rcases zZ k P.length with hk | hk
 ·have aa:k<P'.length:=by omega
  rw [zW,List.getElem?_range hk]
  simp only [Option.map_some,Nat.not_lt_zero,if_false]
  have e1:P.getD k []=P[k]:=by rw [zD,zF hk];rfl
  have e2:P'.getD k []=P'[k]:=by rw [zD,zF aa];rfl
  have l1:=hp.len P[k] (zG hk)
  have l2:=hq.len P'[k] (zG aa)
  simp only at l1 l2
  rw [e1,e2,mixF_all (by rw [l1,l2]) (fun j hj=>grid_cover (by decide) (by rw [l1] at hj;exact hj)),zF aa]
 ·rw [List.getElem?_eq_none (by simpa using hk),List.getElem?_eq_none (by omega)]
end Go.Proofs.YtklocammllljiaaGreatDoor
