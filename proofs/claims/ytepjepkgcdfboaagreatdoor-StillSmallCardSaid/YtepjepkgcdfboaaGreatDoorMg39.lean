/- Single pictures, plain Lean: the bits of planes, palettes and pictures. No program. -/
import Derived.Test.YtepjepkgcdfboaaGreatDoorMg29
import Derived.Test.YtepjepkgcdfboaaGreatDoorMg37
import Derived.Test.YtepjepkgcdfboaaGreatDoorMg38
set_option linter.unusedVariables false
set_option linter.unusedSimpArgs false
set_option maxHeartbeats 1000000
set_option maxRecDepth 100000
namespace Go.Proofs.YtepjepkgcdfboaaGreatDoor
open Go.RowKit
def kindW (way:Option Nat) (l:List Int) (w h d:Nat):Nat:=match way with
 | none=>bestKind l w h d
 | some k=>k
def mayW (way:Option Nat) (l:List Int) (w d:Nat):Bool:=match way with
 | none=>true
 | some k=>mayB k l w d
def WayOk (way:Option Nat):Prop:=∀ k,way=some k->k<=7
def wayI (way:Option Nat):Int:=match way with
 | none => -1
 | some k=>(k:Int)
def tileW (way:Option Nat) (l:List Int) (w h d:Nat):List Nat:=tileBits (kindW way l w h d) l w h d
theorem kindW_ok {way:Option Nat} (hw:WayOk way) {l:List Int} {w h d:Nat} (hm:mayW way l w d=true):kindW way l w h d<=7/\mayB (kindW way l w h d) l w d=true:=by
 cases way with
 | none=>exact ⟨(bestKind_ok l w h d).1,(bestKind_ok l w h d).2.1⟩
 | some k=>exact ⟨hw k rfl,hm⟩
def sqPart (l:List Int) (W:Nat) (s:Sq):List Int:=partF l W s.x s.y s.w s.h
def planeTo (way:Option Nat) (l:List Int) (W d:Nat) (ss:List Sq) (n:Nat):List Nat:=(List.range n).flatMap fun i=>tileW way (sqPart l W (sqAt ss i)) (sqAt ss i).w (sqAt ss i).h d
def planeMay (way:Option Nat) (l:List Int) (W d:Nat) (ss:List Sq) (n:Nat):Bool:=(List.range n).all fun i=>mayW way (sqPart l W (sqAt ss i)) (sqAt ss i).w d
theorem planeTo_succ (way:Option Nat) (l:List Int) (W d:Nat) (ss:List Sq) (n:Nat):planeTo way l W d ss (n+1)=planeTo way l W d ss n++tileW way (sqPart l W (sqAt ss n)) (sqAt ss n).w (sqAt ss n).h d:=by
 unfold planeTo
 rw [List.range_succ,List.flatMap_append]
 simp
theorem planeMay_succ (way:Option Nat) (l:List Int) (W d:Nat) (ss:List Sq) (n:Nat):planeMay way l W d ss (n+1)=(planeMay way l W d ss n&&mayW way (sqPart l W (sqAt ss n)) (sqAt ss n).w d):=by
 unfold planeMay
 rw [List.range_succ,List.all_append]
 simp
theorem planeMay_at {way:Option Nat} {l:List Int} {W d:Nat} {ss:List Sq} {n:Nat} (h:planeMay way l W d ss n=true) {i:Nat} (hi:i<n):mayW way (sqPart l W (sqAt ss i)) (sqAt ss i).w d=true:=by
 unfold planeMay at h
 exact List.all_eq_true.1 h i (List.mem_range.2 hi)
theorem planeMay_none (l:List Int) (W d:Nat) (ss:List Sq) (n:Nat):planeMay none l W d ss n=true:=by
 unfold planeMay
 rw [List.all_eq_true]
 intro i _
 rfl
def planeBits (way:Option Nat) (l:List Int) (W H d:Nat):List Nat:=planeTo way l W d (gridL W H 16) (gridL W H 16).length
def planeOk (way:Option Nat) (l:List Int) (W H d:Nat):Bool:=planeMay way l W d (gridL W H 16) (gridL W H 16).length
def planesTo (way:Option Nat) (q:PicD) (k:Nat):List Nat:=(List.range k).flatMap fun j=>planeBits way (q.P.getD j []) q.W q.H q.d
def planesMay (way:Option Nat) (q:PicD) (k:Nat):Bool:=(List.range k).all fun j=>planeOk way (q.P.getD j []) q.W q.H q.d
theorem planesTo_succ (way:Option Nat) (q:PicD) (k:Nat):planesTo way q (k+1)=planesTo way q k++planeBits way (q.P.getD k []) q.W q.H q.d:=by
 unfold planesTo
 rw [List.range_succ,List.flatMap_append]
 simp
theorem planesMay_succ (way:Option Nat) (q:PicD) (k:Nat):planesMay way q (k+1)=(planesMay way q k&&planeOk way (q.P.getD k []) q.W q.H q.d):=by
 unfold planesMay
 rw [List.range_succ,List.all_append]
 simp
theorem planesMay_none (q:PicD) (k:Nat):planesMay none q k=true:=by
 unfold planesMay
 rw [List.all_eq_true]
 intro i _
 exact planeMay_none _ _ _ _ _
theorem planesMay_at {way:Option Nat} {q:PicD} {k j:Nat} (h:planesMay way q k=true) (hj:j<k):planeOk way (q.P.getD j []) q.W q.H q.d=true:=by
 unfold planesMay at h
 exact List.all_eq_true.1 h j (List.mem_range.2 hj)
theorem sqAt_mem' {ss:List Sq} {i:Nat} (h:i<ss.length):sqAt ss i∈ss:=by
 unfold sqAt
 rw [zD,zF h]
 exact zG h
theorem sqPart_len (l:List Int) (W:Nat) (s:Sq):(sqPart l W s).length=s.w*s.h:=by unfold sqPart;rw [partF_len,zY]
theorem grid16_len {W H:Nat} (hW:W<=64) (hH:H<=64):(gridL W H 16).length<=4096:=by
 have h1:=grid_len W H 16
 have h2:H*W<=64*64:=zL hH hW
 omega
theorem tileW_len {way:Option Nat} (hw:WayOk way) {l:List Int} {W d:Nat} {s:Sq} (h0:1<=d) (h1:d<=16) (hs:1<=s.w/\s.w<=16/\1<=s.h/\s.h<=16) (hm:mayW way (sqPart l W s) s.w d=true) :
  (tileW way (sqPart l W s) s.w s.h d).length<200000:=by
 obtain ⟨k1,k2⟩:=kindW_ok (h:=s.h) hw hm
 exact (tile_len_small k1 hs.1 hs.2.2.1 h0 h1 hs.2.1 hs.2.2.2 (sqPart_len _ _ _) k2).2
theorem planeTo_len {way:Option Nat} (hw:WayOk way) (l:List Int) (W:Nat) {d:Nat} {ss:List Sq} (h0:1<=d) (h1:d<=16) (hs:∀ s∈ss,1<=s.w/\s.w<=16/\1<=s.h/\s.h<=16) :
  ∀ n,n<=ss.length->planeMay way l W d ss n=true->(planeTo way l W d ss n).length<=200000*n
 | 0,_,_=>by simp [planeTo]
 | n+1,h,hm=>by
  rw [planeMay_succ,Bool.and_eq_true] at hm
  have h2:=planeTo_len hw l W h0 h1 hs n (by omega) hm.1
  have h3:=tileW_len hw h0 h1 (hs _ (sqAt_mem' (i:=n) h)) hm.2
  rw [planeTo_succ,zC]
  omega
theorem planeBits_len {way:Option Nat} (hw:WayOk way) (l:List Int) {W H d:Nat} (hW:W<=64) (hH:H<=64) (h0:1<=d) (h1:d<=16) (hm:planeOk way l W H d=true):(planeBits way l W H d).length<=819200000:=by
 have h2:=planeTo_len hw l W h0 h1 (fun s hs=>grid_ok (by decide) s hs) _ (zQ _) hm
 have h3:=grid16_len hW hH
 unfold planeBits
 omega
theorem planesTo_len {way:Option Nat} (hw:WayOk way) {q:PicD} (hq:q.Ok):∀ k,planesMay way q k=true->(planesTo way q k).length<=819200000*k
 | 0,_=>by simp [planesTo]
 | k+1,hm=>by
  rw [planesMay_succ,Bool.and_eq_true] at hm
  have h2:=planesTo_len hw hq k hm.1
  have h3:=planeBits_len hw (q.P.getD k []) hq.w1 hq.h1 hq.d0 hq.d1 hm.2
  rw [planesTo_succ,zC]
  omega
def headL (W H d n:Nat):List Nat:=bitsOf (W-1) 6++(bitsOf (H-1) 6++(bitsOf (d-1) 4++bitsOf (n-1) 2))
theorem headL_len (W H d n:Nat):(headL W H d n).length=18:=by simp [headL,bitsOf_len]
def colBits (d:Nat) (C:List (List Int)) (k:Nat):List Nat:=(C.take k).flatMap fun c=>allOf c d
theorem colBits_succ {d:Nat} {C:List (List Int)} {k:Nat} (hk:k<C.length):colBits d C (k+1)=colBits d C k++allOf (C.getD k []) d:=by
 unfold colBits
 rw [List.take_succ_eq_append_getElem hk,List.flatMap_append,zD,zF hk]
 simp
theorem colBits_len {n d:Nat} {C:List (List Int)} (h:∀ c∈C,c.length=n):∀ k,k<=C.length->(colBits d C k).length=d*n*k
 | 0,_=>by simp [colBits]
 | k+1,hk=>by
  have h2:=colBits_len (d:=d) h k (by omega)
  have h3:(C.getD k []).length=n:=by
   rw [zD,zF hk]
   exact h _ (zG hk)
  rw [colBits_succ hk,zC,h2,allOf_len,h3,Nat.mul_succ]
def palBitsL (n d:Nat) (C:List (List Int)):List Nat:=bitsOf (d-1) 4++(bitsOf (n-1) 2++(bitsOf (C.length-1) 8++colBits d C C.length))
theorem palBitsL_len {n d:Nat} {C:List (List Int)} (h:PalOk n d C):(palBitsL n d C).length<=16398:=by
 unfold palBitsL
 rw [zC,zC,zC,bitsOf_len,bitsOf_len,bitsOf_len,colBits_len h.len _ (zQ _)]
 have h1:d*n<=16*4:=zL h.d1 h.n1
 have h2:d*n*C.length<=16*4*256:=zL h1 h.c1
 omega
def hueBits (way:Option Nat) (kind:Nat) (p:PicD):List Nat:=headL p.W p.H p.d p.P.length++(bitsOf 0 1++(bitsOf kind 3++planesTo way (foreH kind p) p.P.length))
def indBits (way:Option Nat) (p:PicD):List Nat:=headL p.W p.H p.d p.P.length++(bitsOf 1 1++(palBitsL p.P.length p.d (palP p)++planeBits way (idxPl p) p.W p.H (pbits (palP p).length)))
def hueMay (way:Option Nat) (kind:Nat) (p:PicD):Bool:=planesMay way (foreH kind p) p.P.length
def indMay (way:Option Nat) (p:PicD):Bool:=planeOk way (idxPl p) p.W p.H (pbits (palP p).length)
theorem hueBits_len {way:Option Nat} (hw:WayOk way) {p:PicD} (h:p.Ok) {kind:Nat} (hm:hueMay way kind p=true):22<=(hueBits way kind p).length/\(hueBits way kind p).length<=4096000000:=by
 have h1:=planesTo_len hw (foreH_ok h kind) _ hm
 have h2:=h.n1
 unfold hueBits
 rw [zC,zC,zC,headL_len,bitsOf_len,bitsOf_len]
 omega
theorem indBits_len {way:Option Nat} (hw:WayOk way) {p:PicD} (h:p.Ok) (hc:(palP p).length<=256) (hm:indMay way p=true):19<=(indBits way p).length/\(indBits way p).length<=4096000000:=by
 have h1:=planeBits_len hw (idxPl p) h.w1 h.h1 (pbits_ok hc).1 (pbits_ok hc).2.1 hm
 have h2:=palBitsL_len (palP_ok h hc)
 unfold indBits
 rw [zC,zC,zC,headL_len,bitsOf_len]
 omega
def stBody (bs:List Nat):List Nat:=packed (padF bs)
def stBytes (bs:List Nat):List Nat:=stBody bs++big4 (crcN (stBody bs))
theorem stBytes_len (bs:List Nat):(stBytes bs).length=(stBody bs).length+4:=by unfold stBytes;rw [zC];rfl
theorem stBody_len (bs:List Nat):(stBody bs).length=(bs.length+7) / 8:=by
 unfold stBody
 rw [packed_len,padF_len]
 omega
theorem putBy_bad {w:World} {l:List Int} {A:Option Addr} {W H d:Nat} (cap:Nat) (t:Tile w l A W H d) (p:Value) (k:Nat) (hk:k<=7) (hm:mayB k l W d=false) :
  Calls Tryz.prog 88 #[p,.int .i64 k,.slice A l.length cap,.int .i64 W,.int .i64 H,.int .i64 d] w fun e w'=>(∃ c:Int,e=.returned (.int .i64 c)/\c≠0)/\Chg [] w w':=by
 have aa:=may_all cap t k hk
 unfold MayPost at aa
 rw [hm] at aa
 clear t hm hk
 go_enter Tryz.func88,Tryz.ntmps88
 go_wp2_with fail
 refine aa.mono ?_
 rintro e w1 ⟨rfl,ab⟩
 go_wp2_with fail
 go_ret
 exact ⟨⟨_,rfl,by decide⟩,ab⟩
def PlanePost (way:Option Nat) (w:World) (b:Nat) (F bs:List Nat) (l:List Int) (W H d:Nat) (e:Ending) (w':World):Prop :=
 if planeOk way l W H d=true then e=.returned (.int .i64 0)/\∃ F',IsWr w' b F' (bs++planeBits way l W H d)/\Grow F F' w w' else e=.returned (.int .i64 6)/\∃ F',Grow F F' w w'
theorem putPlane_ok {way:Option Nat} (hway:WayOk way) {w:World} {l:List Int} {A:Option Addr} (cap:Nat) {W H d:Nat} (hl:l.length=W*H) (hs:SmpOk d l) (hc:Cells vi w A l) (hcap:l.length<=cap) (w0:1<=W) (w1:W<=64) (h0:1<=H) (h1:H<=64) (d0:1<=d) (d1:d<=16)
  (b:Nat) (F bs:List Nat) (hw:IsWr w b F bs) (hA:Apt A l F) (hp:Pts w) (h0F:0∉F) (hbs:bs.length<17179869184) :
  Calls Tryz.prog 89 #[.pointer (some ⟨b,0,none⟩),.slice A l.length cap,.int .i64 W,.int .i64 H,.int .i64 d,.int .i64 (wayI way)] w (PlanePost way w b F bs l W H d):=by
 obtain ⟨ss,au⟩:=zX (gridL W H 16)
 have aZ:∀ w',Calls Tryz.prog 46 #[.int .i64 W,.int .i64 H,.int .i64 16] w' _:=fun w'=>tgrid_ok W H 16 w' w0 w1 h0 h1 (by decide) (by decide)
 have aq:∀ s∈ss,1<=s.w/\s.w<=16/\1<=s.h/\s.h<=16:=by rw [au];exact grid_ok (by decide)
 have aB:∀ s∈ss,s.x+s.w<=W/\s.y+s.h<=H:=by rw [au];exact grid_in (by decide)
 have b1:ss.length<=4096:=by rw [au];exact grid16_len w1 h1
 have ay:=fun n=>planeTo_len hway l W d0 d1 aq n
 have bg:=hid au
 rw [<-au] at aZ
 obtain ⟨n,hn⟩:=zX (ss.length)
 obtain ⟨N,hN⟩:=zX (l.length)
 have b9:N<=4096:=by rw [hN,hl];exact zL w1 h1
 have ap:0<l.length:=by rw [hl];exact Nat.mul_pos w0 h0
 obtain ⟨bA,oA,rfl,bG,aI⟩:=hc.ex ap
 have bl:bA∉F:=by have:=hA ap _ rfl;simpa using this
 rw [<-hn] at b1
 rw [<-hN] at hcap ⊢
 have al:∀ k,k<n->(1<=(sqAt ss k).w/\(sqAt ss k).w<=16/\1<=(sqAt ss k).h/\(sqAt ss k).h<=16)/\(sqAt ss k).x+(sqAt ss k).w<=W/\(sqAt ss k).y+(sqAt ss k).h<=H:=fun k hk=>⟨aq _ (sqAt_mem' (by omega)),aB _ (sqAt_mem' (by omega))⟩
 obtain ⟨wi,aU⟩:=zX (wayI way)
 rw [<-aU]
 have bi:=hid aU
 have bb:=hid hway
 have HC:=hid hc
 have HL:=hid hl
 have bd:=hid hN
 have b2:=hid hs
 have bP:=hid al
 have b3:Hid (∀ k,k<=n->planeMay way l W d ss k=true->(planeTo way l W d ss k).length<=200000*k):=hid (fun k hk hm=>ay k (by omega) hm)
 have HN:=hid hn
 have HW:=hid hw
 have HP:=hid hp
 have bX:=hid bl
 have ci:=hid bG
 have bk:=hid h0F
 have bY:=hid hw.lt
 clear hway hc hl hN hs aq aB ay hw hp bl bG h0F au hA ap aI al aU
 go_enter Tryz.func89,Tryz.ntmps89
 go_wp2_with fail
 refine (aZ w).mono ?_
 rintro e w2 ⟨v8,F8,rfl,al,aY,bh⟩
 unfold SqOwn at al
 rw [<-hn] at al
 obtain ⟨A8,c8,rfl,ck,cp,bu,bH⟩:=OwnK.open_ al
 have bQ:=hid bu
 have aF:=hid aY
 have aN:∀ ad,A8=some ad->ad.block<w2.heap.size/\ad.block∉F:=fun ad e=>by
  obtain ⟨g8,rfl,hf,_⟩:=bH ad e
  have h1:g8∈F8:=by rw [hf];simp
  have h2:=bh g8 h1
  refine ⟨al.lt g8 h1,fun hm => ?_⟩
  have h3:g8<w.heap.size:=bY.out _ hm
  omega
 have bZ:=hid aN
 have bW:Hid (IsWr w2 b F (bs++planeTo way l W d ss 0)):=hid (by
  have e:planeTo way l W d ss 0=[]:=rfl
  rw [e,List.append_nil]
  exact HW.out.same aY)
 clear al aY bh bu bH aN hn aZ
 go_wp2_with fail
 go_loopg [14,15,16,17,22] n (fun j v14 v15 v16 v17 v22 wr=>∃ (k:Nat) (Fk:List Nat),v22=.int .i64 k/\k+j=n/\Hid (IsWr wr b Fk (bs++planeTo way l W d ss k))/\Hid (Grow F Fk w2 wr)/\Hid (planeMay way l W d ss k=true))
 case atStart=>exact ⟨0,F,rfl,by omega,bW,hid (Grow.refl _ _),hid rfl⟩
 case round =>
  obtain ⟨k,Fk,rfl,ch,aA,av,aw⟩:=hrel
  rcases gk with _ | j
  ·obtain rfl:k=n:=by omega
   have t1:decide ((k:Int)<(k:Int))=false:=by simp
   have ah:=aw.out
   have a1:=aA.out
   rw [HN.out,bg.out] at ah a1
   have aw:=hid ah
   have aA:=hid a1
   clear ah a1
   go_wp2_with fail
   go_ret
   unfold PlanePost planeOk planeBits
   rw [if_pos aw.out]
   exact ⟨rfl,Fk,aA.out,Grow.pre aF.out av.out⟩
  ·have hk:k<n:=by omega
   have t1:decide ((k:Int)<(n:Int))=true:=zB (by omega)
   obtain ⟨g8,o8,aN,x0,x1,x2,x3⟩:=sq_cell (bQ.out.chg av.out.chg (fun ad e=>(bZ.out ad e).2)) (show k<ss.length by rw [<-HN.out];exact hk)
   subst aN
   obtain ⟨⟨a5,aP,bc,aO⟩,aW,bo⟩:=bP.out k hk
   obtain ⟨s,a6⟩:=zX (sqAt ss k)
   rw [<-a6] at x0 x1 x2 x3 a5 aP bc aO aW bo
   have bC:=hid a6
   clear a6
   obtain ⟨sx,sy,sw,sh⟩:=s
   simp only at x0 x1 x2 x3 a5 aP bc aO aW bo
   obtain ⟨wo,bU⟩:=zX (wr)
   subst bU
   obtain ⟨m,hm⟩:=zX (sw*sh)
   have cj:m<=256:=by rw [hm];exact zL aP aO
   have bS:(sw:Int)*(sh:Int)=(m:Int):=by rw [hm];simp
   have ah:=run_make_room (P:=Tryz.prog) int_elem rfl .i64 .i64 m (by omega) (by omega)
   obtain ⟨X,hX⟩:=zX (wo.heap.size)
   obtain ⟨wA,ar⟩:=zX (wo.alloc (.cells #[.int .i64 sx,.int .i64 sy,.int .i64 sw,.int .i64 sh] 86))
   obtain ⟨wB,aM⟩:=zX (wA.alloc (.cells (Array.replicate m (Value.int .i64 0)) 3))
   obtain ⟨Y,hY⟩:=zX (X+1)
   have a4:wA.heap.size=Y:=by rw [ar,alloc_size,hY,hX]
   have an:Blk wA X 86 #[.int .i64 sx,.int .i64 sy,.int .i64 sw,.int .i64 sh]:=by rw [ar,hX];exact Blk.new wo _ _
   have ak:Row wB 3 (.slice (some ⟨Y,0,none⟩) 0 m) Y []:=by
    have:=Row.room wA m (by omega)
    rw [List.toArray_replicate,a4] at this
    rw [aM]
    exact this
   have bw:Chg [] wo wA:=by rw [ar];exact (zR [] wo).alloc _
   have a0:Chg [] wA wB:=by rw [aM];exact (zR [] wA).alloc _
   have aL:=an.chg a0 (by simp)
   have q0:=an.cell 0
   have q1:=an.cell 1
   have q2:=an.cell 2
   have q3:=an.cell 3
   have s0:=aL.cell 0
   have s1:=aL.cell 1
   have s2:=aL.cell 2
   have s3:=aL.cell 3
   simp at q0 q1 q2 q3 s0 s1 s2 s3
   have HX:=hid hX
   have HY:=hid hY
   have bK:=hid a4
   have bT:=hid ar
   have bN:=hid aM
   have aR:=hid an
   have bO:=hid ak
   have aQ:=hid bw
   have a3:=hid a0
   have HM:=hid hm
   rw [ar,hX] at q0 q1 q2 q3
   rw [aM,ar,hX] at s0 s1 s2 s3
   clear hX hY a4 ar aM an ak bw a0 aL hm
   go_wp2_with fail
   rw [<-bT.out,<-bN.out,<-HX.out,<-HY.out]
   obtain ⟨YH,bJ⟩:=zX (sy+sh)
   have cl:(sy:Int)+(sh:Int)=(YH:Int):=by omega
   have aT:=hid bJ
   have b0:YH<=64:=by omega
   have ce:sx<=64:=by omega
   have cn:sy<=64:=by omega
   have a8:=hid (fun wz (hz:Chg [] wA wz)=>And.intro ((aR.out.chg hz (by simp)).cell 0) (And.intro ((aR.out.chg hz (by simp)).cell 1) (And.intro ((aR.out.chg hz (by simp)).cell 2) ((aR.out.chg hz (by simp)).cell 3))))
   have b6:Hid (∀ wz,Chg [] wA wz->Cells vi wz (some ⟨bA,oA,none⟩) l):=hid (fun wz hz=>(((HC.out.same aF.out).chg av.out.chg (fun ad e=>by injection e with e;subst e;exact bX.out)).same aQ.out).same hz)
   clear bJ q0 q1 q2 q3 s0 s1 s2 s3
   go_loopg [15,16] sh (fun j2 v15 v16 wr=>∃ (r Yk:Nat) (F5:List Nat),v16=.int .i64 Yk/\Hid (Yk=sy+r)/\r+j2=sh/\Yk+j2=YH/\Hid (Own wr 3 v15 F5 ((partF l W sx sy sw r).map vi))/\Hid (Chg [] wA wr)/\Hid (∀ x∈F5,Y<=x))
   case atStart=>exact ⟨0,sy,[Y],rfl,hid rfl,by omega,by have := aT.out;omega,hid (by simpa [partF] using bO.out.toOwn),a3,hid (by intro x hx;simp at hx;omega)⟩
   case round =>
    obtain ⟨r,Yk,F5,rfl,bE,cd,co,HO,ao,aV⟩:=hrel
    obtain ⟨s0,s1,s2,s3⟩:=a8.out wr ao.out
    simp at s0 s1 s2 s3
    rcases gk with _ | j2
    ·have t2:decide ((Yk:Int)<(YH:Int))=false:=zA (by omega)
     have be:r=sh:=by omega
     have ac:=HO.out
     rw [be] at ac
     have bI:partF l W sx sy sw sh=sqPart l W ⟨sx,sy,sw,sh⟩:=rfl
     rw [bI] at ac
     obtain ⟨D,hD⟩:=zX (sqPart l W ⟨sx,sy,sw,sh⟩)
     rw [<-hD] at ac
     have af:D.length=m:=by rw [hD,sqPart_len];exact HM.out.symm
     have bn:SmpOk d D:=by rw [hD];exact partF_smp b2.out _ _ _ _ _
     obtain ⟨A5,c5,rfl,b5,cb,bz⟩:=ac.open_map
     have aD:Apt A5 D Fk:=ac.apt (fun x hx hm=>by
      have h1:=aV.out x hx
      have h2:=aA.out.lt x hm
      have h3:=HX.out
      have h4:=HY.out
      omega)
     have ht:Tile wr D A5 sw sh d:=⟨a5,aP,bc,aO,d0,d1,by rw [af,HM.out],bn,bz⟩
     have aJ:=(aA.out.same aQ.out).same ao.out
     have ag:=(((HP.out.same aF.out).chg av.out.chg bk.out).same aQ.out).same ao.out
     have bF:0∉Fk:=av.out.out (by have:=HP.out.lt;have:=aF.out.size;omega) bk.out
     have aK:(bs++planeTo way l W d ss k).length<34359738368:=by
      rw [zC]
      have:=b3.out k (by omega) aw.out
      omega
     have ae:=planeTo_succ way l W d ss k
     have ab:=planeMay_succ way l W d ss k
     rw [<-bC.out] at ae ab
     simp only at ae ab
     rw [<-hD] at ae ab
     have aX:Grow Fk Fk w2 wr\/True:=.inr trivial
     have am:Hid (∀ F' wz,Grow Fk F' wr wz->Grow F F' w2 wz):=hid (fun F' wz hz=>av.out.trans (Grow.pre (aQ.out.trans_same ao.out) hz))
     rw [af] at b5
     have HD:=hid hD
     clear ac bz bn be bI aX hD
     cases way with
     | none =>
      have aa:=tput_ok c5 ht ag b Fk _ aJ aD bF aK
      unfold PutPost at aa
      rw [af] at aa
      have e1:wi=-1:=bi.out
      subst e1
      have aH:(bs++planeTo none l W d ss k)++tileBits (bestKind D sw sh d) D sw sh d=bs++planeTo none l W d ss (k+1):=by
       rw [ae]
       simp only [zH,tileW,kindW]
      rw [aH] at aa
      have ai:=hid aa
      have ba:Hid (planeMay none l W d ss (k+1)=true):=hid (planeMay_none _ _ _ _ _)
      rw [af]
      clear aa aH ae ab ht aJ ag aD af
      go_wp2_with fail
      refine ai.out.mono ?_
      rintro e w7 ⟨rfl,F7,az,aC⟩
      have ax:=hid (am.out F7 w7 aC)
      have a7:=hid az
      clear aC az
      go_wp2_with fail
      go_roundg j
      case measure=>omega
      case rel=>exact ⟨k+1,F7,by go_num,by omega,a7,ax,ba⟩
     | some kk =>
      have br:kk<=7:=bb.out kk rfl
      have e1:wi=(kk:Int):=bi.out
      subst e1
      have t3:decide ((kk:Int)<0)=false:=zA (by omega)
      cases ah:mayB kk D sw d with
      | true =>
       have aa:=putBy_all c5 ht b Fk _ aJ aD ag bF aK kk br ah
       unfold PutPost at aa
       rw [af] at aa
       have aH:(bs++planeTo (some kk) l W d ss k)++tileBits kk D sw sh d=bs++planeTo (some kk) l W d ss (k+1):=by
        rw [ae]
        simp only [zH,tileW,kindW]
       rw [aH] at aa
       have ai:=hid aa
       have ba:Hid (planeMay (some kk) l W d ss (k+1)=true):=hid (by rw [ab,aw.out];exact ah)
       rw [af]
       clear aa aH ae ab ht aJ ag aD af ah
       go_wp2_with fail
       refine ai.out.mono ?_
       rintro e w7 ⟨rfl,F7,az,aC⟩
       have ax:=hid (am.out F7 w7 aC)
       have a7:=hid az
       clear aC az
       go_wp2_with fail
       go_roundg j
       case measure=>omega
       case rel=>exact ⟨k+1,F7,by go_num,by omega,a7,ax,ba⟩
      | false =>
       have aa:=putBy_bad c5 ht (.pointer (some ⟨b,0,none⟩)) kk br ah
       rw [af] at aa
       have ai:=hid aa
       have a9:Hid (¬ planeMay (some kk) l W d ss n=true):=hid (fun h=>by
        have h1:=planeMay_at h hk
        rw [<-bC.out] at h1
        have h2:mayB kk (sqPart l W ⟨sx,sy,sw,sh⟩) sw d=true:=h1
        rw [<-HD.out,ah] at h2
        cases h2)
       rw [af]
       clear aa ae ab ht aJ ag aD af ah
       go_wp2_with fail
       refine ai.out.mono ?_
       rintro e w7 ⟨⟨cc,rfl,bR⟩,bx⟩
       have t4:(cc != 0)=true:=by simpa using bR
       have ax:=hid (am.out Fk w7 (Grow.pre bx (Grow.refl _ _)))
       clear bx
       go_wp2_with fail
       go_ret
       unfold PlanePost planeOk planeBits
       have aE:=a9.out
       rw [HN.out,bg.out] at aE
       rw [if_neg aE]
       exact ⟨rfl,Fk,Grow.pre aF.out ax.out⟩
    ·have t2:decide ((Yk:Int)<(YH:Int))=true:=zB (by omega)
     obtain ⟨P,hP⟩:=zX (Yk*W)
     have eP:(Yk:Int)*(W:Int)=(P:Int):=by rw [hP];simp
     have bp:Yk<64:=by omega
     have cm:P<=4096:=by rw [hP];exact zL (show Yk<=64 by omega) w1
     obtain ⟨Q,hQ⟩:=zX (P+sx)
     have eQ:(P:Int)+(sx:Int)=(Q:Int):=by omega
     obtain ⟨hi,bm⟩:=zX (Q+sw)
     have ca:(Q:Int)+(sw:Int)=(hi:Int):=by omega
     have bL:=bE.out
     have aS:hi<=N:=by
      have h2:Yk+1<=H:=by omega
      have h3:=Nat.mul_le_mul_right W h2
      rw [Nat.succ_mul] at h3
      have h4:=bd.out
      rw [HL.out,zY W H] at h4
      omega
     obtain ⟨A',cf,-,bB⟩:=slice_mid (P:=Tryz.prog) Tryz.underlying22 size_int (some ⟨bA,oA,none⟩) N cap Q sw hi bm aS hcap
     have aj:(l.drop Q).take sw=(List.range sw).map fun i=>l.getD ((sy+r)*W+(sx+i)) 0:=by
      have h1:=row_slice (l:=l) (W:=W) (H:=H) (x:=sx) (Y:=Yk) (w:=sw) HL.out aW (by omega)
      rw [hQ,hP,h1,bL]
     obtain ⟨R,hR⟩:=zX ((l.drop Q).take sw)
     have bq:R.length=sw:=by rw [hR,aj];simp
     have bf:Cells vi wr A' R:=by rw [hR];exact bB Int vi wr l bd.out.symm (b6.out wr ao.out)
     have ay:(partF l W sx sy sw r).length<=4096:=by rw [partF_len];exact zL (show r<=64 by omega) (show sw<=64 by omega)
     have bD:partF l W sx sy sw (r+1)=partF l W sx sy sw r++R:=by rw [partF_succ,hR,aj]
     have ac:=HO.out
     have bv:Cells (fun u=>u) wr A' (R.map vi):=by
      refine ⟨fun h0 => ?_⟩
      obtain ⟨b',o',f1,f2,f3⟩:=bf.ex (by simpa using h0)
      refine ⟨b',o',f1,f2,fun i a ha => ?_⟩
      rw [zW] at ha
      obtain ⟨x,hx,rfl⟩:=Option.map_eq_some_iff.1 ha
      exact f3 i x hx
     have b7:=hid bv
     have a2:=hid bq
     have aG:=hid ay
     have b4:=hid bD
     have cg:Q<=4200:=by omega
     have bV:hi<=4300:=by omega
     clear hP hQ bm hR bB bf ay bq bD bv aj bL
     go_wp2_with (at_builtin;refine wpList_append_s rfl rfl int_elem rfl rfl ac (R.map vi) sw rfl ?c1 ?c2 ?c3 ?c4 ?c5 ?_)
     case c1=>rw [zE];exact a2.out.symm
     case c2=>exact b7.out
     case c3=>exact vi_one _
     case c4=>rw [zE,zE,a2.out];have := aG.out;omega
     case c5=>rw [zE,zE,a2.out];have := aG.out;omega
     intro v' F' w7 h2 h3
     have bM:=hid h2
     have bj:=hid h3
     clear h2 h3 ac
     go_wp2_with fail
     go_roundg j2
     case measure=>omega
     case rel =>
      refine ⟨r+1,Yk+1,F',by go_num,hid (by rw [bE.out];omega),by omega,by omega,hid ?_,hid ?_,hid ?_⟩
      ·rw [b4.out,zM]
       exact bM.out
      ·exact ao.out.trans bj.out.chg (fun x hx => .inr (by rw [bK.out];exact aV.out x hx))
      ·intro x hx
       rcases bj.out.new x hx with h | h
       ·exact aV.out x h
       ·have:=ao.out.size;have:=bK.out;omega
theorem planeTo_pre (way:Option Nat) (l:List Int) (W d:Nat) (ss:List Sq):∀ k n i,i+k=n->∃ rest,planeTo way l W d ss n=planeTo way l W d ss i++rest
 | 0,n,i,h=>⟨[],by rw [List.append_nil,show i=n by omega]⟩
 | k+1,n,i,h=>by
  obtain ⟨r,hr⟩:=planeTo_pre way l W d ss k n (i+1) (by omega)
  exact ⟨_,by rw [hr,planeTo_succ,zH]⟩
theorem planeTo_ahead {way:Option Nat} {l:List Int} {W d:Nat} {ss:List Sq} {n:Nat} {ds:List Nat} {pos:Nat} (ha:Ahead ds pos (planeTo way l W d ss n)) {k:Nat} (hk:k<n) :
  Ahead ds (pos+(planeTo way l W d ss k).length) (tileW way (sqPart l W (sqAt ss k)) (sqAt ss k).w (sqAt ss k).h d):=by
 obtain ⟨r,hr⟩:=planeTo_pre way l W d ss (n-(k+1)) n (k+1) (by omega)
 rw [hr,planeTo_succ,zH] at ha
 exact ha.right.left
def GetPlanePost (w:World) (b:Nat) (F ds:List Nat) (pos:Nat) (l:List Int) (e:Ending) (w':World):Prop :=
 ∃ Y,e=.returned (.tuple #[.slice (some ⟨Y,0,none⟩) l.length l.length,.int .i64 0])/\Row w' 3 (.slice (some ⟨Y,0,none⟩) l.length l.length) Y (l.map vi)/\IsRd w' b F ds pos/\Chg [b] w w'/\w.heap.size<=Y
theorem getPlane_ok {way:Option Nat} (hway:WayOk way) {w:World} {b:Nat} {F ds:List Nat} {pos:Nat} (hr:IsRd w b F ds pos) {l:List Int} {W H d:Nat} (hl:l.length=W*H) (hs:SmpOk d l) (w0:1<=W) (w1:W<=64) (h0:1<=H) (h1:H<=64) (d0:1<=d) (d1:d<=16)
  (hp:Pts w) (h0F:0∉F) (hok:planeOk way l W H d=true) (ha:Ahead ds pos (planeBits way l W H d)) :
  Calls Tryz.prog 101 #[.pointer (some ⟨b,0,none⟩),.int .i64 W,.int .i64 H,.int .i64 d] w (GetPlanePost w b F ds (pos+(planeBits way l W H d).length) l):=by
 unfold GetPlanePost
 obtain ⟨ss,an⟩:=zX (gridL W H 16)
 have a6:∀ w',Calls Tryz.prog 46 #[.int .i64 W,.int .i64 H,.int .i64 16] w' _:=fun w'=>tgrid_ok W H 16 w' w0 w1 h0 h1 (by decide) (by decide)
 have aJ:∀ s∈ss,1<=s.w/\s.w<=16/\1<=s.h/\s.h<=16:=by rw [an];exact grid_ok (by decide)
 have aC:∀ s∈ss,s.x+s.w<=W/\s.y+s.h<=H:=by rw [an];exact grid_in (by decide)
 have am:∀ k,k<W*H->ss.any (inSq W k)=true:=fun k hk=>by rw [an];exact grid_cover (by decide) hk
 have ct:ss.length<=4096:=by rw [an];exact grid16_len w1 h1
 unfold planeOk at hok
 unfold planeBits at ha ⊢
 rw [<-an] at a6 hok ha ⊢
 obtain ⟨n,hn⟩:=zX (ss.length)
 obtain ⟨N,hN⟩:=zX (W*H)
 have b2:N<=4096:=by rw [hN];exact zL w1 h1
 have cK:0<N:=by rw [hN];exact Nat.mul_pos w0 h0
 rw [<-hn] at ct ha hok ⊢
 rw [<-hN] at hl am
 rw [hl]
 have aE:(W:Int)*(H:Int)=(N:Int):=by rw [hN];simp
 have ae:∀ k,k<n->(1<=(sqAt ss k).w/\(sqAt ss k).w<=16/\1<=(sqAt ss k).h/\(sqAt ss k).h<=16)/\(sqAt ss k).x+(sqAt ss k).w<=W/\(sqAt ss k).y+(sqAt ss k).h<=H:=fun k hk=>⟨aJ _ (sqAt_mem' (by omega)),aC _ (sqAt_mem' (by omega))⟩
 have al:∀ k,k<n->∀ w' ,IsRd w' b F ds (pos+(planeTo way l W d ss k).length)->Pts w'->Calls Tryz.prog 135 #[.pointer (some ⟨b,0,none⟩),.int .i64 (sqAt ss k).w,.int .i64 (sqAt ss k).h,.int .i64 d] w' (GetPost w' b F ds (pos+(planeTo way l W d ss k).length) (partF l W (sqAt ss k).x (sqAt ss k).y (sqAt ss k).w (sqAt ss k).h) (tileW way (sqPart l W (sqAt ss k)) (sqAt ss k).w (sqAt ss k).h d).length):=fun k hk w' hr' hp'=>by
  obtain ⟨⟨a1,a2,a3,a4⟩,_⟩:=ae k hk
  have hm:=planeMay_at hok hk
  obtain ⟨k1,k2⟩:=kindW_ok (h:=(sqAt ss k).h) hway hm
  exact tget_all hr' a1 a2 a3 a4 d0 d1 (sqPart_len _ _ _) (partF_smp hs _ _ _ _ _) k1 hp' h0F k2 (planeTo_ahead ha hk)
 obtain ⟨Z,hZ⟩:=zX (List.replicate N (0:Int))
 have bX:Z.length=N:=by rw [hZ,zV]
 have aG:mixF l Z W (ss.take n)=l:=by
  rw [hn,zN]
  exact mixF_all (by omega) (fun k hk=>am k (by omega))
 have aa:∀ i k,i<n->k<(sqAt ss i).h->_:=fun i k hi hk=>copy_row_eq (q:=l) (l:=Z) (W:=W) (H:=H) (bs:=ss.take i) (sx:=(sqAt ss i).x) (sy:=(sqAt ss i).y) (sw:=(sqAt ss i).w) (sh:=(sqAt ss i).h) (k:=k) (by omega) (by omega) (ae i hi).2.1 (ae i hi).2.2 hk
 have bF:∀ bs,((mixF l Z W bs).map vi).length=N:=fun bs=>by rw [zE,mixF_len,bX]
 have ai:∀ bs s,s.h=0->mixF l Z W (bs++[s])=mixF l Z W bs:=fun bs s e=>mixF_flat l Z W bs s e
 have aj:∀ i,i<n->mixF l Z W (ss.take i++[⟨(sqAt ss i).x,(sqAt ss i).y,(sqAt ss i).w,(sqAt ss i).h⟩])=mixF l Z W (ss.take (i+1)):=fun i hi=>by
  rw [take_sq (by omega)]
 obtain ⟨Y,hY⟩:=zX (w.heap.size)
 obtain ⟨w2,aN⟩:=zX (w.alloc (.cells (Array.replicate N (Value.int .i64 0)) 3))
 have ac:Row w2 3 (.slice (some ⟨Y,0,none⟩) N N) Y ((mixF l Z W (ss.take 0)).map vi):=by
  have:=Row.made w 3 (List.replicate N (Value.int .i64 0)) (by rw [zV];exact Nat.le_trans b2 (by decide))
  rw [List.take_zero,mixF_nil,hZ,List.map_replicate,aN,hY]
  rw [zV,List.toArray_replicate] at this
  exact this
 have bD:Chg [] w w2:=by rw [aN];exact (zR [] w).alloc _
 have cJ:=run_make1 (P:=Tryz.prog) int_elem rfl .i64 .i64 N (by omega) (by omega)
 have bN:Y∉F:=fun hm=>by have:=hr.lt Y hm;omega
 have bK:b<Y:=by rw [hY];exact hr.lt b hr.mem
 have bp:b≠0:=fun e=>h0F (by rw [<-e];exact hr.mem)
 have cG:=hid an
 have cr:=hid a6
 have b9:=hid ae
 have b4:=hid al
 have bg:=hid aG
 have ce:=hid aa
 have b3:=hid bF
 have ax:=hid ai
 have cy:=hid aj
 have aI:=hid ac
 have ao:=hid bD
 have cD:=hid bN
 have aw:=hid bK
 have cn:=hid bp
 have cd:=hid hr
 have HP:=hid hp
 have HN:=hid hn
 have a9:=hid hY
 have ck:=hid aN
 have bf:Hid (Y<w2.heap.size):=hid ac.lt
 clear an a6 aJ aC am hok ha hn hN ae al aG aa bF ai aj ac bD bN bK bp hr hp hZ bX hl hs hway hY aN h0F
 go_enter Tryz.func101,Tryz.ntmps101
 go_wp2_with fail
 rw [<-ck.out,<-a9.out]
 refine (cr.out w2).mono ?_
 rintro e w3 ⟨v8,F8,rfl,ae,aR,bw⟩
 unfold SqOwn at ae
 rw [<-HN.out] at ae
 obtain ⟨A8,c8,rfl,cM,cO,bJ,bW⟩:=OwnK.open_ ae
 have cc:=hid bJ
 have ag:=hid aR
 have aL:∀ ad,A8=some ad->ad.block<w3.heap.size/\ad.block≠b/\ad.block≠Y:=fun ad e=>by
  obtain ⟨g8,rfl,hf,_⟩:=bW ad e
  have h1:g8∈F8:=by rw [hf];simp
  have h2:=bw g8 h1
  have h3:=aw.out
  have h4:=bf.out
  exact ⟨ae.lt g8 h1,by show g8≠b;omega,by show g8≠Y;omega⟩
 have co:=hid aL
 have bm:Hid (IsRd w3 b F ds (pos+(planeTo way l W d ss 0).length)):=hid ((cd.out.chg ao.out (by simp)).chg aR (by simp))
 have aA:=hid (aI.out.chg aR (by simp))
 have cv:Hid (Chg [b,Y] w3 w3):=hid (zR _ _)
 clear ae aR bw bJ bW aL
 go_wp2_with fail
 go_loopg [12,13,14,15,24] n (fun j v12 v13 v14 v15 v24 wr=>∃ k:Nat,v24=.int .i64 k/\k+j=n/\Hid (IsRd wr b F ds (pos+(planeTo way l W d ss k).length))/\Hid (Row wr 3 (.slice (some ⟨Y,0,none⟩) N N) Y ((mixF l Z W (ss.take k)).map vi))/\Hid (Chg [b,Y] w3 wr))
 case atStart=>exact ⟨0,rfl,by omega,bm,aA,cv⟩
 case round =>
  obtain ⟨k,rfl,cI,bU,bA,ar⟩:=hrel
  rcases gk with _ | j
  ·obtain rfl:k=n:=by omega
   have t1:decide ((k:Int)<(k:Int))=false:=by simp
   go_wp2_with fail
   refine bodyPost_ret (v:=.tuple #[.slice (some ⟨Y,0,none⟩) N N,.int .i64 0]) (by simp [results,Tryz.results101,go_sem]) rfl ?_
   refine ⟨Y,rfl,by have h1:=bA.out;rw [bg.out] at h1;exact h1,bU.out,?_,by rw [a9.out];exact zQ _⟩
   refine ((ao.out.mono (F':=[b]) (by simp)).trans_same (ag.out.mono (by simp))).trans ar.out (fun x hx => ?_)
   simp at hx
   rcases hx with rfl | rfl
   ·exact .inl (by simp)
   ·exact .inr (by rw [a9.out];exact zQ _)
  ·have hk:k<n:=by omega
   have t1:decide ((k:Int)<(n:Int))=true:=zB (by omega)
   obtain ⟨g8,o8,aL,x0,x1,x2,x3⟩:=sq_cell (cc.out.chg ar.out (fun ad e=>by simpa using (co.out ad e).2)) (show k<ss.length by rw [<-HN.out];exact hk)
   subst aL
   obtain ⟨⟨aO,aY,bo,aX⟩,bC,bE⟩:=b9.out k hk
   have al:=b4.out k hk
   have aa:=fun k2=>ce.out k k2 hk
   have aP:=cy.out k hk
   have bT:=ax.out (ss.take k)
   have aU:(planeTo way l W d ss (k+1)).length=(planeTo way l W d ss k).length+(tileW way (sqPart l W (sqAt ss k)) (sqAt ss k).w (sqAt ss k).h d).length:=by rw [planeTo_succ,zC]
   obtain ⟨TL,b0⟩:=zX ((tileW way (sqPart l W (sqAt ss k)) (sqAt ss k).w (sqAt ss k).h d).length)
   rw [<-b0] at al aU
   clear b0
   obtain ⟨s,bQ⟩:=zX (sqAt ss k)
   rw [<-bQ] at x0 x1 x2 x3 aO aY bo aX bC bE al aa aP
   clear bQ
   obtain ⟨sx,sy,sw,sh⟩:=s
   simp only at x0 x1 x2 x3 aO aY bo aX bC bE al aa aP
   obtain ⟨wo,ch⟩:=zX (wr)
   subst ch
   obtain ⟨m,hm⟩:=zX (sw*sh)
   have cL:m<=256:=by rw [hm];exact zL aY aX
   have cF:0<m:=by rw [hm];exact Nat.mul_pos aO bo
   obtain ⟨X,hX⟩:=zX (wo.heap.size)
   obtain ⟨wA,aK⟩:=zX (wo.alloc (.cells #[.int .i64 sx,.int .i64 sy,.int .i64 sw,.int .i64 sh] 86))
   have aq:Blk wA X 86 #[.int .i64 sx,.int .i64 sy,.int .i64 sw,.int .i64 sh]:=by rw [aK,hX];exact Blk.new wo _ _
   have aM:Chg [] wo wA:=by rw [aK];exact (zR [] wo).alloc _
   have bZ:X≠b/\X≠Y:=by have:=aw.out;have:=bf.out;have:=ag.out.size;have:=ar.out.size;omega
   have bH:=al wA (bU.out.chg aM (by simp)) (by
    refine (((HP.out.same ao.out).same ag.out).chg ar.out ?_).same aM
    have:=cn.out
    have:=aw.out
    simp
    omega)
   have e0:=aq.cell 0
   have e1:=aq.cell 1
   have e2:=aq.cell 2
   have e3:=aq.cell 3
   have cg:=hid aK
   have cB:=hid hX
   have cw:=hid aq
   have bj:=hid aM
   have bR:=hid bZ
   have cf:=hid bH
   have HM:=hid hm
   have bk:=hid aa
   have a7:=hid aP
   have bb:=hid bT
   have cz:=hid aU
   rw [aK,hX] at e0 e1 e2 e3
   simp at e0 e1 e2 e3
   clear hm hX aK aq aM bZ al bH aa aP bT aU
   go_wp2_with fail
   rw [<-cg.out,<-cB.out]
   refine cf.out.mono ?_
   rintro e w5 ⟨v5,F5,rfl,av,au,aQ,bB⟩
   clear e0 e1 e2 e3
   rcases av.cases with ⟨_,he,_⟩ | ⟨g5,af,aB⟩
   ·exfalso
    have h1:=congrArg List.length he
    rw [zE,partF_len,zY,<-HM.out] at h1
    simp at h1
    omega
   have bi:(partF l W sx sy sw sh).length=m:=by rw [partF_len,zY,<-HM.out]
   have ap:=af
   obtain ⟨c5,rfl,bY,b7,ah,a5⟩:=af.open_map
   have cx:wA.heap.size<=g5:=bB g5 (by rw [aB];simp)
   rw [bi] at bY ap ⊢
   have aW:=hid ap
   have b5:Hid (g5≠b/\g5≠Y):=hid (by have:=aw.out;have:=bf.out;have:=ag.out.size;have:=ar.out.size;have:=bj.out.size;omega)
   have cj:=hid au
   have cs:=hid aQ
   have bL:=hid bi
   have ak:Row w5 3 (.slice (some ⟨Y,0,none⟩) N N) Y ((mixF l Z W (ss.take k++[⟨sx,sy,sw,0⟩])).map vi):=by
    rw [bb.out _ rfl]
    exact (bA.out.chg bj.out (by simp)).chg aQ (by have:=aw.out;simp;omega)
   have aD:=hid ak
   have ab:=cw.out.chg aQ (by simpa using bR.out.1)
   have cb:=hid ab
   have e0:=ab.cell 0
   have e1:=ab.cell 1
   have e2:=ab.cell 2
   have e3:=ab.cell 3
   simp at e0 e1 e2 e3
   clear av af ap ah a5 aB bB cx b7 au aQ bi ak ab
   go_wp2_with fail
   clear e0 e1 e2 e3
   go_loopg [15,45] sh (fun j2 v15 v45 wr2=>∃ i:Nat,v45=.int .i64 i/\i+j2=sh/\Hid (Row wr2 3 (.slice (some ⟨Y,0,none⟩) N N) Y ((mixF l Z W (ss.take k++[⟨sx,sy,sw,i⟩])).map vi))/\Hid (Chg [Y] w5 wr2))
   case atStart=>exact ⟨0,rfl,by omega,aD,hid (zR _ _)⟩
   case round =>
    obtain ⟨i,rfl,cP,bz,aH⟩:=hrel
    rcases gk with _ | j2
    ·have bq:i=sh:=by omega
     have t2:decide (i<sh)=false:=zA (by omega)
     have bc:=bz.out
     rw [bq,a7.out] at bc
     have aV:=hid bc
     have aF:IsRd wr b F ds (pos+(planeTo way l W d ss (k+1)).length):=by
      rw [cz.out,<-Nat.add_assoc]
      exact cj.out.chg aH.out (fun x hx=>by simpa using fun e:x=Y=>cD.out (e ▸ hx))
     have bl:=hid aF
     have be:Hid (Chg [b,Y] w3 wr):=hid (((ar.out.trans_same (bj.out.mono (by simp))).trans_same (cs.out.mono (by simp))).trans_same (aH.out.mono (by simp)))
     clear bc bq aF
     go_wp2_with fail
     go_roundg j
     case measure=>omega
     case rel=>exact ⟨k+1,by go_num,by omega,bl,aV,be⟩
    ·have bx:i<sh:=by omega
     have t2:decide (i<sh)=true:=zB bx
     obtain ⟨Yk,bI⟩:=zX (sy+i)
     have eY:(sy:Int)+(i:Int)=(Yk:Int):=by omega
     have aa:=bk.out i bx
     rw [<-bI] at aa
     have bn:Yk*W+sx+sw<=N:=by
      have h2:Yk+1<=H:=by omega
      have h3:=Nat.mul_le_mul_right W h2
      have h4:H*W=N:=by
       have:=aE
       rw [zY]
       exact_mod_cast this
      rw [Nat.succ_mul] at h3
      omega
     obtain ⟨P0,aS⟩:=zX (Yk*W)
     have eP:(Yk:Int)*(W:Int)=(P0:Int):=by rw [aS];simp
     rw [<-aS] at bn aa
     obtain ⟨at_,bv⟩:=zX (P0+sx)
     have eQ:(P0:Int)+(sx:Int)=(at_:Int):=by omega
     rw [<-bv] at bn aa
     obtain ⟨lo,az⟩:=zX (i*sw)
     have eL:(i:Int)*(sw:Int)=(lo:Int):=by rw [az];simp
     have cA:lo+sw<=m:=by
      have h3:=Nat.mul_le_mul_right sw (show i+1<=sh by omega)
      rw [Nat.succ_mul,zY sh,<-HM.out,<-az] at h3
      exact h3
     rw [<-az] at aa
     obtain ⟨k1,br⟩:=zX (i+1)
     have eK:(i:Int)+1=(k1:Int):=by omega
     obtain ⟨ba,a0⟩:=zX (lo+sw)
     have eH:(k1:Int)*(sw:Int)=(ba:Int):=by rw [br,a0,az];simp [Int.add_mul]
     have a8:at_<N:=by omega
     have cm:=slice_at (P:=Tryz.prog) Tryz.underlying22 size_int Y N N at_ a8 (zQ _)
     obtain ⟨A',cH,-,bS⟩:=slice_mid (P:=Tryz.prog) Tryz.underlying22 size_int (some ⟨g5,0,none⟩) m c5 lo sw ba a0 (by omega) bY
     have au:=aW.out.chg aH.out (by simpa using b5.out.2)
     obtain ⟨_,-,-,-,ah,-⟩:=au.open_map
     have bP:Cells vi wr (some ⟨g5,0,none⟩) (partF l W sx sy sw sh):=⟨fun _=>⟨g5,0,rfl,au.lt,fun k a hk=>by rw [Nat.zero_add];exact ah k a hk⟩⟩
     obtain ⟨R,hR⟩:=zX (((partF l W sx sy sw sh).drop lo).take sw)
     have bu:Cells vi wr A' R:=by rw [hR];exact bS Int vi wr _ bL.out bP
     have bG:R.length=sw:=by rw [hR,zI,zO,bL.out];omega
     rw [<-hR] at aa
     have bV:((mixF l Z W (ss.take k++[⟨sx,sy,sw,i⟩])).map vi).length=N:=b3.out _
     have ab:=cb.out.chg aH.out (by simpa using bR.out.2)
     have e0:=ab.cell 0
     have e1:=ab.cell 1
     have e2:=ab.cell 2
     have e3:=ab.cell 3
     simp at e0 e1 e2 e3
     have bh:=hid bu
     have aZ:=hid aa
     have cl:=hid bG
     have cE:=hid bV
     have cu:Yk<=72:=by omega
     have cN:P0<=4096:=by omega
     have ca:at_<=4096:=by omega
     have cC:lo<=256:=by omega
     have ci:ba<=256:=by omega
     have b6:k1<=16:=by omega
     have ay:Hid (at_+sw<=N/\sw<=N-at_):=hid ⟨by omega,by omega⟩
     have aT:=hid aO
     clear bI aS bv az br a0 bn cA aa bS au ah bP hR bu bG bV ab
     go_wp2_with fail
     refine wp_region_quiet_tail 22 (by kernel_rfl) (by kernel_rfl) ?_
     simp only [List.take_succ_cons,List.take_zero,List.drop_succ_cons,List.drop_zero]
     repeat (go_big_quiet_step (fail))
     refine wpQuiet_nil ?_
     intro _ b1
     obtain ⟨nq,rfl⟩:=b1
     have bO:=bz.out.drewN nq
     go_wp2_with (refine wpList_copy_row rfl (.tmp 58) (.tmp 69) 22 22 rfl Tryz.underlying22 (by kernel_rfl) bO at_ (N-at_) (N-at_) sw (c5-lo) rfl rfl (R.map vi) ?n1 ?n2 ?n3 ?n4 ?n5 ?n6 ?_)
     case n1=>rw [zE];exact cl.out
     case n2=>exact aT.out
     case n3=>exact ay.out.2
     case n4 =>
      have h1:=bh.out.drewN nq
      refine ⟨fun h0 => ?_⟩
      obtain ⟨b,o,e1,e2,e3⟩:=h1.ex (by simpa using h0)
      refine ⟨b,o,e1,e2,fun i a ha => ?_⟩
      rw [zW] at ha
      obtain ⟨x,hx,rfl⟩:=Option.map_eq_some_iff.1 ha
      exact e3 i x hx
     case n5=>rw [cE.out];exact ay.out.1
     case n6 =>
      intro u hu
      obtain ⟨x,_,rfl⟩:=List.mem_map.1 hu
      rfl
     intro w7 bd bM
     rw [aZ.out] at bd
     have cq:=hid bd
     have cp:Hid (Chg [Y] w5 w7):=hid ((aH.out.drewN nq).trans_same bM)
     clear bd bM bO
     go_wp2_with fail
     go_roundg j2
     case measure=>omega
     case rel=>exact ⟨i+1,by go_num,by omega,cq,cp⟩
theorem ghead_ok {w:World} {b:Nat} {F ds:List Nat} {pos:Nat} (hr:IsRd w b F ds pos) {W H d n:Nat} (w0:1<=W) (w1:W<=64) (h0:1<=H) (h1:H<=64) (d0:1<=d) (d1:d<=16) (n0:1<=n) (n1:n<=4) (ha:Ahead ds pos (headL W H d n)) :
  Calls Tryz.prog 67 #[.pointer (some ⟨b,0,none⟩)] w fun e w'=>e=.returned (.tuple #[.int .i64 W,.int .i64 H,.int .i64 d,.int .i64 n])/\IsRd w' b F ds (pos+18)/\Chg [b] w w':=by
 unfold headL at ha
 obtain ⟨W1,rfl⟩:∃ W1,W=W1+1:=⟨W-1,by omega⟩
 obtain ⟨H1,rfl⟩:∃ H1,H=H1+1:=⟨H-1,by omega⟩
 obtain ⟨D1,rfl⟩:∃ D1,d=D1+1:=⟨d-1,by omega⟩
 obtain ⟨N1,rfl⟩:∃ N1,n=N1+1:=⟨n-1,by omega⟩
 rw [show W1+1-1=W1 by omega,show H1+1-1=H1 by omega,show D1+1-1=D1 by omega,show N1+1-1=N1 by omega] at ha
 have a1:=ha.left
 have b1:=ha.right
 rw [bitsOf_len] at b1
 have a2:=b1.left
 have b2:=b1.right
 rw [bitsOf_len] at b2
 have a3:=b2.left
 have a4:=b2.right
 rw [bitsOf_len] at a4
 have g1:=rget_ahead w b F ds pos 6 W1 hr (by omega) (by omega) a1
 have g2:=fun w' h=>rget_ahead w' b F ds (pos+6) 6 H1 h (by omega) (by omega) a2
 have g3:=fun w' h=>rget_ahead w' b F ds (pos+6+6) 4 D1 h (by omega) (by omega) a3
 have g4:=fun w' h=>rget_ahead w' b F ds (pos+6+6+4) 2 N1 h (by omega) (by omega) a4
 have u1:IntKind.i64.wrap (W1:Int)=(W1:Int):=IntWalk.i64_in _ (by omega)
 have u2:IntKind.i64.wrap (H1:Int)=(H1:Int):=IntWalk.i64_in _ (by omega)
 have u3:IntKind.i64.wrap (D1:Int)=(D1:Int):=IntWalk.i64_in _ (by omega)
 have u4:IntKind.i64.wrap (N1:Int)=(N1:Int):=IntWalk.i64_in _ (by omega)
 have G2:=hid g2
 have G3:=hid g3
 have G4:=hid g4
 have lW:W1<64:=by omega
 have lH:H1<64:=by omega
 have lD:D1<16:=by omega
 have lN:N1<4:=by omega
 clear ha a1 a2 a3 a4 b1 b2 g2 g3 g4 hr
 go_enter Tryz.func67,Tryz.ntmps67
 go_wp2_with fail
 refine g1.mono ?_
 rintro e w2 ⟨rfl,ac,af⟩
 have g2:=G2.out w2 ac
 clear g1 ac
 go_wp2_with fail
 refine g2.mono ?_
 rintro e w3 ⟨rfl,ab,ad⟩
 have g3:=G3.out w3 ab
 clear g2 ab
 go_wp2_with fail
 refine g3.mono ?_
 rintro e w4 ⟨rfl,aa,ag⟩
 have g4:=G4.out w4 aa
 clear g3 aa
 go_wp2_with fail
 refine g4.mono ?_
 rintro e w5 ⟨rfl,ae,ah⟩
 clear g4
 go_wp2_with fail
 refine bodyPost_ret (v:=.tuple #[.int .i64 ((W1+1:Nat):Int),.int .i64 ((H1+1:Nat):Int),.int .i64 ((D1+1:Nat):Int),.int .i64 ((N1+1:Nat):Int)]) (by simp [results,Tryz.results67,go_sem]) rfl ?_
 exact ⟨rfl,ae,((af.trans_same ad).trans_same ag).trans_same ah⟩
end Go.Proofs.YtepjepkgcdfboaaGreatDoor
