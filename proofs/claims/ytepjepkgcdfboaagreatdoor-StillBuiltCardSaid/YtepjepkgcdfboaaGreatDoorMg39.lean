/- Single pictures, plain Lean: the bits of planes, palettes and pictures. No program. -/
import Derived.Test.YtepjepkgcdfboaaGreatDoorMg29
import Derived.Test.YtepjepkgcdfboaaGreatDoorMg37
import Derived.Test.YtepjepkgcdfboaaGreatDoorMg38
set_option linter.unusedVariables false
set_option linter.unusedSimpArgs false
set_option maxHeartbeats 1000000
set_option maxRecDepth 100000
namespace Go.Proofs.YtepjepkgcdfboaaGreatDoor
open Go.RowKit
def e2z (way:Option Nat) (l:List Int) (w h d:Nat):Nat:=match way with
 | none=>a5n l w h d
 | some k=>k
def f3s (way:Option Nat) (l:List Int) (w d:Nat):Bool:=match way with
 | none=>true
 | some k=>a7a k l w d
def b1b (way:Option Nat):Prop:=∀ k,way=some k->k<=7
def c5y (way:Option Nat):Int:=match way with
 | none => -1
 | some k=>(k:Int)
def c8p (way:Option Nat) (l:List Int) (w h d:Nat):List Nat:=a0e (e2z way l w h d) l w h d
theorem d6k {way:Option Nat} (hw:b1b way) {l:List Int} {w h d:Nat} (hm:f3s way l w d=true):e2z way l w h d<=7/\a7a (e2z way l w h d) l w d=true:=by
 cases way with
 | none=>exact ⟨(b3r l w h d).1,(b3r l w h d).2.1⟩
 | some k=>exact ⟨hw k rfl,hm⟩
def a7e (l:List Int) (W:Nat) (s:Sq):List Int:=a9w l W s.x s.y s.w s.h
def a2h (way:Option Nat) (l:List Int) (W d:Nat) (ss:List Sq) (n:Nat):List Nat:=(List.range n).flatMap fun i=>c8p way (a7e l W (a4e ss i)) (a4e ss i).w (a4e ss i).h d
def a4c (way:Option Nat) (l:List Int) (W d:Nat) (ss:List Sq) (n:Nat):Bool:=(List.range n).all fun i=>f3s way (a7e l W (a4e ss i)) (a4e ss i).w d
theorem a6t (way:Option Nat) (l:List Int) (W d:Nat) (ss:List Sq) (n:Nat):a2h way l W d ss (n+1)=a2h way l W d ss n++c8p way (a7e l W (a4e ss n)) (a4e ss n).w (a4e ss n).h d:=by
 unfold a2h
 rw [List.range_succ,List.flatMap_append]
 simp
theorem b5x (way:Option Nat) (l:List Int) (W d:Nat) (ss:List Sq) (n:Nat):a4c way l W d ss (n+1)=(a4c way l W d ss n&&f3s way (a7e l W (a4e ss n)) (a4e ss n).w d):=by
 unfold a4c
 rw [List.range_succ,List.all_append]
 simp
theorem c2e {way:Option Nat} {l:List Int} {W d:Nat} {ss:List Sq} {n:Nat} (h:a4c way l W d ss n=true) {i:Nat} (hi:i<n):f3s way (a7e l W (a4e ss i)) (a4e ss i).w d=true:=by
 unfold a4c at h
 exact List.all_eq_true.1 h i (List.mem_range.2 hi)
theorem a5s (l:List Int) (W d:Nat) (ss:List Sq) (n:Nat):a4c none l W d ss n=true:=by
 unfold a4c
 rw [List.all_eq_true]
 intro i _
 rfl
def a1y (way:Option Nat) (l:List Int) (W H d:Nat):List Nat:=a2h way l W d (b6z W H 16) (b6z W H 16).length
def a6c (way:Option Nat) (l:List Int) (W H d:Nat):Bool:=a4c way l W d (b6z W H 16) (b6z W H 16).length
def a1d (way:Option Nat) (q:a2a) (k:Nat):List Nat:=(List.range k).flatMap fun j=>a1y way (q.P.getD j []) q.W q.H q.d
def a2u (way:Option Nat) (q:a2a) (k:Nat):Bool:=(List.range k).all fun j=>a6c way (q.P.getD j []) q.W q.H q.d
theorem a5t (way:Option Nat) (q:a2a) (k:Nat):a1d way q (k+1)=a1d way q k++a1y way (q.P.getD k []) q.W q.H q.d:=by
 unfold a1d
 rw [List.range_succ,List.flatMap_append]
 simp
theorem b3n (way:Option Nat) (q:a2a) (k:Nat):a2u way q (k+1)=(a2u way q k&&a6c way (q.P.getD k []) q.W q.H q.d):=by
 unfold a2u
 rw [List.range_succ,List.all_append]
 simp
theorem a9b (q:a2a) (k:Nat):a2u none q k=true:=by
 unfold a2u
 rw [List.all_eq_true]
 intro i _
 exact a5s _ _ _ _ _
theorem b8g {way:Option Nat} {q:a2a} {k j:Nat} (h:a2u way q k=true) (hj:j<k):a6c way (q.P.getD j []) q.W q.H q.d=true:=by
 unfold a2u at h
 exact List.all_eq_true.1 h j (List.mem_range.2 hj)
theorem b2d {ss:List Sq} {i:Nat} (h:i<ss.length):a4e ss i∈ss:=by
 unfold a4e
 rw [zD,zF h]
 exact zG h
theorem b7n (l:List Int) (W:Nat) (s:Sq):(a7e l W s).length=s.w*s.h:=by unfold a7e;rw [b1w,zY]
theorem b6y {W H:Nat} (hW:W<=64) (hH:H<=64):(b6z W H 16).length<=4096:=by
 have h1:=d6d W H 16
 have h2:H*W<=64*64:=zL hH hW
 omega
theorem e6a {way:Option Nat} (hw:b1b way) {l:List Int} {W d:Nat} {s:Sq} (h0:1<=d) (h1:d<=16) (hs:1<=s.w/\s.w<=16/\1<=s.h/\s.h<=16) (hm:f3s way (a7e l W s) s.w d=true) :
  (c8p way (a7e l W s) s.w s.h d).length<200000:=by
 obtain ⟨k1,k2⟩:=d6k (h:=s.h) hw hm
 exact (c4j k1 hs.1 hs.2.2.1 h0 h1 hs.2.1 hs.2.2.2 (b7n _ _ _) k2).2
theorem b4h {way:Option Nat} (hw:b1b way) (l:List Int) (W:Nat) {d:Nat} {ss:List Sq} (h0:1<=d) (h1:d<=16) (hs:∀ s∈ss,1<=s.w/\s.w<=16/\1<=s.h/\s.h<=16) :
  ∀ n,n<=ss.length->a4c way l W d ss n=true->(a2h way l W d ss n).length<=200000*n
 | 0,_,_=>by simp [a2h]
 | n+1,h,hm=>by
  rw [b5x,Bool.and_eq_true] at hm
  have h2:=b4h hw l W h0 h1 hs n (by omega) hm.1
  have h3:=e6a hw h0 h1 (hs _ (b2d (i:=n) h)) hm.2
  rw [a6t,zC]
  omega
theorem b5w {way:Option Nat} (hw:b1b way) (l:List Int) {W H d:Nat} (hW:W<=64) (hH:H<=64) (h0:1<=d) (h1:d<=16) (hm:a6c way l W H d=true):(a1y way l W H d).length<=819200000:=by
 have h2:=b4h hw l W h0 h1 (fun s hs=>d3n (by decide) s hs) _ (zQ _) hm
 have h3:=b6y hW hH
 unfold a1y
 omega
theorem b2a {way:Option Nat} (hw:b1b way) {q:a2a} (hq:q.Ok):∀ k,a2u way q k=true->(a1d way q k).length<=819200000*k
 | 0,_=>by simp [a1d]
 | k+1,hm=>by
  rw [b3n,Bool.and_eq_true] at hm
  have h2:=b2a hw hq k hm.1
  have h3:=b5w hw (q.P.getD k []) hq.w1 hq.h1 hq.d0 hq.d1 hm.2
  rw [a5t,zC]
  omega
def b3z (W H d n:Nat):List Nat:=a0b (W-1) 6++(a0b (H-1) 6++(a0b (d-1) 4++a0b (n-1) 2))
theorem a9q (W H d n:Nat):(b3z W H d n).length=18:=by simp [b3z,a0a]
def a3o (d:Nat) (C:List (List Int)) (k:Nat):List Nat:=(C.take k).flatMap fun c=>a1v c d
theorem a6n {d:Nat} {C:List (List Int)} {k:Nat} (hk:k<C.length):a3o d C (k+1)=a3o d C k++a1v (C.getD k []) d:=by
 unfold a3o
 rw [List.take_succ_eq_append_getElem hk,List.flatMap_append,zD,zF hk]
 simp
theorem b3v {n d:Nat} {C:List (List Int)} (h:∀ c∈C,c.length=n):∀ k,k<=C.length->(a3o d C k).length=d*n*k
 | 0,_=>by simp [a3o]
 | k+1,hk=>by
  have h2:=b3v (d:=d) h k (by omega)
  have h3:(C.getD k []).length=n:=by
   rw [zD,zF hk]
   exact h _ (zG hk)
  rw [a6n hk,zC,h2,b4t,h3,Nat.mul_succ]
def a2q (n d:Nat) (C:List (List Int)):List Nat:=a0b (d-1) 4++(a0b (n-1) 2++(a0b (C.length-1) 8++a3o d C C.length))
theorem b8e {n d:Nat} {C:List (List Int)} (h:e1e n d C):(a2q n d C).length<=16398:=by
 unfold a2q
 rw [zC,zC,zC,a0a,a0a,a0a,b3v h.len _ (zQ _)]
 have h1:d*n<=16*4:=zL h.d1 h.n1
 have h2:d*n*C.length<=16*4*256:=zL h1 h.c1
 omega
def a4h (way:Option Nat) (kind:Nat) (p:a2a):List Nat:=b3z p.W p.H p.d p.P.length++(a0b 0 1++(a0b kind 3++a1d way (a3p kind p) p.P.length))
def a2t (way:Option Nat) (p:a2a):List Nat:=b3z p.W p.H p.d p.P.length++(a0b 1 1++(a2q p.P.length p.d (a2y p)++a1y way (a3q p) p.W p.H (a7i (a2y p).length)))
def b1t (way:Option Nat) (kind:Nat) (p:a2a):Bool:=a2u way (a3p kind p) p.P.length
def b5l (way:Option Nat) (p:a2a):Bool:=a6c way (a3q p) p.W p.H (a7i (a2y p).length)
theorem b4a {way:Option Nat} (hw:b1b way) {p:a2a} (h:p.Ok) {kind:Nat} (hm:b1t way kind p=true):22<=(a4h way kind p).length/\(a4h way kind p).length<=4096000000:=by
 have h1:=b2a hw (b2t h kind) _ hm
 have h2:=h.n1
 unfold a4h
 rw [zC,zC,zC,a9q,a0a,a0a]
 omega
theorem b4b {way:Option Nat} (hw:b1b way) {p:a2a} (h:p.Ok) (hc:(a2y p).length<=256) (hm:b5l way p=true):19<=(a2t way p).length/\(a2t way p).length<=4096000000:=by
 have h1:=b5w hw (a3q p) h.w1 h.h1 (b0o hc).1 (b0o hc).2.1 hm
 have h2:=b8e (c2b h hc)
 unfold a2t
 rw [zC,zC,zC,a9q,a0a]
 omega
def b0b (bs:List Nat):List Nat:=a1n (d7a bs)
def a1e (bs:List Nat):List Nat:=b0b bs++d8f (c3g (b0b bs))
theorem b4k (bs:List Nat):(a1e bs).length=(b0b bs).length+4:=by unfold a1e;rw [zC];rfl
theorem b7o (bs:List Nat):(b0b bs).length=(bs.length+7) / 8:=by
 unfold b0b
 rw [a4p,b9m]
 omega
theorem e4y {w:World} {l:List Int} {A:Option Addr} {W H d:Nat} (cap:Nat) (t:c9d w l A W H d) (p:Value) (k:Nat) (hk:k<=7) (hm:a7a k l W d=false) :
  Calls Tryz.prog 88 #[p,.int .i64 k,.slice A l.length cap,.int .i64 W,.int .i64 H,.int .i64 d] w fun e w'=>(∃ c:Int,e=.returned (.int .i64 c)/\c≠0)/\Chg [] w w':=by
 have aa:=a9a cap t k hk
 unfold a3l at aa
 rw [hm] at aa
 clear t hm hk
 go_enter Tryz.func88,Tryz.ntmps88
 go_wp2_with fail
 refine aa.mono ?_
 rintro e w1 ⟨rfl,ab⟩
 go_wp2_with fail
 go_ret
 exact ⟨⟨_,rfl,by decide⟩,ab⟩
def a7s (way:Option Nat) (w:World) (b:Nat) (F bs:List Nat) (l:List Int) (W H d:Nat) (e:Ending) (w':World):Prop :=
 if a6c way l W H d=true then e=.returned (.int .i64 0)/\∃ F',a2n w' b F' (bs++a1y way l W H d)/\a0u F F' w w' else e=.returned (.int .i64 6)/\∃ F',a0u F F' w w'
theorem c2k {way:Option Nat} (hway:b1b way) {w:World} {l:List Int} {A:Option Addr} (cap:Nat) {W H d:Nat} (hl:l.length=W*H) (hs:a1u d l) (hc:a0d vi w A l) (hcap:l.length<=cap) (w0:1<=W) (w1:W<=64) (h0:1<=H) (h1:H<=64) (d0:1<=d) (d1:d<=16)
  (b:Nat) (F bs:List Nat) (hw:a2n w b F bs) (hA:Apt A l F) (hp:Pts w) (h0F:0∉F) (hbs:bs.length<17179869184) :
  Calls Tryz.prog 89 #[.pointer (some ⟨b,0,none⟩),.slice A l.length cap,.int .i64 W,.int .i64 H,.int .i64 d,.int .i64 (c5y way)] w (a7s way w b F bs l W H d):=by
 obtain ⟨ss,av⟩:=zX (b6z W H 16)
 have a4:∀ w',Calls Tryz.prog 46 #[.int .i64 W,.int .i64 H,.int .i64 16] w' _:=fun w'=>d7t W H 16 w' w0 w1 h0 h1 (by decide) (by decide)
 have aq:∀ s∈ss,1<=s.w/\s.w<=16/\1<=s.h/\s.h<=16:=by rw [av];exact d3n (by decide)
 have aI:∀ s∈ss,s.x+s.w<=W/\s.y+s.h<=H:=by rw [av];exact e2t (by decide)
 have bW:ss.length<=4096:=by rw [av];exact b6y w1 h1
 have aF:=fun n=>b4h hway l W d0 d1 aq n
 have bk:=hid av
 rw [<-av] at a4
 obtain ⟨n,hn⟩:=zX (ss.length)
 obtain ⟨N,hN⟩:=zX (l.length)
 have cg:N<=4096:=by rw [hN,hl];exact zL w1 h1
 have ap:0<l.length:=by rw [hl];exact Nat.mul_pos w0 h0
 obtain ⟨bA,oA,rfl,bu,aG⟩:=hc.ex ap
 have bz:bA∉F:=by have:=hA ap _ rfl;simpa using this
 rw [<-hn] at bW
 rw [<-hN] at hcap ⊢
 have al:∀ k,k<n->(1<=(a4e ss k).w/\(a4e ss k).w<=16/\1<=(a4e ss k).h/\(a4e ss k).h<=16)/\(a4e ss k).x+(a4e ss k).w<=W/\(a4e ss k).y+(a4e ss k).h<=H:=fun k hk=>⟨aq _ (b2d (by omega)),aI _ (b2d (by omega))⟩
 obtain ⟨wi,a0⟩:=zX (c5y way)
 rw [<-a0]
 have bo:=hid a0
 have a1:=hid hway
 have HC:=hid hc
 have HL:=hid hl
 have bg:=hid hN
 have bZ:=hid hs
 have b7:=hid al
 have bP:Hid (∀ k,k<=n->a4c way l W d ss k=true->(a2h way l W d ss k).length<=200000*k):=hid (fun k hk hm=>aF k (by omega) hm)
 have HN:=hid hn
 have HW:=hid hw
 have HP:=hid hp
 have b5:=hid bz
 have co:=hid bu
 have bH:=hid h0F
 have bU:=hid hw.lt
 clear hway hc hl hN hs aq aI aF hw hp bz bu h0F av hA ap aG al a0
 go_enter Tryz.func89,Tryz.ntmps89
 go_wp2_with fail
 refine (a4 w).mono ?_
 rintro e w2 ⟨v8,F8,rfl,al,a2,bL⟩
 unfold c3i at al
 rw [<-hn] at al
 obtain ⟨A8,c8,rfl,ch,cn,bl,bF⟩:=b7t.open_ al
 have bQ:=hid bl
 have aw:=hid a2
 have aN:∀ ad,A8=some ad->ad.block<w2.heap.size/\ad.block∉F:=fun ad e=>by
  obtain ⟨g8,rfl,hf,_⟩:=bF ad e
  have h1:g8∈F8:=by rw [hf];simp
  have h2:=bL g8 h1
  refine ⟨al.lt g8 h1,fun hm => ?_⟩
  have h3:g8<w.heap.size:=bU.out _ hm
  omega
 have b3:=hid aN
 have bY:Hid (a2n w2 b F (bs++a2h way l W d ss 0)):=hid (by
  have e:a2h way l W d ss 0=[]:=rfl
  rw [e,List.append_nil]
  exact HW.out.same a2)
 clear al a2 bL bl bF aN hn a4
 go_wp2_with fail
 go_loopg [14,15,16,17,22] n (fun j v14 v15 v16 v17 v22 wr=>∃ (k:Nat) (Fk:List Nat),v22=.int .i64 k/\k+j=n/\Hid (a2n wr b Fk (bs++a2h way l W d ss k))/\Hid (a0u F Fk w2 wr)/\Hid (a4c way l W d ss k=true))
 case atStart=>exact ⟨0,F,rfl,by omega,bY,hid (a0u.refl _ _),hid rfl⟩
 case round =>
  obtain ⟨k,Fk,rfl,ci,ay,au,ax⟩:=hrel
  rcases gk with _ | j
  ·obtain rfl:k=n:=by omega
   have t1:decide ((k:Int)<(k:Int))=false:=by simp
   have ai:=ax.out
   have aX:=ay.out
   rw [HN.out,bk.out] at ai aX
   have ax:=hid ai
   have ay:=hid aX
   clear ai aX
   go_wp2_with fail
   go_ret
   unfold a7s a6c a1y
   rw [if_pos ax.out]
   exact ⟨rfl,Fk,ay.out,a0u.pre aw.out au.out⟩
  ·have hk:k<n:=by omega
   have t1:decide ((k:Int)<(n:Int))=true:=zB (by omega)
   obtain ⟨g8,o8,aN,x0,x1,x2,x3⟩:=e5t (bQ.out.chg au.out.chg (fun ad e=>(b3.out ad e).2)) (show k<ss.length by rw [<-HN.out];exact hk)
   subst aN
   obtain ⟨⟨aS,aR,aT,aP⟩,a3,bh⟩:=b7.out k hk
   obtain ⟨s,aU⟩:=zX (a4e ss k)
   rw [<-aU] at x0 x1 x2 x3 aS aR aT aP a3 bh
   have br:=hid aU
   clear aU
   obtain ⟨sx,sy,sw,sh⟩:=s
   simp only at x0 x1 x2 x3 aS aR aT aP a3 bh
   obtain ⟨wo,b4⟩:=zX (wr)
   subst b4
   obtain ⟨m,hm⟩:=zX (sw*sh)
   have cl:m<=256:=by rw [hm];exact zL aR aP
   have bS:(sw:Int)*(sh:Int)=(m:Int):=by rw [hm];simp
   have ai:=b0q (P:=Tryz.prog) a0p rfl .i64 .i64 m (by omega) (by omega)
   obtain ⟨X,hX⟩:=zX (wo.heap.size)
   obtain ⟨wA,an⟩:=zX (wo.alloc (.cells #[.int .i64 sx,.int .i64 sy,.int .i64 sw,.int .i64 sh] 86))
   obtain ⟨wB,aC⟩:=zX (wA.alloc (.cells (Array.replicate m (Value.int .i64 0)) 3))
   obtain ⟨Y,hY⟩:=zX (X+1)
   have ba:wA.heap.size=Y:=by rw [an,a3f,hY,hX]
   have ar:Blk wA X 86 #[.int .i64 sx,.int .i64 sy,.int .i64 sw,.int .i64 sh]:=by rw [an,hX];exact Blk.new wo _ _
   have ak:Row wB 3 (.slice (some ⟨Y,0,none⟩) 0 m) Y []:=by
    have:=Row.room wA m (by omega)
    rw [List.toArray_replicate,ba] at this
    rw [aC]
    exact this
   have bB:Chg [] wo wA:=by rw [an];exact (zR [] wo).alloc _
   have aY:Chg [] wA wB:=by rw [aC];exact (zR [] wA).alloc _
   have aA:=ar.chg aY (by simp)
   have q0:=ar.cell 0
   have q1:=ar.cell 1
   have q2:=ar.cell 2
   have q3:=ar.cell 3
   have s0:=aA.cell 0
   have s1:=aA.cell 1
   have s2:=aA.cell 2
   have s3:=aA.cell 3
   simp at q0 q1 q2 q3 s0 s1 s2 s3
   have HX:=hid hX
   have HY:=hid hY
   have bE:=hid ba
   have bX:=hid an
   have b0:=hid aC
   have aO:=hid ar
   have b1:=hid ak
   have aQ:=hid bB
   have bb:=hid aY
   have HM:=hid hm
   rw [an,hX] at q0 q1 q2 q3
   rw [aC,an,hX] at s0 s1 s2 s3
   clear hX hY ba an aC ar ak bB aY aA hm
   go_wp2_with fail
   rw [<-bX.out,<-b0.out,<-HX.out,<-HY.out]
   obtain ⟨YH,bx⟩:=zX (sy+sh)
   have cf:(sy:Int)+(sh:Int)=(YH:Int):=by omega
   have a9:=hid bx
   have bN:YH<=64:=by omega
   have b9:sx<=64:=by omega
   have ck:sy<=64:=by omega
   have a5:=hid (fun wz (hz:Chg [] wA wz)=>And.intro ((aO.out.chg hz (by simp)).cell 0) (And.intro ((aO.out.chg hz (by simp)).cell 1) (And.intro ((aO.out.chg hz (by simp)).cell 2) ((aO.out.chg hz (by simp)).cell 3))))
   have b6:Hid (∀ wz,Chg [] wA wz->a0d vi wz (some ⟨bA,oA,none⟩) l):=hid (fun wz hz=>(((HC.out.same aw.out).chg au.out.chg (fun ad e=>by injection e with e;subst e;exact b5.out)).same aQ.out).same hz)
   clear bx q0 q1 q2 q3 s0 s1 s2 s3
   go_loopg [15,16] sh (fun j2 v15 v16 wr=>∃ (r Yk:Nat) (F5:List Nat),v16=.int .i64 Yk/\Hid (Yk=sy+r)/\r+j2=sh/\Yk+j2=YH/\Hid (Own wr 3 v15 F5 ((a9w l W sx sy sw r).map vi))/\Hid (Chg [] wA wr)/\Hid (∀ x∈F5,Y<=x))
   case atStart=>exact ⟨0,sy,[Y],rfl,hid rfl,by omega,by have := a9.out;omega,hid (by simpa [a9w] using b1.out.toOwn),bb,hid (by intro x hx;simp at hx;omega)⟩
   case round =>
    obtain ⟨r,Yk,F5,rfl,bw,cj,cp,HO,ao,aW⟩:=hrel
    obtain ⟨s0,s1,s2,s3⟩:=a5.out wr ao.out
    simp at s0 s1 s2 s3
    rcases gk with _ | j2
    ·have t2:decide ((Yk:Int)<(YH:Int))=false:=zA (by omega)
     have bn:r=sh:=by omega
     have ac:=HO.out
     rw [bn] at ac
     have bm:a9w l W sx sy sw sh=a7e l W ⟨sx,sy,sw,sh⟩:=rfl
     rw [bm] at ac
     obtain ⟨D,hD⟩:=zX (a7e l W ⟨sx,sy,sw,sh⟩)
     rw [<-hD] at ac
     have af:D.length=m:=by rw [hD,b7n];exact HM.out.symm
     have bC:a1u d D:=by rw [hD];exact d1k bZ.out _ _ _ _ _
     obtain ⟨A5,c5,rfl,bV,ce,bK⟩:=ac.oq
     have aD:Apt A5 D Fk:=ac.apt (fun x hx hm=>by
      have h1:=aW.out x hx
      have h2:=ay.out.lt x hm
      have h3:=HX.out
      have h4:=HY.out
      omega)
     have ht:c9d wr D A5 sw sh d:=⟨aS,aR,aT,aP,d0,d1,by rw [af,HM.out],bC,bK⟩
     have aL:=(ay.out.same aQ.out).same ao.out
     have ag:=(((HP.out.same aw.out).chg au.out.chg bH.out).same aQ.out).same ao.out
     have bG:0∉Fk:=au.out.out (by have:=HP.out.lt;have:=aw.out.size;omega) bH.out
     have aB:(bs++a2h way l W d ss k).length<34359738368:=by
      rw [zC]
      have:=bP.out k (by omega) ax.out
      omega
     have ae:=a6t way l W d ss k
     have ab:=b5x way l W d ss k
     rw [<-br.out] at ae ab
     simp only at ae ab
     rw [<-hD] at ae ab
     have a6:a0u Fk Fk w2 wr\/True:=.inr trivial
     have am:Hid (∀ F' wz,a0u Fk F' wr wz->a0u F F' w2 wz):=hid (fun F' wz hz=>au.out.trans (a0u.pre (aQ.out.tq ao.out) hz))
     rw [af] at bV
     have HD:=hid hD
     clear ac bK bC bn bm a6 hD
     cases way with
     | none =>
      have aa:=f3a c5 ht ag b Fk _ aL aD bG aB
      unfold a2w at aa
      rw [af] at aa
      have e1:wi=-1:=bo.out
      subst e1
      have aM:(bs++a2h none l W d ss k)++a0e (a5n D sw sh d) D sw sh d=bs++a2h none l W d ss (k+1):=by
       rw [ae]
       simp only [zH,c8p,e2z]
      rw [aM] at aa
      have ah:=hid aa
      have a7:Hid (a4c none l W d ss (k+1)=true):=hid (a5s _ _ _ _ _)
      rw [af]
      clear aa aM ae ab ht aL ag aD af
      go_wp2_with fail
      refine ah.out.mono ?_
      rintro e w7 ⟨rfl,F7,aE,aK⟩
      have aH:=hid (am.out F7 w7 aK)
      have aZ:=hid aE
      clear aK aE
      go_wp2_with fail
      go_roundg j
      case measure=>omega
      case rel=>exact ⟨k+1,F7,by go_num,by omega,aZ,aH,a7⟩
     | some kk =>
      have be:kk<=7:=a1.out kk rfl
      have e1:wi=(kk:Int):=bo.out
      subst e1
      have t3:decide ((kk:Int)<0)=false:=zA (by omega)
      cases ai:a7a kk D sw d with
      | true =>
       have aa:=c2j c5 ht b Fk _ aL aD ag bG aB kk be ai
       unfold a2w at aa
       rw [af] at aa
       have aM:(bs++a2h (some kk) l W d ss k)++a0e kk D sw sh d=bs++a2h (some kk) l W d ss (k+1):=by
        rw [ae]
        simp only [zH,c8p,e2z]
       rw [aM] at aa
       have ah:=hid aa
       have a7:Hid (a4c (some kk) l W d ss (k+1)=true):=hid (by rw [ab,ax.out];exact ai)
       rw [af]
       clear aa aM ae ab ht aL ag aD af ai
       go_wp2_with fail
       refine ah.out.mono ?_
       rintro e w7 ⟨rfl,F7,aE,aK⟩
       have aH:=hid (am.out F7 w7 aK)
       have aZ:=hid aE
       clear aK aE
       go_wp2_with fail
       go_roundg j
       case measure=>omega
       case rel=>exact ⟨k+1,F7,by go_num,by omega,aZ,aH,a7⟩
      | false =>
       have aa:=e4y c5 ht (.pointer (some ⟨b,0,none⟩)) kk be ai
       rw [af] at aa
       have ah:=hid aa
       have aV:Hid (¬ a4c (some kk) l W d ss n=true):=hid (fun h=>by
        have h1:=c2e h hk
        rw [<-br.out] at h1
        have h2:a7a kk (a7e l W ⟨sx,sy,sw,sh⟩) sw d=true:=h1
        rw [<-HD.out,ai] at h2
        cases h2)
       rw [af]
       clear aa ae ab ht aL ag aD af ai
       go_wp2_with fail
       refine ah.out.mono ?_
       rintro e w7 ⟨⟨cc,rfl,bO⟩,bD⟩
       have t4:(cc != 0)=true:=by simpa using bO
       have aH:=hid (am.out Fk w7 (a0u.pre bD (a0u.refl _ _)))
       clear bD
       go_wp2_with fail
       go_ret
       unfold a7s a6c a1y
       have aJ:=aV.out
       rw [HN.out,bk.out] at aJ
       rw [if_neg aJ]
       exact ⟨rfl,Fk,a0u.pre aw.out aH.out⟩
    ·have t2:decide ((Yk:Int)<(YH:Int))=true:=zB (by omega)
     obtain ⟨P,hP⟩:=zX (Yk*W)
     have eP:(Yk:Int)*(W:Int)=(P:Int):=by rw [hP];simp
     have bp:Yk<64:=by omega
     have cd:P<=4096:=by rw [hP];exact zL (show Yk<=64 by omega) w1
     obtain ⟨Q,hQ⟩:=zX (P+sx)
     have eQ:(P:Int)+(sx:Int)=(Q:Int):=by omega
     obtain ⟨hi,bJ⟩:=zX (Q+sw)
     have cm:(Q:Int)+(sw:Int)=(hi:Int):=by omega
     have bq:=bw.out
     have bc:hi<=N:=by
      have h2:Yk+1<=H:=by omega
      have h3:=Nat.mul_le_mul_right W h2
      rw [Nat.succ_mul] at h3
      have h4:=bg.out
      rw [HL.out,zY W H] at h4
      omega
     obtain ⟨A',ca,-,bd⟩:=c2s (P:=Tryz.prog) Tryz.underlying22 a8q (some ⟨bA,oA,none⟩) N cap Q sw hi bJ bc hcap
     have aj:(l.drop Q).take sw=(List.range sw).map fun i=>l.getD ((sy+r)*W+(sx+i)) 0:=by
      have h1:=e5j (l:=l) (W:=W) (H:=H) (x:=sx) (Y:=Yk) (w:=sw) HL.out a3 (by omega)
      rw [hQ,hP,h1,bq]
     obtain ⟨R,hR⟩:=zX ((l.drop Q).take sw)
     have bI:R.length=sw:=by rw [hR,aj];simp
     have bj:a0d vi wr A' R:=by rw [hR];exact bd Int vi wr l bg.out.symm (b6.out wr ao.out)
     have aF:(a9w l W sx sy sw r).length<=4096:=by rw [b1w];exact zL (show r<=64 by omega) (show sw<=64 by omega)
     have bf:a9w l W sx sy sw (r+1)=a9w l W sx sy sw r++R:=by rw [e0b,hR,aj]
     have ac:=HO.out
     have bv:a0d (fun u=>u) wr A' (R.map vi):=by
      refine ⟨fun h0 => ?_⟩
      obtain ⟨b',o',f1,f2,f3⟩:=bj.ex (by simpa using h0)
      refine ⟨b',o',f1,f2,fun i a ha => ?_⟩
      rw [zW] at ha
      obtain ⟨x,hx,rfl⟩:=Option.map_eq_some_iff.1 ha
      exact f3 i x hx
     have bM:=hid bv
     have a8:=hid bI
     have az:=hid aF
     have bT:=hid bf
     have cb:Q<=4200:=by omega
     have b2:hi<=4300:=by omega
     clear hP hQ bJ hR bd bj aF bI bf bv aj bq
     go_wp2_with (at_builtin;refine a1m rfl rfl a0p rfl rfl ac (R.map vi) sw rfl ?c1 ?c2 ?c3 ?c4 ?c5 ?_)
     case c1=>rw [zE];exact a8.out.symm
     case c2=>exact bM.out
     case c3=>exact e6f _
     case c4=>rw [zE,zE,a8.out];have := az.out;omega
     case c5=>rw [zE,zE,a8.out];have := az.out;omega
     intro v' F' w7 h2 h3
     have bR:=hid h2
     have bi:=hid h3
     clear h2 h3 ac
     go_wp2_with fail
     go_roundg j2
     case measure=>omega
     case rel =>
      refine ⟨r+1,Yk+1,F',by go_num,hid (by rw [bw.out];omega),by omega,by omega,hid ?_,hid ?_,hid ?_⟩
      ·rw [bT.out,zM]
       exact bR.out
      ·exact ao.out.trans bi.out.chg (fun x hx => .inr (by rw [bE.out];exact aW.out x hx))
      ·intro x hx
       rcases bi.out.new x hx with h | h
       ·exact aW.out x h
       ·have:=ao.out.size;have:=bE.out;omega
theorem c2f (way:Option Nat) (l:List Int) (W d:Nat) (ss:List Sq):∀ k n i,i+k=n->∃ rest,a2h way l W d ss n=a2h way l W d ss i++rest
 | 0,n,i,h=>⟨[],by rw [List.append_nil,show i=n by omega]⟩
 | k+1,n,i,h=>by
  obtain ⟨r,hr⟩:=c2f way l W d ss k n (i+1) (by omega)
  exact ⟨_,by rw [hr,a6t,zH]⟩
theorem c7p {way:Option Nat} {l:List Int} {W d:Nat} {ss:List Sq} {n:Nat} {ds:List Nat} {pos:Nat} (ha:a0y ds pos (a2h way l W d ss n)) {k:Nat} (hk:k<n) :
  a0y ds (pos+(a2h way l W d ss k).length) (c8p way (a7e l W (a4e ss k)) (a4e ss k).w (a4e ss k).h d):=by
 obtain ⟨r,hr⟩:=c2f way l W d ss (n-(k+1)) n (k+1) (by omega)
 rw [hr,a6t,zH] at ha
 exact ha.right.left
def a6l (w:World) (b:Nat) (F ds:List Nat) (pos:Nat) (l:List Int) (e:Ending) (w':World):Prop :=
 ∃ Y,e=.returned (.tuple #[.slice (some ⟨Y,0,none⟩) l.length l.length,.int .i64 0])/\Row w' 3 (.slice (some ⟨Y,0,none⟩) l.length l.length) Y (l.map vi)/\a1r w' b F ds pos/\Chg [b] w w'/\w.heap.size<=Y
theorem c0y {way:Option Nat} (hway:b1b way) {w:World} {b:Nat} {F ds:List Nat} {pos:Nat} (hr:a1r w b F ds pos) {l:List Int} {W H d:Nat} (hl:l.length=W*H) (hs:a1u d l) (w0:1<=W) (w1:W<=64) (h0:1<=H) (h1:H<=64) (d0:1<=d) (d1:d<=16)
  (hp:Pts w) (h0F:0∉F) (hok:a6c way l W H d=true) (ha:a0y ds pos (a1y way l W H d)) :
  Calls Tryz.prog 101 #[.pointer (some ⟨b,0,none⟩),.int .i64 W,.int .i64 H,.int .i64 d] w (a6l w b F ds (pos+(a1y way l W H d).length) l):=by
 unfold a6l
 obtain ⟨ss,ao⟩:=zX (b6z W H 16)
 have bb:∀ w',Calls Tryz.prog 46 #[.int .i64 W,.int .i64 H,.int .i64 16] w' _:=fun w'=>d7t W H 16 w' w0 w1 h0 h1 (by decide) (by decide)
 have aG:∀ s∈ss,1<=s.w/\s.w<=16/\1<=s.h/\s.h<=16:=by rw [ao];exact d3n (by decide)
 have aH:∀ s∈ss,s.x+s.w<=W/\s.y+s.h<=H:=by rw [ao];exact e2t (by decide)
 have am:∀ k,k<W*H->ss.any (d9a W k)=true:=fun k hk=>by rw [ao];exact d8x (by decide) hk
 have ci:ss.length<=4096:=by rw [ao];exact b6y w1 h1
 unfold a6c at hok
 unfold a1y at ha ⊢
 rw [<-ao] at bb hok ha ⊢
 obtain ⟨n,hn⟩:=zX (ss.length)
 obtain ⟨N,hN⟩:=zX (W*H)
 have co:N<=4096:=by rw [hN];exact zL w1 h1
 have cJ:0<N:=by rw [hN];exact Nat.mul_pos w0 h0
 rw [<-hn] at ci ha hok ⊢
 rw [<-hN] at hl am
 rw [hl]
 have aB:(W:Int)*(H:Int)=(N:Int):=by rw [hN];simp
 have af:∀ k,k<n->(1<=(a4e ss k).w/\(a4e ss k).w<=16/\1<=(a4e ss k).h/\(a4e ss k).h<=16)/\(a4e ss k).x+(a4e ss k).w<=W/\(a4e ss k).y+(a4e ss k).h<=H:=fun k hk=>⟨aG _ (b2d (by omega)),aH _ (b2d (by omega))⟩
 have ai:∀ k,k<n->∀ w' ,a1r w' b F ds (pos+(a2h way l W d ss k).length)->Pts w'->Calls Tryz.prog 135 #[.pointer (some ⟨b,0,none⟩),.int .i64 (a4e ss k).w,.int .i64 (a4e ss k).h,.int .i64 d] w' (a3z w' b F ds (pos+(a2h way l W d ss k).length) (a9w l W (a4e ss k).x (a4e ss k).y (a4e ss k).w (a4e ss k).h) (c8p way (a7e l W (a4e ss k)) (a4e ss k).w (a4e ss k).h d).length):=fun k hk w' hr' hp'=>by
  obtain ⟨⟨a1,a2,a3,a4⟩,_⟩:=af k hk
  have hm:=c2e hok hk
  obtain ⟨k1,k2⟩:=d6k (h:=(a4e ss k).h) hway hm
  exact f0d hr' a1 a2 a3 a4 d0 d1 (b7n _ _ _) (d1k hs _ _ _ _ _) k1 hp' h0F k2 (c7p ha hk)
 obtain ⟨Z,hZ⟩:=zX (List.replicate N (0:Int))
 have bP:Z.length=N:=by rw [hZ,zV]
 have aA:b9a l Z W (ss.take n)=l:=by
  rw [hn,zN]
  exact e8r (by omega) (fun k hk=>am k (by omega))
 have aa:∀ i k,i<n->k<(a4e ss i).h->_:=fun i k hi hk=>d3b (q:=l) (l:=Z) (W:=W) (H:=H) (bs:=ss.take i) (sx:=(a4e ss i).x) (sy:=(a4e ss i).y) (sw:=(a4e ss i).w) (sh:=(a4e ss i).h) (k:=k) (by omega) (by omega) (af i hi).2.1 (af i hi).2.2 hk
 have bJ:∀ bs,((b9a l Z W bs).map vi).length=N:=fun bs=>by rw [zE,b5q,bP]
 have aj:∀ bs s,s.h=0->b9a l Z W (bs++[s])=b9a l Z W bs:=fun bs s e=>e3v l Z W bs s e
 have ak:∀ i,i<n->b9a l Z W (ss.take i++[⟨(a4e ss i).x,(a4e ss i).y,(a4e ss i).w,(a4e ss i).h⟩])=b9a l Z W (ss.take (i+1)):=fun i hi=>by
  rw [f2z (by omega)]
 obtain ⟨Y,hY⟩:=zX (w.heap.size)
 obtain ⟨w2,aP⟩:=zX (w.alloc (.cells (Array.replicate N (Value.int .i64 0)) 3))
 have ac:Row w2 3 (.slice (some ⟨Y,0,none⟩) N N) Y ((b9a l Z W (ss.take 0)).map vi):=by
  have:=Row.made w 3 (List.replicate N (Value.int .i64 0)) (by rw [zV];exact Nat.le_trans co (by decide))
  rw [List.take_zero,e8s,hZ,List.map_replicate,aP,hY]
  rw [zV,List.toArray_replicate] at this
  exact this
 have bF:Chg [] w w2:=by rw [aP];exact (zR [] w).alloc _
 have cN:=a1p (P:=Tryz.prog) a0p rfl .i64 .i64 N (by omega) (by omega)
 have bA:Y∉F:=fun hm=>by have:=hr.lt Y hm;omega
 have bp:b<Y:=by rw [hY];exact hr.lt b hr.mem
 have bV:b≠0:=fun e=>h0F (by rw [<-e];exact hr.mem)
 have cG:=hid ao
 have b9:=hid bb
 have cE:=hid af
 have b2:=hid ai
 have bn:=hid aA
 have cj:=hid aa
 have b3:=hid bJ
 have aD:=hid aj
 have cw:=hid ak
 have ax:=hid ac
 have ap:=hid bF
 have cr:=hid bA
 have az:=hid bp
 have cg:=hid bV
 have cm:=hid hr
 have HP:=hid hp
 have HN:=hid hn
 have bd:=hid hY
 have cl:=hid aP
 have bm:Hid (Y<w2.heap.size):=hid ac.lt
 clear ao bb aG aH am hok ha hn hN af ai aA aa bJ aj ak ac bF bA bp bV hr hp hZ bP hl hs hway hY aP h0F
 go_enter Tryz.func101,Tryz.ntmps101
 go_wp2_with fail
 rw [<-cl.out,<-bd.out]
 refine (b9.out w2).mono ?_
 rintro e w3 ⟨v8,F8,rfl,af,aO,bZ⟩
 unfold c3i at af
 rw [<-HN.out] at af
 obtain ⟨A8,c8,rfl,cI,cP,bE,bS⟩:=b7t.open_ af
 have cc:=hid bE
 have ag:=hid aO
 have aN:∀ ad,A8=some ad->ad.block<w3.heap.size/\ad.block≠b/\ad.block≠Y:=fun ad e=>by
  obtain ⟨g8,rfl,hf,_⟩:=bS ad e
  have h1:g8∈F8:=by rw [hf];simp
  have h2:=bZ g8 h1
  have h3:=az.out
  have h4:=bm.out
  exact ⟨af.lt g8 h1,by show g8≠b;omega,by show g8≠Y;omega⟩
 have cA:=hid aN
 have a0:Hid (a1r w3 b F ds (pos+(a2h way l W d ss 0).length)):=hid ((cm.out.chg ap.out (by simp)).chg aO (by simp))
 have aI:=hid (ax.out.chg aO (by simp))
 have ce:Hid (Chg [b,Y] w3 w3):=hid (zR _ _)
 clear af aO bZ bE bS aN
 go_wp2_with fail
 go_loopg [12,13,14,15,24] n (fun j v12 v13 v14 v15 v24 wr=>∃ k:Nat,v24=.int .i64 k/\k+j=n/\Hid (a1r wr b F ds (pos+(a2h way l W d ss k).length))/\Hid (Row wr 3 (.slice (some ⟨Y,0,none⟩) N N) Y ((b9a l Z W (ss.take k)).map vi))/\Hid (Chg [b,Y] w3 wr))
 case atStart=>exact ⟨0,rfl,by omega,a0,aI,ce⟩
 case round =>
  obtain ⟨k,rfl,cL,bG,br,ar⟩:=hrel
  rcases gk with _ | j
  ·obtain rfl:k=n:=by omega
   have t1:decide ((k:Int)<(k:Int))=false:=by simp
   go_wp2_with fail
   refine bodyPost_ret (v:=.tuple #[.slice (some ⟨Y,0,none⟩) N N,.int .i64 0]) (by simp [results,Tryz.results101,go_sem]) rfl ?_
   refine ⟨Y,rfl,by have h1:=br.out;rw [bn.out] at h1;exact h1,bG.out,?_,by rw [bd.out];exact zQ _⟩
   refine ((ap.out.mono (F':=[b]) (by simp)).tq (ag.out.mono (by simp))).trans ar.out (fun x hx => ?_)
   simp at hx
   rcases hx with rfl | rfl
   ·exact .inl (by simp)
   ·exact .inr (by rw [bd.out];exact zQ _)
  ·have hk:k<n:=by omega
   have t1:decide ((k:Int)<(n:Int))=true:=zB (by omega)
   obtain ⟨g8,o8,aN,x0,x1,x2,x3⟩:=e5t (cc.out.chg ar.out (fun ad e=>by simpa using (cA.out ad e).2)) (show k<ss.length by rw [<-HN.out];exact hk)
   subst aN
   obtain ⟨⟨aL,bi,aV,bg⟩,bL,bz⟩:=cE.out k hk
   have ai:=b2.out k hk
   have aa:=fun k2=>cj.out k k2 hk
   have aQ:=cw.out k hk
   have bq:=aD.out (ss.take k)
   have bc:(a2h way l W d ss (k+1)).length=(a2h way l W d ss k).length+(c8p way (a7e l W (a4e ss k)) (a4e ss k).w (a4e ss k).h d).length:=by rw [a6t,zC]
   obtain ⟨TL,bY⟩:=zX ((c8p way (a7e l W (a4e ss k)) (a4e ss k).w (a4e ss k).h d).length)
   rw [<-bY] at ai bc
   clear bY
   obtain ⟨s,bw⟩:=zX (a4e ss k)
   rw [<-bw] at x0 x1 x2 x3 aL bi aV bg bL bz ai aa aQ
   clear bw
   obtain ⟨sx,sy,sw,sh⟩:=s
   simp only at x0 x1 x2 x3 aL bi aV bg bL bz ai aa aQ
   obtain ⟨wo,cB⟩:=zX (wr)
   subst cB
   obtain ⟨m,hm⟩:=zX (sw*sh)
   have cO:m<=256:=by rw [hm];exact zL bi bg
   have cM:0<m:=by rw [hm];exact Nat.mul_pos aL aV
   obtain ⟨X,hX⟩:=zX (wo.heap.size)
   obtain ⟨wA,aw⟩:=zX (wo.alloc (.cells #[.int .i64 sx,.int .i64 sy,.int .i64 sw,.int .i64 sh] 86))
   have au:Blk wA X 86 #[.int .i64 sx,.int .i64 sy,.int .i64 sw,.int .i64 sh]:=by rw [aw,hX];exact Blk.new wo _ _
   have aM:Chg [] wo wA:=by rw [aw];exact (zR [] wo).alloc _
   have bT:X≠b/\X≠Y:=by have:=az.out;have:=bm.out;have:=ag.out.size;have:=ar.out.size;omega
   have bN:=ai wA (bG.out.chg aM (by simp)) (by
    refine (((HP.out.same ap.out).same ag.out).chg ar.out ?_).same aM
    have:=cg.out
    have:=az.out
    simp
    omega)
   have e0:=au.cell 0
   have e1:=au.cell 1
   have e2:=au.cell 2
   have e3:=au.cell 3
   have ck:=hid aw
   have b4:=hid hX
   have cd:=hid au
   have aS:=hid aM
   have bH:=hid bT
   have cz:=hid bN
   have HM:=hid hm
   have bo:=hid aa
   have a7:=hid aQ
   have aT:=hid bq
   have b7:=hid bc
   rw [aw,hX] at e0 e1 e2 e3
   simp at e0 e1 e2 e3
   clear hm hX aw au aM bT ai bN aa aQ bq bc
   go_wp2_with fail
   rw [<-ck.out,<-b4.out]
   refine cz.out.mono ?_
   rintro e w5 ⟨v5,F5,rfl,aJ,aq,aR,bv⟩
   clear e0 e1 e2 e3
   rcases aJ.cases with ⟨_,he,_⟩ | ⟨g5,ae,aC⟩
   ·exfalso
    have h1:=congrArg List.length he
    rw [zE,b1w,zY,<-HM.out] at h1
    simp at h1
    omega
   have aW:(a9w l W sx sy sw sh).length=m:=by rw [b1w,zY,<-HM.out]
   have an:=ae
   obtain ⟨c5,rfl,bB,cn,ah,aX⟩:=ae.oq
   have ct:wA.heap.size<=g5:=bv g5 (by rw [aC];simp)
   rw [aW] at bB an ⊢
   have bh:=hid an
   have cb:Hid (g5≠b/\g5≠Y):=hid (by have:=az.out;have:=bm.out;have:=ag.out.size;have:=ar.out.size;have:=aS.out.size;omega)
   have cx:=hid aq
   have cq:=hid aR
   have bI:=hid aW
   have al:Row w5 3 (.slice (some ⟨Y,0,none⟩) N N) Y ((b9a l Z W (ss.take k++[⟨sx,sy,sw,0⟩])).map vi):=by
    rw [aT.out _ rfl]
    exact (br.out.chg aS.out (by simp)).chg aR (by have:=az.out;simp;omega)
   have aE:=hid al
   have ab:=cd.out.chg aR (by simpa using bH.out.1)
   have cf:=hid ab
   have e0:=ab.cell 0
   have e1:=ab.cell 1
   have e2:=ab.cell 2
   have e3:=ab.cell 3
   simp at e0 e1 e2 e3
   clear aJ ae an ah aX aC bv ct cn aq aR aW al ab
   go_wp2_with fail
   clear e0 e1 e2 e3
   go_loopg [15,45] sh (fun j2 v15 v45 wr2=>∃ i:Nat,v45=.int .i64 i/\i+j2=sh/\Hid (Row wr2 3 (.slice (some ⟨Y,0,none⟩) N N) Y ((b9a l Z W (ss.take k++[⟨sx,sy,sw,i⟩])).map vi))/\Hid (Chg [Y] w5 wr2))
   case atStart=>exact ⟨0,rfl,by omega,aE,hid (zR _ _)⟩
   case round =>
    obtain ⟨i,rfl,cK,b0,av⟩:=hrel
    rcases gk with _ | j2
    ·have bO:i=sh:=by omega
     have t2:decide (i<sh)=false:=zA (by omega)
     have a6:=b0.out
     rw [bO,a7.out] at a6
     have ba:=hid a6
     have ay:a1r wr b F ds (pos+(a2h way l W d ss (k+1)).length):=by
      rw [b7.out,<-Nat.add_assoc]
      exact cx.out.chg av.out (fun x hx=>by simpa using fun e:x=Y=>cr.out (e ▸ hx))
     have a8:=hid ay
     have bf:Hid (Chg [b,Y] w3 wr):=hid (((ar.out.tq (aS.out.mono (by simp))).tq (cq.out.mono (by simp))).tq (av.out.mono (by simp)))
     clear a6 bO ay
     go_wp2_with fail
     go_roundg j
     case measure=>omega
     case rel=>exact ⟨k+1,by go_num,by omega,a8,ba,bf⟩
    ·have bU:i<sh:=by omega
     have t2:decide (i<sh)=true:=zB bU
     obtain ⟨Yk,bM⟩:=zX (sy+i)
     have eY:(sy:Int)+(i:Int)=(Yk:Int):=by omega
     have aa:=bo.out i bU
     rw [<-bM] at aa
     have bl:Yk*W+sx+sw<=N:=by
      have h2:Yk+1<=H:=by omega
      have h3:=Nat.mul_le_mul_right W h2
      have h4:H*W=N:=by
       have:=aB
       rw [zY]
       exact_mod_cast this
      rw [Nat.succ_mul] at h3
      omega
     obtain ⟨P0,bj⟩:=zX (Yk*W)
     have eP:(Yk:Int)*(W:Int)=(P0:Int):=by rw [bj];simp
     rw [<-bj] at bl aa
     obtain ⟨at_,bC⟩:=zX (P0+sx)
     have eQ:(P0:Int)+(sx:Int)=(at_:Int):=by omega
     rw [<-bC] at bl aa
     obtain ⟨lo,aF⟩:=zX (i*sw)
     have eL:(i:Int)*(sw:Int)=(lo:Int):=by rw [aF];simp
     have cC:lo+sw<=m:=by
      have h3:=Nat.mul_le_mul_right sw (show i+1<=sh by omega)
      rw [Nat.succ_mul,zY sh,<-HM.out,<-aF] at h3
      exact h3
     rw [<-aF] at aa
     obtain ⟨k1,bK⟩:=zX (i+1)
     have eK:(i:Int)+1=(k1:Int):=by omega
     obtain ⟨aU,bk⟩:=zX (lo+sw)
     have eH:(k1:Int)*(sw:Int)=(aU:Int):=by rw [bK,bk,aF];simp [Int.add_mul]
     have aZ:at_<N:=by omega
     have b5:=e9w (P:=Tryz.prog) Tryz.underlying22 a8q Y N N at_ aZ (zQ _)
     obtain ⟨A',cF,-,bu⟩:=c2s (P:=Tryz.prog) Tryz.underlying22 a8q (some ⟨g5,0,none⟩) m c5 lo sw aU bk (by omega) bB
     have aq:=bh.out.chg av.out (by simpa using cb.out.2)
     obtain ⟨_,-,-,-,ah,-⟩:=aq.oq
     have bX:a0d vi wr (some ⟨g5,0,none⟩) (a9w l W sx sy sw sh):=⟨fun _=>⟨g5,0,rfl,aq.lt,fun k a hk=>by rw [Nat.zero_add];exact ah k a hk⟩⟩
     obtain ⟨R,hR⟩:=zX (((a9w l W sx sy sw sh).drop lo).take sw)
     have bD:a0d vi wr A' R:=by rw [hR];exact bu Int vi wr _ bI.out bX
     have bW:R.length=sw:=by rw [hR,zI,zO,bI.out];omega
     rw [<-hR] at aa
     have bR:((b9a l Z W (ss.take k++[⟨sx,sy,sw,i⟩])).map vi).length=N:=b3.out _
     have ab:=cf.out.chg av.out (by simpa using bH.out.2)
     have e0:=ab.cell 0
     have e1:=ab.cell 1
     have e2:=ab.cell 2
     have e3:=ab.cell 3
     simp at e0 e1 e2 e3
     have a9:=hid bD
     have a5:=hid aa
     have cy:=hid bW
     have cp:=hid bR
     have cD:Yk<=72:=by omega
     have cH:P0<=4096:=by omega
     have ca:at_<=4096:=by omega
     have b1:lo<=256:=by omega
     have cs:aU<=256:=by omega
     have cv:k1<=16:=by omega
     have aK:Hid (at_+sw<=N/\sw<=N-at_):=hid ⟨by omega,by omega⟩
     have aY:=hid aL
     clear bM bj bC aF bK bk bl cC aa bu aq ah bX hR bD bW bR ab
     go_wp2_with fail
     refine a0c 22 (by kernel_rfl) (by kernel_rfl) ?_
     simp only [List.take_succ_cons,List.take_zero,List.drop_succ_cons,List.drop_zero]
     repeat (go_big_quiet_step (fail))
     refine wpQuiet_nil ?_
     intro _ ch
     obtain ⟨nq,rfl⟩:=ch
     have bx:=b0.out.drewN nq
     go_wp2_with (refine c3e rfl (.tmp 58) (.tmp 69) 22 22 rfl Tryz.underlying22 (by kernel_rfl) bx at_ (N-at_) (N-at_) sw (c5-lo) rfl rfl (R.map vi) ?n1 ?n2 ?n3 ?n4 ?n5 ?n6 ?_)
     case n1=>rw [zE];exact cy.out
     case n2=>exact aY.out
     case n3=>exact aK.out.2
     case n4 =>
      have h1:=a9.out.drewN nq
      refine ⟨fun h0 => ?_⟩
      obtain ⟨b,o,e1,e2,e3⟩:=h1.ex (by simpa using h0)
      refine ⟨b,o,e1,e2,fun i a ha => ?_⟩
      rw [zW] at ha
      obtain ⟨x,hx,rfl⟩:=Option.map_eq_some_iff.1 ha
      exact e3 i x hx
     case n5=>rw [cp.out];exact aK.out.1
     case n6 =>
      intro u hu
      obtain ⟨x,_,rfl⟩:=List.mem_map.1 hu
      rfl
     intro w7 be bQ
     rw [a5.out] at be
     have b6:=hid be
     have cu:Hid (Chg [Y] w5 w7):=hid ((av.out.drewN nq).tq bQ)
     clear be bQ bx
     go_wp2_with fail
     go_roundg j2
     case measure=>omega
     case rel=>exact ⟨i+1,by go_num,by omega,b6,cu⟩
theorem d6c {w:World} {b:Nat} {F ds:List Nat} {pos:Nat} (hr:a1r w b F ds pos) {W H d n:Nat} (w0:1<=W) (w1:W<=64) (h0:1<=H) (h1:H<=64) (d0:1<=d) (d1:d<=16) (n0:1<=n) (n1:n<=4) (ha:a0y ds pos (b3z W H d n)) :
  Calls Tryz.prog 67 #[.pointer (some ⟨b,0,none⟩)] w fun e w'=>e=.returned (.tuple #[.int .i64 W,.int .i64 H,.int .i64 d,.int .i64 n])/\a1r w' b F ds (pos+18)/\Chg [b] w w':=by
 unfold b3z at ha
 obtain ⟨W1,rfl⟩:∃ W1,W=W1+1:=⟨W-1,by omega⟩
 obtain ⟨H1,rfl⟩:∃ H1,H=H1+1:=⟨H-1,by omega⟩
 obtain ⟨D1,rfl⟩:∃ D1,d=D1+1:=⟨d-1,by omega⟩
 obtain ⟨N1,rfl⟩:∃ N1,n=N1+1:=⟨n-1,by omega⟩
 rw [show W1+1-1=W1 by omega,show H1+1-1=H1 by omega,show D1+1-1=D1 by omega,show N1+1-1=N1 by omega] at ha
 have a1:=ha.left
 have b1:=ha.right
 rw [a0a] at b1
 have a2:=b1.left
 have b2:=b1.right
 rw [a0a] at b2
 have a3:=b2.left
 have a4:=b2.right
 rw [a0a] at a4
 have g1:=a0j w b F ds pos 6 W1 hr (by omega) (by omega) a1
 have g2:=fun w' h=>a0j w' b F ds (pos+6) 6 H1 h (by omega) (by omega) a2
 have g3:=fun w' h=>a0j w' b F ds (pos+6+6) 4 D1 h (by omega) (by omega) a3
 have g4:=fun w' h=>a0j w' b F ds (pos+6+6+4) 2 N1 h (by omega) (by omega) a4
 have u1:IntKind.i64.wrap (W1:Int)=(W1:Int):=IntWalk.i64_in _ (by omega)
 have u2:IntKind.i64.wrap (H1:Int)=(H1:Int):=IntWalk.i64_in _ (by omega)
 have u3:IntKind.i64.wrap (D1:Int)=(D1:Int):=IntWalk.i64_in _ (by omega)
 have u4:IntKind.i64.wrap (N1:Int)=(N1:Int):=IntWalk.i64_in _ (by omega)
 have G2:=hid g2
 have G3:=hid g3
 have G4:=hid g4
 have lW:W1<64:=by omega
 have lH:H1<64:=by omega
 have lD:D1<16:=by omega
 have lN:N1<4:=by omega
 clear ha a1 a2 a3 a4 b1 b2 g2 g3 g4 hr
 go_enter Tryz.func67,Tryz.ntmps67
 go_wp2_with fail
 refine g1.mono ?_
 rintro e w2 ⟨rfl,aa,ad⟩
 have g2:=G2.out w2 aa
 clear g1 aa
 go_wp2_with fail
 refine g2.mono ?_
 rintro e w3 ⟨rfl,ac,ah⟩
 have g3:=G3.out w3 ac
 clear g2 ac
 go_wp2_with fail
 refine g3.mono ?_
 rintro e w4 ⟨rfl,ab,af⟩
 have g4:=G4.out w4 ab
 clear g3 ab
 go_wp2_with fail
 refine g4.mono ?_
 rintro e w5 ⟨rfl,ae,ag⟩
 clear g4
 go_wp2_with fail
 refine bodyPost_ret (v:=.tuple #[.int .i64 ((W1+1:Nat):Int),.int .i64 ((H1+1:Nat):Int),.int .i64 ((D1+1:Nat):Int),.int .i64 ((N1+1:Nat):Int)]) (by simp [results,Tryz.results67,go_sem]) rfl ?_
 exact ⟨rfl,ae,((ad.tq ah).tq af).tq ag⟩
theorem f6k (bs:List Nat) (k:Nat):bt (d7a bs) k=bt bs k:=by
 unfold d7a bt
 rw [zD,zD,List.getElem?_append]
 split
 ·rfl
 ·rw [List.getElem?_eq_none (l:=bs) (by omega),List.getElem?_replicate]
  split<;>rfl
theorem f5s (bs:List Nat):a1n (d7a bs)=a1n bs:=by
 unfold a1n
 rw [b9m,show (8*((bs.length+7) / 8)+7) / 8=(bs.length+7) / 8 by omega]
 congr 1
 funext i
 simp only [a3k,f6k]
theorem f5v (bs:List Nat):a1e bs=a1n bs++d8f (c3g (a1n bs)):=by
 unfold a1e b0b
 rw [f5s]
end Go.Proofs.YtepjepkgcdfboaaGreatDoor
