/- Single pictures, plain Lean: the bits of planes, palettes and pictures. No program. -/
import Derived.Test.YtepjepkgcdfboaaGreatDoorMg29
import Derived.Test.YtepjepkgcdfboaaGreatDoorMg37
import Derived.Test.YtepjepkgcdfboaaGreatDoorMg38
set_option linter.unusedVariables false
set_option linter.unusedSimpArgs false
set_option maxHeartbeats 1000000
set_option maxRecDepth 100000
namespace Go.Proofs.YtepjepkgcdfboaaGreatDoor
open Go.RowKit
def e2z (way:Option Nat) (l:List Int) (w h d:Nat):Nat:=match way with
 | none=>a5n l w h d
 | some k=>k
def f3s (way:Option Nat) (l:List Int) (w d:Nat):Bool:=match way with
 | none=>true
 | some k=>a7a k l w d
def b1b (way:Option Nat):Prop:=∀ k,way=some k->k<=7
def c5y (way:Option Nat):Int:=match way with
 | none => -1
 | some k=>(k:Int)
def c8p (way:Option Nat) (l:List Int) (w h d:Nat):List Nat:=a0e (e2z way l w h d) l w h d
theorem d6k {way:Option Nat} (hw:b1b way) {l:List Int} {w h d:Nat} (hm:f3s way l w d=true):e2z way l w h d<=7/\a7a (e2z way l w h d) l w d=true:=by
 cases way with
 | none=>exact ⟨(b3r l w h d).1,(b3r l w h d).2.1⟩
 | some k=>exact ⟨hw k rfl,hm⟩
def a7e (l:List Int) (W:Nat) (s:Sq):List Int:=a9w l W s.x s.y s.w s.h
def a2h (way:Option Nat) (l:List Int) (W d:Nat) (ss:List Sq) (n:Nat):List Nat:=(List.range n).flatMap fun i=>c8p way (a7e l W (a4e ss i)) (a4e ss i).w (a4e ss i).h d
def a4c (way:Option Nat) (l:List Int) (W d:Nat) (ss:List Sq) (n:Nat):Bool:=(List.range n).all fun i=>f3s way (a7e l W (a4e ss i)) (a4e ss i).w d
theorem a6t (way:Option Nat) (l:List Int) (W d:Nat) (ss:List Sq) (n:Nat):a2h way l W d ss (n+1)=a2h way l W d ss n++c8p way (a7e l W (a4e ss n)) (a4e ss n).w (a4e ss n).h d:=by
 unfold a2h
 rw [List.range_succ,List.flatMap_append]
 simp
theorem b5x (way:Option Nat) (l:List Int) (W d:Nat) (ss:List Sq) (n:Nat):a4c way l W d ss (n+1)=(a4c way l W d ss n&&f3s way (a7e l W (a4e ss n)) (a4e ss n).w d):=by
 unfold a4c
 rw [List.range_succ,List.all_append]
 simp
theorem c2e {way:Option Nat} {l:List Int} {W d:Nat} {ss:List Sq} {n:Nat} (h:a4c way l W d ss n=true) {i:Nat} (hi:i<n):f3s way (a7e l W (a4e ss i)) (a4e ss i).w d=true:=by
 unfold a4c at h
 exact List.all_eq_true.1 h i (List.mem_range.2 hi)
theorem a5s (l:List Int) (W d:Nat) (ss:List Sq) (n:Nat):a4c none l W d ss n=true:=by
 unfold a4c
 rw [List.all_eq_true]
 intro i _
 rfl
def a1y (way:Option Nat) (l:List Int) (W H d:Nat):List Nat:=a2h way l W d (b6z W H 16) (b6z W H 16).length
def a6c (way:Option Nat) (l:List Int) (W H d:Nat):Bool:=a4c way l W d (b6z W H 16) (b6z W H 16).length
def a1d (way:Option Nat) (q:a2a) (k:Nat):List Nat:=(List.range k).flatMap fun j=>a1y way (q.P.getD j []) q.W q.H q.d
def a2u (way:Option Nat) (q:a2a) (k:Nat):Bool:=(List.range k).all fun j=>a6c way (q.P.getD j []) q.W q.H q.d
theorem a5t (way:Option Nat) (q:a2a) (k:Nat):a1d way q (k+1)=a1d way q k++a1y way (q.P.getD k []) q.W q.H q.d:=by
 unfold a1d
 rw [List.range_succ,List.flatMap_append]
 simp
theorem b3n (way:Option Nat) (q:a2a) (k:Nat):a2u way q (k+1)=(a2u way q k&&a6c way (q.P.getD k []) q.W q.H q.d):=by
 unfold a2u
 rw [List.range_succ,List.all_append]
 simp
theorem a9b (q:a2a) (k:Nat):a2u none q k=true:=by
 unfold a2u
 rw [List.all_eq_true]
 intro i _
 exact a5s _ _ _ _ _
theorem b8g {way:Option Nat} {q:a2a} {k j:Nat} (h:a2u way q k=true) (hj:j<k):a6c way (q.P.getD j []) q.W q.H q.d=true:=by
 unfold a2u at h
 exact List.all_eq_true.1 h j (List.mem_range.2 hj)
theorem b2d {ss:List Sq} {i:Nat} (h:i<ss.length):a4e ss i∈ss:=by
 unfold a4e
 rw [zD,zF h]
 exact zG h
theorem b7n (l:List Int) (W:Nat) (s:Sq):(a7e l W s).length=s.w*s.h:=by unfold a7e;rw [b1w,zY]
theorem b6y {W H:Nat} (hW:W<=64) (hH:H<=64):(b6z W H 16).length<=4096:=by
 have h1:=d6d W H 16
 have h2:H*W<=64*64:=zL hH hW
 omega
theorem e6a {way:Option Nat} (hw:b1b way) {l:List Int} {W d:Nat} {s:Sq} (h0:1<=d) (h1:d<=16) (hs:1<=s.w/\s.w<=16/\1<=s.h/\s.h<=16) (hm:f3s way (a7e l W s) s.w d=true) :
  (c8p way (a7e l W s) s.w s.h d).length<200000:=by
 obtain ⟨k1,k2⟩:=d6k (h:=s.h) hw hm
 exact (c4j k1 hs.1 hs.2.2.1 h0 h1 hs.2.1 hs.2.2.2 (b7n _ _ _) k2).2
theorem b4h {way:Option Nat} (hw:b1b way) (l:List Int) (W:Nat) {d:Nat} {ss:List Sq} (h0:1<=d) (h1:d<=16) (hs:∀ s∈ss,1<=s.w/\s.w<=16/\1<=s.h/\s.h<=16) :
  ∀ n,n<=ss.length->a4c way l W d ss n=true->(a2h way l W d ss n).length<=200000*n
 | 0,_,_=>by simp [a2h]
 | n+1,h,hm=>by
  rw [b5x,Bool.and_eq_true] at hm
  have h2:=b4h hw l W h0 h1 hs n (by omega) hm.1
  have h3:=e6a hw h0 h1 (hs _ (b2d (i:=n) h)) hm.2
  rw [a6t,zC]
  omega
theorem b5w {way:Option Nat} (hw:b1b way) (l:List Int) {W H d:Nat} (hW:W<=64) (hH:H<=64) (h0:1<=d) (h1:d<=16) (hm:a6c way l W H d=true):(a1y way l W H d).length<=819200000:=by
 have h2:=b4h hw l W h0 h1 (fun s hs=>d3n (by decide) s hs) _ (zQ _) hm
 have h3:=b6y hW hH
 unfold a1y
 omega
theorem b2a {way:Option Nat} (hw:b1b way) {q:a2a} (hq:q.Ok):∀ k,a2u way q k=true->(a1d way q k).length<=819200000*k
 | 0,_=>by simp [a1d]
 | k+1,hm=>by
  rw [b3n,Bool.and_eq_true] at hm
  have h2:=b2a hw hq k hm.1
  have h3:=b5w hw (q.P.getD k []) hq.w1 hq.h1 hq.d0 hq.d1 hm.2
  rw [a5t,zC]
  omega
def b3z (W H d n:Nat):List Nat:=a0b (W-1) 6++(a0b (H-1) 6++(a0b (d-1) 4++a0b (n-1) 2))
theorem a9q (W H d n:Nat):(b3z W H d n).length=18:=by simp [b3z,a0a]
def a3o (d:Nat) (C:List (List Int)) (k:Nat):List Nat:=(C.take k).flatMap fun c=>a1v c d
theorem a6n {d:Nat} {C:List (List Int)} {k:Nat} (hk:k<C.length):a3o d C (k+1)=a3o d C k++a1v (C.getD k []) d:=by
 unfold a3o
 rw [List.take_succ_eq_append_getElem hk,List.flatMap_append,zD,zF hk]
 simp
theorem b3v {n d:Nat} {C:List (List Int)} (h:∀ c∈C,c.length=n):∀ k,k<=C.length->(a3o d C k).length=d*n*k
 | 0,_=>by simp [a3o]
 | k+1,hk=>by
  have h2:=b3v (d:=d) h k (by omega)
  have h3:(C.getD k []).length=n:=by
   rw [zD,zF hk]
   exact h _ (zG hk)
  rw [a6n hk,zC,h2,b4t,h3,Nat.mul_succ]
def a2q (n d:Nat) (C:List (List Int)):List Nat:=a0b (d-1) 4++(a0b (n-1) 2++(a0b (C.length-1) 8++a3o d C C.length))
theorem b8e {n d:Nat} {C:List (List Int)} (h:e1e n d C):(a2q n d C).length<=16398:=by
 unfold a2q
 rw [zC,zC,zC,a0a,a0a,a0a,b3v h.len _ (zQ _)]
 have h1:d*n<=16*4:=zL h.d1 h.n1
 have h2:d*n*C.length<=16*4*256:=zL h1 h.c1
 omega
def a4h (way:Option Nat) (kind:Nat) (p:a2a):List Nat:=b3z p.W p.H p.d p.P.length++(a0b 0 1++(a0b kind 3++a1d way (a3p kind p) p.P.length))
def a2t (way:Option Nat) (p:a2a):List Nat:=b3z p.W p.H p.d p.P.length++(a0b 1 1++(a2q p.P.length p.d (a2y p)++a1y way (a3q p) p.W p.H (a7i (a2y p).length)))
def b1t (way:Option Nat) (kind:Nat) (p:a2a):Bool:=a2u way (a3p kind p) p.P.length
def b5l (way:Option Nat) (p:a2a):Bool:=a6c way (a3q p) p.W p.H (a7i (a2y p).length)
theorem b4a {way:Option Nat} (hw:b1b way) {p:a2a} (h:p.Ok) {kind:Nat} (hm:b1t way kind p=true):22<=(a4h way kind p).length/\(a4h way kind p).length<=4096000000:=by
 have h1:=b2a hw (b2t h kind) _ hm
 have h2:=h.n1
 unfold a4h
 rw [zC,zC,zC,a9q,a0a,a0a]
 omega
theorem b4b {way:Option Nat} (hw:b1b way) {p:a2a} (h:p.Ok) (hc:(a2y p).length<=256) (hm:b5l way p=true):19<=(a2t way p).length/\(a2t way p).length<=4096000000:=by
 have h1:=b5w hw (a3q p) h.w1 h.h1 (b0o hc).1 (b0o hc).2.1 hm
 have h2:=b8e (c2b h hc)
 unfold a2t
 rw [zC,zC,zC,a9q,a0a]
 omega
def b0b (bs:List Nat):List Nat:=a1n (d7a bs)
def a1e (bs:List Nat):List Nat:=b0b bs++d8f (c3g (b0b bs))
theorem b4k (bs:List Nat):(a1e bs).length=(b0b bs).length+4:=by unfold a1e;rw [zC];rfl
theorem b7o (bs:List Nat):(b0b bs).length=(bs.length+7) / 8:=by
 unfold b0b
 rw [a4p,b9m]
 omega
theorem e4y {w:World} {l:List Int} {A:Option Addr} {W H d:Nat} (cap:Nat) (t:c9d w l A W H d) (p:Value) (k:Nat) (hk:k<=7) (hm:a7a k l W d=false) :
  Calls Tryz.prog 88 #[p,.int .i64 k,.slice A l.length cap,.int .i64 W,.int .i64 H,.int .i64 d] w fun e w'=>(∃ c:Int,e=.returned (.int .i64 c)/\c≠0)/\Chg [] w w':=by
 have aa:=a9a cap t k hk
 unfold a3l at aa
 rw [hm] at aa
 clear t hm hk
 go_enter Tryz.func88,Tryz.ntmps88
 go_wp2_with fail
 refine aa.mono ?_
 rintro e w1 ⟨rfl,ab⟩
 go_wp2_with fail
 go_ret
 exact ⟨⟨_,rfl,by decide⟩,ab⟩
def a7s (way:Option Nat) (w:World) (b:Nat) (F bs:List Nat) (l:List Int) (W H d:Nat) (e:Ending) (w':World):Prop :=
 if a6c way l W H d=true then e=.returned (.int .i64 0)/\∃ F',a2n w' b F' (bs++a1y way l W H d)/\a0u F F' w w' else e=.returned (.int .i64 6)/\∃ F',a0u F F' w w'
theorem c2k {way:Option Nat} (hway:b1b way) {w:World} {l:List Int} {A:Option Addr} (cap:Nat) {W H d:Nat} (hl:l.length=W*H) (hs:a1u d l) (hc:a0d vi w A l) (hcap:l.length<=cap) (w0:1<=W) (w1:W<=64) (h0:1<=H) (h1:H<=64) (d0:1<=d) (d1:d<=16)
  (b:Nat) (F bs:List Nat) (hw:a2n w b F bs) (hA:Apt A l F) (hp:Pts w) (h0F:0∉F) (hbs:bs.length<17179869184) :
  Calls Tryz.prog 89 #[.pointer (some ⟨b,0,none⟩),.slice A l.length cap,.int .i64 W,.int .i64 H,.int .i64 d,.int .i64 (c5y way)] w (a7s way w b F bs l W H d):=by
 obtain ⟨ss,au⟩:=zX (b6z W H 16)
 have aV:∀ w',Calls Tryz.prog 46 #[.int .i64 W,.int .i64 H,.int .i64 16] w' _:=fun w'=>d7t W H 16 w' w0 w1 h0 h1 (by decide) (by decide)
 have am:∀ s∈ss,1<=s.w/\s.w<=16/\1<=s.h/\s.h<=16:=by rw [au];exact d3n (by decide)
 have aw:∀ s∈ss,s.x+s.w<=W/\s.y+s.h<=H:=by rw [au];exact e2t (by decide)
 have bX:ss.length<=4096:=by rw [au];exact b6y w1 h1
 have aC:=fun n=>b4h hway l W d0 d1 am n
 have bw:=hid au
 rw [<-au] at aV
 obtain ⟨n,hn⟩:=zX (ss.length)
 obtain ⟨N,hN⟩:=zX (l.length)
 have ce:N<=4096:=by rw [hN,hl];exact zL w1 h1
 have ap:0<l.length:=by rw [hl];exact Nat.mul_pos w0 h0
 obtain ⟨bA,oA,rfl,bq,aE⟩:=hc.ex ap
 have bK:bA∉F:=by have:=hA ap _ rfl;simpa using this
 rw [<-hn] at bX
 rw [<-hN] at hcap ⊢
 have ak:∀ k,k<n->(1<=(a4e ss k).w/\(a4e ss k).w<=16/\1<=(a4e ss k).h/\(a4e ss k).h<=16)/\(a4e ss k).x+(a4e ss k).w<=W/\(a4e ss k).y+(a4e ss k).h<=H:=fun k hk=>⟨am _ (b2d (by omega)),aw _ (b2d (by omega))⟩
 obtain ⟨wi,aU⟩:=zX (c5y way)
 rw [<-aU]
 have bB:=hid aU
 have aX:=hid hway
 have HC:=hid hc
 have HL:=hid hl
 have bC:=hid hN
 have b7:=hid hs
 have b6:=hid ak
 have b1:Hid (∀ k,k<=n->a4c way l W d ss k=true->(a2h way l W d ss k).length<=200000*k):=hid (fun k hk hm=>aC k (by omega) hm)
 have HN:=hid hn
 have HW:=hid hw
 have HP:=hid hp
 have bM:=hid bK
 have ci:=hid bq
 have bD:=hid h0F
 have bV:=hid hw.lt
 clear hway hc hl hN hs am aw aC hw hp bK bq h0F au hA ap aE ak aU
 go_enter Tryz.func89,Tryz.ntmps89
 go_wp2_with fail
 refine (aV w).mono ?_
 rintro e w2 ⟨v8,F8,rfl,ak,ba,bp⟩
 unfold c3i at ak
 rw [<-hn] at ak
 obtain ⟨A8,c8,rfl,co,cj,bE,bh⟩:=b7t.open_ ak
 have bZ:=hid bE
 have aI:=hid ba
 have aQ:∀ ad,A8=some ad->ad.block<w2.heap.size/\ad.block∉F:=fun ad e=>by
  obtain ⟨g8,rfl,hf,_⟩:=bh ad e
  have h1:g8∈F8:=by rw [hf];simp
  have h2:=bp g8 h1
  refine ⟨ak.lt g8 h1,fun hm => ?_⟩
  have h3:g8<w.heap.size:=bV.out _ hm
  omega
 have bR:=hid aQ
 have bP:Hid (a2n w2 b F (bs++a2h way l W d ss 0)):=hid (by
  have e:a2h way l W d ss 0=[]:=rfl
  rw [e,List.append_nil]
  exact HW.out.same ba)
 clear ak ba bp bE bh aQ hn aV
 go_wp2_with fail
 go_loopg [14,15,16,17,22] n (fun j v14 v15 v16 v17 v22 wr=>∃ (k:Nat) (Fk:List Nat),v22=.int .i64 k/\k+j=n/\Hid (a2n wr b Fk (bs++a2h way l W d ss k))/\Hid (a0u F Fk w2 wr)/\Hid (a4c way l W d ss k=true))
 case atStart=>exact ⟨0,F,rfl,by omega,bP,hid (a0u.refl _ _),hid rfl⟩
 case round =>
  obtain ⟨k,Fk,rfl,cn,aD,av,aM⟩:=hrel
  rcases gk with _ | j
  ·obtain rfl:k=n:=by omega
   have t1:decide ((k:Int)<(k:Int))=false:=by simp
   have af:=aM.out
   have a7:=aD.out
   rw [HN.out,bw.out] at af a7
   have aM:=hid af
   have aD:=hid a7
   clear af a7
   go_wp2_with fail
   go_ret
   unfold a7s a6c a1y
   rw [if_pos aM.out]
   exact ⟨rfl,Fk,aD.out,a0u.pre aI.out av.out⟩
  ·have hk:k<n:=by omega
   have t1:decide ((k:Int)<(n:Int))=true:=zB (by omega)
   obtain ⟨g8,o8,aQ,x0,x1,x2,x3⟩:=e5t (bZ.out.chg av.out.chg (fun ad e=>(bR.out ad e).2)) (show k<ss.length by rw [<-HN.out];exact hk)
   subst aQ
   obtain ⟨⟨bc,aN,a9,aR⟩,aT,bn⟩:=b6.out k hk
   obtain ⟨s,a4⟩:=zX (a4e ss k)
   rw [<-a4] at x0 x1 x2 x3 bc aN a9 aR aT bn
   have bf:=hid a4
   clear a4
   obtain ⟨sx,sy,sw,sh⟩:=s
   simp only at x0 x1 x2 x3 bc aN a9 aR aT bn
   obtain ⟨wo,bW⟩:=zX (wr)
   subst bW
   obtain ⟨m,hm⟩:=zX (sw*sh)
   have b9:m<=256:=by rw [hm];exact zL aN aR
   have bT:(sw:Int)*(sh:Int)=(m:Int):=by rw [hm];simp
   have af:=b0q (P:=Tryz.prog) a0p rfl .i64 .i64 m (by omega) (by omega)
   obtain ⟨X,hX⟩:=zX (wo.heap.size)
   obtain ⟨wA,an⟩:=zX (wo.alloc (.cells #[.int .i64 sx,.int .i64 sy,.int .i64 sw,.int .i64 sh] 86))
   obtain ⟨wB,aG⟩:=zX (wA.alloc (.cells (Array.replicate m (Value.int .i64 0)) 3))
   obtain ⟨Y,hY⟩:=zX (X+1)
   have aZ:wA.heap.size=Y:=by rw [an,a3f,hY,hX]
   have ao:Blk wA X 86 #[.int .i64 sx,.int .i64 sy,.int .i64 sw,.int .i64 sh]:=by rw [an,hX];exact Blk.new wo _ _
   have al:Row wB 3 (.slice (some ⟨Y,0,none⟩) 0 m) Y []:=by
    have:=Row.room wA m (by omega)
    rw [List.toArray_replicate,aZ] at this
    rw [aG]
    exact this
   have bo:Chg [] wo wA:=by rw [an];exact (zR [] wo).alloc _
   have aY:Chg [] wA wB:=by rw [aG];exact (zR [] wA).alloc _
   have aB:=ao.chg aY (by simp)
   have q0:=ao.cell 0
   have q1:=ao.cell 1
   have q2:=ao.cell 2
   have q3:=ao.cell 3
   have s0:=aB.cell 0
   have s1:=aB.cell 1
   have s2:=aB.cell 2
   have s3:=aB.cell 3
   simp at q0 q1 q2 q3 s0 s1 s2 s3
   have HX:=hid hX
   have HY:=hid hY
   have bk:=hid aZ
   have bQ:=hid an
   have bY:=hid aG
   have aO:=hid ao
   have bN:=hid al
   have aP:=hid bo
   have aW:=hid aY
   have HM:=hid hm
   rw [an,hX] at q0 q1 q2 q3
   rw [aG,an,hX] at s0 s1 s2 s3
   clear hX hY aZ an aG ao al bo aY aB hm
   go_wp2_with fail
   rw [<-bQ.out,<-bY.out,<-HX.out,<-HY.out]
   obtain ⟨YH,bl⟩:=zX (sy+sh)
   have cf:(sy:Int)+(sh:Int)=(YH:Int):=by omega
   have a8:=hid bl
   have b5:YH<=64:=by omega
   have ch:sx<=64:=by omega
   have cp:sy<=64:=by omega
   have a5:=hid (fun wz (hz:Chg [] wA wz)=>And.intro ((aO.out.chg hz (by simp)).cell 0) (And.intro ((aO.out.chg hz (by simp)).cell 1) (And.intro ((aO.out.chg hz (by simp)).cell 2) ((aO.out.chg hz (by simp)).cell 3))))
   have bS:Hid (∀ wz,Chg [] wA wz->a0d vi wz (some ⟨bA,oA,none⟩) l):=hid (fun wz hz=>(((HC.out.same aI.out).chg av.out.chg (fun ad e=>by injection e with e;subst e;exact bM.out)).same aP.out).same hz)
   clear bl q0 q1 q2 q3 s0 s1 s2 s3
   go_loopg [15,16] sh (fun j2 v15 v16 wr=>∃ (r Yk:Nat) (F5:List Nat),v16=.int .i64 Yk/\Hid (Yk=sy+r)/\r+j2=sh/\Yk+j2=YH/\Hid (Own wr 3 v15 F5 ((a9w l W sx sy sw r).map vi))/\Hid (Chg [] wA wr)/\Hid (∀ x∈F5,Y<=x))
   case atStart=>exact ⟨0,sy,[Y],rfl,hid rfl,by omega,by have := a8.out;omega,hid (by simpa [a9w] using bN.out.toOwn),aW,hid (by intro x hx;simp at hx;omega)⟩
   case round =>
    obtain ⟨r,Yk,F5,rfl,bd,ca,cg,HO,ar,aS⟩:=hrel
    obtain ⟨s0,s1,s2,s3⟩:=a5.out wr ar.out
    simp at s0 s1 s2 s3
    rcases gk with _ | j2
    ·have t2:decide ((Yk:Int)<(YH:Int))=false:=zA (by omega)
     have bL:r=sh:=by omega
     have ac:=HO.out
     rw [bL] at ac
     have bv:a9w l W sx sy sw sh=a7e l W ⟨sx,sy,sw,sh⟩:=rfl
     rw [bv] at ac
     obtain ⟨D,hD⟩:=zX (a7e l W ⟨sx,sy,sw,sh⟩)
     rw [<-hD] at ac
     have ai:D.length=m:=by rw [hD,b7n];exact HM.out.symm
     have bG:a1u d D:=by rw [hD];exact d1k b7.out _ _ _ _ _
     obtain ⟨A5,c5,rfl,bU,cl,bz⟩:=ac.oq
     have aJ:Apt A5 D Fk:=ac.apt (fun x hx hm=>by
      have h1:=aS.out x hx
      have h2:=aD.out.lt x hm
      have h3:=HX.out
      have h4:=HY.out
      omega)
     have ht:c9d wr D A5 sw sh d:=⟨bc,aN,a9,aR,d0,d1,by rw [ai,HM.out],bG,bz⟩
     have ax:=(aD.out.same aP.out).same ar.out
     have ah:=(((HP.out.same aI.out).chg av.out.chg bD.out).same aP.out).same ar.out
     have br:0∉Fk:=av.out.out (by have:=HP.out.lt;have:=aI.out.size;omega) bD.out
     have aK:(bs++a2h way l W d ss k).length<34359738368:=by
      rw [zC]
      have:=b1.out k (by omega) aM.out
      omega
     have ae:=a6t way l W d ss k
     have ab:=b5x way l W d ss k
     rw [<-bf.out] at ae ab
     simp only at ae ab
     rw [<-hD] at ae ab
     have a6:a0u Fk Fk w2 wr\/True:=.inr trivial
     have aq:Hid (∀ F' wz,a0u Fk F' wr wz->a0u F F' w2 wz):=hid (fun F' wz hz=>av.out.trans (a0u.pre (aP.out.tq ar.out) hz))
     rw [ai] at bU
     have HD:=hid hD
     clear ac bz bG bL bv a6 hD
     cases way with
     | none =>
      have aa:=f3a c5 ht ah b Fk _ ax aJ br aK
      unfold a2w at aa
      rw [ai] at aa
      have e1:wi=-1:=bB.out
      subst e1
      have aL:(bs++a2h none l W d ss k)++a0e (a5n D sw sh d) D sw sh d=bs++a2h none l W d ss (k+1):=by
       rw [ae]
       simp only [zH,c8p,e2z]
      rw [aL] at aa
      have aj:=hid aa
      have a1:Hid (a4c none l W d ss (k+1)=true):=hid (a5s _ _ _ _ _)
      rw [ai]
      clear aa aL ae ab ht ax ah aJ ai
      go_wp2_with fail
      refine aj.out.mono ?_
      rintro e w7 ⟨rfl,F7,aH,ay⟩
      have aA:=hid (aq.out F7 w7 ay)
      have a2:=hid aH
      clear ay aH
      go_wp2_with fail
      go_roundg j
      case measure=>omega
      case rel=>exact ⟨k+1,F7,by go_num,by omega,a2,aA,a1⟩
     | some kk =>
      have bi:kk<=7:=aX.out kk rfl
      have e1:wi=(kk:Int):=bB.out
      subst e1
      have t3:decide ((kk:Int)<0)=false:=zA (by omega)
      cases af:a7a kk D sw d with
      | true =>
       have aa:=c2j c5 ht b Fk _ ax aJ ah br aK kk bi af
       unfold a2w at aa
       rw [ai] at aa
       have aL:(bs++a2h (some kk) l W d ss k)++a0e kk D sw sh d=bs++a2h (some kk) l W d ss (k+1):=by
        rw [ae]
        simp only [zH,c8p,e2z]
       rw [aL] at aa
       have aj:=hid aa
       have a1:Hid (a4c (some kk) l W d ss (k+1)=true):=hid (by rw [ab,aM.out];exact af)
       rw [ai]
       clear aa aL ae ab ht ax ah aJ ai af
       go_wp2_with fail
       refine aj.out.mono ?_
       rintro e w7 ⟨rfl,F7,aH,ay⟩
       have aA:=hid (aq.out F7 w7 ay)
       have a2:=hid aH
       clear ay aH
       go_wp2_with fail
       go_roundg j
       case measure=>omega
       case rel=>exact ⟨k+1,F7,by go_num,by omega,a2,aA,a1⟩
      | false =>
       have aa:=e4y c5 ht (.pointer (some ⟨b,0,none⟩)) kk bi af
       rw [ai] at aa
       have aj:=hid aa
       have a0:Hid (¬ a4c (some kk) l W d ss n=true):=hid (fun h=>by
        have h1:=c2e h hk
        rw [<-bf.out] at h1
        have h2:a7a kk (a7e l W ⟨sx,sy,sw,sh⟩) sw d=true:=h1
        rw [<-HD.out,af] at h2
        cases h2)
       rw [ai]
       clear aa ae ab ht ax ah aJ ai af
       go_wp2_with fail
       refine aj.out.mono ?_
       rintro e w7 ⟨⟨cc,rfl,b2⟩,bI⟩
       have t4:(cc != 0)=true:=by simpa using b2
       have aA:=hid (aq.out Fk w7 (a0u.pre bI (a0u.refl _ _)))
       clear bI
       go_wp2_with fail
       go_ret
       unfold a7s a6c a1y
       have aF:=a0.out
       rw [HN.out,bw.out] at aF
       rw [if_neg aF]
       exact ⟨rfl,Fk,a0u.pre aI.out aA.out⟩
    ·have t2:decide ((Yk:Int)<(YH:Int))=true:=zB (by omega)
     obtain ⟨P,hP⟩:=zX (Yk*W)
     have eP:(Yk:Int)*(W:Int)=(P:Int):=by rw [hP];simp
     have be:Yk<64:=by omega
     have ck:P<=4096:=by rw [hP];exact zL (show Yk<=64 by omega) w1
     obtain ⟨Q,hQ⟩:=zX (P+sx)
     have eQ:(P:Int)+(sx:Int)=(Q:Int):=by omega
     obtain ⟨hi,bm⟩:=zX (Q+sw)
     have cb:(Q:Int)+(sw:Int)=(hi:Int):=by omega
     have bu:=bd.out
     have bb:hi<=N:=by
      have h2:Yk+1<=H:=by omega
      have h3:=Nat.mul_le_mul_right W h2
      rw [Nat.succ_mul] at h3
      have h4:=bC.out
      rw [HL.out,zY W H] at h4
      omega
     obtain ⟨A',cd,-,bx⟩:=c2s (P:=Tryz.prog) Tryz.underlying22 a8q (some ⟨bA,oA,none⟩) N cap Q sw hi bm bb hcap
     have ag:(l.drop Q).take sw=(List.range sw).map fun i=>l.getD ((sy+r)*W+(sx+i)) 0:=by
      have h1:=e5j (l:=l) (W:=W) (H:=H) (x:=sx) (Y:=Yk) (w:=sw) HL.out aT (by omega)
      rw [hQ,hP,h1,bu]
     obtain ⟨R,hR⟩:=zX ((l.drop Q).take sw)
     have bF:R.length=sw:=by rw [hR,ag];simp
     have bH:a0d vi wr A' R:=by rw [hR];exact bx Int vi wr l bC.out.symm (bS.out wr ar.out)
     have aC:(a9w l W sx sy sw r).length<=4096:=by rw [b1w];exact zL (show r<=64 by omega) (show sw<=64 by omega)
     have bg:a9w l W sx sy sw (r+1)=a9w l W sx sy sw r++R:=by rw [e0b,hR,ag]
     have ac:=HO.out
     have bj:a0d (fun u=>u) wr A' (R.map vi):=by
      refine ⟨fun h0 => ?_⟩
      obtain ⟨b',o',f1,f2,f3⟩:=bH.ex (by simpa using h0)
      refine ⟨b',o',f1,f2,fun i a ha => ?_⟩
      rw [zW] at ha
      obtain ⟨x,hx,rfl⟩:=Option.map_eq_some_iff.1 ha
      exact f3 i x hx
     have bO:=hid bj
     have a3:=hid bF
     have az:=hid aC
     have b3:=hid bg
     have cm:Q<=4200:=by omega
     have b0:hi<=4300:=by omega
     clear hP hQ bm hR bx bH aC bF bg bj ag bu
     go_wp2_with (at_builtin;refine a1m rfl rfl a0p rfl rfl ac (R.map vi) sw rfl ?c1 ?c2 ?c3 ?c4 ?c5 ?_)
     case c1=>rw [zE];exact a3.out.symm
     case c2=>exact bO.out
     case c3=>exact e6f _
     case c4=>rw [zE,zE,a3.out];have := az.out;omega
     case c5=>rw [zE,zE,a3.out];have := az.out;omega
     intro v' F' w7 h2 h3
     have b4:=hid h2
     have bJ:=hid h3
     clear h2 h3 ac
     go_wp2_with fail
     go_roundg j2
     case measure=>omega
     case rel =>
      refine ⟨r+1,Yk+1,F',by go_num,hid (by rw [bd.out];omega),by omega,by omega,hid ?_,hid ?_,hid ?_⟩
      ·rw [b3.out,zM]
       exact b4.out
      ·exact ar.out.trans bJ.out.chg (fun x hx => .inr (by rw [bk.out];exact aS.out x hx))
      ·intro x hx
       rcases bJ.out.new x hx with h | h
       ·exact aS.out x h
       ·have:=ar.out.size;have:=bk.out;omega
theorem c2f (way:Option Nat) (l:List Int) (W d:Nat) (ss:List Sq):∀ k n i,i+k=n->∃ rest,a2h way l W d ss n=a2h way l W d ss i++rest
 | 0,n,i,h=>⟨[],by rw [List.append_nil,show i=n by omega]⟩
 | k+1,n,i,h=>by
  obtain ⟨r,hr⟩:=c2f way l W d ss k n (i+1) (by omega)
  exact ⟨_,by rw [hr,a6t,zH]⟩
theorem c7p {way:Option Nat} {l:List Int} {W d:Nat} {ss:List Sq} {n:Nat} {ds:List Nat} {pos:Nat} (ha:a0y ds pos (a2h way l W d ss n)) {k:Nat} (hk:k<n) :
  a0y ds (pos+(a2h way l W d ss k).length) (c8p way (a7e l W (a4e ss k)) (a4e ss k).w (a4e ss k).h d):=by
 obtain ⟨r,hr⟩:=c2f way l W d ss (n-(k+1)) n (k+1) (by omega)
 rw [hr,a6t,zH] at ha
 exact ha.right.left
def a6l (w:World) (b:Nat) (F ds:List Nat) (pos:Nat) (l:List Int) (e:Ending) (w':World):Prop :=
 ∃ Y,e=.returned (.tuple #[.slice (some ⟨Y,0,none⟩) l.length l.length,.int .i64 0])/\Row w' 3 (.slice (some ⟨Y,0,none⟩) l.length l.length) Y (l.map vi)/\a1r w' b F ds pos/\Chg [b] w w'/\w.heap.size<=Y
theorem c0y {way:Option Nat} (hway:b1b way) {w:World} {b:Nat} {F ds:List Nat} {pos:Nat} (hr:a1r w b F ds pos) {l:List Int} {W H d:Nat} (hl:l.length=W*H) (hs:a1u d l) (w0:1<=W) (w1:W<=64) (h0:1<=H) (h1:H<=64) (d0:1<=d) (d1:d<=16)
  (hp:Pts w) (h0F:0∉F) (hok:a6c way l W H d=true) (ha:a0y ds pos (a1y way l W H d)) :
  Calls Tryz.prog 101 #[.pointer (some ⟨b,0,none⟩),.int .i64 W,.int .i64 H,.int .i64 d] w (a6l w b F ds (pos+(a1y way l W H d).length) l):=by
 unfold a6l
 obtain ⟨ss,ap⟩:=zX (b6z W H 16)
 have aW:∀ w',Calls Tryz.prog 46 #[.int .i64 W,.int .i64 H,.int .i64 16] w' _:=fun w'=>d7t W H 16 w' w0 w1 h0 h1 (by decide) (by decide)
 have aw:∀ s∈ss,1<=s.w/\s.w<=16/\1<=s.h/\s.h<=16:=by rw [ap];exact d3n (by decide)
 have ay:∀ s∈ss,s.x+s.w<=W/\s.y+s.h<=H:=by rw [ap];exact e2t (by decide)
 have am:∀ k,k<W*H->ss.any (d9a W k)=true:=fun k hk=>by rw [ap];exact d8x (by decide) hk
 have co:ss.length<=4096:=by rw [ap];exact b6y w1 h1
 unfold a6c at hok
 unfold a1y at ha ⊢
 rw [<-ap] at aW hok ha ⊢
 obtain ⟨n,hn⟩:=zX (ss.length)
 obtain ⟨N,hN⟩:=zX (W*H)
 have ck:N<=4096:=by rw [hN];exact zL w1 h1
 have cH:0<N:=by rw [hN];exact Nat.mul_pos w0 h0
 rw [<-hn] at co ha hok ⊢
 rw [<-hN] at hl am
 rw [hl]
 have ax:(W:Int)*(H:Int)=(N:Int):=by rw [hN];simp
 have ac:∀ k,k<n->(1<=(a4e ss k).w/\(a4e ss k).w<=16/\1<=(a4e ss k).h/\(a4e ss k).h<=16)/\(a4e ss k).x+(a4e ss k).w<=W/\(a4e ss k).y+(a4e ss k).h<=H:=fun k hk=>⟨aw _ (b2d (by omega)),ay _ (b2d (by omega))⟩
 have aj:∀ k,k<n->∀ w' ,a1r w' b F ds (pos+(a2h way l W d ss k).length)->Pts w'->Calls Tryz.prog 135 #[.pointer (some ⟨b,0,none⟩),.int .i64 (a4e ss k).w,.int .i64 (a4e ss k).h,.int .i64 d] w' (a3z w' b F ds (pos+(a2h way l W d ss k).length) (a9w l W (a4e ss k).x (a4e ss k).y (a4e ss k).w (a4e ss k).h) (c8p way (a7e l W (a4e ss k)) (a4e ss k).w (a4e ss k).h d).length):=fun k hk w' hr' hp'=>by
  obtain ⟨⟨a1,a2,a3,a4⟩,_⟩:=ac k hk
  have hm:=c2e hok hk
  obtain ⟨k1,k2⟩:=d6k (h:=(a4e ss k).h) hway hm
  exact f0d hr' a1 a2 a3 a4 d0 d1 (b7n _ _ _) (d1k hs _ _ _ _ _) k1 hp' h0F k2 (c7p ha hk)
 obtain ⟨Z,hZ⟩:=zX (List.replicate N (0:Int))
 have bp:Z.length=N:=by rw [hZ,zV]
 have aF:b9a l Z W (ss.take n)=l:=by
  rw [hn,zN]
  exact e8r (by omega) (fun k hk=>am k (by omega))
 have aa:∀ i k,i<n->k<(a4e ss i).h->_:=fun i k hi hk=>d3b (q:=l) (l:=Z) (W:=W) (H:=H) (bs:=ss.take i) (sx:=(a4e ss i).x) (sy:=(a4e ss i).y) (sw:=(a4e ss i).w) (sh:=(a4e ss i).h) (k:=k) (by omega) (by omega) (ac i hi).2.1 (ac i hi).2.2 hk
 have b0:∀ bs,((b9a l Z W bs).map vi).length=N:=fun bs=>by rw [zE,b5q,bp]
 have al:∀ bs s,s.h=0->b9a l Z W (bs++[s])=b9a l Z W bs:=fun bs s e=>e3v l Z W bs s e
 have ai:∀ i,i<n->b9a l Z W (ss.take i++[⟨(a4e ss i).x,(a4e ss i).y,(a4e ss i).w,(a4e ss i).h⟩])=b9a l Z W (ss.take (i+1)):=fun i hi=>by
  rw [f2z (by omega)]
 obtain ⟨Y,hY⟩:=zX (w.heap.size)
 obtain ⟨w2,aQ⟩:=zX (w.alloc (.cells (Array.replicate N (Value.int .i64 0)) 3))
 have af:Row w2 3 (.slice (some ⟨Y,0,none⟩) N N) Y ((b9a l Z W (ss.take 0)).map vi):=by
  have:=Row.made w 3 (List.replicate N (Value.int .i64 0)) (by rw [zV];exact Nat.le_trans ck (by decide))
  rw [List.take_zero,e8s,hZ,List.map_replicate,aQ,hY]
  rw [zV,List.toArray_replicate] at this
  exact this
 have bX:Chg [] w w2:=by rw [aQ];exact (zR [] w).alloc _
 have cF:=a1p (P:=Tryz.prog) a0p rfl .i64 .i64 N (by omega) (by omega)
 have bR:Y∉F:=fun hm=>by have:=hr.lt Y hm;omega
 have bM:b<Y:=by rw [hY];exact hr.lt b hr.mem
 have bH:b≠0:=fun e=>h0F (by rw [<-e];exact hr.mem)
 have cK:=hid ap
 have cm:=hid aW
 have cE:=hid ac
 have cg:=hid aj
 have be:=hid aF
 have cp:=hid aa
 have b9:=hid b0
 have aA:=hid al
 have b6:=hid ai
 have aJ:=hid af
 have ao:=hid bX
 have ct:=hid bR
 have aE:=hid bM
 have cD:=hid bH
 have cz:=hid hr
 have HP:=hid hp
 have HN:=hid hn
 have a5:=hid hY
 have b7:=hid aQ
 have a7:Hid (Y<w2.heap.size):=hid af.lt
 clear ap aW aw ay am hok ha hn hN ac aj aF aa b0 al ai af bX bR bM bH hr hp hZ bp hl hs hway hY aQ h0F
 go_enter Tryz.func101,Tryz.ntmps101
 go_wp2_with fail
 rw [<-b7.out,<-a5.out]
 refine (cm.out w2).mono ?_
 rintro e w3 ⟨v8,F8,rfl,ac,aM,bE⟩
 unfold c3i at ac
 rw [<-HN.out] at ac
 obtain ⟨A8,c8,rfl,cP,cM,bT,bw⟩:=b7t.open_ ac
 have cv:=hid bT
 have ag:=hid aM
 have aN:∀ ad,A8=some ad->ad.block<w3.heap.size/\ad.block≠b/\ad.block≠Y:=fun ad e=>by
  obtain ⟨g8,rfl,hf,_⟩:=bw ad e
  have h1:g8∈F8:=by rw [hf];simp
  have h2:=bE g8 h1
  have h3:=aE.out
  have h4:=a7.out
  exact ⟨ac.lt g8 h1,by show g8≠b;omega,by show g8≠Y;omega⟩
 have cd:=hid aN
 have bl:Hid (a1r w3 b F ds (pos+(a2h way l W d ss 0).length)):=hid ((cz.out.chg ao.out (by simp)).chg aM (by simp))
 have az:=hid (aJ.out.chg aM (by simp))
 have b5:Hid (Chg [b,Y] w3 w3):=hid (zR _ _)
 clear ac aM bE bT bw aN
 go_wp2_with fail
 go_loopg [12,13,14,15,24] n (fun j v12 v13 v14 v15 v24 wr=>∃ k:Nat,v24=.int .i64 k/\k+j=n/\Hid (a1r wr b F ds (pos+(a2h way l W d ss k).length))/\Hid (Row wr 3 (.slice (some ⟨Y,0,none⟩) N N) Y ((b9a l Z W (ss.take k)).map vi))/\Hid (Chg [b,Y] w3 wr))
 case atStart=>exact ⟨0,rfl,by omega,bl,az,b5⟩
 case round =>
  obtain ⟨k,rfl,cO,bC,bK,ar⟩:=hrel
  rcases gk with _ | j
  ·obtain rfl:k=n:=by omega
   have t1:decide ((k:Int)<(k:Int))=false:=by simp
   go_wp2_with fail
   refine bodyPost_ret (v:=.tuple #[.slice (some ⟨Y,0,none⟩) N N,.int .i64 0]) (by simp [results,Tryz.results101,go_sem]) rfl ?_
   refine ⟨Y,rfl,by have h1:=bK.out;rw [be.out] at h1;exact h1,bC.out,?_,by rw [a5.out];exact zQ _⟩
   refine ((ao.out.mono (F':=[b]) (by simp)).tq (ag.out.mono (by simp))).trans ar.out (fun x hx => ?_)
   simp at hx
   rcases hx with rfl | rfl
   ·exact .inl (by simp)
   ·exact .inr (by rw [a5.out];exact zQ _)
  ·have hk:k<n:=by omega
   have t1:decide ((k:Int)<(n:Int))=true:=zB (by omega)
   obtain ⟨g8,o8,aN,x0,x1,x2,x3⟩:=e5t (cv.out.chg ar.out (fun ad e=>by simpa using (cd.out ad e).2)) (show k<ss.length by rw [<-HN.out];exact hk)
   subst aN
   obtain ⟨⟨aR,aY,bk,bn⟩,bv,bB⟩:=cE.out k hk
   have aj:=cg.out k hk
   have aa:=fun k2=>cp.out k k2 hk
   have aP:=b6.out k hk
   have bG:=aA.out (ss.take k)
   have bd:(a2h way l W d ss (k+1)).length=(a2h way l W d ss k).length+(c8p way (a7e l W (a4e ss k)) (a4e ss k).w (a4e ss k).h d).length:=by rw [a6t,zC]
   obtain ⟨TL,bQ⟩:=zX ((c8p way (a7e l W (a4e ss k)) (a4e ss k).w (a4e ss k).h d).length)
   rw [<-bQ] at aj bd
   clear bQ
   obtain ⟨s,bL⟩:=zX (a4e ss k)
   rw [<-bL] at x0 x1 x2 x3 aR aY bk bn bv bB aj aa aP
   clear bL
   obtain ⟨sx,sy,sw,sh⟩:=s
   simp only at x0 x1 x2 x3 aR aY bk bn bv bB aj aa aP
   obtain ⟨wo,cn⟩:=zX (wr)
   subst cn
   obtain ⟨m,hm⟩:=zX (sw*sh)
   have cI:m<=256:=by rw [hm];exact zL aY bn
   have cL:0<m:=by rw [hm];exact Nat.mul_pos aR bk
   obtain ⟨X,hX⟩:=zX (wo.heap.size)
   obtain ⟨wA,aD⟩:=zX (wo.alloc (.cells #[.int .i64 sx,.int .i64 sy,.int .i64 sw,.int .i64 sh] 86))
   have aq:Blk wA X 86 #[.int .i64 sx,.int .i64 sy,.int .i64 sw,.int .i64 sh]:=by rw [aD,hX];exact Blk.new wo _ _
   have aO:Chg [] wo wA:=by rw [aD];exact (zR [] wo).alloc _
   have br:X≠b/\X≠Y:=by have:=aE.out;have:=a7.out;have:=ag.out.size;have:=ar.out.size;omega
   have bx:=aj wA (bC.out.chg aO (by simp)) (by
    refine (((HP.out.same ao.out).same ag.out).chg ar.out ?_).same aO
    have:=cD.out
    have:=aE.out
    simp
    omega)
   have e0:=aq.cell 0
   have e1:=aq.cell 1
   have e2:=aq.cell 2
   have e3:=aq.cell 3
   have cb:=hid aD
   have ci:=hid hX
   have b2:=hid aq
   have aX:=hid aO
   have bO:=hid br
   have cq:=hid bx
   have HM:=hid hm
   have a0:=hid aa
   have bb:=hid aP
   have bm:=hid bG
   have cx:=hid bd
   rw [aD,hX] at e0 e1 e2 e3
   simp at e0 e1 e2 e3
   clear hm hX aD aq aO br aj bx aa aP bG bd
   go_wp2_with fail
   rw [<-cb.out,<-ci.out]
   refine cq.out.mono ?_
   rintro e w5 ⟨v5,F5,rfl,aB,au,aL,bP⟩
   clear e0 e1 e2 e3
   rcases aB.cases with ⟨_,he,_⟩ | ⟨g5,ae,aI⟩
   ·exfalso
    have h1:=congrArg List.length he
    rw [zE,b1w,zY,<-HM.out] at h1
    simp at h1
    omega
   have bf:(a9w l W sx sy sw sh).length=m:=by rw [b1w,zY,<-HM.out]
   have an:=ae
   obtain ⟨c5,rfl,bF,cB,ah,bh⟩:=ae.oq
   have ch:wA.heap.size<=g5:=bP g5 (by rw [aI];simp)
   rw [bf] at bF an ⊢
   have a6:=hid an
   have cy:Hid (g5≠b/\g5≠Y):=hid (by have:=aE.out;have:=a7.out;have:=ag.out.size;have:=ar.out.size;have:=aX.out.size;omega)
   have b4:=hid au
   have ca:=hid aL
   have bz:=hid bf
   have ak:Row w5 3 (.slice (some ⟨Y,0,none⟩) N N) Y ((b9a l Z W (ss.take k++[⟨sx,sy,sw,0⟩])).map vi):=by
    rw [bm.out _ rfl]
    exact (bK.out.chg aX.out (by simp)).chg aL (by have:=aE.out;simp;omega)
   have aG:=hid ak
   have ab:=b2.out.chg aL (by simpa using bO.out.1)
   have cc:=hid ab
   have e0:=ab.cell 0
   have e1:=ab.cell 1
   have e2:=ab.cell 2
   have e3:=ab.cell 3
   simp at e0 e1 e2 e3
   clear aB ae an ah bh aI bP ch cB au aL bf ak ab
   go_wp2_with fail
   clear e0 e1 e2 e3
   go_loopg [15,45] sh (fun j2 v15 v45 wr2=>∃ i:Nat,v45=.int .i64 i/\i+j2=sh/\Hid (Row wr2 3 (.slice (some ⟨Y,0,none⟩) N N) Y ((b9a l Z W (ss.take k++[⟨sx,sy,sw,i⟩])).map vi))/\Hid (Chg [Y] w5 wr2))
   case atStart=>exact ⟨0,rfl,by omega,aG,hid (zR _ _)⟩
   case round =>
    obtain ⟨i,rfl,cG,bA,av⟩:=hrel
    rcases gk with _ | j2
    ·have bZ:i=sh:=by omega
     have t2:decide (i<sh)=false:=zA (by omega)
     have aU:=bA.out
     rw [bZ,bb.out] at aU
     have bj:=hid aU
     have aC:a1r wr b F ds (pos+(a2h way l W d ss (k+1)).length):=by
      rw [cx.out,<-Nat.add_assoc]
      exact b4.out.chg av.out (fun x hx=>by simpa using fun e:x=Y=>ct.out (e ▸ hx))
     have bo:=hid aC
     have a9:Hid (Chg [b,Y] w3 wr):=hid (((ar.out.tq (aX.out.mono (by simp))).tq (ca.out.mono (by simp))).tq (av.out.mono (by simp)))
     clear aU bZ aC
     go_wp2_with fail
     go_roundg j
     case measure=>omega
     case rel=>exact ⟨k+1,by go_num,by omega,bo,bj,a9⟩
    ·have bD:i<sh:=by omega
     have t2:decide (i<sh)=true:=zB bD
     obtain ⟨Yk,bS⟩:=zX (sy+i)
     have eY:(sy:Int)+(i:Int)=(Yk:Int):=by omega
     have aa:=a0.out i bD
     rw [<-bS] at aa
     have bg:Yk*W+sx+sw<=N:=by
      have h2:Yk+1<=H:=by omega
      have h3:=Nat.mul_le_mul_right W h2
      have h4:H*W=N:=by
       have:=ax
       rw [zY]
       exact_mod_cast this
      rw [Nat.succ_mul] at h3
      omega
     obtain ⟨P0,aT⟩:=zX (Yk*W)
     have eP:(Yk:Int)*(W:Int)=(P0:Int):=by rw [aT];simp
     rw [<-aT] at bg aa
     obtain ⟨at_,bY⟩:=zX (P0+sx)
     have eQ:(P0:Int)+(sx:Int)=(at_:Int):=by omega
     rw [<-bY] at bg aa
     obtain ⟨lo,aH⟩:=zX (i*sw)
     have eL:(i:Int)*(sw:Int)=(lo:Int):=by rw [aH];simp
     have cj:lo+sw<=m:=by
      have h3:=Nat.mul_le_mul_right sw (show i+1<=sh by omega)
      rw [Nat.succ_mul,zY sh,<-HM.out,<-aH] at h3
      exact h3
     rw [<-aH] at aa
     obtain ⟨k1,bq⟩:=zX (i+1)
     have eK:(i:Int)+1=(k1:Int):=by omega
     obtain ⟨bi,ba⟩:=zX (lo+sw)
     have eH:(k1:Int)*(sw:Int)=(bi:Int):=by rw [bq,ba,aH];simp [Int.add_mul]
     have aS:at_<N:=by omega
     have b1:=e9w (P:=Tryz.prog) Tryz.underlying22 a8q Y N N at_ aS (zQ _)
     obtain ⟨A',cJ,-,bI⟩:=c2s (P:=Tryz.prog) Tryz.underlying22 a8q (some ⟨g5,0,none⟩) m c5 lo sw bi ba (by omega) bF
     have au:=a6.out.chg av.out (by simpa using cy.out.2)
     obtain ⟨_,-,-,-,ah,-⟩:=au.oq
     have bJ:a0d vi wr (some ⟨g5,0,none⟩) (a9w l W sx sy sw sh):=⟨fun _=>⟨g5,0,rfl,au.lt,fun k a hk=>by rw [Nat.zero_add];exact ah k a hk⟩⟩
     obtain ⟨R,hR⟩:=zX (((a9w l W sx sy sw sh).drop lo).take sw)
     have bV:a0d vi wr A' R:=by rw [hR];exact bI Int vi wr _ bz.out bJ
     have bU:R.length=sw:=by rw [hR,zI,zO,bz.out];omega
     rw [<-hR] at aa
     have bN:((b9a l Z W (ss.take k++[⟨sx,sy,sw,i⟩])).map vi).length=N:=b9.out _
     have ab:=cc.out.chg av.out (by simpa using bO.out.2)
     have e0:=ab.cell 0
     have e1:=ab.cell 1
     have e2:=ab.cell 2
     have e3:=ab.cell 3
     simp at e0 e1 e2 e3
     have bc:=hid bV
     have aV:=hid aa
     have cr:=hid bU
     have cs:=hid bN
     have cC:Yk<=72:=by omega
     have cN:P0<=4096:=by omega
     have cA:at_<=4096:=by omega
     have cf:lo<=256:=by omega
     have cw:bi<=256:=by omega
     have b3:k1<=16:=by omega
     have aK:Hid (at_+sw<=N/\sw<=N-at_):=hid ⟨by omega,by omega⟩
     have aZ:=hid aR
     clear bS aT bY aH bq ba bg cj aa bI au ah bJ hR bV bU bN ab
     go_wp2_with fail
     refine a0c 22 (by kernel_rfl) (by kernel_rfl) ?_
     simp only [List.take_succ_cons,List.take_zero,List.drop_succ_cons,List.drop_zero]
     repeat (go_big_quiet_step (fail))
     refine wpQuiet_nil ?_
     intro _ cu
     obtain ⟨nq,rfl⟩:=cu
     have bu:=bA.out.drewN nq
     go_wp2_with (refine c3e rfl (.tmp 58) (.tmp 69) 22 22 rfl Tryz.underlying22 (by kernel_rfl) bu at_ (N-at_) (N-at_) sw (c5-lo) rfl rfl (R.map vi) ?n1 ?n2 ?n3 ?n4 ?n5 ?n6 ?_)
     case n1=>rw [zE];exact cr.out
     case n2=>exact aZ.out
     case n3=>exact aK.out.2
     case n4 =>
      have h1:=bc.out.drewN nq
      refine ⟨fun h0 => ?_⟩
      obtain ⟨b,o,e1,e2,e3⟩:=h1.ex (by simpa using h0)
      refine ⟨b,o,e1,e2,fun i a ha => ?_⟩
      rw [zW] at ha
      obtain ⟨x,hx,rfl⟩:=Option.map_eq_some_iff.1 ha
      exact e3 i x hx
     case n5=>rw [cs.out];exact aK.out.1
     case n6 =>
      intro u hu
      obtain ⟨x,_,rfl⟩:=List.mem_map.1 hu
      rfl
     intro w7 a8 bW
     rw [aV.out] at a8
     have cl:=hid a8
     have ce:Hid (Chg [Y] w5 w7):=hid ((av.out.drewN nq).tq bW)
     clear a8 bW bu
     go_wp2_with fail
     go_roundg j2
     case measure=>omega
     case rel=>exact ⟨i+1,by go_num,by omega,cl,ce⟩
theorem d6c {w:World} {b:Nat} {F ds:List Nat} {pos:Nat} (hr:a1r w b F ds pos) {W H d n:Nat} (w0:1<=W) (w1:W<=64) (h0:1<=H) (h1:H<=64) (d0:1<=d) (d1:d<=16) (n0:1<=n) (n1:n<=4) (ha:a0y ds pos (b3z W H d n)) :
  Calls Tryz.prog 67 #[.pointer (some ⟨b,0,none⟩)] w fun e w'=>e=.returned (.tuple #[.int .i64 W,.int .i64 H,.int .i64 d,.int .i64 n])/\a1r w' b F ds (pos+18)/\Chg [b] w w':=by
 unfold b3z at ha
 obtain ⟨W1,rfl⟩:∃ W1,W=W1+1:=⟨W-1,by omega⟩
 obtain ⟨H1,rfl⟩:∃ H1,H=H1+1:=⟨H-1,by omega⟩
 obtain ⟨D1,rfl⟩:∃ D1,d=D1+1:=⟨d-1,by omega⟩
 obtain ⟨N1,rfl⟩:∃ N1,n=N1+1:=⟨n-1,by omega⟩
 rw [show W1+1-1=W1 by omega,show H1+1-1=H1 by omega,show D1+1-1=D1 by omega,show N1+1-1=N1 by omega] at ha
 have a1:=ha.left
 have b1:=ha.right
 rw [a0a] at b1
 have a2:=b1.left
 have b2:=b1.right
 rw [a0a] at b2
 have a3:=b2.left
 have a4:=b2.right
 rw [a0a] at a4
 have g1:=a0j w b F ds pos 6 W1 hr (by omega) (by omega) a1
 have g2:=fun w' h=>a0j w' b F ds (pos+6) 6 H1 h (by omega) (by omega) a2
 have g3:=fun w' h=>a0j w' b F ds (pos+6+6) 4 D1 h (by omega) (by omega) a3
 have g4:=fun w' h=>a0j w' b F ds (pos+6+6+4) 2 N1 h (by omega) (by omega) a4
 have u1:IntKind.i64.wrap (W1:Int)=(W1:Int):=IntWalk.i64_in _ (by omega)
 have u2:IntKind.i64.wrap (H1:Int)=(H1:Int):=IntWalk.i64_in _ (by omega)
 have u3:IntKind.i64.wrap (D1:Int)=(D1:Int):=IntWalk.i64_in _ (by omega)
 have u4:IntKind.i64.wrap (N1:Int)=(N1:Int):=IntWalk.i64_in _ (by omega)
 have G2:=hid g2
 have G3:=hid g3
 have G4:=hid g4
 have lW:W1<64:=by omega
 have lH:H1<64:=by omega
 have lD:D1<16:=by omega
 have lN:N1<4:=by omega
 clear ha a1 a2 a3 a4 b1 b2 g2 g3 g4 hr
 go_enter Tryz.func67,Tryz.ntmps67
 go_wp2_with fail
 refine g1.mono ?_
 rintro e w2 ⟨rfl,ab,ae⟩
 have g2:=G2.out w2 ab
 clear g1 ab
 go_wp2_with fail
 refine g2.mono ?_
 rintro e w3 ⟨rfl,aa,ah⟩
 have g3:=G3.out w3 aa
 clear g2 aa
 go_wp2_with fail
 refine g3.mono ?_
 rintro e w4 ⟨rfl,ac,ad⟩
 have g4:=G4.out w4 ac
 clear g3 ac
 go_wp2_with fail
 refine g4.mono ?_
 rintro e w5 ⟨rfl,ag,af⟩
 clear g4
 go_wp2_with fail
 refine bodyPost_ret (v:=.tuple #[.int .i64 ((W1+1:Nat):Int),.int .i64 ((H1+1:Nat):Int),.int .i64 ((D1+1:Nat):Int),.int .i64 ((N1+1:Nat):Int)]) (by simp [results,Tryz.results67,go_sem]) rfl ?_
 exact ⟨rfl,ag,((ae.tq ah).tq ad).tq af⟩
end Go.Proofs.YtepjepkgcdfboaaGreatDoor
