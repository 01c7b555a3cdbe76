/- A picture that is owned: a plane is written. -/
import Derived.Test.YtklocammllljiaaGreatDoorMg20
set_option linter.unusedVariables false
set_option linter.unusedSimpArgs false
set_option maxHeartbeats 4000000
set_option maxRecDepth 100000
namespace Go.Proofs.YtklocammllljiaaGreatDoor
open Go.RowKit
theorem plane_mem {p:PicD} {i:Nat} (h:i<p.P.length):p.P.getD i []∈p.P:=by
 rw [zD,zF h]
 exact zG h
theorem PicOwn.setPlane {w w':World} {p p':PicD} {gP cap:Nat} {xs:List Value} {gs:List Nat} (h:PicOwn w p gP cap xs gs) {i g:Nat} {u:Value} {l:List Int} (hx:xs[i]?=some u) (hg:gs[i]?=some g)
  (r:Row w' 3 u g (l.map vi)) (hc:Chg [g] w w') (hgP:gP≠g) (hok:p'.Ok) (hP:p'.P=p.P.set i l):PicOwn w' p' gP cap xs gs:=by
 refine ⟨hok,?_,?_⟩
 ·have hl:p'.P.length=p.P.length:=by rw [hP,List.length_set]
  rw [hl]
  exact h.row.chg hc (by simpa using hgP)
 ·rw [hP]
  exact h.pl.set hx hg r hc
theorem PicOwn.neP {w:World} {p:PicD} {gP cap:Nat} {xs:List Value} {gs:List Nat} (h:PicOwn w p gP cap xs gs) {i g:Nat} (hi:i<p.P.length) (hg:gs[i]?=some g):gP≠g:=by
 obtain ⟨g',c,h1,h2,h3,_⟩:=h.plane hi
 rw [hg] at h2
 injection h2 with h2
 subst h2
 exact h.row.ne_row h3 (by decide)
theorem Chg.cell {F:List Nat} {a b:World} {p:Addr} {v:Value} (h:Chg F a b) (hp:p.block∉F) (hc:a.cell? p=some v):b.cell? p=some v:=by
 have aa:p.block<a.heap.size:=by
  rcases zZ p.block a.heap.size with h1 | h1
  ·exact h1
  ·have e:a.heap[p.block]?=none:=Array.getElem?_eq_none h1
   simp [World.cell?,e] at hc
 exact (World.cell?_of_block (w:=a) (h.block p.block aa hp)).trans hc
theorem gback_ok (l R:List Int) (ks:List Nat) (A AK:Option Addr) (cap capk W H d:Nat) (w:World) (hw0:1<=W) (hw1:W<=64) (hh0:1<=H) (hh1:H<=64) (h0:1<=d) (h1:d<=16) (hl:l.length=W*H) (hs:SmpOk d l)
  (hR:R.length=W*H) (hRs:SmpOk d R) (hRi:∀ y x,y<H->x<W->R.getD (y*W+x) 0=restAt l W d (ks.getD y 0) y x) (hkl:ks.length=H) (hks:∀ k∈ks,k<10) (hc:Cells vi w A R) (hk:Cells i64 w AK ks) :
  Calls Tryz.prog 200 #[.slice A R.length cap,.int .i64 W,.int .i64 H,.int .i64 d,.slice AK ks.length capk] w fun e w'=>∃ v g,e=.returned (.tuple #[v,.int .i64 0])/\Row w' 3 v g (l.map vi)/\Chg [] w w'/\w.heap.size<=g:=by
 obtain ⟨n,hn⟩:=zX (W*H)
 have a8:n<=4096:=by rw [hn];exact zL hw1 hh1
 have a4:n<=64*W:=by rw [hn,zY];exact Nat.mul_le_mul_right W hh1
 have aq:=isPlane_yes R A cap W H d w hw0 hw1 hh0 hh1 h0 h1 hR hRs hc
 have ar:=areKinds_yes ks AK capk w hks (by omega) hk
 have a3:=run_make1 (P:=Tryz.prog) int_elem rfl .i64 .i64 n (by omega) (by omega)
 have ad:=Row.zeros w n (by omega)
 obtain ⟨B,hB⟩:=zX (w.heap.size)
 have aI:Chg [] w (w.alloc (.cells (List.replicate n (Value.int .i64 0)).toArray 3)):=(zR [] w).alloc _
 rw [<-hB] at ad
 rw [hkl] at ar ⊢
 rw [hR,<-hn] at aq ⊢
 have HN:=hid hn
 have HR:=hid (hR.trans hn.symm)
 have HL:=hid (hl.trans hn.symm)
 have aU:=hid hkl
 have HS:=hid hs
 have aP:=hid hRi
 have a2:=hid hks
 have HC:=hid hc
 have aX:=hid hRs
 have HK:=hid hk
 have HB:=hid hB
 clear hn hR hl hkl hs hRi hks hc hk hB hRs
 go_enter Tryz.func200,Tryz.ntmps200
 go_wp2_with (first | (go_at_call 216;refine aq.mono ?_;rintro e w' ⟨rfl,rfl⟩) | (go_at_call 219;refine ar.mono ?_;rintro e w' ⟨rfl,rfl⟩))
 rw [<-HB.out]
 go_loopg [38] n (fun j iv wr=>∃ i:Nat,iv=.int .i64 i/\i+j=n/\Row wr 3 (.slice (some ⟨B,0,none⟩) n n) B ((fillL (l.take i) n).map vi)/\Chg [] w wr)
 case atStart=>exact ⟨0,rfl,by omega,ad,aI⟩
 case round =>
  clear ad aI aq ar
  obtain ⟨i,rfl,a5,aa,al⟩:=hrel
  rcases gk with _ | j
  ·obtain rfl:i=n:=by omega
   have e:fillL (l.take i) i=l:=by
    have:=fill_all l
    rw [HL.out] at this
    exact this
   rw [e] at aa
   go_wp2
   refine bodyPost_ret (v:=.tuple #[.slice (some ⟨B,0,none⟩) i i,.int .i64 0]) (by simp [results,Tryz.results200,go_sem]) rfl ?_
   exact ⟨_,B,rfl,aa,al,by have:=HB.out;omega⟩
  ·have ap:i<n:=by omega
   obtain ⟨x,hx⟩:=zX (i%W)
   obtain ⟨y,hy⟩:=zX (i / W)
   have aG:x<W:=by rw [hx];exact Nat.mod_lt _ (by omega)
   have aM:y<H:=by rw [hy];exact Nat.div_lt_of_lt_mul (by have:=HN.out;omega)
   have ak:y*W+x=i:=by rw [hx,hy,zY];exact Nat.div_add_mod i W
   have aN:(i:Int)%(W:Int)=(x:Int):=by rw [hx];simp
   have aS:(i:Int) / (W:Int)=(y:Int):=by rw [hy];simp
   have a9:(i:Int).tmod (W:Int)=(x:Int):=by rw [Int.tmod_eq_emod_of_nonneg (by omega)];exact aN
   have bb:(i:Int).tdiv (W:Int)=(y:Int):=by rw [Int.tdiv_eq_ediv_of_nonneg (by omega)];exact aS
   have a1:(W:Int)≠0:=by omega
   have ae:(fillL (l.take i) n).length=n:=fillL_len (by rw [zI];omega)
   have aL:nbr (fillL (l.take i) n) W x y=nbr l W x y:=by
    have:=nbr_fill (l:=l) aG ak (by rw [HL.out];omega)
    rw [HL.out] at this
    exact this
   have ao:=fun w' (h:Chg [] wr w')=>near_ok (fillL (l.take i) n) (some ⟨B,0,none⟩) n W x y w' hw0 hw1 aG (by omega) (by rw [ak,ae];omega) (aa.toOwn.cells.same h) (by omega)
   rw [ae,aL] at ao
   obtain ⟨k,ag⟩:=zX (ks.getD y 0)
   have ax:y<ks.length:=by rw [aU.out];exact aM
   have aE:k<10:=by rw [ag,zD,zF ax];exact a2.out _ (zG _)
   have am:=fun w'=>one_ok k (nbr l W x y) d w' aE h0 h1 (nbr_ok HS.out W x y)
   have af:=back_one HS.out W k y x
   have aw:=aP.out y x aM aG
   rw [<-ag,ak] at aw
   rw [ak] at af
   obtain ⟨g,hg⟩:=zX (nbr l W x y)
   rw [<-hg] at ao am af
   obtain ⟨gs,aC⟩:=zX (guessI k g d)
   have ah:=guessI_ok (d:=d) (g:=g) (by rw [hg];exact nbr_ok HS.out W x y) k
   rw [<-aC] at ah
   rw [<-aC] at am af
   rw [<-aw] at af
   obtain ⟨r,hr⟩:=zX (R.getD i 0)
   rw [<-hr] at af
   obtain ⟨bk,ok,rfl,ai⟩:=(HK.out.same al).at_ ax
   have aB:wr.cell? ⟨bk,ok+y,none⟩=some (.int .i64 k):=by
    rw [ai,ag,zD,zF ax];rfl
   have aD:i<R.length:=by rw [HR.out];exact ap
   obtain ⟨ba,oa,rfl,aj⟩:=(HC.out.same al).at_ aD
   have an:wr.cell? ⟨ba,oa+i,none⟩=some (.int .i64 r):=by
    rw [aj,hr,zD,zF aD];rfl
   clear ai aj aD
   have bd:wrap64 (r+gs)=r+gs:=by
    have h3:=getD_ok aX.out i
    rw [<-hr] at h3
    have h4:=ah
    have hp:(2:Int)^d<=65536:=by
     have:=Nat.pow_le_pow_right (n:=2) (by decide) h1
     have e:((2^d:Nat):Int)=(2:Int)^d:=by simp
     omega
    exact IntWalk.wrap64_in _ (by omega)
   have aW:=hid ao
   have aT:=hid am
   have aY:=hid an
   have aQ:Hid (l.take (i+1)=l.take i++[wrapI (r+gs) d]):=hid (by
    have aJ:i<l.length:=by rw [HL.out];exact ap
    rw [af,zD,zF aJ]
    exact take_snoc' l aJ)
   have ay:Hid ((l.take i).length=i):=hid (by rw [zI,HL.out];omega)
   have aK:=hid af
   have a7:=hid hr
   have a6:=hid ag
   have av:=hid aa
   have a0:=hid al
   have bc:=hid ae
   clear hx hy ak aL ao am af aw hg aC hr ag aa al ae
   go_wp2_with fail
   go_quiet (fail)
   go_wp2_with fail
   refine (aW.out _ ((zR [] wr).drewN nq)).mono ?_
   obtain ⟨ga,gb,gc,ge⟩:=g
   rintro e w1 ⟨rfl,q,rfl⟩
   obtain ⟨wy,az⟩:=zX ((wr.drewN nq).drewN q)
   have aH:Chg [] wr wy:=by rw [az];exact ((zR [] wr).drewN nq).drewN q
   rw [<-az]
   have aB:=aH.cell (by simp) aB
   clear an az
   go_wp2_with fail
   refine (aT.out _).mono ?_
   rintro e w2 ⟨rfl,aR⟩
   have aA:Chg [] wr w2:=aH.trans_same aR
   have an:=aA.cell (by simp) aY.out
   have au:=fun w'=>wrap_ok (r+gs) d w' h0 h1
   rw [aK.out] at au
   go_wp2_with fail
   refine (au _).mono ?_
   rintro e w3 ⟨rfl,rfl⟩
   have ab:=av.out.chg aA (by simp)
   obtain ⟨aV,aO⟩:=ab.fill_cell (by rw [ay.out];exact ap)
   have ac:=ab.fill (by rw [ay.out];exact ap) (l.getD i 0)
   rw [ay.out] at aV aO ac
   have aZ:=hid ac
   clear ab ac an au aB
   go_wp2_with fail
   go_roundg j
   case measure=>omega
   case rel =>
    have aF:Chg [B] w2 (w2.setCell ⟨B,i,none⟩ (.int .i64 (l.getD i 0))):=(zR _ _).setCell (.inl (by simp)) _
    refine ⟨i+1,by go_num,by omega,?_,(a0.out.trans_same aA).trans aF fun z hz => .inr (by have:=HB.out;simp at hz;omega)⟩
    have e:=aQ.out
    rw [aK.out] at e
    rw [e]
    exact aZ.out
theorem sgn_mod {x:Int} {n:Nat} (h:fitsB x n=true):sgnOf (modN x n) n=x:=by
 unfold fitsB at h
 simp only [Bool.and_eq_true,decide_eq_true_eq] at h
 obtain ⟨⟨⟨h1,h2⟩,h3⟩,h4⟩:=h
 have hp:(2:Int)^n=2^(n-1)+2^(n-1):=by
  obtain ⟨m,rfl⟩:∃ m,n=m+1:=⟨n-1,by omega⟩
  rw [Int.pow_succ,Nat.add_sub_cancel]
  omega
 have ab:((2^(n-1):Nat):Int)=(2:Int)^(n-1):=by simp
 have aa:=two_pow_pos' (n-1)
 have hc:=modN_cast x n
 unfold sgnOf
 by_cases hx:0<=x
 ·have e:x%2^n=x:=Int.emod_eq_of_lt hx (by omega)
  rw [e] at hc
  rw [if_pos (by omega),hc]
 ·have e:x%2^n=x+2^n:=by
   rw [<-Int.add_emod_right]
   exact Int.emod_eq_of_lt (by omega) (by omega)
  rw [e] at hc
  rw [if_neg (by omega),hc]
  omega
theorem sgn_any {x:Int} {n:Nat} (hn:1<=n) (h:x=0\/fitsB x n=true):sgnOf (modN x n) n=x:=by
 rcases h with rfl | h
 ·have e:modN 0 n=0:=by simp [modN]
  rw [e]
  unfold sgnOf
  rw [if_pos (Nat.two_pow_pos _)]
  rfl
 ·exact sgn_mod h
theorem rsigned_ok (w:World) (b:Nat) (F ds:List Nat) (p n:Nat) (x:Int) (h:IsRd w b F ds p) (hn:n<=31) (hx:x=0\/fitsB x n=true) (ha:Ahead ds p (bitsOf (modN x n) n)) :
  Calls Tryz.prog 278 #[.pointer (some ⟨b,0,none⟩),.int .i64 n] w fun e w'=>e=.returned (.int .i64 x)/\IsRd w' b F ds (p+n)/\Chg [b] w w':=by
 have aa:=rget_ahead w b F ds p n (modN x n) h (by omega) (modN_lt x n) ha
 rcases Nat.eq_zero_or_pos n with rfl | ab
 ·have ai:x=0:=by
   rcases hx with h | h
   ·exact h
   ·simp [fitsB] at h
  subst ai
  clear hx ha h
  have t1:(((0:Nat):Int)==0)=true:=rfl
  go_enter Tryz.func278,Tryz.ntmps278
  go_wp2_with fail
  refine aa.mono ?_
  rintro e w1 ⟨rfl,ac,ae⟩
  obtain ⟨ak,al,ag,A,aj,af⟩:=rd_cells ac
  clear aa
  go_wp2
  go_ret
  exact ⟨rfl,ac,ae⟩
 ·have ad:=sgn_shift ab (by omega) (modN_lt x n)
  rw [sgn_any ab hx] at ad
  have ah:=modN_lt x n
  rw [IntWalk.i64_left,Int.fdiv_eq_ediv_of_nonneg _ (by have:=two_pow_pos' (64-n);omega)] at ad
  obtain ⟨v,hv⟩:=zX (modN x n)
  rw [<-hv] at aa ad ah
  have t1:((n:Int)==0)=false:=by rw [beq_eq_false_iff_ne];omega
  have e1:(64:Int)-(n:Int)=((64-n:Nat):Int):=by omega
  clear hx ha h hv
  go_enter Tryz.func278,Tryz.ntmps278
  go_wp2_with fail
  refine aa.mono ?_
  rintro e w1 ⟨rfl,ac,ae⟩
  obtain ⟨ak,al,ag,A,aj,af⟩:=rd_cells ac
  clear aa
  go_wp2
  go_ret
  exact ⟨rfl,ac,ae⟩
def rawBits (n:Nat) (l:List Int):List Nat:=l.flatMap fun x=>bitsOf (modN x n) n
theorem rawBits_split (n:Nat) (l:List Int) {m:Nat} (hm:m<l.length):rawBits n (l.drop m)=bitsOf (modN l[m] n) n++rawBits n (l.drop (m+1)):=by
 unfold rawBits
 rw [List.drop_eq_getElem_cons hm,List.flatMap_cons]
theorem pone_ok (w:World) (b:Nat) (F ds:List Nat) (p k:Nat) (l:List Int) (h:IsRd w b F ds p) (hk:k<=25\/k=31) (hw:∀ x∈l,wideP x) (hl:l.length<=4096) (ha:Ahead ds p (partBits k l)) :
  Calls Tryz.prog 249 #[.pointer (some ⟨b,0,none⟩),.int .i64 l.length] w fun e w'=>∃ v G,e=.returned (.tuple #[.int .i64 k,v,.int .i64 0])/\Own w' 3 v G (l.map vi)/\IsRd w' b F ds (p+(partBits k l).length)/\Chg [b] w w'/\∀ x∈G,w.heap.size<=x:=by
 unfold partBits at ha ⊢
 have aq:k<2^5:=by omega
 have am:=rget_ahead w b F ds p 5 k h (by omega) aq ha.left
 have aa:=ha.right
 rw [bitsOf_len] at aa
 have aY:=h.lt b h.mem
 rcases hk with hk | rfl
 ·rw [if_neg (by omega)] at aa ⊢
  have al:=fun w' (hr:IsRd w' b F ds (p+5))=>rgets_ok w' b F ds (p+5) k l hr hk hw (by omega) aa
  have t1:decide ((k:Int)<=25)=true:=zB (by omega)
  have aJ:=hid al
  have HW:=hid hw
  rw [zC,bitsOf_len]
  generalize (rbitsAll k l).length=q at *
  generalize l.length=n at *
  clear al ha aa hw h
  go_enter Tryz.func249,Tryz.ntmps249
  go_wp2_with fail
  refine am.mono ?_
  rintro e w1 ⟨rfl,ad,ab⟩
  have al:=aJ.out w1 ad
  clear am
  go_wp2_with (go_at_call 84;refine (err_ok _ b F ds _ ad).mono ?_;rintro e w' ⟨rfl,rfl⟩)
  refine al.mono ?_
  rintro e w2 ⟨v,G,rfl,ho,af,ae,hG⟩
  go_wp2
  refine bodyPost_ret (v:=.tuple #[.int .i64 k,v,.int .i64 0]) (by simp [results,Tryz.results249,go_sem]) rfl ?_
  exact ⟨v,G,rfl,ho,af.cast (by omega),ab.trans_same ae,fun x hx=>Nat.le_trans ab.size (hG x hx)⟩
 ·rw [if_pos rfl] at aa ⊢
  have aH:=widthL_le hw
  have av:=widthL_fits hw
  have ai:=fun A ak w' (hc:Cells vi w' A l)=>width_ok l A ak w' hw hc (by omega)
  obtain ⟨wd,aj⟩:=zX (widthL l)
  rw [<-aj] at aa aH av ai ⊢
  have ag:=fun w' (hr:IsRd w' b F ds (p+5))=>rget_ahead w' b F ds (p+5) 5 wd hr (by omega) (by omega) aa.left
  have ap:=aa.right
  rw [bitsOf_len] at ap
  have aD:Ahead ds (p+5+5) (rawBits wd (l.drop 0)):=by rw [List.drop_zero];exact ap
  have ac:(bitsOf 31 5++(bitsOf wd 5++l.flatMap fun x=>bitsOf (modN x wd) wd)).length=5+(5+(rawBits wd l).length):=by
   rw [zC,zC,bitsOf_len,bitsOf_len];rfl
  rw [ac]
  obtain ⟨n,hn⟩:=zX (l.length)
  rw [<-hn] at hl ⊢
  have HN:=hid hn
  have aM:=hid h.lt
  have HA:=hid aD
  have aK:=hid ag
  have aP:=hid av
  have aS:=hid ai
  clear hn aD ap aa ha ag av ai aj ac hw h
  go_enter Tryz.func249,Tryz.ntmps249
  go_wp2_with fail
  refine am.mono ?_
  rintro e w1 ⟨rfl,ad,ab⟩
  have ag:=aK.out w1 ad
  clear am
  go_wp2_with (go_at_call 84;refine (err_ok _ b F ds _ ad).mono ?_;rintro e w' ⟨rfl,rfl⟩)
  refine ag.mono ?_
  rintro e w2 ⟨rfl,af,ae⟩
  have ah:=ab.trans_same ae
  clear ag ad ab ae
  go_wp2_with fail
  go_loopg [11,38] n (fun j v iv wr=>∃ G p' out,j<=n/\iv=.int .i64 ((n-j:Nat):Int)/\Own wr 3 v G (out.map vi)/\Hid (out=l.take (n-j))/\IsRd wr b F ds p'/\Hid (Ahead ds p' (rawBits wd (l.drop (n-j))))/\Hid (p'+(rawBits wd (l.drop (n-j))).length=p+5+5+(rawBits wd l).length)/\Chg [b] w wr/\∀ x∈G,w.heap.size<=x)
  case atStart=>exact ⟨[],p+5+5,[],zQ _,by simp,Own.nil _ _,hid (by simp),af,hid (by rw [Nat.sub_self];exact HA.out),hid (by simp),ah,by simp⟩
  case round =>
   clear af ah
   obtain ⟨G,p',out,hj,rfl,ho,Ho,ar,Ha,Hp,ay,hG⟩:=hrel
   have HG:=hid hG
   clear hG
   rcases gk with _ | j
   ·obtain ⟨A,ak,rfl,aI,aW,aV⟩:=ho.open_map
    have t4:decide (((n-0:Nat):Int)<(n:Int))=false:=by simp
    have aL:decide (n<n)=false:=by simp
    have e:l.take (n-0)=l:=by rw [HN.out,Nat.sub_zero,zN]
    have e2:l.drop (n-0)=[]:=by rw [HN.out,Nat.sub_zero,List.drop_length]
    have aF:out=l:=Ho.out.trans e
    have hp:=Hp.out
    rw [e2] at hp
    have aG:p'=p+5+5+(rawBits wd l).length:=by simpa [rawBits] using hp
    subst aF
    have ai:=aS.out A ak wr aV
    have HP:=hid aG
    clear e e2 hp aG Ho Hp Ha
    go_wp2_with (go_at_call 84;refine (err_ok _ b F ds _ ar).mono ?_;rintro e w' ⟨rfl,rfl⟩)
    refine ai.mono ?_
    rintro e w' ⟨rfl,rfl⟩
    go_wp2_with fail
    refine bodyPost_ret (v:=.tuple #[.int .i64 31,.slice A out.length ak,.int .i64 0]) (by simp [results,Tryz.results249,go_sem]) rfl ?_
    exact ⟨_,G,rfl,ho,ar.cast (by rw [HP.out];omega),ay,HG.out⟩
   ·obtain ⟨A,ak,rfl,aI,aW,-⟩:=ho.open_map
    obtain ⟨m,aE⟩:=zX (n-(j+1))
    rw [<-aE] at Ha Hp Ho ⊢
    have aC:m<n:=by omega
    have aB:n-j=m+1:=by omega
    have HM:=hid aB
    clear aE aB
    have az:m<l.length:=by rw [<-HN.out];exact aC
    have an:=rawBits_split wd l az
    have ao:=take_snoc' l az
    have au:=aP.out l[m] (zG _)
    obtain ⟨x,hx⟩:=zX (l[m])
    rw [<-hx] at an au ao
    have aa:=Ha.out
    rw [an] at aa
    have aA:=rsigned_ok wr b F ds p' wd x ar aH au aa.left
    have aT:=hid aa.right
    have aF:out.length<=4096:=by rw [Ho.out,zI];omega
    have aU:=hid ao
    have aN:=hid an
    have t4:decide (m<n)=true:=zB aC
    have aL:decide ((m:Int)<(n:Int))=true:=zB (by omega)
    clear an ao hx aa az au
    go_wp2_with fail
    refine aA.mono ?_
    rintro e aQ ⟨rfl,ad,ab⟩
    have aw:∀ y∈G,y∉[b]:=fun y hy=>by have:=HG.out y hy;simp;omega
    have aO:=ho.chg ab aw
    have HB:=hid aw
    clear aA aw
    go_wp2_with (at_builtin;refine wpList_append_o1 rfl rfl int_elem rfl rfl (aO.alloc _) (.int .i64 x) rfl ?c1 ?c2 ?c3 ?c4 ?_)
    case c1=>simp [go_sem]
    case c2=>rfl
    case c3=>rw [zE];omega
    case c4=>rw [zE];omega
    intro g2 aR w2' af ax
    go_wp2_with fail
    go_roundg j
    case measure=>omega
    case rel =>
     rw [HM.out]
     have ae:Chg [b] w w2':=(ay.trans_same (ab.alloc _)).trans ax.chg fun x hx => .inr (HG.out x hx)
     have aX:∀ y∈F,y∉G:=fun y hy hyG=>by have:=HG.out y hyG;have:=aM.out y hy;omega
     refine ⟨[g2],_,out++[x],by omega,by go_num,?_,?_,(ad.same ((zR [] aQ).alloc _)).chg ax.chg aX,hid (by have:=aT.out;rw [bitsOf_len] at this;exact this),?_,ae,?_⟩
     ·have:=af.toOwn
      simpa [vi] using this
     ·exact hid (by rw [Ho.out,aU.out])
     ·refine hid ?_
      rw [<-Hp.out,aN.out,zC,bitsOf_len]
      omega
     ·intro y hy
      simp at hy
      subst hy
      rcases ax.new y (by simp) with h1 | h1
      ·exact HG.out y h1
      ·have:=ay.size
       have:=ab.size
       simp at h1
       omega
theorem modelBits_pre (l:List Int) (W d:Nat):∀ (k i:Nat),∃ r,modelBits l W d (i+k)=modelBits l W d i++r
 | 0,i=>⟨[],by simp⟩
 | k+1,i=>by
  obtain ⟨r,hr⟩:=modelBits_pre l W d k i
  exact ⟨r++bitsAtM (modelTo l W d (i+k)) l W d (i+k),by rw [show i+(k+1)=(i+k)+1 by omega,modelBits,hr,zH]⟩
theorem fill_smp {d:Nat} {l:List Int} (hs:SmpOk d l) (i n:Nat):SmpOk d (fillL (l.take i) n):=by
 intro s h
 unfold fillL at h
 rcases zP.1 h with h | h
 ·exact hs s (List.mem_of_mem_take h)
 ·rw [List.eq_of_mem_replicate h];exact ⟨Int.le_refl _,two_pow_pos' d⟩
theorem mget_ok (w:World) (b:Nat) (F ds:List Nat) (p:Nat) (l:List Int) (W H d:Nat) (h:IsRd w b F ds p) (hw0:1<=W) (hw1:W<=64) (hh0:1<=H) (hh1:H<=64) (h0:1<=d) (h1:d<=16) (hl:l.length=W*H) (hs:SmpOk d l) (ha:Ahead ds p (modelBits l W d (W*H))) :
  Calls Tryz.prog 161 #[.pointer (some ⟨b,0,none⟩),.int .i64 W,.int .i64 H,.int .i64 d] w fun e w'=>∃ v g,e=.returned (.tuple #[v,.int .i64 0])/\Row w' 3 v g (l.map vi)/\IsRd w' b F ds (p+(modelBits l W d (W*H)).length)/\Chg [b] w w'/\w.heap.size<=g:=by
 have bx:l.length<=4096:=by rw [hl];exact zL hw1 hh1
 obtain ⟨bG,aW⟩:=pow_d h0 h1
 have be:=fun i=>modelTo_ok l W h0 h1 aW i
 obtain ⟨n,hn⟩:=zX (l.length)
 have bP:n<=64*W:=by rw [hn,hl,zY];exact Nat.mul_le_mul_right W hh1
 have bV:(W:Int)*(H:Int)=(n:Int):=by rw [hn,hl];simp
 rw [<-hl,<-hn] at ha ⊢
 rw [<-hn] at bx
 have bS:=run_make1 (P:=Tryz.prog) int_elem rfl .i64 .i64 n (by omega) (by omega)
 have t1:decide ((W:Int)<1)=false:=zA (by omega)
 have t2:decide ((64:Int)<(W:Int))=false:=zA (by omega)
 have t3:decide ((H:Int)<1)=false:=zA (by omega)
 have t4:decide ((64:Int)<(H:Int))=false:=zA (by omega)
 have aH:=mnew_ok d w h0 h1
 have bT:=h.lt b h.mem
 have bf:=h.lt
 have HA:=hid ha
 have bK:=hid be
 have HS:=hid hs
 have HN:=hid hn
 have HP:=hid aW
 have bl:=hid bf
 clear be hs hn hl aW ha bf
 go_enter Tryz.func161,Tryz.ntmps161
 go_wp2_with fail
 refine aH.mono ?_
 rintro e w1 ⟨bm,rfl,a8,a3,bW⟩
 have a9:=h.same a3
 have ae:=Row.zeros w1 n (by omega)
 obtain ⟨B,hB⟩:=zX (w1.heap.size)
 have aR:Chg [] w1 (w1.alloc (.cells (List.replicate n (Value.int .i64 0)).toArray 3)):=(zR [] w1).alloc _
 have au:=a8.chg aR (by simp)
 have bA:=a9.same aR
 have bI:bm<B:=by rw [hB];exact a8.lt
 rw [<-hB] at ae
 have HB:=hid hB
 have ak:=hid a3
 clear aH h hB a8 a3
 go_wp2_with (go_at_call 84;refine (err_ok _ b F ds _ a9).mono ?_;rintro e w' ⟨rfl,rfl⟩)
 rw [<-HB.out]
 go_loopg [14,15,16,17,18,19,20,55] n (fun j va vb vc vd ve vf vg iv wr=>∃ (i p':Nat),iv=.int .i64 i/\i+j=n/\Row wr 3 (.slice (some ⟨B,0,none⟩) n n) B ((fillL (l.take i) n).map vi)/\IsRd wr b F ds p'/\Hid (p'=p+(modelBits l W d i).length)/\IsMd wr bm d (modelTo l W d i)/\Hid (Chg [b] w wr))
 case atStart=>exact ⟨0,p,rfl,by omega,by simpa using ae,bA,hid (by simp [modelBits]),au,hid ((ak.out.trans aR (by simp)).mono (by simp))⟩
 case round =>
  clear ae bA au aR a9
  obtain ⟨i,p',rfl,bQ,ab,a7,Hp,ah,bE⟩:=hrel
  rcases gk with _ | j
  ·obtain rfl:n=i:=by omega
   have t5:decide (n<n)=false:=by simp
   have e:fillL (l.take n) n=l:=by
    have:=fill_all l
    rw [<-HN.out] at this
    exact this
   rw [e] at ab
   go_wp2_with fail
   go_ret2
   exact ⟨_,B,rfl,ab,a7.cast Hp.out,bE.out,by have:=HB.out;have:=ak.out.size;omega⟩
  ·have aB:i<n:=by omega
   have t5:decide (i<n)=true:=zB aB
   obtain ⟨x,hx⟩:=zX (i%W)
   obtain ⟨y,hy⟩:=zX (i / W)
   have bz:x<W:=by rw [hx];exact Nat.mod_lt _ (by omega)
   have bh:y*W+x=i:=by rw [hx,hy,zY];exact Nat.div_add_mod i W
   have aU:nbr (fillL (l.take i) n) W (i%W) (i / W)=nbr l W (i%W) (i / W):=by
    have:=nbr_fill (l:=l) bz bh (by rw [<-HN.out];omega)
    rw [<-HN.out,hx,hy] at this
    exact this
   clear hx hy bz bh
   have ai:(fillL (l.take i) n).length=n:=fillL_len (by rw [zI];omega)
   have aa:=bK.out i
   have br:=ctxN_lt (nbr l W (i%W) (i / W)) d
   obtain ⟨r,hr⟩:=modelBits_pre l W d (n-(i+1)) (i+1)
   rw [show i+1+(n-(i+1))=n by omega] at hr
   have av:modelBits l W d (i+1)=modelBits l W d i++bitsAtM (modelTo l W d i) l W d i:=rfl
   have aT:modelTo l W d (i+1)=nextM (modelTo l W d i) l W d i:=rfl
   have bb:=HA.out
   rw [hr] at bb
   have a6:=bb.left
   rw [av] at a6
   have aI:=a6.right
   rw [<-Hp.out] at aI
   obtain ⟨m,hm⟩:=zX (modelTo l W d i)
   rw [<-hm] at ah av aT aa aI
   have a1:=look_ok' bm d m (fillL (l.take i) n) (some ⟨B,0,none⟩) n W i wr ah aa h0 h1 hw0 hw1 (by rw [ai];omega) (by omega) (fill_smp HS.out i n) ab.toOwn.cells (by rw [ai];exact bx)
   have ec:ctxAt (fillL (l.take i) n) W d i=ctxAt l W d i:=by unfold ctxAt;rw [aU]
   have et:turnAt (fillL (l.take i) n) W d i=turnAt l W d i:=by unfold turnAt;rw [aU]
   have ep:predAt m (fillL (l.take i) n) W d i=predAt m l W d i:=by unfold predAt;rw [ec,et,aU]
   rw [ec,et,ep,ai] at a1
   have aY:i<l.length:=by rw [<-HN.out];exact aB
   have aV:=getD_ok HS.out i
   have bu:=guessM_ok (statAt m (ctxAt l W d i)) (guessI 7 (nbr l W (i%W) (i / W)) d) (turnAt l W d i) (d:=d) bG
   have bd:predAt m l W d i=guessM (statAt m (ctxAt l W d i)) (guessI 7 (nbr l W (i%W) (i / W)) d) (turnAt l W d i) d:=rfl
   rw [<-bd] at bu
   have aq:=errOf_range (l.getD i 0) (predAt m l W d i) (turnAt l W d i) h0
   have ba:=errOf_mid (l.getD i 0) (predAt m l W d i) (turnAt l W d i) h0 h1
   have aC:=errRange16 h1 aq
   have an:=errOf_back (g:=predAt m l W d i) (turnAt l W d i) aV.1 aV.2
   have a5:errAt m l W d i=errOf (l.getD i 0) (predAt m l W d i) (turnAt l W d i) d:=rfl
   rw [<-a5] at aq ba an aC
   have bi:=foldI_in h0 aq.1 aq.2
   have bk:bitsAtM m l W d i=rbits (kOf (statAt m (ctxAt l W d i))) (errAt m l W d i):=rfl
   have bB:nextM m l W d i=m.set (ctxAt l W d i) (learnS (statAt m (ctxAt l W d i)) (errAt m l W d i)):=rfl
   rw [bk] at aI av
   rw [bB] at aT
   have ao:ctxAt l W d i<365:=br
   have bR:=kOf_le (statAt_mem aa ao).2
   have aN:=take_snoc' l aY
   have bn:l[i]=l.getD i 0:=by rw [zD,zF aY];rfl
   rw [bn] at aN
   have aP:(l.take i).length=i:=by rw [zI];omega
   obtain ⟨aQ,aO⟩:=ab.fill_cell (by rw [aP];exact aB)
   have aX:=hid ab
   rw [aP] at aQ aO
   generalize ctxAt l W d i=cx at *
   generalize predAt m l W d i=pr at *
   generalize turnAt l W d i=tb at *
   generalize errAt m l W d i=er at *
   obtain ⟨xv,aK⟩:=zX (l.getD i 0)
   rw [<-aK] at an aN aV a5
   have bc:=fun w h=>mk_ok bm d m cx w h aa ao
   generalize kOf (statAt m cx)=kk at *
   have ag:=fun w h=>learn_ok bm d m cx er w h aa h0 h1 ao aq.1 aq.2
   obtain ⟨bL,aG⟩:=bu
   have bX:pr<65536:=Int.lt_of_lt_of_le aG HP.out
   have am:=fun w' (hq:IsRd w' b F ds p')=>rgets_ok w' b F ds p' kk [er] hq (by omega) (fun z hz=>by rw [zU.1 hz];exact ba) (by simp) (by simpa [rbitsAll] using aI)
   have a2:=fun w'=>fold_ok er d w' h0 h1
   rw [bi] at a2
   have bj:=fun v w'=>wrap_ok v d w' h0 h1
   have t6:(er != er)=false:=by simp
   have bJ:=hid ag
   have bH:=hid bc
   have bs:=hid av
   have bg:=hid aT
   have bp:=hid aN
   have a4:=hid aP
   have bw:=hid an
   have bO:=hid am
   have bN:=hid a2
   have bo:=hid bj
   clear ag bc av aT a5 hm bd br bn bk bB aa aq an am a2 bj bi ba bb a6 aI hr aU ai ec et ep aK ab aN aP aY aQ aO aV aG
   go_wp2_with fail
   refine a1.mono ?_
   rintro e w2 ⟨rfl,aA⟩
   have aF:=a7.same aA
   have ap:=ah.chg aA (by simp)
   clear a1 a7 ah
   go_wp2_with fail
   refine (bH.out _ ap).mono ?_
   rintro e w3 ⟨rfl,n3,rfl⟩
   have a0:=bO.out _ (aF.same ((zR [] w2).drewN n3))
   rw [show (([er]:List Int).length:Int)=1 from rfl] at a0
   go_wp2_with fail
   refine a0.mono ?_
   rintro e w4 ⟨v4,G4,rfl,aJ,aL,aM,bM⟩
   rcases aJ.cases with ⟨_,aZ,_⟩ | ⟨g4,aD,rfl⟩
   ·exfalso
    have:=congrArg List.length aZ
    simp at this
   obtain ⟨c4,rfl,_,_,ac,_⟩:=aD.open_map
   have e0:=ac 0 er rfl
   have bU:w4.cell? ⟨g4,0,none⟩=some (.int .i64 er):=e0
   have bF:b∉[bm]:=by have:=ak.out.size;simp;omega
   have aw:=(ap.chg ((zR [] w2).drewN n3) (by simp)).chg aM (by simp;omega)
   have az:=hid (((bE.out.trans aA (by simp)).drewN n3).trans_same aM)
   have aj:=((aX.out.chg aA (by simp)).drewN n3).chg aM (by have:=HB.out;have:=ak.out.size;simp;omega)
   have bv:=bJ.out w4 aw
   have aE:=bN.out w4
   rw [show (([er]:List Int).length)=1 from rfl]
   clear aJ aD ac e0 ap aF aA aM a0 bM aw
   go_wp2_with (go_at_call 103;refine aE.mono ?_;rintro e w' ⟨rfl,rfl⟩)
   refine bv.mono ?_
   rintro e w5 ⟨rfl,ay,aS⟩
   have af:=aj.chg aS (by simp;omega)
   obtain ⟨aQ,aO⟩:=af.fill_cell (by rw [a4.out];exact aB)
   have ad:=af.fill (by rw [a4.out];exact aB) xv
   rw [a4.out] at aQ aO ad
   have bD:=hid ad
   have ax:=aL.chg aS (fun z hz hm=>by simp at hm;have:=bl.out z hz;have:=ak.out.size;omega)
   have al:=hid (az.out.trans aS (fun z hz => .inr (by simp at hz;omega)))
   have ar:Chg [B] w5 (w5.setCell ⟨B,i,none⟩ (.int .i64 xv)):=(zR _ _).setCell (.inl (by simp)) _
   have bq:∀ z∈F,z∉[B]:=fun z hz hm=>by simp at hm;have:=bl.out z hz;have:=ak.out.size;have:=HB.out;omega
   have bC:=hid bq
   clear bv aj af ad aL aS aE bq
   cases tb with
   | false =>
    have an:wrapI (pr+er) d=xv:=bw.out
    have hw:=bo.out (pr+er)
    rw [an] at hw
    go_wp2_with (go_at_call 102;refine (hw _).mono ?_;rintro e w' ⟨rfl,rfl⟩)
    go_roundg j
    case measure=>omega
    case rel =>
     refine ⟨i+1,p'+(rbitsAll kk [er]).length,by go_num,by omega,?_,ax.chg ar bC.out,hid ?_,?_,hid (al.out.trans ar (fun z hz => .inr (by simp at hz;have:=HB.out;have:=ak.out.size;omega)))⟩
     ·rw [bp.out];exact bD.out
     ·rw [bs.out,zC,Hp.out];simp [rbitsAll];omega
     ·rw [bg.out];exact ay.chg ar (by simp;omega)
   | true =>
    have an:wrapI (pr + -er) d=xv:=bw.out
    have hw:=bo.out (pr + -er)
    rw [an] at hw
    go_wp2_with (go_at_call 102;refine (hw _).mono ?_;rintro e w' ⟨rfl,rfl⟩)
    go_roundg j
    case measure=>omega
    case rel =>
     refine ⟨i+1,p'+(rbitsAll kk [er]).length,by go_num,by omega,?_,ax.chg ar bC.out,hid ?_,?_,hid (al.out.trans ar (fun z hz => .inr (by simp at hz;have:=HB.out;have:=ak.out.size;omega)))⟩
     ·rw [bp.out];exact bD.out
     ·rw [bs.out,zC,Hp.out];simp [rbitsAll];omega
     ·rw [bg.out];exact ay.chg ar (by simp;omega)
def TokAt (l:List Int) (i:Nat) (t:Tok):Prop :=
 (t.len=0/\t.dist=0/\t.lit=l.getD i 0)\/(1<=t.len/\i+t.len<=l.length/\1<=t.dist/\t.dist<=i/\∀ j,j<t.len->l.getD (i+j) 0=l.getD (i+j-t.dist) 0)
def RunsAt (l:List Int) (k:Nat) (rs:List Nat):Prop:=∀ d,1<=d->d<=k->∀ j,j<rs.getD d 0->l.getD (k+j) 0=l.getD (k+j-d) 0
structure DInv (l:List Int) (k:Nat) (rs:List Nat) (d:Nat) (s:DSt):Prop where
 r1:∀ e,1<=e->e<d->∀ j,j<s.runs.getD e 0->l.getD (k+j) 0=l.getD (k+j-e) 0
 r2:∀ e,d<=e->s.runs.getD e 0=rs.getD e 0
 dd:∀ m,s.dists.getD m 0≠0->s.dists.getD m 0<d/\m<=s.runs.getD (s.dists.getD m 0) 0
theorem fillD_get:∀ f D m d n,(fillD f D m d).getD n 0=D.getD n 0\/((fillD f D m d).getD n 0=d/\m<n/\n<=m+f)
 | 0,_,_,_,_ => .inl rfl
 | f+1,D,m,d,n=>by
  rw [fillD]
  rcases fillD_get f (D.set (m+1) d) (m+1) d n with h | ⟨h,h1,h2⟩
  ·rw [h,getD_set]
   split
   ·exact .inr ⟨rfl,by omega,by omega⟩
   ·exact .inl rfl
  ·exact .inr ⟨h,by omega,by omega⟩
theorem runAt_good {l:List Int} {k d:Nat} {rs rs0:List Nat} (h:RunsAt l (k+1) rs0) (e:rs.getD d 0=rs0.getD d 0) (h1:1<=d) (h2:d<=k):∀ j,j<runAt l k rs d->l.getD (k+j) 0=l.getD (k+j-d) 0:=by
 intro j hj
 unfold runAt at hj
 split at hj
 ·rename_i hq
  cases j with
  | zero=>exact hq
  | succ j =>
   have:=h d h1 (by omega) j (by rw [<-e];omega)
   rw [show k+(j+1)=k+1+j by omega]
   exact this
 ·omega
theorem dStep_inv {l:List Int} {k d:Nat} {rs:List Nat} {s:DSt} (hr:RunsAt l (k+1) rs) (hs:s.Ok) (h:DInv l k rs d s) (h1:1<=d) (h2:d<=k) (h3:d<=1024):DInv l k rs (d+1) (dStep l k s d):=by
 have hg:=runAt_good (rs:=s.runs) hr (h.r2 d (zQ _)) h1 h2
 have aa:d<s.runs.length:=by rw [hs.rl];omega
 refine ⟨fun e he1 he2 j hj => ?_,fun e he => ?_,fun m hm => ?_⟩
 ·have ab:j<(s.runs.set d (runAt l k s.runs d)).getD e 0:=hj
  rw [getD_set] at ab
  split at ab
  ·rename_i hq
   obtain ⟨rfl,_⟩:=hq
   exact hg j ab
  ·rename_i hq
   exact h.r1 e he1 (by
    have:¬ d=e:=fun hh=>hq ⟨hh,aa⟩
    omega) j ab
 ·show (s.runs.set d (runAt l k s.runs d)).getD e 0=_
  rw [getD_set,if_neg (by omega)]
  exact h.r2 e (by omega)
 ·have ac:(fillD (runAt l k s.runs d-s.longest) s.dists s.longest d).getD m 0≠0:=hm
  show (fillD (runAt l k s.runs d-s.longest) s.dists s.longest d).getD m 0<d+1/\m<=(s.runs.set d (runAt l k s.runs d)).getD ((fillD (runAt l k s.runs d-s.longest) s.dists s.longest d).getD m 0) 0
  rcases fillD_get (runAt l k s.runs d-s.longest) s.dists s.longest d m with e | ⟨e,e1,e2⟩
  ·rw [e] at ac ⊢
   obtain ⟨q1,q2⟩:=h.dd m ac
   refine ⟨by omega,?_⟩
   rw [getD_set,if_neg (by omega)]
   exact q2
  ·rw [e]
   refine ⟨by omega,?_⟩
   rw [getD_set,if_pos ⟨rfl,aa⟩]
   omega
theorem dGo_inv {l:List Int} {k:Nat} {rs:List Nat} (hr:RunsAt l (k+1) rs):∀ f d s,s.Ok->DInv l k rs d s->1<=d->d+f<=k+1->d+f<=1025->DInv l k rs (d+f) (dGo l k f d s)
 | 0,_,_,_,h,_,_,_=>h
 | f+1,d,s,ho,h,h1,h2,h3=>by
  have:=dGo_inv hr f (d+1) _ (dStep_ok (l:=l) (at_:=k) ho (by omega)) (dStep_inv hr ho h h1 (by omega) (by omega)) (by omega) (by omega) (by omega)
  rw [show d+(f+1)=d+1+f by omega]
  exact this
theorem distF_inv {l:List Int} {k:Nat} {rs:List Nat} (hr:RunsAt l (k+1) rs) (ho:RunsOk rs):DInv l k rs (1+min k 1024) (distF l k rs):=by
 refine dGo_inv hr _ _ _ (dStart_ok ho) ⟨fun e h1 h2=>by omega,fun e _=>rfl,fun m hm => ?_⟩ (by omega) (by omega) (by omega)
 exfalso
 apply hm
 show (List.replicate 65 0).getD m 0=0
 rw [zD,List.getElem?_replicate]
 split<;>rfl
theorem getD_far {l:List Nat} {i:Nat} (h:l.length<=i):l.getD i 0=0:=by
 rw [zD,List.getElem?_eq_none h];rfl
theorem distF_runs {l:List Int} {k:Nat} {rs:List Nat} (hr:RunsAt l (k+1) rs) (ho:RunsOk rs):RunsAt l k (distF l k rs).runs:=by
 intro d h1 h2 j hj
 have hi:=distF_inv hr ho
 by_cases h3:d<=1024
 ·exact hi.r1 d h1 (by omega) j hj
 ·rw [getD_far (by rw [(distF_ok ho).rl];omega)] at hj
  omega
theorem tokAt_set {F:List Tok} {i j:Nat} {t:Tok}:tokAt (F.set i t) j=if i=j/\i<F.length then t else tokAt F j:=by
 unfold tokAt
 rw [zD,zD,List.getElem?_set]
 by_cases h:i=j
 ·subst h
  by_cases h2:i<F.length
  ·simp [h2]
  ·simp [h2]
 ·simp [h]
def FirstAt (l:List Int) (k:Nat) (F:List Tok):Prop:=F.length=l.length/\∀ i,k<=i->i<l.length->TokAt l i (tokAt F i)
theorem lOne_first {l:List Int} {cp k n:Nat} {D:List Nat} {p:List Nat × List Tok} (hD:D.getD n 0≠0->3<=n->TokAt l k ⟨n,D.getD n 0,0⟩) (h:FirstAt l k p.2):FirstAt l k (lOne cp k D n p).2:=by
 unfold lOne
 split
 ·exact h
 ·rename_i hq
  split
  ·refine ⟨by rw [List.length_set];exact h.1,fun i h1 h2 => ?_⟩
   rw [tokAt_set]
   split
   ·rename_i he
    obtain ⟨rfl,_⟩:=he
    exact hD (by omega) (by omega)
   ·exact h.2 i h1 h2
  ·exact h
theorem lPick_first {l:List Int} {cp k:Nat} {D:List Nat} (hD:∀ n,D.getD n 0≠0->3<=n->TokAt l k ⟨n,D.getD n 0,0⟩):∀ f m p,FirstAt l k p.2->FirstAt l k (lPick cp k D f m p).2
 | 0,_,_,h=>h
 | f+1,m,p,h=>lPick_first hD f (m+1) _ (lOne_first (hD m) h)
theorem lStep_at {l:List Int} {lit cp k:Nat} {s:LSt} (ho:s.Ok l.length lit (k+1)) (hk:k<l.length) (hr:RunsAt l (k+1) s.runs) (hf:FirstAt l (k+1) s.first):RunsAt l k (lStep l lit cp k s).runs/\FirstAt l k (lStep l lit cp k s).first:=by
 have aa:RunsOk s.runs:=⟨ho.rl,fun x hx=>(ho.rb x hx).1⟩
 have ab:=distF_in (l:=l) (at_:=k) (rs:=s.runs) (B:=l.length-(k+1)) (fun x hx=>(ho.rb x hx).2)
 have ac:=distF_inv hr aa
 refine ⟨distF_runs hr aa,lPick_first (fun n hn h3 => ?_) 65 0 _ ?_⟩
 ·obtain ⟨h1,h2⟩:=ac.dd n hn
  have h4:=ab.db n hn
  have h5:=ab.lb
  refine .inr ⟨by simp only;omega,by simp only;omega,by simp only;omega,by simp only;omega,fun j hj => ?_⟩
  exact ac.r1 _ (by omega) h1 j (by simp only at hj;omega)
 ·refine ⟨by show (s.first.set k _).length=_;rw [List.length_set];exact hf.1,fun i h1 h2 => ?_⟩
  show TokAt l i (tokAt (s.first.set k _) i)
  rw [tokAt_set]
  split
  ·rename_i he
   obtain ⟨rfl,_⟩:=he
   exact .inl ⟨rfl,rfl,rfl⟩
  ·rename_i he
   exact hf.2 i (by
    have:¬ k=i:=fun hh=>he ⟨hh,by rw [hf.1];exact hk⟩
    omega) h2
theorem lGo_at {l:List Int} {lit cp:Nat}:∀ k s,s.Ok l.length lit k->k<=l.length->RunsAt l k s.runs->FirstAt l k s.first->FirstAt l 0 (lGo l lit cp k s).first
 | 0,_,_,_,_,h=>h
 | k+1,s,ho,hk,hr,hf=>by
  obtain ⟨h1,h2⟩:=lStep_at (cp:=cp) ho (by omega) hr hf
  exact lGo_at k _ (lStep_ok ho (by omega)) (by omega) h1 h2
theorem leastSt_at (l:List Int) (lit cp:Nat):FirstAt l 0 (leastSt l lit cp).first:=by
 refine lGo_at _ _ (lStart_ok _ _) (zQ _) (fun d _ _ j hj => ?_) ⟨zV,fun i h1 h2=>by omega⟩
 exfalso
 have:(List.replicate 1025 0).getD d 0=0:=by
  rw [zD,List.getElem?_replicate]
  split<;>rfl
 have aa:j<(List.replicate 1025 0).getD d 0:=hj
 omega
def ToksFrom (l:List Int):Nat->List Tok->Prop
 | i,[]=>l.length<=i
 | i,t::T=>i<l.length/\TokAt l i t/\ToksFrom l (i+max t.len 1) T
theorem tokGo_from {l:List Int} {F:List Tok} (h:FirstAt l 0 F):∀ f i,l.length<=i+f->ToksFrom l i (tokGo F l.length f i)
 | 0,i,hi=>by simpa [tokGo,ToksFrom] using hi
 | f+1,i,hi=>by
  unfold tokGo
  split
  ·rename_i hl
   exact ⟨hl,h.2 i (Nat.zero_le _) hl,tokGo_from h f _ (by omega)⟩
  ·show l.length<=i
   omega
theorem leastF_from (l:List Int) (lit cp:Nat):ToksFrom l 0 (leastF l lit cp):=tokGo_from (leastSt_at l lit cp) _ _ (by omega)
theorem alloc_size' (w:World) (o:Obj):(w.alloc o).heap.size=w.heap.size+1:=by
 show (w.heap.push o).size=_
 exact Array.size_push _
def revK (i a b c d:Nat):List Nat:=if i=0 then [a,b,c,d] else if i=1 then [d,b,c,a] else [d,c,b,a]
theorem rev4_ok (w:World) (g a b c d cap:Nat) (h:Row w 5 (.slice (some ⟨g,0,none⟩) 4 cap) g ([a,b,c,d].map b8)) :
  Calls Tryz.prog 111 #[.slice (some ⟨g,0,none⟩) 4 cap] w fun e w'=>e=.returned (.tuple #[])/\Row w' 5 (.slice (some ⟨g,0,none⟩) 4 cap) g ([d,c,b,a].map b8)/\Chg [g] w w':=by
 have HH:=hid h
 clear h
 go_enter Tryz.func111,Tryz.ntmps111
 go_wp2_with fail
 go_loopg [2,3] 2 (fun k s2 s3 wr=>∃ i:Nat,i+k=2/\s2=.int .i64 i/\s3=.int .i64 (3-(i:Int))/\Hid (Row wr 5 (.slice (some ⟨g,0,none⟩) 4 cap) g ((revK i a b c d).map b8))/\Hid (Chg [g] w wr))
 case atStart=>exact ⟨0,rfl,rfl,rfl,hid HH.out,hid (zR _ _)⟩
 case round =>
  obtain ⟨i,af,rfl,rfl,HR,HC⟩:=hrel
  rcases (show i=0\/i=1\/i=2 by omega) with rfl | rfl | rfl
  ·obtain ⟨_,_,_,_,ac,ab⟩:=HR.out.open_
   have c0:=ac 0 (by simp [revK])
   have c3:=ac 3 (by simp [revK])
   have f0:=ab 0
   have f3:=ab 3
   simp [revK,b8] at c0 c3
   obtain rfl:gk=2:=by omega
   have aa:Row ((wr.setCell ⟨g,0,none⟩ (.int .u8 d)).setCell ⟨g,3,none⟩ (.int .u8 a)).drew 5 (.slice (some ⟨g,0,none⟩) 4 cap) g ((revK 1 a b c d).map b8) :=
    ((HR.out.set_ (i:=0) (by simp [revK]) (.int .u8 d)).set_ (i:=3) (by simp [revK]) (.int .u8 a)).drew
   have ad:=hid aa
   have ae:=hid (((HC.out.setCell (p:=⟨g,0,none⟩) (.inl (by simp)) (.int .u8 d)).setCell (p:=⟨g,3,none⟩) (.inl (by simp)) (.int .u8 a)).drew)
   clear ac ab af aa
   go_wp2_with fail
   go_region
   go_wp2
   go_roundg 1
   case measure=>omega
   case rel=>exact ⟨1,rfl,by go_num,by go_num,ad,ae⟩
  ·obtain ⟨_,_,_,_,ac,ab⟩:=HR.out.open_
   have c1:=ac 1 (by simp [revK])
   have c2:=ac 2 (by simp [revK])
   have f1:=ab 1
   have f2:=ab 2
   simp [revK,b8] at c1 c2
   obtain rfl:gk=1:=by omega
   have aa:Row ((wr.setCell ⟨g,1,none⟩ (.int .u8 c)).setCell ⟨g,2,none⟩ (.int .u8 b)).drew 5 (.slice (some ⟨g,0,none⟩) 4 cap) g ((revK 2 a b c d).map b8) :=
    ((HR.out.set_ (i:=1) (by simp [revK]) (.int .u8 c)).set_ (i:=2) (by simp [revK]) (.int .u8 b)).drew
   have ad:=hid aa
   have ae:=hid (((HC.out.setCell (p:=⟨g,1,none⟩) (.inl (by simp)) (.int .u8 c)).setCell (p:=⟨g,2,none⟩) (.inl (by simp)) (.int .u8 b)).drew)
   clear ac ab af aa
   go_wp2_with fail
   go_region
   go_wp2
   go_roundg 0
   case measure=>omega
   case rel=>exact ⟨2,rfl,by go_num,by go_num,ad,ae⟩
  ·go_wp2
   go_end0
   exact ⟨rfl,HR.out,HC.out⟩
theorem clamp4_ok (w:World):Calls Tryz.prog 116 #[.int .i64 4] w fun e w'=>e=.returned (.int .i64 4)/\w=w':=by
 go_enter Tryz.func116,Tryz.ntmps116
 go_wp2
 go_ret
 exact ⟨rfl,rfl⟩
def lowL (n i:Nat):List Nat:=(List.range i).map fun k=>n / 256^k%256
theorem lowL_succ (n i:Nat):lowL n (i+1)=lowL n i++[n / 256^i%256]:=by simp [lowL,List.range_succ]
theorem lowL_four (n:Nat):lowL n 4=[n%256,n / 256%256,n / 65536%256,n / 16777216%256]:=by simp [lowL,List.range_succ]
theorem small4_ok (n:Nat) (hn:n<4294967296) (w:World) :
  Calls Tryz.prog 110 #[.int .u64 n,.int .i64 4] w fun e w'=>∃ (g cap:Nat),e=.returned (.slice (some ⟨g,0,none⟩) 4 cap)/\Row w' 5 (.slice (some ⟨g,0,none⟩) 4 cap) g ((lowL n 4).map b8)/\Chg [] w w'/\w.heap.size<=g:=by
 have ak:=fun w'=>clamp4_ok w'
 go_enter Tryz.func110,Tryz.ntmps110
 go_wp2_with fail
 refine (ak _).mono ?_
 rintro e w' ⟨rfl,rfl⟩
 go_wp2_with fail
 go_loopg [0,5,8] 4 (fun j v0 v5 v8 wr=>∃ (i m:Nat) (F:List Nat),v8=.int .i64 i/\i+j=4/\v0=.int .u64 m/\Hid (m=n / 256^i)/\m<4294967296/\Hid (Own wr 5 v5 F ((lowL n i).map b8))/\Hid (Chg [] w wr)/\Hid (∀ x∈F,w.heap.size<=x)/\Hid (0<i->v5≠.slice none 0 0))
 case atStart=>exact ⟨0,n,[],rfl,rfl,rfl,hid (by simp),hn,hid (Own.nil _ _),hid (zR _ _),hid (by simp),hid (by simp)⟩
 case round =>
  obtain ⟨i,m,F,rfl,au,rfl,HM,hm,HO,HC,HF,HV⟩:=hrel
  rcases gk with _ | j
  ·obtain rfl:i=4:=by omega
   rcases HO.out.cases with ⟨hv,_⟩ | ⟨g,aa,hF⟩
   ·exact absurd hv (HV.out (by omega))
   ·obtain ⟨cap,rfl,_⟩:=aa.open_map
    have al:=HF.out g (by rw [hF];simp)
    have ab:=hid aa
    clear aa
    go_wp2
    go_ret
    exact ⟨g,cap,rfl,ab.out,HC.out,al⟩
  ·have t1:decide ((i:Int)<4)=true:=zB (by omega)
   have ac:(m:Int)%256=((m%256:Nat):Int):=by omega
   have af:(m:Int) / 256=((m / 256:Nat):Int):=by omega
   obtain ⟨r,hr⟩:=zX (m%256)
   obtain ⟨q,hq⟩:=zX (m / 256)
   rw [<-hr] at ac
   rw [<-hq] at af
   have ar:r<256:=by omega
   have ae:q<4294967296:=by omega
   have ag:lowL n (i+1)=lowL n i++[r]:=by rw [lowL_succ,<-HM.out,<-hr]
   have aj:q=n / 256^(i+1):=by rw [hq,HM.out,Nat.pow_succ,Nat.div_div_eq_div_mul]
   have an:=hid ag
   have am:=hid aj
   have ad:=HO.out.alloc (.cells #[.int .u8 r] 5)
   have aq:IntKind.u8.wrap (r:Int)=(r:Int):=by rw [IntKind.wrap_u8];omega
   have ah:Hid ((lowL n i).length=i):=hid (by simp [lowL])
   clear ag aj hr hq
   go_wp2_with (at_builtin;refine wpList_append_o1 rfl rfl u8_elem rfl rfl ad (.int .u8 r) rfl ?c1 ?c2 ?c3 ?c4 ?_)
   case c1=>simp [go_sem]
   case c2=>rfl
   case c3=>simp [ah.out];omega
   case c4=>simp [ah.out];omega
   intro g2 ap w2 ao ai
   go_wp2_with fail
   go_roundg j
   case measure=>omega
   case rel =>
    refine ⟨i+1,q,[g2],by go_num,by omega,rfl,hid am.out,ae,hid ?_,hid ?_,hid ?_,hid (by simp)⟩
    ·rw [an.out,zM]
     exact ao.toOwn
    ·exact (HC.out.trans_same ((zR [] wr).alloc _)).trans ai.chg fun x hx => .inr (HF.out x hx)
    ·intro x hx
     rcases ai.new x hx with h | h
     ·exact HF.out x h
     ·have:=HC.out.size;rw [alloc_size'] at h;omega
theorem big4_ok (n:Nat) (hn:n<4294967296) (w:World) :
  Calls Tryz.prog 67 #[.int .u64 n,.int .i64 4] w fun e w'=>∃ (g cap:Nat),e=.returned (.slice (some ⟨g,0,none⟩) 4 cap)/\Row w' 5 (.slice (some ⟨g,0,none⟩) 4 cap) g ((big4 n).map b8)/\Chg [] w w'/\w.heap.size<=g:=by
 have ac:=small4_ok n hn w
 go_enter Tryz.func67,Tryz.ntmps67
 go_wp2_with fail
 refine ac.mono ?_
 rintro e w1 ⟨g,cap,rfl,aa,ad,hg⟩
 rw [lowL_four] at aa
 have af:=rev4_ok w1 g _ _ _ _ cap aa
 clear ac aa
 go_wp2_with fail
 refine af.mono ?_
 rintro e w2 ⟨rfl,ab,ae⟩
 go_wp2
 go_ret
 exact ⟨g,cap,rfl,ab,ad.trans ae (fun x hx => .inr (by simp at hx;omega)),hg⟩
theorem nodup_set {α:Type} {l:List α} {i:Nat} {x:α} (h:l.Nodup) (hx:x∉l):(l.set i x).Nodup:=by
 rw [List.Nodup,List.pairwise_iff_getElem] at h ⊢
 intro a b ha hb aa e
 rw [List.length_set] at ha hb
 have hm:∀ k (hk:k<l.length),l[k]∈l:=fun k hk=>zG hk
 rw [List.getElem_set,List.getElem_set] at e
 split at e
 ·split at e
  ·omega
  ·exact hx (e ▸ hm b hb)
 ·split at e
  ·exact hx (e ▸ hm a ha)
  ·exact h a b ha hb aa e
theorem PlRows.replace {w w':World} {xs:List Value} {P:List (List Int)} {gs F:List Nat} (h:PlRows w xs P gs) {i g:Nat} {u:Value} {l:List Int} (hi:i<P.length)
  (r:Row w' 3 u g (l.map vi)) (hc:Chg F w w') (hd:∀ x∈gs,x∉F) (hg:g∉gs):PlRows w' (xs.set i u) (P.set i l) (gs.set i g):=by
 refine ⟨by rw [List.length_set,List.length_set,h.lx],by rw [List.length_set,List.length_set,h.lg],nodup_set h.nd hg,fun k l' hl => ?_⟩
 by_cases hk:i=k
 ·subst hk
  rw [List.getElem?_set_self hi] at hl
  injection hl with hl
  subst hl
  exact ⟨u,g,List.getElem?_set_self (by rw [h.lx];exact hi),List.getElem?_set_self (by rw [h.lg];exact hi),r⟩
 ·rw [List.getElem?_set_ne hk] at hl
  obtain ⟨u',g',h1,h2,h3⟩:=h.row k l' hl
  exact ⟨u',g',by rw [List.getElem?_set_ne hk];exact h1,by rw [List.getElem?_set_ne hk];exact h2,h3.chg hc (hd g' (List.mem_of_getElem? h2))⟩
theorem PicOwn.replace {w wa:World} {p p':PicD} {gP cap:Nat} {xs:List Value} {gs F:List Nat} (h:PicOwn w p gP cap xs gs) {i g:Nat} {u:Value} {l:List Int} (hi:i<p.P.length)
  (r:Row wa 3 u g (l.map vi)) (hc:Chg F w wa) (hF:∀ x∈gP::gs,x∉F) (hg:w.heap.size<=g) (hok:p'.Ok) (hP:p'.P=p.P.set i l) :
  PicOwn (wa.setCell ⟨gP,i,none⟩ u) p' gP cap (xs.set i u) (gs.set i g):=by
 have ad:g∉gs:=fun hm=>by have:=h.pl.lt g hm;omega
 have ab:gP≠g:=fun e=>by have:=h.ltP;omega
 have ac:gP∉gs:=fun hm=>by
  obtain ⟨k,hk,e⟩:=List.getElem_of_mem hm
  have ae:k<p.P.length:=by rw [<-h.pl.lg];exact hk
  have:=h.neP ae (zF hk)
  exact this e.symm
 have aa:Chg [gP] wa (wa.setCell ⟨gP,i,none⟩ u):=(zR [gP] wa).setCell (p:=⟨gP,i,none⟩) (.inl (by simp)) u
 refine ⟨hok,?_,?_⟩
 ·have hl:p'.P.length=p.P.length:=by rw [hP,List.length_set]
  rw [hl]
  exact (h.row.chg hc (hF gP (by simp))).set_ (by rw [h.pl.lx];exact hi) u
 ·rw [hP]
  have h1:=h.pl.replace hi r hc (fun x hx=>hF x (by simp [hx])) ad
  refine h1.chg aa ?_
  intro x hx hm
  simp at hm
  subst hm
  rcases List.mem_or_eq_of_mem_set hx with h2 | h2
  ·exact ac h2
  ·exact ab h2
theorem PicOwn.sample {w:World} {p p':PicD} {gP cap:Nat} {xs:List Value} {gs:List Nat} (h:PicOwn w p gP cap xs gs) {i g k:Nat} {u:Value} {v:Int} (hx:xs[i]?=some u) (hg:gs[i]?=some g) (hi:i<p.P.length)
  (hr:Row w 3 u g ((p.P.getD i []).map vi)) (hk:k<(p.P.getD i []).length) (hok:p'.Ok) (hP:p'.P=p.P.set i ((p.P.getD i []).set k v)) :
  PicOwn (w.setCell ⟨g,k,none⟩ (.int .i64 v)) p' gP cap xs gs:=by
 have h1:=hr.set_ (i:=k) (by rw [zE];exact hk) (.int .i64 v)
 have e:((p.P.getD i []).map vi).set k (.int .i64 v)=((p.P.getD i []).set k v).map vi:=by rw [List.map_set];rfl
 rw [e] at h1
 exact h.setPlane hx hg h1 ((zR [g] w).setCell (p:=⟨g,k,none⟩) (.inl (by simp)) _) (h.neP hi hg) hok hP
def setP (p:PicD) (i:Nat) (l:List Int):PicD:=⟨p.W,p.H,p.d,p.P.set i l⟩
theorem setP_ok {p:PicD} (h:p.Ok) (i:Nat) {l:List Int} (hl:l.length=p.W*p.H) (hs:SmpOk p.d l):(setP p i l).Ok where
 w0:=h.w0
 w1:=h.w1
 h0:=h.h0
 h1:=h.h1
 d0:=h.d0
 d1:=h.d1
 n0:=by show 1<=(p.P.set i l).length;rw [List.length_set];exact h.n0
 n1:=by show (p.P.set i l).length<=4;rw [List.length_set];exact h.n1
 len:=fun x hx=>by
  rcases List.mem_or_eq_of_mem_set hx with h2 | h2
  ·exact h.len x h2
  ·rw [h2];exact hl
 smp:=fun x hx=>by
  rcases List.mem_or_eq_of_mem_set hx with h2 | h2
  ·exact h.smp x h2
  ·rw [h2];exact hs
theorem setP_alike {p q:PicD} (h:AlikeD p q) (i:Nat) (l:List Int):AlikeD p (setP q i l):=⟨h.W,h.H,h.d,by show _=(q.P.set i l).length;rw [List.length_set];exact h.n⟩
theorem set_smp {d:Nat} {l:List Int} (h:SmpOk d l) (k:Nat) {v:Int} (h0:0<=v) (h1:v<2^d):SmpOk d (l.set k v):=by
 intro x hx
 rcases List.mem_or_eq_of_mem_set hx with h2 | h2
 ·exact h x h2
 ·rw [h2];exact ⟨h0,h1⟩
def padF (bs:List Nat):List Nat:=bs++List.replicate ((8-bs.length%8)%8) 0
theorem padF_len (bs:List Nat):(padF bs).length=8*((bs.length+7) / 8):=by
 unfold padF
 rw [zC,zV]
 omega
theorem walign_ok (w:World) (b:Nat) (F bs:List Nat) (h:IsWr w b F bs) (hlen:bs.length<549755813000) :
  Calls Tryz.prog 66 #[.pointer (some ⟨b,0,none⟩)] w fun e w'=>e=.returned (.tuple #[])/\∃ F',IsWr w' b F' (padF bs)/\Grow F F' w w':=by
 have HW:=hid h
 clear h
 go_enter Tryz.func66,Tryz.ntmps66
 go_wp2_with fail
 go_loopg [] ((8-bs.length%8)%8) (fun j wr=>∃ (i:Nat) (F':List Nat),i+j=(8-bs.length%8)%8/\Hid (IsWr wr b F' (bs++List.replicate i 0))/\Hid (Grow F F' w wr))
 case atStart=>exact ⟨0,F,by omega,hid (by simpa using HW.out),hid (Grow.refl _ _)⟩
 case round =>
  obtain ⟨i,F',ae,HR,HG⟩:=hrel
  obtain ⟨v,G,hb,-,-⟩:=HR.out.ex
  have c1:=hb.cell 1
  simp only [zC,zV] at c1
  simp at c1
  obtain ⟨q,hq⟩:=zX (bs.length+i)
  have aa:((bs.length:Int)+(i:Int))=(q:Int):=by omega
  rw [aa] at c1
  rcases gk with _ | j
  ·have hm:(q:Int)%8=0:=by omega
   obtain rfl:i=(8-bs.length%8)%8:=by omega
   clear hb hq aa
   go_wp2
   go_end0
   exact ⟨rfl,F',HR.out,HG.out⟩
  ·obtain ⟨r,hr⟩:=zX (q%8)
   have hm:(q:Int)%8=(r:Int):=by omega
   have af:((r:Int) != 0)=true:=by rw [bne_iff_ne];omega
   have ad:=bit_any wr b F' _ 0 HR.out (by omega) (by rw [zC,zV];omega)
   clear hb hq aa hr
   go_wp2_with fail
   refine ad.mono ?_
   rintro e w2 ⟨rfl,F2,ab,ac⟩
   go_wp2_with fail
   go_roundg j
   case measure=>omega
   case rel =>
    refine ⟨i+1,F2,by omega,hid ?_,hid (HG.out.trans ac)⟩
    rw [List.replicate_succ',<-zH]
    exact ab
theorem packed_dig {bs:List Nat} (h:∀ b∈bs,b<2):∀ d∈packed bs,d<256:=by
 intro d hd
 obtain ⟨i,_,rfl⟩:=List.mem_map.1 hd
 exact byteAt_lt h i
theorem bt_lt {bs:List Nat} (h:∀ b∈bs,b<2) (k:Nat):bt bs k<2:=by
 unfold bt
 rw [zD]
 cases hx:bs[k]? with
 | none=>simp
 | some x=>exact h x (List.mem_of_getElem? hx)
theorem bitAt_packed {bs:List Nat} (h:∀ b∈bs,b<2) {i:Nat} (hi:i<bs.length):bitAt (packed bs) i=bt bs i:=by
 have hq:i / 8<(bs.length+7) / 8:=by omega
 have e:(packed bs).getD (i / 8) 0=byteAt bs (i / 8):=by
  rw [zD]
  unfold packed
  rw [zW,List.getElem?_range hq]
  rfl
 unfold bitAt
 rw [e]
 obtain ⟨q,ab⟩:=zX (i / 8)
 obtain ⟨r,aa⟩:=zX (i%8)
 have ac:i=8*q+r:=by omega
 have ad:r<8:=by omega
 rw [<-ab,<-aa,ac]
 have b0:=bt_lt h (8*q)
 have b1:=bt_lt h (8*q+1)
 have b2:=bt_lt h (8*q+2)
 have b3:=bt_lt h (8*q+3)
 have b4:=bt_lt h (8*q+4)
 have b5:=bt_lt h (8*q+5)
 have b6:=bt_lt h (8*q+6)
 have b7:=bt_lt h (8*q+7)
 unfold byteAt
 clear ab aa ac hq e hi
 obtain rfl | rfl | rfl | rfl | rfl | rfl | rfl | rfl:r=0\/r=1\/r=2\/r=3\/r=4\/r=5\/r=6\/r=7:=by omega
 all_goals
  simp only [Nat.add_zero,Nat.sub_zero,Nat.sub_self,Nat.reduceSub,Nat.reducePow]
  omega
theorem allBits_packed {bs:List Nat} (h:∀ b∈bs,b<2):∃ rest,allBits (packed bs)=bs++rest:=by
 refine ⟨(allBits (packed bs)).drop bs.length,?_⟩
 have aa:bs.length<=(allBits (packed bs)).length:=by rw [allBits_len,packed_len];omega
 have e:(allBits (packed bs)).take bs.length=bs:=by
  apply List.ext_getElem?
  intro i
  rcases zZ i bs.length with hi | hi
  ·rw [List.getElem?_take,if_pos hi,allBits_get (by rw [packed_len];omega),bitAt_packed h hi]
   unfold bt
   rw [zD,zF hi]
   rfl
  ·rw [List.getElem?_take,if_neg (by omega),List.getElem?_eq_none hi]
 have e2:=List.take_append_drop bs.length (allBits (packed bs))
 rw [e] at e2
 exact e2.symm
theorem ahead_packed {A B C:List Nat} (h:∀ b∈A++B++C,b<2):Ahead (packed (A++B++C)) A.length B:=by
 obtain ⟨rest,hr⟩:=allBits_packed h
 refine ⟨C++rest,?_⟩
 rw [hr,zH,zH,List.drop_left]
end Go.Proofs.YtklocammllljiaaGreatDoor
