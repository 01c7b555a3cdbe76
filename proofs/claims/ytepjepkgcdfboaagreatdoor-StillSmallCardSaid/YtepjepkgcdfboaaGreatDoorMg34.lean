/- bits.Reader by its contracts, the third part: Signed. -/
import Derived.Test.YtepjepkgcdfboaaGreatDoorMg18
set_option linter.unusedVariables false
set_option linter.unusedSimpArgs false
set_option maxHeartbeats 4000000
set_option maxRecDepth 100000
namespace Go.Proofs.YtepjepkgcdfboaaGreatDoor
open Go.RowKit
theorem sgn_mod {x:Int} {n:Nat} (h:fitsB x n=true):sgnOf (modN x n) n=x:=by
 unfold fitsB at h
 simp only [Bool.and_eq_true,decide_eq_true_eq] at h
 obtain ⟨⟨⟨h1,h2⟩,h3⟩,h4⟩:=h
 have hp:(2:Int)^n=2^(n-1)+2^(n-1):=by
  obtain ⟨m,rfl⟩:∃ m,n=m+1:=⟨n-1,by omega⟩
  rw [Int.pow_succ,Nat.add_sub_cancel]
  omega
 have ab:((2^(n-1):Nat):Int)=(2:Int)^(n-1):=by simp
 have aa:=two_pow_pos' (n-1)
 have hc:=modN_cast x n
 unfold sgnOf
 by_cases hx:0<=x
 ·have e:x%2^n=x:=Int.emod_eq_of_lt hx (by omega)
  rw [e] at hc
  rw [if_pos (by omega),hc]
 ·have e:x%2^n=x+2^n:=by
   rw [<-Int.add_emod_right]
   exact Int.emod_eq_of_lt (by omega) (by omega)
  rw [e] at hc
  rw [if_neg (by omega),hc]
  omega
theorem sgn_any {x:Int} {n:Nat} (hn:1<=n) (h:x=0\/fitsB x n=true):sgnOf (modN x n) n=x:=by
 rcases h with rfl | h
 ·have e:modN 0 n=0:=by simp [modN]
  rw [e]
  unfold sgnOf
  rw [if_pos (Nat.two_pow_pos _)]
  rfl
 ·exact sgn_mod h
theorem rsigned_ok (w:World) (b:Nat) (F ds:List Nat) (p n:Nat) (x:Int) (h:IsRd w b F ds p) (hn:n<=31) (hx:x=0\/fitsB x n=true) (ha:Ahead ds p (bitsOf (modN x n) n)) :
  Calls Tryz.prog 280 #[.pointer (some ⟨b,0,none⟩),.int .i64 n] w fun e w'=>e=.returned (.int .i64 x)/\IsRd w' b F ds (p+n)/\Chg [b] w w':=by
 have aa:=rget_ahead w b F ds p n (modN x n) h (by omega) (modN_lt x n) ha
 rcases Nat.eq_zero_or_pos n with rfl | ac
 ·have aj:x=0:=by
   rcases hx with h | h
   ·exact h
   ·simp [fitsB] at h
  subst aj
  clear hx ha h
  have t1:(((0:Nat):Int)==0)=true:=rfl
  go_enter Tryz.func280,Tryz.ntmps280
  go_wp2_with fail
  refine aa.mono ?_
  rintro e w1 ⟨rfl,ab,ae⟩
  obtain ⟨ak,ah,af,A,cap,ag⟩:=rd_cells ab
  clear aa
  go_wp2
  go_ret
  exact ⟨rfl,ab,ae⟩
 ·have ad:=sgn_shift ac (by omega) (modN_lt x n)
  rw [sgn_any ac hx] at ad
  have ai:=modN_lt x n
  rw [IntWalk.i64_left,Int.fdiv_eq_ediv_of_nonneg _ (by have:=two_pow_pos' (64-n);omega)] at ad
  obtain ⟨v,hv⟩:=zX (modN x n)
  rw [<-hv] at aa ad ai
  have t1:((n:Int)==0)=false:=by rw [beq_eq_false_iff_ne];omega
  have e1:(64:Int)-(n:Int)=((64-n:Nat):Int):=by omega
  clear hx ha h hv
  go_enter Tryz.func280,Tryz.ntmps280
  go_wp2_with fail
  refine aa.mono ?_
  rintro e w1 ⟨rfl,ab,ae⟩
  obtain ⟨ak,ah,af,A,cap,ag⟩:=rd_cells ab
  clear aa
  go_wp2
  go_ret
  exact ⟨rfl,ab,ae⟩
def rawBits (n:Nat) (l:List Int):List Nat:=l.flatMap fun x=>bitsOf (modN x n) n
theorem rawBits_split (n:Nat) (l:List Int) {m:Nat} (hm:m<l.length):rawBits n (l.drop m)=bitsOf (modN l[m] n) n++rawBits n (l.drop (m+1)):=by
 unfold rawBits
 rw [List.drop_eq_getElem_cons hm,List.flatMap_cons]
theorem pone_ok (w:World) (b:Nat) (F ds:List Nat) (p k:Nat) (l:List Int) (h:IsRd w b F ds p) (hk:k<=25\/k=31) (hw:∀ x∈l,wideP x) (hl:l.length<=4096) (ha:Ahead ds p (partBits k l)) :
  Calls Tryz.prog 260 #[.pointer (some ⟨b,0,none⟩),.int .i64 l.length] w fun e w'=>∃ v G,e=.returned (.tuple #[.int .i64 k,v,.int .i64 0])/\Own w' 3 v G (l.map vi)/\IsRd w' b F ds (p+(partBits k l).length)/\Chg [b] w w'/\∀ x∈G,w.heap.size<=x:=by
 unfold partBits at ha ⊢
 have aw:k<2^5:=by omega
 have ak:=rget_ahead w b F ds p 5 k h (by omega) aw ha.left
 have aa:=ha.right
 rw [bitsOf_len] at aa
 have aX:=h.lt b h.mem
 rcases hk with hk | rfl
 ·rw [if_neg (by omega)] at aa ⊢
  have al:=fun w' (hr:IsRd w' b F ds (p+5))=>rgets_ok w' b F ds (p+5) k l hr hk hw (by omega) aa
  have t1:decide ((k:Int)<=25)=true:=zB (by omega)
  have aV:=hid al
  have HW:=hid hw
  rw [zC,bitsOf_len]
  generalize (rbitsAll k l).length=q at *
  generalize l.length=n at *
  clear al ha aa hw h
  go_enter Tryz.func260,Tryz.ntmps260
  go_wp2_with fail
  refine ak.mono ?_
  rintro e w1 ⟨rfl,ac,ab⟩
  have al:=aV.out w1 ac
  clear ak
  go_wp2_with (go_at_call 69;refine (err_ok _ b F ds _ ac).mono ?_;rintro e w' ⟨rfl,rfl⟩)
  refine al.mono ?_
  rintro e w2 ⟨v,G,rfl,ho,af,ae,hG⟩
  go_wp2
  refine bodyPost_ret (v:=.tuple #[.int .i64 k,v,.int .i64 0]) (by simp [results,Tryz.results260,go_sem]) rfl ?_
  exact ⟨v,G,rfl,ho,af.cast (by omega),ab.trans_same ae,fun x hx=>Nat.le_trans ab.size (hG x hx)⟩
 ·rw [if_pos rfl] at aa ⊢
  have az:=widthL_le hw
  have aq:=widthL_fits hw
  have ah:=fun A cap w' (hc:Cells vi w' A l)=>width_ok l A cap w' hw hc (by omega)
  obtain ⟨wd,aj⟩:=zX (widthL l)
  rw [<-aj] at aa az aq ah ⊢
  have ag:=fun w' (hr:IsRd w' b F ds (p+5))=>rget_ahead w' b F ds (p+5) 5 wd hr (by omega) (by omega) aa.left
  have av:=aa.right
  rw [bitsOf_len] at av
  have aB:Ahead ds (p+5+5) (rawBits wd (l.drop 0)):=by rw [List.drop_zero];exact av
  have ad:(bitsOf 31 5++(bitsOf wd 5++l.flatMap fun x=>bitsOf (modN x wd) wd)).length=5+(5+(rawBits wd l).length):=by
   rw [zC,zC,bitsOf_len,bitsOf_len];rfl
  rw [ad]
  obtain ⟨n,hn⟩:=zX (l.length)
  rw [<-hn] at hl ⊢
  have HN:=hid hn
  have aJ:=hid h.lt
  have HA:=hid aB
  have aL:=hid ag
  have aM:=hid aq
  have aK:=hid ah
  clear hn aB av aa ha ag aq ah aj ad hw h
  go_enter Tryz.func260,Tryz.ntmps260
  go_wp2_with fail
  refine ak.mono ?_
  rintro e w1 ⟨rfl,ac,ab⟩
  have ag:=aL.out w1 ac
  clear ak
  go_wp2_with (go_at_call 69;refine (err_ok _ b F ds _ ac).mono ?_;rintro e w' ⟨rfl,rfl⟩)
  refine ag.mono ?_
  rintro e w2 ⟨rfl,af,ae⟩
  have ai:=ab.trans_same ae
  clear ag ac ab ae
  go_wp2_with fail
  go_loopg [11,38] n (fun j v iv wr=>∃ G p' out,j<=n/\iv=.int .i64 ((n-j:Nat):Int)/\Own wr 3 v G (out.map vi)/\Hid (out=l.take (n-j))/\IsRd wr b F ds p'/\Hid (Ahead ds p' (rawBits wd (l.drop (n-j))))/\Hid (p'+(rawBits wd (l.drop (n-j))).length=p+5+5+(rawBits wd l).length)/\Chg [b] w wr/\∀ x∈G,w.heap.size<=x)
  case atStart=>exact ⟨[],p+5+5,[],zQ _,by simp,Own.nil _ _,hid (by simp),af,hid (by rw [Nat.sub_self];exact HA.out),hid (by simp),ai,by simp⟩
  case round =>
   clear af ai
   obtain ⟨G,p',out,hj,rfl,ho,Ho,an,Ha,Hp,ao,hG⟩:=hrel
   have HG:=hid hG
   clear hG
   rcases gk with _ | j
   ·obtain ⟨A,cap,rfl,aQ,aH,aR⟩:=ho.open_map
    have t4:decide (((n-0:Nat):Int)<(n:Int))=false:=by simp
    have aN:decide (n<n)=false:=by simp
    have e:l.take (n-0)=l:=by rw [HN.out,Nat.sub_zero,zN]
    have e2:l.drop (n-0)=[]:=by rw [HN.out,Nat.sub_zero,List.drop_length]
    have aG:out=l:=Ho.out.trans e
    have hp:=Hp.out
    rw [e2] at hp
    have aE:p'=p+5+5+(rawBits wd l).length:=by simpa [rawBits] using hp
    subst aG
    have ah:=aK.out A cap wr aR
    have HP:=hid aE
    clear e e2 hp aE Ho Hp Ha
    go_wp2_with (go_at_call 69;refine (err_ok _ b F ds _ an).mono ?_;rintro e w' ⟨rfl,rfl⟩)
    refine ah.mono ?_
    rintro e w' ⟨rfl,rfl⟩
    go_wp2_with fail
    refine bodyPost_ret (v:=.tuple #[.int .i64 31,.slice A out.length cap,.int .i64 0]) (by simp [results,Tryz.results260,go_sem]) rfl ?_
    exact ⟨_,G,rfl,ho,an.cast (by rw [HP.out];omega),ao,HG.out⟩
   ·obtain ⟨A,cap,rfl,aQ,aH,-⟩:=ho.open_map
    obtain ⟨m,aC⟩:=zX (n-(j+1))
    rw [<-aC] at Ha Hp Ho ⊢
    have aD:m<n:=by omega
    have aF:n-j=m+1:=by omega
    have HM:=hid aF
    clear aC aF
    have ar:m<l.length:=by rw [<-HN.out];exact aD
    have am:=rawBits_split wd l ar
    have ap:=take_snoc' l ar
    have ax:=aM.out l[m] (zG _)
    obtain ⟨x,hx⟩:=zX (l[m])
    rw [<-hx] at am ax ap
    have aa:=Ha.out
    rw [am] at aa
    have aA:=rsigned_ok wr b F ds p' wd x an az ax aa.left
    have aO:=hid aa.right
    have aG:out.length<=4096:=by rw [Ho.out,zI];omega
    have aU:=hid ap
    have aW:=hid am
    have t4:decide (m<n)=true:=zB aD
    have aN:decide ((m:Int)<(n:Int))=true:=zB (by omega)
    clear am ap hx aa ar ax
    go_wp2_with fail
    refine aA.mono ?_
    rintro e aS ⟨rfl,ac,ab⟩
    have au:∀ y∈G,y∉[b]:=fun y hy=>by have:=HG.out y hy;simp;omega
    have aT:=ho.chg ab au
    have HB:=hid au
    clear aA au
    go_wp2_with (at_builtin;refine wpList_append_o1 rfl rfl int_elem rfl rfl (aT.alloc _) (.int .i64 x) rfl ?c1 ?c2 ?c3 ?c4 ?_)
    case c1=>simp [go_sem]
    case c2=>rfl
    case c3=>rw [zE];omega
    case c4=>rw [zE];omega
    intro g2 aP w2' af ay
    go_wp2_with fail
    go_roundg j
    case measure=>omega
    case rel =>
     rw [HM.out]
     have ae:Chg [b] w w2':=(ao.trans_same (ab.alloc _)).trans ay.chg fun x hx => .inr (HG.out x hx)
     have aI:∀ y∈F,y∉G:=fun y hy hyG=>by have:=HG.out y hyG;have:=aJ.out y hy;omega
     refine ⟨[g2],_,out++[x],by omega,by go_num,?_,?_,(ac.same ((zR [] aS).alloc _)).chg ay.chg aI,hid (by have:=aO.out;rw [bitsOf_len] at this;exact this),?_,ae,?_⟩
     ·have:=af.toOwn
      simpa [vi] using this
     ·exact hid (by rw [Ho.out,aU.out])
     ·refine hid ?_
      rw [<-Hp.out,aW.out,zC,bitsOf_len]
      omega
     ·intro y hy
      simp at hy
      subst hy
      rcases ay.new y (by simp) with h1 | h1
      ·exact HG.out y h1
      ·have:=ao.size
       have:=ab.size
       simp at h1
       omega
theorem modelBits_pre (l:List Int) (W d:Nat):∀ (k i:Nat),∃ r,modelBits l W d (i+k)=modelBits l W d i++r
 | 0,i=>⟨[],by simp⟩
 | k+1,i=>by
  obtain ⟨r,hr⟩:=modelBits_pre l W d k i
  exact ⟨r++bitsAtM (modelTo l W d (i+k)) l W d (i+k),by rw [show i+(k+1)=(i+k)+1 by omega,modelBits,hr,zH]⟩
theorem fill_smp {d:Nat} {l:List Int} (hs:SmpOk d l) (i n:Nat):SmpOk d (fillL (l.take i) n):=by
 intro s h
 unfold fillL at h
 rcases zP.1 h with h | h
 ·exact hs s (List.mem_of_mem_take h)
 ·rw [List.eq_of_mem_replicate h];exact ⟨Int.le_refl _,two_pow_pos' d⟩
theorem mget_ok (w:World) (b:Nat) (F ds:List Nat) (p:Nat) (l:List Int) (W H d:Nat) (h:IsRd w b F ds p) (hw0:1<=W) (hw1:W<=64) (hh0:1<=H) (hh1:H<=64) (h0:1<=d) (h1:d<=16) (hl:l.length=W*H) (hs:SmpOk d l) (ha:Ahead ds p (modelBits l W d (W*H))) :
  Calls Tryz.prog 179 #[.pointer (some ⟨b,0,none⟩),.int .i64 W,.int .i64 H,.int .i64 d] w fun e w'=>∃ v g,e=.returned (.tuple #[v,.int .i64 0])/\Row w' 3 v g (l.map vi)/\IsRd w' b F ds (p+(modelBits l W d (W*H)).length)/\Chg [b] w w'/\w.heap.size<=g:=by
 have bC:l.length<=4096:=by rw [hl];exact zL hw1 hh1
 obtain ⟨bL,aX⟩:=pow_d h0 h1
 have bi:=fun i=>modelTo_ok l W h0 h1 aX i
 obtain ⟨n,hn⟩:=zX (l.length)
 have bP:n<=64*W:=by rw [hn,hl,zY];exact Nat.mul_le_mul_right W hh1
 have bR:(W:Int)*(H:Int)=(n:Int):=by rw [hn,hl];simp
 rw [<-hl,<-hn] at ha ⊢
 rw [<-hn] at bC
 have bT:=run_make1 (P:=Tryz.prog) int_elem rfl .i64 .i64 n (by omega) (by omega)
 have t1:decide ((W:Int)<1)=false:=zA (by omega)
 have t2:decide ((64:Int)<(W:Int))=false:=zA (by omega)
 have t3:decide ((H:Int)<1)=false:=zA (by omega)
 have t4:decide ((64:Int)<(H:Int))=false:=zA (by omega)
 have aL:=mnew_ok d w h0 h1
 have bQ:=h.lt b h.mem
 have bc:=h.lt
 have HA:=hid ha
 have bH:=hid bi
 have HS:=hid hs
 have HN:=hid hn
 have HP:=hid aX
 have bp:=hid bc
 clear bi hs hn hl aX ha bc
 go_enter Tryz.func179,Tryz.ntmps179
 go_wp2_with fail
 refine aL.mono ?_
 rintro e w1 ⟨bm,rfl,a0,aZ,bV⟩
 have a4:=h.same aZ
 have ad:=Row.zeros w1 n (by omega)
 obtain ⟨B,hB⟩:=zX (w1.heap.size)
 have aP:Chg [] w1 (w1.alloc (.cells (List.replicate n (Value.int .i64 0)).toArray 3)):=(zR [] w1).alloc _
 have aC:=a0.chg aP (by simp)
 have bz:=a4.same aP
 have bJ:bm<B:=by rw [hB];exact a0.lt
 rw [<-hB] at ad
 have HB:=hid hB
 have ak:=hid aZ
 clear aL h hB a0 aZ
 go_wp2_with (go_at_call 69;refine (err_ok _ b F ds _ a4).mono ?_;rintro e w' ⟨rfl,rfl⟩)
 rw [<-HB.out]
 go_loopg [14,15,16,17,18,19,20,55] n (fun j va vb vc vd ve vf vg iv wr=>∃ (i p':Nat),iv=.int .i64 i/\i+j=n/\Row wr 3 (.slice (some ⟨B,0,none⟩) n n) B ((fillL (l.take i) n).map vi)/\IsRd wr b F ds p'/\Hid (p'=p+(modelBits l W d i).length)/\IsMd wr bm d (modelTo l W d i)/\Hid (Chg [b] w wr))
 case atStart=>exact ⟨0,p,rfl,by omega,by simpa using ad,bz,hid (by simp [modelBits]),aC,hid ((ak.out.trans aP (by simp)).mono (by simp))⟩
 case round =>
  clear ad bz aC aP a4
  obtain ⟨i,p',rfl,bX,aa,a1,Hp,ah,bD⟩:=hrel
  rcases gk with _ | j
  ·obtain rfl:n=i:=by omega
   have t5:decide (n<n)=false:=by simp
   have e:fillL (l.take n) n=l:=by
    have:=fill_all l
    rw [<-HN.out] at this
    exact this
   rw [e] at aa
   go_wp2_with fail
   go_ret2
   exact ⟨_,B,rfl,aa,a1.cast Hp.out,bD.out,by have:=HB.out;have:=ak.out.size;omega⟩
  ·have au:i<n:=by omega
   have t5:decide (i<n)=true:=zB au
   obtain ⟨x,hx⟩:=zX (i%W)
   obtain ⟨y,hy⟩:=zX (i / W)
   have bj:x<W:=by rw [hx];exact Nat.mod_lt _ (by omega)
   have bw:y*W+x=i:=by rw [hx,hy,zY];exact Nat.div_add_mod i W
   have aR:nbr (fillL (l.take i) n) W (i%W) (i / W)=nbr l W (i%W) (i / W):=by
    have:=nbr_fill (l:=l) bj bw (by rw [<-HN.out];omega)
    rw [<-HN.out,hx,hy] at this
    exact this
   clear hx hy bj bw
   have ai:(fillL (l.take i) n).length=n:=fillL_len (by rw [zI];omega)
   have ab:=bH.out i
   have bs:=ctxN_lt (nbr l W (i%W) (i / W)) d
   obtain ⟨r,hr⟩:=modelBits_pre l W d (n-(i+1)) (i+1)
   rw [show i+1+(n-(i+1))=n by omega] at hr
   have aG:modelBits l W d (i+1)=modelBits l W d i++bitsAtM (modelTo l W d i) l W d i:=rfl
   have aQ:modelTo l W d (i+1)=nextM (modelTo l W d i) l W d i:=rfl
   have a7:=HA.out
   rw [hr] at a7
   have a8:=a7.left
   rw [aG] at a8
   have av:=a8.right
   rw [<-Hp.out] at av
   obtain ⟨m,hm⟩:=zX (modelTo l W d i)
   rw [<-hm] at ah aG aQ ab av
   have a5:=look_ok' bm d m (fillL (l.take i) n) (some ⟨B,0,none⟩) n W i wr ah ab h0 h1 hw0 hw1 (by rw [ai];omega) (by omega) (fill_smp HS.out i n) aa.toOwn.cells (by rw [ai];exact bC)
   have ec:ctxAt (fillL (l.take i) n) W d i=ctxAt l W d i:=by unfold ctxAt;rw [aR]
   have et:turnAt (fillL (l.take i) n) W d i=turnAt l W d i:=by unfold turnAt;rw [aR]
   have ep:predAt m (fillL (l.take i) n) W d i=predAt m l W d i:=by unfold predAt;rw [ec,et,aR]
   rw [ec,et,ep,ai] at a5
   have a6:i<l.length:=by rw [<-HN.out];exact au
   have aO:=getD_ok HS.out i
   have bq:=guessM_ok (statAt m (ctxAt l W d i)) (guessI 7 (nbr l W (i%W) (i / W)) d) (turnAt l W d i) (d:=d) bL
   have bB:predAt m l W d i=guessM (statAt m (ctxAt l W d i)) (guessI 7 (nbr l W (i%W) (i / W)) d) (turnAt l W d i) d:=rfl
   rw [<-bB] at bq
   have ao:=errOf_range (l.getD i 0) (predAt m l W d i) (turnAt l W d i) h0
   have aW:=errOf_mid (l.getD i 0) (predAt m l W d i) (turnAt l W d i) h0 h1
   have aD:=errRange16 h1 ao
   have an:=errOf_back (g:=predAt m l W d i) (turnAt l W d i) aO.1 aO.2
   have a2:errAt m l W d i=errOf (l.getD i 0) (predAt m l W d i) (turnAt l W d i) d:=rfl
   rw [<-a2] at ao aW an aD
   have bf:=foldI_in h0 ao.1 ao.2
   have br:bitsAtM m l W d i=rbits (kOf (statAt m (ctxAt l W d i))) (errAt m l W d i):=rfl
   have bu:nextM m l W d i=m.set (ctxAt l W d i) (learnS (statAt m (ctxAt l W d i)) (errAt m l W d i)):=rfl
   rw [br] at av aG
   rw [bu] at aQ
   have aq:ctxAt l W d i<365:=bs
   have bS:=kOf_le (statAt_mem ab aq).2
   have aM:=take_snoc' l a6
   have bn:l[i]=l.getD i 0:=by rw [zD,zF a6];rfl
   rw [bn] at aM
   have aT:(l.take i).length=i:=by rw [zI];omega
   obtain ⟨aS,aN⟩:=aa.fill_cell (by rw [aT];exact au)
   have a3:=hid aa
   rw [aT] at aS aN
   generalize ctxAt l W d i=cx at *
   generalize predAt m l W d i=pr at *
   generalize turnAt l W d i=tb at *
   generalize errAt m l W d i=er at *
   obtain ⟨xv,aI⟩:=zX (l.getD i 0)
   rw [<-aI] at an aM aO a2
   have bd:=fun w h=>mk_ok bm d m cx w h ab aq
   generalize kOf (statAt m cx)=kk at *
   have ac:=fun w h=>learn_ok bm d m cx er w h ab h0 h1 aq ao.1 ao.2
   obtain ⟨bO,ax⟩:=bq
   have bW:pr<65536:=Int.lt_of_lt_of_le ax HP.out
   have am:=fun w' (hq:IsRd w' b F ds p')=>rgets_ok w' b F ds p' kk [er] hq (by omega) (fun z hz=>by rw [zU.1 hz];exact aW) (by simp) (by simpa [rbitsAll] using av)
   have aY:=fun w'=>fold_ok er d w' h0 h1
   rw [bf] at aY
   have bE:=fun v w'=>wrap_ok v d w' h0 h1
   have t6:(er != er)=false:=by simp
   have bF:=hid ac
   have bG:=hid bd
   have bv:=hid aG
   have bo:=hid aQ
   have bA:=hid aM
   have bb:=hid aT
   have bg:=hid an
   have bI:=hid am
   have bM:=hid aY
   have bx:=hid bE
   clear ac bd aG aQ a2 hm bB bs bn br bu ab ao an am aY bE bf aW a7 a8 av hr aR ai ec et ep aI aa aM aT a6 aS aN aO ax
   go_wp2_with fail
   refine a5.mono ?_
   rintro e w2 ⟨rfl,az⟩
   have aw:=a1.same az
   have ap:=ah.chg az (by simp)
   clear a5 a1 ah
   go_wp2_with fail
   refine (bG.out _ ap).mono ?_
   rintro e w3 ⟨rfl,n3,rfl⟩
   have a9:=bI.out _ (aw.same ((zR [] w2).drewN n3))
   rw [show (([er]:List Int).length:Int)=1 from rfl] at a9
   go_wp2_with fail
   refine a9.mono ?_
   rintro e w4 ⟨v4,G4,rfl,ay,aE,aV,bK⟩
   rcases ay.cases with ⟨_,ba,_⟩ | ⟨g4,aB,rfl⟩
   ·exfalso
    have:=congrArg List.length ba
    simp at this
   obtain ⟨c4,rfl,_,_,ae,_⟩:=aB.open_map
   have e0:=ae 0 er rfl
   have bU:w4.cell? ⟨g4,0,none⟩=some (.int .i64 er):=e0
   have bN:b∉[bm]:=by have:=ak.out.size;simp;omega
   have aK:=(ap.chg ((zR [] w2).drewN n3) (by simp)).chg aV (by simp;omega)
   have aF:=hid (((bD.out.trans az (by simp)).drewN n3).trans_same aV)
   have al:=((a3.out.chg az (by simp)).drewN n3).chg aV (by have:=HB.out;have:=ak.out.size;simp;omega)
   have be:=bF.out w4 aK
   have aH:=bM.out w4
   rw [show (([er]:List Int).length)=1 from rfl]
   clear ay aB ae e0 ap aw az aV a9 bK aK
   go_wp2_with (go_at_call 84;refine aH.mono ?_;rintro e w' ⟨rfl,rfl⟩)
   refine be.mono ?_
   rintro e w5 ⟨rfl,aJ,aU⟩
   have ag:=al.chg aU (by simp;omega)
   obtain ⟨aS,aN⟩:=ag.fill_cell (by rw [bb.out];exact au)
   have af:=ag.fill (by rw [bb.out];exact au) xv
   rw [bb.out] at aS aN af
   have bh:=hid af
   have aA:=aE.chg aU (fun z hz hm=>by simp at hm;have:=bp.out z hz;have:=ak.out.size;omega)
   have aj:=hid (aF.out.trans aU (fun z hz => .inr (by simp at hz;omega)))
   have ar:Chg [B] w5 (w5.setCell ⟨B,i,none⟩ (.int .i64 xv)):=(zR _ _).setCell (.inl (by simp)) _
   have bk:∀ z∈F,z∉[B]:=fun z hz hm=>by simp at hm;have:=bp.out z hz;have:=ak.out.size;have:=HB.out;omega
   have bl:=hid bk
   clear be al ag af aE aU aH bk
   cases tb with
   | false =>
    have an:wrapI (pr+er) d=xv:=bg.out
    have hw:=bx.out (pr+er)
    rw [an] at hw
    go_wp2_with (go_at_call 83;refine (hw _).mono ?_;rintro e w' ⟨rfl,rfl⟩)
    go_roundg j
    case measure=>omega
    case rel =>
     refine ⟨i+1,p'+(rbitsAll kk [er]).length,by go_num,by omega,?_,aA.chg ar bl.out,hid ?_,?_,hid (aj.out.trans ar (fun z hz => .inr (by simp at hz;have:=HB.out;have:=ak.out.size;omega)))⟩
     ·rw [bA.out];exact bh.out
     ·rw [bv.out,zC,Hp.out];simp [rbitsAll];omega
     ·rw [bo.out];exact aJ.chg ar (by simp;omega)
   | true =>
    have an:wrapI (pr + -er) d=xv:=bg.out
    have hw:=bx.out (pr + -er)
    rw [an] at hw
    go_wp2_with (go_at_call 83;refine (hw _).mono ?_;rintro e w' ⟨rfl,rfl⟩)
    go_roundg j
    case measure=>omega
    case rel =>
     refine ⟨i+1,p'+(rbitsAll kk [er]).length,by go_num,by omega,?_,aA.chg ar bl.out,hid ?_,?_,hid (aj.out.trans ar (fun z hz => .inr (by simp at hz;have:=HB.out;have:=ak.out.size;omega)))⟩
     ·rw [bA.out];exact bh.out
     ·rw [bv.out,zC,Hp.out];simp [rbitsAll];omega
     ·rw [bo.out];exact aJ.chg ar (by simp;omega)
def TokAt (l:List Int) (i:Nat) (t:Tok):Prop :=
 (t.len=0/\t.dist=0/\t.lit=l.getD i 0)\/(1<=t.len/\i+t.len<=l.length/\1<=t.dist/\t.dist<=i/\∀ j,j<t.len->l.getD (i+j) 0=l.getD (i+j-t.dist) 0)
def RunsAt (l:List Int) (k:Nat) (rs:List Nat):Prop:=∀ d,1<=d->d<=k->∀ j,j<rs.getD d 0->l.getD (k+j) 0=l.getD (k+j-d) 0
structure DInv (l:List Int) (k:Nat) (rs:List Nat) (d:Nat) (s:DSt):Prop where
 r1:∀ e,1<=e->e<d->∀ j,j<s.runs.getD e 0->l.getD (k+j) 0=l.getD (k+j-e) 0
 r2:∀ e,d<=e->s.runs.getD e 0=rs.getD e 0
 dd:∀ m,s.dists.getD m 0≠0->s.dists.getD m 0<d/\m<=s.runs.getD (s.dists.getD m 0) 0
theorem fillD_get:∀ f D m d n,(fillD f D m d).getD n 0=D.getD n 0\/((fillD f D m d).getD n 0=d/\m<n/\n<=m+f)
 | 0,_,_,_,_ => .inl rfl
 | f+1,D,m,d,n=>by
  rw [fillD]
  rcases fillD_get f (D.set (m+1) d) (m+1) d n with h | ⟨h,h1,h2⟩
  ·rw [h,getD_set]
   split
   ·exact .inr ⟨rfl,by omega,by omega⟩
   ·exact .inl rfl
  ·exact .inr ⟨h,by omega,by omega⟩
theorem runAt_good {l:List Int} {k d:Nat} {rs rs0:List Nat} (h:RunsAt l (k+1) rs0) (e:rs.getD d 0=rs0.getD d 0) (h1:1<=d) (h2:d<=k):∀ j,j<runAt l k rs d->l.getD (k+j) 0=l.getD (k+j-d) 0:=by
 intro j hj
 unfold runAt at hj
 split at hj
 ·rename_i hq
  cases j with
  | zero=>exact hq
  | succ j =>
   have:=h d h1 (by omega) j (by rw [<-e];omega)
   rw [show k+(j+1)=k+1+j by omega]
   exact this
 ·omega
theorem dStep_inv {l:List Int} {k d:Nat} {rs:List Nat} {s:DSt} (hr:RunsAt l (k+1) rs) (hs:s.Ok) (h:DInv l k rs d s) (h1:1<=d) (h2:d<=k) (h3:d<=1024):DInv l k rs (d+1) (dStep l k s d):=by
 have hg:=runAt_good (rs:=s.runs) hr (h.r2 d (zQ _)) h1 h2
 have aa:d<s.runs.length:=by rw [hs.rl];omega
 refine ⟨fun e he1 he2 j hj => ?_,fun e he => ?_,fun m hm => ?_⟩
 ·have ab:j<(s.runs.set d (runAt l k s.runs d)).getD e 0:=hj
  rw [getD_set] at ab
  split at ab
  ·rename_i hq
   obtain ⟨rfl,_⟩:=hq
   exact hg j ab
  ·rename_i hq
   exact h.r1 e he1 (by
    have:¬ d=e:=fun hh=>hq ⟨hh,aa⟩
    omega) j ab
 ·show (s.runs.set d (runAt l k s.runs d)).getD e 0=_
  rw [getD_set,if_neg (by omega)]
  exact h.r2 e (by omega)
 ·have ac:(fillD (runAt l k s.runs d-s.longest) s.dists s.longest d).getD m 0≠0:=hm
  show (fillD (runAt l k s.runs d-s.longest) s.dists s.longest d).getD m 0<d+1/\m<=(s.runs.set d (runAt l k s.runs d)).getD ((fillD (runAt l k s.runs d-s.longest) s.dists s.longest d).getD m 0) 0
  rcases fillD_get (runAt l k s.runs d-s.longest) s.dists s.longest d m with e | ⟨e,e1,e2⟩
  ·rw [e] at ac ⊢
   obtain ⟨q1,q2⟩:=h.dd m ac
   refine ⟨by omega,?_⟩
   rw [getD_set,if_neg (by omega)]
   exact q2
  ·rw [e]
   refine ⟨by omega,?_⟩
   rw [getD_set,if_pos ⟨rfl,aa⟩]
   omega
theorem dGo_inv {l:List Int} {k:Nat} {rs:List Nat} (hr:RunsAt l (k+1) rs):∀ f d s,s.Ok->DInv l k rs d s->1<=d->d+f<=k+1->d+f<=1025->DInv l k rs (d+f) (dGo l k f d s)
 | 0,_,_,_,h,_,_,_=>h
 | f+1,d,s,ho,h,h1,h2,h3=>by
  have:=dGo_inv hr f (d+1) _ (dStep_ok (l:=l) (at_:=k) ho (by omega)) (dStep_inv hr ho h h1 (by omega) (by omega)) (by omega) (by omega) (by omega)
  rw [show d+(f+1)=d+1+f by omega]
  exact this
theorem distF_inv {l:List Int} {k:Nat} {rs:List Nat} (hr:RunsAt l (k+1) rs) (ho:RunsOk rs):DInv l k rs (1+min k 1024) (distF l k rs):=by
 refine dGo_inv hr _ _ _ (dStart_ok ho) ⟨fun e h1 h2=>by omega,fun e _=>rfl,fun m hm => ?_⟩ (by omega) (by omega) (by omega)
 exfalso
 apply hm
 show (List.replicate 65 0).getD m 0=0
 rw [zD,List.getElem?_replicate]
 split<;>rfl
theorem getD_far {l:List Nat} {i:Nat} (h:l.length<=i):l.getD i 0=0:=by
 rw [zD,List.getElem?_eq_none h];rfl
theorem distF_runs {l:List Int} {k:Nat} {rs:List Nat} (hr:RunsAt l (k+1) rs) (ho:RunsOk rs):RunsAt l k (distF l k rs).runs:=by
 intro d h1 h2 j hj
 have hi:=distF_inv hr ho
 by_cases h3:d<=1024
 ·exact hi.r1 d h1 (by omega) j hj
 ·rw [getD_far (by rw [(distF_ok ho).rl];omega)] at hj
  omega
theorem tokAt_set {F:List Tok} {i j:Nat} {t:Tok}:tokAt (F.set i t) j=if i=j/\i<F.length then t else tokAt F j:=by
 unfold tokAt
 rw [zD,zD,List.getElem?_set]
 by_cases h:i=j
 ·subst h
  by_cases h2:i<F.length
  ·simp [h2]
  ·simp [h2]
 ·simp [h]
def FirstAt (l:List Int) (k:Nat) (F:List Tok):Prop:=F.length=l.length/\∀ i,k<=i->i<l.length->TokAt l i (tokAt F i)
theorem lOne_first {l:List Int} {cp k n:Nat} {D:List Nat} {p:List Nat × List Tok} (hD:D.getD n 0≠0->3<=n->TokAt l k ⟨n,D.getD n 0,0⟩) (h:FirstAt l k p.2):FirstAt l k (lOne cp k D n p).2:=by
 unfold lOne
 split
 ·exact h
 ·rename_i hq
  split
  ·refine ⟨by rw [List.length_set];exact h.1,fun i h1 h2 => ?_⟩
   rw [tokAt_set]
   split
   ·rename_i he
    obtain ⟨rfl,_⟩:=he
    exact hD (by omega) (by omega)
   ·exact h.2 i h1 h2
  ·exact h
theorem lPick_first {l:List Int} {cp k:Nat} {D:List Nat} (hD:∀ n,D.getD n 0≠0->3<=n->TokAt l k ⟨n,D.getD n 0,0⟩):∀ f m p,FirstAt l k p.2->FirstAt l k (lPick cp k D f m p).2
 | 0,_,_,h=>h
 | f+1,m,p,h=>lPick_first hD f (m+1) _ (lOne_first (hD m) h)
theorem lStep_at {l:List Int} {lit cp k:Nat} {s:LSt} (ho:s.Ok l.length lit (k+1)) (hk:k<l.length) (hr:RunsAt l (k+1) s.runs) (hf:FirstAt l (k+1) s.first):RunsAt l k (lStep l lit cp k s).runs/\FirstAt l k (lStep l lit cp k s).first:=by
 have ac:RunsOk s.runs:=⟨ho.rl,fun x hx=>(ho.rb x hx).1⟩
 have aa:=distF_in (l:=l) (at_:=k) (rs:=s.runs) (B:=l.length-(k+1)) (fun x hx=>(ho.rb x hx).2)
 have ab:=distF_inv hr ac
 refine ⟨distF_runs hr ac,lPick_first (fun n hn h3 => ?_) 65 0 _ ?_⟩
 ·obtain ⟨h1,h2⟩:=ab.dd n hn
  have h4:=aa.db n hn
  have h5:=aa.lb
  refine .inr ⟨by simp only;omega,by simp only;omega,by simp only;omega,by simp only;omega,fun j hj => ?_⟩
  exact ab.r1 _ (by omega) h1 j (by simp only at hj;omega)
 ·refine ⟨by show (s.first.set k _).length=_;rw [List.length_set];exact hf.1,fun i h1 h2 => ?_⟩
  show TokAt l i (tokAt (s.first.set k _) i)
  rw [tokAt_set]
  split
  ·rename_i he
   obtain ⟨rfl,_⟩:=he
   exact .inl ⟨rfl,rfl,rfl⟩
  ·rename_i he
   exact hf.2 i (by
    have:¬ k=i:=fun hh=>he ⟨hh,by rw [hf.1];exact hk⟩
    omega) h2
theorem lGo_at {l:List Int} {lit cp:Nat}:∀ k s,s.Ok l.length lit k->k<=l.length->RunsAt l k s.runs->FirstAt l k s.first->FirstAt l 0 (lGo l lit cp k s).first
 | 0,_,_,_,_,h=>h
 | k+1,s,ho,hk,hr,hf=>by
  obtain ⟨h1,h2⟩:=lStep_at (cp:=cp) ho (by omega) hr hf
  exact lGo_at k _ (lStep_ok ho (by omega)) (by omega) h1 h2
theorem leastSt_at (l:List Int) (lit cp:Nat):FirstAt l 0 (leastSt l lit cp).first:=by
 refine lGo_at _ _ (lStart_ok _ _) (zQ _) (fun d _ _ j hj => ?_) ⟨zV,fun i h1 h2=>by omega⟩
 exfalso
 have:(List.replicate 1025 0).getD d 0=0:=by
  rw [zD,List.getElem?_replicate]
  split<;>rfl
 have aa:j<(List.replicate 1025 0).getD d 0:=hj
 omega
def ToksFrom (l:List Int):Nat->List Tok->Prop
 | i,[]=>l.length<=i
 | i,t::T=>i<l.length/\TokAt l i t/\ToksFrom l (i+max t.len 1) T
theorem tokGo_from {l:List Int} {F:List Tok} (h:FirstAt l 0 F):∀ f i,l.length<=i+f->ToksFrom l i (tokGo F l.length f i)
 | 0,i,hi=>by simpa [tokGo,ToksFrom] using hi
 | f+1,i,hi=>by
  unfold tokGo
  split
  ·rename_i hl
   exact ⟨hl,h.2 i (Nat.zero_le _) hl,tokGo_from h f _ (by omega)⟩
  ·show l.length<=i
   omega
theorem leastF_from (l:List Int) (lit cp:Nat):ToksFrom l 0 (leastF l lit cp):=tokGo_from (leastSt_at l lit cp) _ _ (by omega)
def padF (bs:List Nat):List Nat:=bs++List.replicate ((8-bs.length%8)%8) 0
theorem padF_len (bs:List Nat):(padF bs).length=8*((bs.length+7) / 8):=by
 unfold padF
 rw [zC,zV]
 omega
theorem walign_ok (w:World) (b:Nat) (F bs:List Nat) (h:IsWr w b F bs) (hlen:bs.length<549755813000) :
  Calls Tryz.prog 51 #[.pointer (some ⟨b,0,none⟩)] w fun e w'=>e=.returned (.tuple #[])/\∃ F',IsWr w' b F' (padF bs)/\Grow F F' w w':=by
 have HW:=hid h
 clear h
 go_enter Tryz.func51,Tryz.ntmps51
 go_wp2_with fail
 go_loopg [] ((8-bs.length%8)%8) (fun j wr=>∃ (i:Nat) (F':List Nat),i+j=(8-bs.length%8)%8/\Hid (IsWr wr b F' (bs++List.replicate i 0))/\Hid (Grow F F' w wr))
 case atStart=>exact ⟨0,F,by omega,hid (by simpa using HW.out),hid (Grow.refl _ _)⟩
 case round =>
  obtain ⟨i,F',ae,HR,HG⟩:=hrel
  obtain ⟨v,G,hb,-,-⟩:=HR.out.ex
  have c1:=hb.cell 1
  simp only [zC,zV] at c1
  simp at c1
  obtain ⟨q,hq⟩:=zX (bs.length+i)
  have aa:((bs.length:Int)+(i:Int))=(q:Int):=by omega
  rw [aa] at c1
  rcases gk with _ | j
  ·have hm:(q:Int)%8=0:=by omega
   obtain rfl:i=(8-bs.length%8)%8:=by omega
   clear hb hq aa
   go_wp2
   go_end0
   exact ⟨rfl,F',HR.out,HG.out⟩
  ·obtain ⟨r,hr⟩:=zX (q%8)
   have hm:(q:Int)%8=(r:Int):=by omega
   have af:((r:Int) != 0)=true:=by rw [bne_iff_ne];omega
   have ad:=bit_any wr b F' _ 0 HR.out (by omega) (by rw [zC,zV];omega)
   clear hb hq aa hr
   go_wp2_with fail
   refine ad.mono ?_
   rintro e w2 ⟨rfl,F2,ab,ac⟩
   go_wp2_with fail
   go_roundg j
   case measure=>omega
   case rel =>
    refine ⟨i+1,F2,by omega,hid ?_,hid (HG.out.trans ac)⟩
    rw [List.replicate_succ',<-zH]
    exact ab
theorem alloc_size (w:World) (o:Obj):(w.alloc o).heap.size=w.heap.size+1:=by
 show (w.heap.push o).size=_
 exact Array.size_push _
theorem Blk.new2 (w:World) (o:Obj) (t:TypeId) (cs:Array Value):Blk ((w.alloc o).alloc (.cells cs t)) (w.heap.size+1) t cs:=by
 have h:=Blk.new (w.alloc o) t cs
 rw [alloc_size] at h
 exact h
theorem Blk.new3 (w:World) (o o2:Obj) (t:TypeId) (cs:Array Value):Blk (((w.alloc o).alloc o2).alloc (.cells cs t)) (w.heap.size+1+1) t cs:=by
 have h:=Blk.new2 (w.alloc o) o2 t cs
 rw [alloc_size] at h
 exact h
def picV (p:PicD) (g o cap:Nat):Value:=.agg #[.int .i64 p.W,.int .i64 p.H,.int .i64 p.d,.slice (some ⟨g,o,none⟩) p.P.length cap]
structure PicAt (w:World) (p:PicD) (g o:Nat) (B:Nat->Option Addr) (c:Nat->Nat) (G:List Nat):Prop where
 ok:p.Ok
 gG:g∈G
 lt:∀ x∈G,x<w.heap.size
 cell:∀ i,i<p.P.length->w.cell? ⟨g,o+i,none⟩=some (.slice (B i) (p.W*p.H) (c i))
 cells:∀ i,i<p.P.length->Cells vi w (B i) (p.P.getD i [])
 blk:∀ i,i<p.P.length->∀ ad,B i=some ad->ad.block∈G
 cap:∀ i,i<p.P.length->p.W*p.H<=c i/\c i<=9223372036854775807
section
variable {w w':World} {p:PicD} {g o:Nat} {B:Nat->Option Addr} {c:Nat->Nat} {G F:List Nat}
theorem PicAt.chg (h:PicAt w p g o B c G) (hc:Chg F w w') (hd:∀ x∈G,x∉F):PicAt w' p g o B c G :=
 { h with
  lt:=fun x hx=>Nat.lt_of_lt_of_le (h.lt x hx) hc.size
  cell:=fun i hi=>(World.cell?_of_block (w:=w) (hc.block g (h.lt g h.gG) (hd g h.gG))).trans (h.cell i hi)
  cells:=fun i hi=>(h.cells i hi).chg hc fun ad e=>hd _ (h.blk i hi ad e) }
theorem PicAt.same (h:PicAt w p g o B c G) (hc:Chg [] w w'):PicAt w' p g o B c G:=h.chg hc (by simp)
theorem PicAt.len (h:PicAt w p g o B c G) {i:Nat} (hi:i<p.P.length):(p.P.getD i []).length=p.W*p.H:=h.ok.len _ (by
 rw [zD,zF hi]
 exact zG hi)
theorem PicAt.at_ (h:PicAt w p g o B c G) {i:Nat} (hi:i<p.P.length):∃ b q,B i=some ⟨b,q,none⟩/\b∈G/\∀ k,k<p.W*p.H->w.cell? ⟨b,q+k,none⟩=some (.int .i64 ((p.P.getD i []).getD k 0)):=by
 have hl:=h.len hi
 obtain ⟨b,q,e,hb,hc⟩:=(h.cells i hi).ex (by rw [hl];exact h.ok.pos)
 refine ⟨b,q,e,h.blk i hi _ e,fun k hk => ?_⟩
 refine hc k _ ?_
 rw [zD (l:=p.P.getD i []),zF (by rw [hl];exact hk)]
 rfl
end
theorem rows_el:Elem Tryz.prog 25 22 (.slice none 0 0) 1 24:=.mk' Tryz.underlying25 (by kernel_rfl)
structure PlRows (w:World) (xs:List Value) (P:List (List Int)) (gs:List Nat):Prop where
 lx:xs.length=P.length
 lg:gs.length=P.length
 nd:gs.Nodup
 row:∀ (i:Nat) (l:List Int),P[i]?=some l->∃ u g,xs[i]?=some u/\gs[i]?=some g/\Row w 3 u g (l.map vi)
section
variable {w w':World} {xs:List Value} {P:List (List Int)} {gs F:List Nat}
theorem PlRows.nil (w:World):PlRows w [] [] []:=⟨rfl,rfl,List.nodup_nil,fun i l h=>by simp at h⟩
theorem PlRows.chg (h:PlRows w xs P gs) (hc:Chg F w w') (hd:∀ x∈gs,x∉F):PlRows w' xs P gs :=
 ⟨h.lx,h.lg,h.nd,fun i l hl=>by
  obtain ⟨u,g,h1,h2,h3⟩:=h.row i l hl
  exact ⟨u,g,h1,h2,h3.chg hc (hd g (List.mem_of_getElem? h2))⟩⟩
theorem PlRows.same (h:PlRows w xs P gs) (hc:Chg [] w w'):PlRows w' xs P gs:=h.chg hc (by simp)
theorem PlRows.lt (h:PlRows w xs P gs):∀ x∈gs,x<w.heap.size:=fun x hx=>by
 obtain ⟨i,hi,rfl⟩:=List.getElem_of_mem hx
 have hi':i<P.length:=by rw [<-h.lg];exact hi
 obtain ⟨u,g,h1,h2,h3⟩:=h.row i _ (zF hi')
 rw [zF hi] at h2
 injection h2 with h2
 rw [h2]
 exact h3.lt
theorem PlRows.snoc (h:PlRows w xs P gs) {u:Value} {g:Nat} {l:List Int} (r:Row w 3 u g (l.map vi)) (hg:g∉gs):PlRows w (xs++[u]) (P++[l]) (gs++[g]):=by
 refine ⟨by simp [h.lx],by simp [h.lg],?_,fun i l' hl => ?_⟩
 ·rw [List.nodup_append]
  refine ⟨h.nd,by simp,fun a ha b hb => ?_⟩
  simp at hb
  subst hb
  exact fun e=>hg (by rw [<-e];exact ha)
 ·rcases Nat.lt_trichotomy i P.length with hi | hi | hi
  ·rw [List.getElem?_append_left hi] at hl
   obtain ⟨u',g',h1,h2,h3⟩:=h.row i l' hl
   exact ⟨u',g',by rw [List.getElem?_append_left (by rw [h.lx];exact hi)];exact h1,by rw [List.getElem?_append_left (by rw [h.lg];exact hi)];exact h2,h3⟩
  ·subst hi
   simp at hl
   subst hl
   exact ⟨u,g,by rw [<-h.lx];simp,by rw [<-h.lg];simp,r⟩
  ·rw [List.getElem?_eq_none (by simp;omega)] at hl
   cases hl
theorem PlRows.set (h:PlRows w xs P gs) {i g:Nat} {u:Value} (hx:xs[i]?=some u) (hg:gs[i]?=some g) {l:List Int} (r:Row w' 3 u g (l.map vi)) (hc:Chg [g] w w'):PlRows w' xs (P.set i l) gs:=by
 refine ⟨by rw [h.lx,List.length_set],by rw [h.lg,List.length_set],h.nd,fun k l' hl => ?_⟩
 by_cases hk:i=k
 ·subst hk
  have hi:i<P.length:=by rw [<-h.lx];exact (List.getElem?_eq_some_iff.1 hx).1
  rw [List.getElem?_set_self hi] at hl
  injection hl with hl
  subst hl
  exact ⟨u,g,hx,hg,r⟩
 ·rw [List.getElem?_set_ne hk] at hl
  obtain ⟨u',g',h1,h2,h3⟩:=h.row k l' hl
  refine ⟨u',g',h1,h2,h3.chg hc fun hm => ?_⟩
  simp at hm
  subst hm
  have hi:=(List.getElem?_eq_some_iff.1 hg).1
  have aa:=(List.getElem?_eq_some_iff.1 h2).1
  have e1:=(List.getElem?_eq_some_iff.1 hg).2
  have e2:=(List.getElem?_eq_some_iff.1 h2).2
  exact hk ((List.getElem_inj h.nd).1 (e1.trans e2.symm))
end
structure PicOwn (w:World) (p:PicD) (gP cap:Nat) (xs:List Value) (gs:List Nat):Prop where
 ok:p.Ok
 row:Row w 22 (.slice (some ⟨gP,0,none⟩) p.P.length cap) gP xs
 pl:PlRows w xs p.P gs
def sliceA:Option Value->Option Addr
 | some (.slice a _ _)=>a
 | _=>none
def sliceC:Option Value->Nat
 | some (.slice _ _ c)=>c
 | _=>0
section
variable {w w':World} {p:PicD} {gP cap:Nat} {xs:List Value} {gs F:List Nat}
theorem PicOwn.chg (h:PicOwn w p gP cap xs gs) (hc:Chg F w w') (hP:gP∉F) (hd:∀ x∈gs,x∉F):PicOwn w' p gP cap xs gs:=⟨h.ok,h.row.chg hc hP,h.pl.chg hc hd⟩
theorem PicOwn.same (h:PicOwn w p gP cap xs gs) (hc:Chg [] w w'):PicOwn w' p gP cap xs gs:=h.chg hc (by simp) (by simp)
theorem PicOwn.ltP (h:PicOwn w p gP cap xs gs):gP<w.heap.size:=h.row.lt
theorem PicOwn.plane (h:PicOwn w p gP cap xs gs) {i:Nat} (hi:i<p.P.length):∃ g c,xs[i]?=some (.slice (some ⟨g,0,none⟩) (p.W*p.H) c)/\gs[i]?=some g/\Row w 3 (.slice (some ⟨g,0,none⟩) (p.W*p.H) c) g ((p.P.getD i []).map vi)/\w.cell? ⟨gP,i,none⟩=some (.slice (some ⟨g,0,none⟩) (p.W*p.H) c):=by
 have hP:p.P[i]?=some (p.P.getD i []):=by rw [zD,zF hi];rfl
 obtain ⟨u,g,h1,h2,h3⟩:=h.pl.row i _ hP
 obtain ⟨c,rfl,ab,_⟩:=h3.open_map
 have hl:(p.P.getD i []).length=p.W*p.H:=h.ok.len _ (List.mem_of_getElem? hP)
 rw [hl] at h1 h3
 obtain ⟨_,_,_,_,aa,_⟩:=h.row.open_
 refine ⟨g,c,h1,h2,h3,?_⟩
 rw [aa i (by rw [h.pl.lx];exact hi),h1]
theorem PicOwn.at_ (h:PicOwn w p gP cap xs gs):PicAt w p gP 0 (fun i=>sliceA xs[i]?) (fun i=>sliceC xs[i]?) (gP::gs) where
 ok:=h.ok
 gG:=by simp
 lt:=fun x hx=>by
  rcases zJ.1 hx with rfl | hx
  ·exact h.row.lt
  ·exact h.pl.lt x hx
 cell:=fun i hi=>by
  obtain ⟨g,c,h1,h2,h3,h4⟩:=h.plane hi
  rw [Nat.zero_add,h4,h1]
  rfl
 cells:=fun i hi=>by
  obtain ⟨g,c,h1,h2,h3,h4⟩:=h.plane hi
  rw [h1]
  have ac:=h3.lt
  obtain ⟨c',e,_,_,aa,_⟩:=h3.open_map
  exact ⟨fun _=>⟨g,0,rfl,ac,fun k a ha=>by rw [Nat.zero_add];exact aa k a ha⟩⟩
 blk:=fun i hi ad e=>by
  obtain ⟨g,c,h1,h2,h3,h4⟩:=h.plane hi
  rw [h1] at e
  injection e with e
  subst e
  exact List.mem_cons_of_mem _ (List.mem_of_getElem? h2)
 cap:=fun i hi=>by
  obtain ⟨g,c,h1,h2,h3,h4⟩:=h.plane hi
  rw [h1]
  obtain ⟨c',e,ae,ab,_⟩:=h3.open_map
  injection e with _ e1 e2
  subst e2
  exact ⟨by show _<=c;omega,ab⟩
end
theorem PicOwn.setPlane {w w':World} {p p':PicD} {gP cap:Nat} {xs:List Value} {gs:List Nat} (h:PicOwn w p gP cap xs gs) {i g:Nat} {u:Value} {l:List Int} (hx:xs[i]?=some u) (hg:gs[i]?=some g)
  (r:Row w' 3 u g (l.map vi)) (hc:Chg [g] w w') (hgP:gP≠g) (hok:p'.Ok) (hP:p'.P=p.P.set i l):PicOwn w' p' gP cap xs gs:=by
 refine ⟨hok,?_,?_⟩
 ·have hl:p'.P.length=p.P.length:=by rw [hP,List.length_set]
  rw [hl]
  exact h.row.chg hc (by simpa using hgP)
 ·rw [hP]
  exact h.pl.set hx hg r hc
theorem PicOwn.neP {w:World} {p:PicD} {gP cap:Nat} {xs:List Value} {gs:List Nat} (h:PicOwn w p gP cap xs gs) {i g:Nat} (hi:i<p.P.length) (hg:gs[i]?=some g):gP≠g:=by
 obtain ⟨g',c,h1,h2,h3,_⟩:=h.plane hi
 rw [hg] at h2
 injection h2 with h2
 subst h2
 exact h.row.ne_row h3 (by decide)
theorem nodup_set {α:Type} {l:List α} {i:Nat} {x:α} (h:l.Nodup) (hx:x∉l):(l.set i x).Nodup:=by
 rw [List.Nodup,List.pairwise_iff_getElem] at h ⊢
 intro a b ha hb aa e
 rw [List.length_set] at ha hb
 have hm:∀ k (hk:k<l.length),l[k]∈l:=fun k hk=>zG hk
 rw [List.getElem_set,List.getElem_set] at e
 split at e
 ·split at e
  ·omega
  ·exact hx (e ▸ hm b hb)
 ·split at e
  ·exact hx (e ▸ hm a ha)
  ·exact h a b ha hb aa e
theorem PlRows.replace {w w':World} {xs:List Value} {P:List (List Int)} {gs F:List Nat} (h:PlRows w xs P gs) {i g:Nat} {u:Value} {l:List Int} (hi:i<P.length)
  (r:Row w' 3 u g (l.map vi)) (hc:Chg F w w') (hd:∀ x∈gs,x∉F) (hg:g∉gs):PlRows w' (xs.set i u) (P.set i l) (gs.set i g):=by
 refine ⟨by rw [List.length_set,List.length_set,h.lx],by rw [List.length_set,List.length_set,h.lg],nodup_set h.nd hg,fun k l' hl => ?_⟩
 by_cases hk:i=k
 ·subst hk
  rw [List.getElem?_set_self hi] at hl
  injection hl with hl
  subst hl
  exact ⟨u,g,List.getElem?_set_self (by rw [h.lx];exact hi),List.getElem?_set_self (by rw [h.lg];exact hi),r⟩
 ·rw [List.getElem?_set_ne hk] at hl
  obtain ⟨u',g',h1,h2,h3⟩:=h.row k l' hl
  exact ⟨u',g',by rw [List.getElem?_set_ne hk];exact h1,by rw [List.getElem?_set_ne hk];exact h2,h3.chg hc (hd g' (List.mem_of_getElem? h2))⟩
theorem PicOwn.replace {w wa:World} {p p':PicD} {gP cap:Nat} {xs:List Value} {gs F:List Nat} (h:PicOwn w p gP cap xs gs) {i g:Nat} {u:Value} {l:List Int} (hi:i<p.P.length)
  (r:Row wa 3 u g (l.map vi)) (hc:Chg F w wa) (hF:∀ x∈gP::gs,x∉F) (hg:w.heap.size<=g) (hok:p'.Ok) (hP:p'.P=p.P.set i l) :
  PicOwn (wa.setCell ⟨gP,i,none⟩ u) p' gP cap (xs.set i u) (gs.set i g):=by
 have ad:g∉gs:=fun hm=>by have:=h.pl.lt g hm;omega
 have ae:gP≠g:=fun e=>by have:=h.ltP;omega
 have ab:gP∉gs:=fun hm=>by
  obtain ⟨k,hk,e⟩:=List.getElem_of_mem hm
  have ac:k<p.P.length:=by rw [<-h.pl.lg];exact hk
  have:=h.neP ac (zF hk)
  exact this e.symm
 have aa:Chg [gP] wa (wa.setCell ⟨gP,i,none⟩ u):=(zR [gP] wa).setCell (p:=⟨gP,i,none⟩) (.inl (by simp)) u
 refine ⟨hok,?_,?_⟩
 ·have hl:p'.P.length=p.P.length:=by rw [hP,List.length_set]
  rw [hl]
  exact (h.row.chg hc (hF gP (by simp))).set_ (by rw [h.pl.lx];exact hi) u
 ·rw [hP]
  have h1:=h.pl.replace hi r hc (fun x hx=>hF x (by simp [hx])) ad
  refine h1.chg aa ?_
  intro x hx hm
  simp at hm
  subst hm
  rcases List.mem_or_eq_of_mem_set hx with h2 | h2
  ·exact ab h2
  ·exact ae h2
theorem PicOwn.sample {w:World} {p p':PicD} {gP cap:Nat} {xs:List Value} {gs:List Nat} (h:PicOwn w p gP cap xs gs) {i g k:Nat} {u:Value} {v:Int} (hx:xs[i]?=some u) (hg:gs[i]?=some g) (hi:i<p.P.length)
  (hr:Row w 3 u g ((p.P.getD i []).map vi)) (hk:k<(p.P.getD i []).length) (hok:p'.Ok) (hP:p'.P=p.P.set i ((p.P.getD i []).set k v)) :
  PicOwn (w.setCell ⟨g,k,none⟩ (.int .i64 v)) p' gP cap xs gs:=by
 have h1:=hr.set_ (i:=k) (by rw [zE];exact hk) (.int .i64 v)
 have e:((p.P.getD i []).map vi).set k (.int .i64 v)=((p.P.getD i []).set k v).map vi:=by rw [List.map_set];rfl
 rw [e] at h1
 exact h.setPlane hx hg h1 ((zR [g] w).setCell (p:=⟨g,k,none⟩) (.inl (by simp)) _) (h.neP hi hg) hok hP
theorem possible_yes (W H d n:Nat) (w:World) (w0:1<=W) (w1:W<=64) (h0:1<=H) (h1:H<=64) (d0:1<=d) (d1:d<=16) (n0:1<=n) (n1:n<=4) :
  Calls Tryz.prog 82 #[.int .i64 W,.int .i64 H,.int .i64 d,.int .i64 n] w fun e w'=>e=.returned (.bool true)/\w=w':=by
 have t1:decide ((1:Int)<=(W:Int))=true:=zB (by omega)
 have t2:decide ((W:Int)<=64)=true:=zB (by omega)
 have t3:decide ((1:Int)<=(H:Int))=true:=zB (by omega)
 have t4:decide ((H:Int)<=64)=true:=zB (by omega)
 have t5:decide ((1:Int)<=(d:Int))=true:=zB (by omega)
 have t6:decide ((d:Int)<=16)=true:=zB (by omega)
 have t7:decide ((1:Int)<=(n:Int))=true:=zB (by omega)
 have t8:decide ((n:Int)<=4)=true:=zB (by omega)
 clear w0 w1 h0 h1 d0 d1 n0 n1
 go_enter Tryz.func82,Tryz.ntmps82
 go_wp2
 go_ret
 exact ⟨rfl,rfl⟩
theorem is_yes {w:World} {p:PicD} {g o:Nat} {B:Nat->Option Addr} {c:Nat->Nat} {G:List Nat} (cap:Nat) (h:PicAt w p g o B c G) :
  Calls Tryz.prog 42 #[picV p g o cap] w fun e w'=>e=.returned (.bool true)/\Chg [] w w':=by
 obtain ⟨W,hW⟩:=zX (p.W)
 obtain ⟨H,hH⟩:=zX (p.H)
 obtain ⟨d,hd⟩:=zX (p.d)
 obtain ⟨n,hn⟩:=zX (p.P.length)
 obtain ⟨N,hN⟩:=zX (W*H)
 have eN:(W:Int)*(H:Int)=(N:Int):=by rw [hN];simp
 have aa:=h.ok
 have hp:=possible_yes W H d n
 have ap:=fun w'=>hp w' (by rw [hW];exact aa.w0) (by rw [hW];exact aa.w1) (by rw [hH];exact aa.h0) (by rw [hH];exact aa.h1) (by rw [hd];exact aa.d0) (by rw [hd];exact aa.d1) (by rw [hn];exact aa.n0) (by rw [hn];exact aa.n1)
 have ar:N<=4096:=by rw [hN,hW,hH];exact aa.area
 have av:n<=4:=by rw [hn];exact aa.n1
 have aj:1<=d:=by rw [hd];exact aa.d0
 have ao:d<=16:=by rw [hd];exact aa.d1
 have ac:∀ w',Chg [] w w'->∀ i,i<n->∃ b q,w'.cell? ⟨g,o+i,none⟩=some (.slice (some ⟨b,q,none⟩) N (c i))/\∀ k,k<N->∃ s:Int,w'.cell? ⟨b,q+k,none⟩=some (.int .i64 s)/\0<=s/\s<2^d:=by
  intro w' hc i hi
  have h':=h.same hc
  rw [hn] at hi
  obtain ⟨b,q,e,hb,hk⟩:=h'.at_ hi
  have ae:=h'.cell i hi
  rw [e,<-hW,<-hH,<-hN] at ae
  refine ⟨b,q,ae,fun k hk'=>⟨_,hk k (by rw [<-hW,<-hH,<-hN];exact hk'),?_⟩⟩
  rw [hd]
  exact getD_smp (h'.ok.smp _ (by rw [zD,zF hi];exact zG hi)) k
 unfold picV
 rw [<-hW,<-hH,<-hd,<-hn]
 obtain ⟨w1,ad⟩:=zX (w.alloc (.cells #[.int .i64 W,.int .i64 H,.int .i64 d,.slice (some ⟨g,o,none⟩) n cap] 27))
 have ag:Chg [] w w1:=by rw [ad];exact (zR [] w).alloc _
 obtain ⟨bb,af⟩:=zX (w.heap.size)
 have ab:Blk w1 bb 27 #[.int .i64 W,.int .i64 H,.int .i64 d,.slice (some ⟨g,o,none⟩) n cap]:=by rw [ad,af];exact Blk.new w _ _
 have b0:=ab.cell 0
 have b1:=ab.cell 1
 have b2:=ab.cell 2
 have b3:=ab.cell 3
 simp at b0 b1 b2 b3
 obtain ⟨ai,al⟩:=pow_d aj ao
 have an:=hid ad
 have ak:=hid af
 have HC:=hid ac
 have ah:=hid ag
 clear hW hH hd hn hN aa hp ac ad af ab ag h
 go_enter Tryz.func42,Tryz.ntmps42
 go_wp2_with fail
 rw [<-an.out,<-ak.out]
 refine (ap _).mono ?_
 rintro e w' ⟨rfl,rfl⟩
 go_wp2_with fail
 go_loopg [21] n (fun j iv wr=>∃ i:Nat,iv=.int .i64 i/\i+j=n/\w1=wr)
 case atStart=>exact ⟨0,rfl,by omega,rfl⟩
 case round =>
  obtain ⟨i,rfl,aw,rfl⟩:=hrel
  rcases gk with _ | j
  ·obtain rfl:i=n:=by omega
   have t1:decide (i<i)=false:=by simp
   go_wp2
   go_ret
   exact ⟨rfl,ah.out⟩
  ·have hi:i<n:=by omega
   obtain ⟨b,q,ae,hk⟩:=HC.out _ ah.out i hi
   have HK:=hid hk
   have t2:((N:Int) != (N:Int))=false:=by simp
   clear hk
   go_wp2_with fail
   go_loopg [35] N (fun j2 kv wr=>∃ k:Nat,kv=.int .i64 k/\k+j2=N/\w1=wr)
   case atStart=>exact ⟨0,rfl,by omega,rfl⟩
   case round =>
    obtain ⟨k,rfl,ax,rfl⟩:=hrel
    rcases gk with _ | j2
    ·obtain rfl:k=N:=by omega
     go_wp2
     go_roundg j
     case measure=>omega
     case rel=>exact ⟨i+1,by go_num,by omega,rfl⟩
    ·have am:k<N:=by omega
     obtain ⟨s,au,ay,aq⟩:=HK.out k am
     have t3:decide (s<0)=false:=zA (by omega)
     have t4:decide ((2:Int)^d<=s)=false:=zA (by omega)
     go_wp2
     go_roundg j2
     case measure=>omega
     case rel=>exact ⟨k+1,by go_num,by omega,rfl⟩
theorem alloc_size' (w:World) (o:Obj):(w.alloc o).heap.size=w.heap.size+1:=by
 show (w.heap.push o).size=_
 exact Array.size_push _
def revK (i a b c d:Nat):List Nat:=if i=0 then [a,b,c,d] else if i=1 then [d,b,c,a] else [d,c,b,a]
theorem rev4_ok (w:World) (g a b c d cap:Nat) (h:Row w 5 (.slice (some ⟨g,0,none⟩) 4 cap) g ([a,b,c,d].map b8)) :
  Calls Tryz.prog 92 #[.slice (some ⟨g,0,none⟩) 4 cap] w fun e w'=>e=.returned (.tuple #[])/\Row w' 5 (.slice (some ⟨g,0,none⟩) 4 cap) g ([d,c,b,a].map b8)/\Chg [g] w w':=by
 have HH:=hid h
 clear h
 go_enter Tryz.func92,Tryz.ntmps92
 go_wp2_with fail
 go_loopg [2,3] 2 (fun k s2 s3 wr=>∃ i:Nat,i+k=2/\s2=.int .i64 i/\s3=.int .i64 (3-(i:Int))/\Hid (Row wr 5 (.slice (some ⟨g,0,none⟩) 4 cap) g ((revK i a b c d).map b8))/\Hid (Chg [g] w wr))
 case atStart=>exact ⟨0,rfl,rfl,rfl,hid HH.out,hid (zR _ _)⟩
 case round =>
  obtain ⟨i,af,rfl,rfl,HR,HC⟩:=hrel
  rcases (show i=0\/i=1\/i=2 by omega) with rfl | rfl | rfl
  ·obtain ⟨_,_,_,_,ab,ad⟩:=HR.out.open_
   have c0:=ab 0 (by simp [revK])
   have c3:=ab 3 (by simp [revK])
   have f0:=ad 0
   have f3:=ad 3
   simp [revK,b8] at c0 c3
   obtain rfl:gk=2:=by omega
   have aa:Row ((wr.setCell ⟨g,0,none⟩ (.int .u8 d)).setCell ⟨g,3,none⟩ (.int .u8 a)).drew 5 (.slice (some ⟨g,0,none⟩) 4 cap) g ((revK 1 a b c d).map b8) :=
    ((HR.out.set_ (i:=0) (by simp [revK]) (.int .u8 d)).set_ (i:=3) (by simp [revK]) (.int .u8 a)).drew
   have ac:=hid aa
   have ae:=hid (((HC.out.setCell (p:=⟨g,0,none⟩) (.inl (by simp)) (.int .u8 d)).setCell (p:=⟨g,3,none⟩) (.inl (by simp)) (.int .u8 a)).drew)
   clear ab ad af aa
   go_wp2_with fail
   go_region
   go_wp2
   go_roundg 1
   case measure=>omega
   case rel=>exact ⟨1,rfl,by go_num,by go_num,ac,ae⟩
  ·obtain ⟨_,_,_,_,ab,ad⟩:=HR.out.open_
   have c1:=ab 1 (by simp [revK])
   have c2:=ab 2 (by simp [revK])
   have f1:=ad 1
   have f2:=ad 2
   simp [revK,b8] at c1 c2
   obtain rfl:gk=1:=by omega
   have aa:Row ((wr.setCell ⟨g,1,none⟩ (.int .u8 c)).setCell ⟨g,2,none⟩ (.int .u8 b)).drew 5 (.slice (some ⟨g,0,none⟩) 4 cap) g ((revK 2 a b c d).map b8) :=
    ((HR.out.set_ (i:=1) (by simp [revK]) (.int .u8 c)).set_ (i:=2) (by simp [revK]) (.int .u8 b)).drew
   have ac:=hid aa
   have ae:=hid (((HC.out.setCell (p:=⟨g,1,none⟩) (.inl (by simp)) (.int .u8 c)).setCell (p:=⟨g,2,none⟩) (.inl (by simp)) (.int .u8 b)).drew)
   clear ab ad af aa
   go_wp2_with fail
   go_region
   go_wp2
   go_roundg 0
   case measure=>omega
   case rel=>exact ⟨2,rfl,by go_num,by go_num,ac,ae⟩
  ·go_wp2
   go_end0
   exact ⟨rfl,HR.out,HC.out⟩
theorem clamp4_ok (w:World):Calls Tryz.prog 97 #[.int .i64 4] w fun e w'=>e=.returned (.int .i64 4)/\w=w':=by
 go_enter Tryz.func97,Tryz.ntmps97
 go_wp2
 go_ret
 exact ⟨rfl,rfl⟩
def lowL (n i:Nat):List Nat:=(List.range i).map fun k=>n / 256^k%256
theorem lowL_succ (n i:Nat):lowL n (i+1)=lowL n i++[n / 256^i%256]:=by simp [lowL,List.range_succ]
theorem lowL_four (n:Nat):lowL n 4=[n%256,n / 256%256,n / 65536%256,n / 16777216%256]:=by simp [lowL,List.range_succ]
theorem small4_ok (n:Nat) (hn:n<4294967296) (w:World) :
  Calls Tryz.prog 91 #[.int .u64 n,.int .i64 4] w fun e w'=>∃ (g cap:Nat),e=.returned (.slice (some ⟨g,0,none⟩) 4 cap)/\Row w' 5 (.slice (some ⟨g,0,none⟩) 4 cap) g ((lowL n 4).map b8)/\Chg [] w w'/\w.heap.size<=g:=by
 have am:=fun w'=>clamp4_ok w'
 go_enter Tryz.func91,Tryz.ntmps91
 go_wp2_with fail
 refine (am _).mono ?_
 rintro e w' ⟨rfl,rfl⟩
 go_wp2_with fail
 go_loopg [0,5,8] 4 (fun j v0 v5 v8 wr=>∃ (i m:Nat) (F:List Nat),v8=.int .i64 i/\i+j=4/\v0=.int .u64 m/\Hid (m=n / 256^i)/\m<4294967296/\Hid (Own wr 5 v5 F ((lowL n i).map b8))/\Hid (Chg [] w wr)/\Hid (∀ x∈F,w.heap.size<=x)/\Hid (0<i->v5≠.slice none 0 0))
 case atStart=>exact ⟨0,n,[],rfl,rfl,rfl,hid (by simp),hn,hid (Own.nil _ _),hid (zR _ _),hid (by simp),hid (by simp)⟩
 case round =>
  obtain ⟨i,m,F,rfl,au,rfl,HM,hm,HO,HC,HF,HV⟩:=hrel
  rcases gk with _ | j
  ·obtain rfl:i=4:=by omega
   rcases HO.out.cases with ⟨hv,_⟩ | ⟨g,aa,hF⟩
   ·exact absurd hv (HV.out (by omega))
   ·obtain ⟨cap,rfl,_⟩:=aa.open_map
    have ak:=HF.out g (by rw [hF];simp)
    have ac:=hid aa
    clear aa
    go_wp2
    go_ret
    exact ⟨g,cap,rfl,ac.out,HC.out,ak⟩
  ·have t1:decide ((i:Int)<4)=true:=zB (by omega)
   have ae:(m:Int)%256=((m%256:Nat):Int):=by omega
   have af:(m:Int) / 256=((m / 256:Nat):Int):=by omega
   obtain ⟨r,hr⟩:=zX (m%256)
   obtain ⟨q,hq⟩:=zX (m / 256)
   rw [<-hr] at ae
   rw [<-hq] at af
   have aq:r<256:=by omega
   have ab:q<4294967296:=by omega
   have ah:lowL n (i+1)=lowL n i++[r]:=by rw [lowL_succ,<-HM.out,<-hr]
   have ai:q=n / 256^(i+1):=by rw [hq,HM.out,Nat.pow_succ,Nat.div_div_eq_div_mul]
   have al:=hid ah
   have ap:=hid ai
   have ad:=HO.out.alloc (.cells #[.int .u8 r] 5)
   have ar:IntKind.u8.wrap (r:Int)=(r:Int):=by rw [IntKind.wrap_u8];omega
   have ag:Hid ((lowL n i).length=i):=hid (by simp [lowL])
   clear ah ai hr hq
   go_wp2_with (at_builtin;refine wpList_append_o1 rfl rfl u8_elem rfl rfl ad (.int .u8 r) rfl ?c1 ?c2 ?c3 ?c4 ?_)
   case c1=>simp [go_sem]
   case c2=>rfl
   case c3=>simp [ag.out];omega
   case c4=>simp [ag.out];omega
   intro g2 an w2 ao aj
   go_wp2_with fail
   go_roundg j
   case measure=>omega
   case rel =>
    refine ⟨i+1,q,[g2],by go_num,by omega,rfl,hid ap.out,ab,hid ?_,hid ?_,hid ?_,hid (by simp)⟩
    ·rw [al.out,zM]
     exact ao.toOwn
    ·exact (HC.out.trans_same ((zR [] wr).alloc _)).trans aj.chg fun x hx => .inr (HF.out x hx)
    ·intro x hx
     rcases aj.new x hx with h | h
     ·exact HF.out x h
     ·have:=HC.out.size;rw [alloc_size'] at h;omega
theorem big4_ok (n:Nat) (hn:n<4294967296) (w:World) :
  Calls Tryz.prog 52 #[.int .u64 n,.int .i64 4] w fun e w'=>∃ (g cap:Nat),e=.returned (.slice (some ⟨g,0,none⟩) 4 cap)/\Row w' 5 (.slice (some ⟨g,0,none⟩) 4 cap) g ((big4 n).map b8)/\Chg [] w w'/\w.heap.size<=g:=by
 have ac:=small4_ok n hn w
 go_enter Tryz.func52,Tryz.ntmps52
 go_wp2_with fail
 refine ac.mono ?_
 rintro e w1 ⟨g,cap,rfl,aa,af,hg⟩
 rw [lowL_four] at aa
 have ae:=rev4_ok w1 g _ _ _ _ cap aa
 clear ac aa
 go_wp2_with fail
 refine ae.mono ?_
 rintro e w2 ⟨rfl,ab,ad⟩
 go_wp2
 go_ret
 exact ⟨g,cap,rfl,ab,af.trans ad (fun x hx => .inr (by simp at hx;omega)),hg⟩
theorem Row.cells_b8 {w:World} {v:Value} {g:Nat} {l:List Nat} (h:Row w 5 v g (l.map b8)):∃ cap,v=.slice (some ⟨g,0,none⟩) l.length cap/\l.length<=cap/\cap<=9223372036854775807/\Cells b8 w (some ⟨g,0,none⟩) l:=by
 have aa:=h.lt
 obtain ⟨cap,rfl,h2,h3,h4,h5⟩:=h.open_map
 exact ⟨cap,rfl,h2,h3,⟨fun _=>⟨g,0,rfl,aa,fun i a ha=>by rw [Nat.zero_add];exact h4 i a ha⟩⟩⟩
theorem Cells.raw_b8 {w:World} {A:Option Addr} {l:List Nat} (h:Cells b8 w A l):Cells (fun u=>u) w A (l.map b8):=⟨fun h0=>by
 obtain ⟨b,o,e1,e2,e3⟩:=h.ex (by simpa using h0)
 refine ⟨b,o,e1,e2,fun i a ha => ?_⟩
 rw [zW] at ha
 obtain ⟨x,hx,rfl⟩:=Option.map_eq_some_iff.1 ha
 exact e3 i x hx⟩
theorem Row.cellsB {w:World} {g g' n c:Nat} {l:List Nat} (h:Row w 5 (.slice (some ⟨g',0,none⟩) n c) g (l.map b8)):Cells (fun u=>u) w (some ⟨g',0,none⟩) (l.map b8):=by
 obtain ⟨cap,e,_,_,hc⟩:=Row.cells_b8 h
 injection e with e _ _
 rw [e]
 exact hc.raw_b8
theorem own_row {w:World} {e:TypeId} {v:Value} {F:List Nat} {ys:List Value} {N:Nat} (h:Own w e v F ys) (hl:ys.length=N) (h0:0<N):∃ g c,v=.slice (some ⟨g,0,none⟩) N c/\Row w e (.slice (some ⟨g,0,none⟩) N c) g ys/\F=[g]:=by
 rcases h.cases with ⟨_,he,_⟩ | ⟨g,hr,hF⟩
 ·rw [he] at hl
  simp at hl
  omega
 ·have aa:=hr
  obtain ⟨c,rfl,_⟩:=hr.open_
  rw [hl] at aa ⊢
  exact ⟨g,c,rfl,aa,hF⟩
theorem packed_dig {bs:List Nat} (h:∀ b∈bs,b<2):∀ d∈packed bs,d<256:=by
 intro d hd
 obtain ⟨i,_,rfl⟩:=List.mem_map.1 hd
 exact byteAt_lt h i
theorem bt_lt {bs:List Nat} (h:∀ b∈bs,b<2) (k:Nat):bt bs k<2:=by
 unfold bt
 rw [zD]
 cases hx:bs[k]? with
 | none=>simp
 | some x=>exact h x (List.mem_of_getElem? hx)
theorem bitAt_packed {bs:List Nat} (h:∀ b∈bs,b<2) {i:Nat} (hi:i<bs.length):bitAt (packed bs) i=bt bs i:=by
 have hq:i / 8<(bs.length+7) / 8:=by omega
 have e:(packed bs).getD (i / 8) 0=byteAt bs (i / 8):=by
  rw [zD]
  unfold packed
  rw [zW,List.getElem?_range hq]
  rfl
 unfold bitAt
 rw [e]
 obtain ⟨q,ac⟩:=zX (i / 8)
 obtain ⟨r,aa⟩:=zX (i%8)
 have ab:i=8*q+r:=by omega
 have ad:r<8:=by omega
 rw [<-ac,<-aa,ab]
 have b0:=bt_lt h (8*q)
 have b1:=bt_lt h (8*q+1)
 have b2:=bt_lt h (8*q+2)
 have b3:=bt_lt h (8*q+3)
 have b4:=bt_lt h (8*q+4)
 have b5:=bt_lt h (8*q+5)
 have b6:=bt_lt h (8*q+6)
 have b7:=bt_lt h (8*q+7)
 unfold byteAt
 clear ac aa ab hq e hi
 obtain rfl | rfl | rfl | rfl | rfl | rfl | rfl | rfl:r=0\/r=1\/r=2\/r=3\/r=4\/r=5\/r=6\/r=7:=by omega
 all_goals
  simp only [Nat.add_zero,Nat.sub_zero,Nat.sub_self,Nat.reduceSub,Nat.reducePow]
  omega
theorem allBits_packed {bs:List Nat} (h:∀ b∈bs,b<2):∃ rest,allBits (packed bs)=bs++rest:=by
 refine ⟨(allBits (packed bs)).drop bs.length,?_⟩
 have aa:bs.length<=(allBits (packed bs)).length:=by rw [allBits_len,packed_len];omega
 have e:(allBits (packed bs)).take bs.length=bs:=by
  apply List.ext_getElem?
  intro i
  rcases zZ i bs.length with hi | hi
  ·rw [List.getElem?_take,if_pos hi,allBits_get (by rw [packed_len];omega),bitAt_packed h hi]
   unfold bt
   rw [zD,zF hi]
   rfl
  ·rw [List.getElem?_take,if_neg (by omega),List.getElem?_eq_none hi]
 have e2:=List.take_append_drop bs.length (allBits (packed bs))
 rw [e] at e2
 exact e2.symm
theorem ahead_packed {A B C:List Nat} (h:∀ b∈A++B++C,b<2):Ahead (packed (A++B++C)) A.length B:=by
 obtain ⟨rest,hr⟩:=allBits_packed h
 refine ⟨C++rest,?_⟩
 rw [hr,zH,zH,List.drop_left]
def beN (ds:List Nat):Nat:=ds.foldl (fun n c=>n*256+c) 0
theorem beN_big4 {n:Nat} (h:n<4294967296):beN (big4 n)=n:=by
 unfold beN big4
 simp only [List.foldl_cons,List.foldl_nil]
 omega
theorem foldB_lt:∀ (ds:List Nat) (a:Nat),(∀ d∈ds,d<256)->ds.foldl (fun n c=>n*256+c) a<(a+1)*256^ds.length
 | [],a,_=>by simp
 | d::ds,a,h=>by
  have h1:=foldB_lt ds (a*256+d) (fun x hx=>h x (by simp [hx]))
  have h2:=h d (by simp)
  rw [List.foldl_cons,zK,Nat.pow_succ]
  refine Nat.lt_of_lt_of_le h1 ?_
  rw [zY (256^ds.length) 256,<-Nat.mul_assoc]
  exact Nat.mul_le_mul_right _ (by omega)
theorem beN_lt {ds:List Nat} (hd:∀ d∈ds,d<256) (hl:ds.length<=4):beN ds<4294967296:=by
 have h:=foldB_lt ds 0 hd
 have h2:256^ds.length<=256^4:=Nat.pow_le_pow_right (by decide) hl
 unfold beN
 omega
theorem beN_take {ds:List Nat} {i:Nat} (h:i<ds.length):beN (ds.take (i+1))=beN (ds.take i)*256+ds.getD i 0:=by
 unfold beN
 rw [List.take_succ_eq_append_getElem h,List.foldl_append,zD,zF h]
 rfl
structure IsOc (w:World) (b g cap:Nat) (ds:List Nat):Prop where
 blk:Blk w b 139 #[.slice (some ⟨g,0,none⟩) ds.length cap,.int .i64 0,.int .i64 0]
 row:Row w 5 (.slice (some ⟨g,0,none⟩) ds.length cap) g (ds.map b8)
 ne:g≠b
theorem IsOc.same {w w':World} {b g cap:Nat} {ds:List Nat} (h:IsOc w b g cap ds) (hc:Chg [] w w'):IsOc w' b g cap ds:=⟨h.blk.chg hc (by simp),h.row.chg hc (by simp),h.ne⟩
theorem onew_ok (w:World) (A:Option Addr) (cap:Nat) (ds:List Nat) (hc:Cells b8 w A ds) (h0:0<ds.length) (hl:ds.length<=4) :
  Calls Tryz.prog 64 #[.slice A ds.length cap] w fun e w'=>∃ b g c,e=.returned (.pointer (some ⟨b,0,none⟩))/\IsOc w' b g c ds/\Chg [] w w'/\w.heap.size<=b:=by
 have ab:Cells (fun u=>u) w A (ds.map b8):=⟨fun h0=>by
  obtain ⟨b,o,e1,e2,e3⟩:=hc.ex (by simpa using h0)
  refine ⟨b,o,e1,e2,fun i a ha => ?_⟩
  cases e:ds[i]? with
  | none=>simp [e] at ha
  | some d=>simp [e] at ha;subst ha;exact e3 i d e⟩
 have HC:=hid ab
 clear hc ab
 go_enter Tryz.func64,Tryz.ntmps64
 go_wp2_with (at_builtin;refine wpList_append_s rfl rfl u8_elem rfl rfl (Own.nil _ _) (ds.map b8) ds.length rfl ?c1 ?c2 ?c3 ?c4 ?c5 ?_)
 case c1=>exact (zE _).symm
 case c2=>exact HC.out
 case c3=>exact b8_one _
 case c4=>rw [zE,List.length_nil];omega
 case c5=>rw [zE,List.length_nil];omega
 intro v' F' w' h2 h3
 rcases h2.cases with ⟨_,he,_⟩ | ⟨g,aa,hF⟩
 ·exfalso
  rw [List.map_eq_nil_iff.1 he] at h0
  simp at h0
 have hr:=aa
 obtain ⟨c,rfl,-⟩:=aa.open_map
 have ac:=hr.lt
 have hs:=h3.size
 go_wp2
 go_ret
 refine ⟨w'.heap.size,g,c,rfl,⟨Blk.new _ _ _,hr.chg ((zR [] w').alloc _) (by simp),by omega⟩,h3.chg.alloc _,hs⟩
theorem oleft_ok (w:World) (b g cap:Nat) (ds:List Nat) (h:IsOc w b g cap ds) (hl:ds.length<=4) :
  Calls Tryz.prog 134 #[.pointer (some ⟨b,0,none⟩)] w fun e w'=>e=.returned (.int .i64 ds.length)/\∃ n,w'=w.drewN n:=by
 have aa:=h.blk.cell 0
 have ab:=h.blk.cell 1
 simp at aa ab
 clear h
 go_enter Tryz.func134,Tryz.ntmps134
 go_wp2_with fail
 go_quiet (fail)
 go_wp2
 go_ret
 exact ⟨by simp,_,rfl⟩
theorem size_u8' (w:World):(sizeOf 5).run Tryz.prog w=.ok 1 w:=by
 exact Tryz.sizeOf5 w
theorem otake_ok (w:World) (b g cap:Nat) (ds:List Nat) (h:IsOc w b g cap ds) (hl:ds.length=4) :
  Calls Tryz.prog 96 #[.pointer (some ⟨b,0,none⟩),.int .i64 4] w fun e w'=>∃ v G,e=.returned v/\Own w' 5 v G (ds.map b8)/\Chg [b] w w':=by
 have au:=fun w' (h':IsOc w' b g cap ds)=>(oleft_ok w' b g cap ds h' (by omega)).mono fun e w'' hh=>(⟨by rw [hh.1,hl];rfl,hh.2⟩:e=.returned (.int .i64 4)/\∃ n,w''=w'.drewN n)
 have hr:=h.row
 have aB:=hr.cells_b8
 obtain ⟨aC,e',aw,aH,av⟩:=aB
 injection e' with _ _ e3
 subst e3
 rw [hl] at aw
 obtain ⟨A',ar,-,af⟩:=slice_mid (P:=Tryz.prog) Tryz.underlying39 size_u8' (some ⟨g,0,none⟩) 4 cap 0 4 4 rfl (zQ _) aw
 have ac:=h.blk
 rw [hl] at ac
 have ai:∀ wn,Chg [] w wn->Cells (fun u=>u) wn A' (ds.map b8):=fun wn hn=>by
  have h1:=af Nat b8 w ds hl av
  rw [List.drop_zero,zT (by omega)] at h1
  exact (h1.same hn).raw_b8
 have aI:=h.row.lt
 obtain ⟨D,hD⟩:=zX (ds.map b8)
 rw [<-hD] at ai ⊢
 have aq:D.length=4:=by rw [hD,zE,hl]
 have ao:∀ u∈D,u.oneCell'=true:=by rw [hD];exact b8_one _
 have aa:=ac.cell 0
 have ab:=ac.cell 1
 have ad:=ac.cell 2
 simp at aa ab ad
 have HB:=hid ac
 have aA:=hid (au w h)
 have aE:=hid ai
 have ah:=hid aq
 have az:=hid ao
 have aD:∀ w,(Instr.slice 39 (.slice (some ⟨g,0,none⟩) 4 cap) (some (.int .i64 0)) (some (.int .i64 4)) none).run Tryz.prog w=.ok (.slice A' 4 (cap-0)) w:=ar
 clear au hr av af ac ai hD aq ao h hl ar
 go_enter Tryz.func96,Tryz.ntmps96
 go_wp2_with fail
 refine aA.out.mono ?_
 rintro e w' ⟨rfl,n,rfl⟩
 obtain ⟨wn,ak⟩:=zX (w.drewN n)
 have hn:Chg [] w wn:=by rw [ak];exact (zR [] w).drewN n
 rw [<-ak]
 have ag:=HB.out.chg hn (by simp)
 have aa:=ag.cell 0
 have ab:=ag.cell 1
 have ad:=ag.cell 2
 simp at aa ab ad
 have HN:=hid hn
 clear ak hn ag
 go_wp2_with fail
 refine wp_region_quiet_tail 15 (by kernel_rfl) (by kernel_rfl) ?_
 simp only [List.take_succ_cons,List.take_zero,List.drop_succ_cons,List.drop_zero]
 repeat (go_big_quiet_step (fail))
 refine wpQuiet_nil ?_
 intro _ ay
 obtain ⟨nq,rfl⟩:=ay
 have HQ:Hid (Chg [] w (wn.drewN nq)):=hid (HN.out.drewN nq)
 have am:=aE.out _ HQ.out
 clear aa ab ad
 go_wp2_with (at_builtin;refine wpList_append_s rfl rfl u8_elem rfl rfl (Own.nil _ _) D 4 rfl ?c1 ?c2 ?c3 ?c4 ?c5 ?_)
 case c1=>exact ah.out.symm
 case c2=>exact am
 case c3=>exact az.out
 case c4=>rw [ah.out,List.length_nil];omega
 case c5=>rw [ah.out,List.length_nil];omega
 intro v8 F8 w8 an al
 have h8:Own w8 5 v8 F8 D:=by simpa using an
 have aj:Chg [] w w8:=HQ.out.trans_same al.chg
 have ae:=HB.out.chg aj (by simp)
 have aa:=ae.cell 0
 have ab:=ae.cell 1
 have ad:=ae.cell 2
 have aG:=ae.frozen 1
 simp at aa ab ad
 have ax:Hid (∀ x∈F8,x≠b):=hid (fun x hx e=>by
  rcases al.new x hx with hh | hh
  ·simp at hh
  ·have h1:=HB.out.lt
   have h2:=HQ.out.size
   omega)
 have H8:=hid h8
 have aF:=hid aj
 clear an al aj ae am h8
 go_wp2_with fail
 go_ret
 have ap:Chg [b] w8 (w8.setCell ⟨b,1,none⟩ (.int .i64 4)):=(zR [b] w8).setCell (p:=⟨b,1,none⟩) (.inl (by simp)) _
 exact ⟨v8,F8,rfl,H8.out.chg ap (fun x hx=>by simpa using ax.out x hx),(aF.out.mono (by simp)).trans_same ap⟩
theorem oclamp_ok (w:World):Calls Tryz.prog 97 #[.int .i64 4] w fun e w'=>e=.returned (.int .i64 4)/\w=w':=by
 go_enter Tryz.func97,Tryz.ntmps97
 go_wp2
 go_ret
 exact ⟨rfl,rfl⟩
theorem obig_ok (w:World) (b g cap:Nat) (ds:List Nat) (h:IsOc w b g cap ds) (hl:ds.length=4) (hd:∀ d∈ds,d<256) :
  Calls Tryz.prog 65 #[.pointer (some ⟨b,0,none⟩),.int .i64 4] w fun e w'=>e=.returned (.int .u64 (beN ds:Int))/\Chg [b] w w':=by
 have an:=otake_ok w b g cap ds h hl
 have ai:=fun w'=>oclamp_ok w'
 have aj:∀ k,k<=4->beN (ds.take k)<4294967296:=fun k hk=>beN_lt (fun d h1=>hd d (List.mem_of_mem_take h1)) (by rw [zI];omega)
 have aa:∀ k,k<4->beN (ds.take (k+1))=beN (ds.take k)*256+ds.getD k 0:=fun k hk=>beN_take (by omega)
 have ad:ds.take 4=ds:=zT (by omega)
 have ak:∀ k,k<4->ds.getD k 0<256:=fun k hk=>by
  rw [zD,zF (by omega)]
  exact hd _ (zG _)
 have av:=hid an
 have al:=hid aj
 have ab:=hid aa
 have ag:=hid ad
 have ar:=hid ak
 have HL:=hid hl
 clear an aj aa ad ak hl h hd
 go_enter Tryz.func65,Tryz.ntmps65
 go_wp2_with fail
 refine (ai _).mono ?_
 rintro e w' ⟨rfl,rfl⟩
 go_wp2_with fail
 refine av.out.mono ?_
 rintro e w2 ⟨v,G,rfl,ae,am⟩
 obtain ⟨A,c,rfl,-,-,aq⟩:=ae.open_map
 have ao:∀ k,k<4->∃ g o,A=some ⟨g,o,none⟩/\w2.cell? ⟨g,o+k,none⟩=some (b8 (ds.getD k 0)):=fun k hk=>by
  obtain ⟨g,o,e1,e2,e3⟩:=aq.ex (by rw [HL.out];decide)
  refine ⟨g,o,e1,e3 k _ ?_⟩
  rw [zD,zF (by rw [HL.out];exact hk)]
  rfl
 have ax:=hid ao
 have aw:=hid am
 rw [HL.out]
 clear ae aq ao am ai
 go_wp2_with fail
 go_loopg [5,7,13] 4 (fun j v5 v7 v13 wr=>∃ k:Nat,v13=.int .i64 k/\k+j=4/\v5=.int .u64 (beN (ds.take k):Int)/\w2=wr)
 case atStart=>exact ⟨0,rfl,by omega,rfl,rfl⟩
 case round =>
  obtain ⟨k,rfl,ay,rfl,rfl⟩:=hrel
  rcases gk with _ | j
  ·obtain rfl:k=4:=by omega
   rw [ag.out]
   go_wp2_with fail
   go_ret
   exact ⟨rfl,aw.out⟩
  ·have hk:k<4:=by omega
   have t1:decide ((k:Int)<4)=true:=zB (by omega)
   have t2:decide (k<4)=true:=zB (by omega)
   obtain ⟨g9,o9,hA,hx⟩:=ax.out k hk
   subst hA
   unfold b8 at hx
   obtain ⟨x,ap⟩:=zX (ds.getD k 0)
   obtain ⟨s,hs⟩:=zX (beN (ds.take k))
   obtain ⟨s2,ah⟩:=zX (s*256)
   obtain ⟨s3,af⟩:=zX (beN (ds.take (k+1)))
   have ac:=ab.out k hk
   have h1:=al.out k (by omega)
   have h2:=al.out (k+1) (by omega)
   have h3:=ar.out k hk
   rw [<-ap] at hx ac h3
   rw [<-hs] at ac h1 ⊢
   rw [<-af] at ac h2
   rw [<-ah] at ac
   have e1:(s:Int)*256=(s2:Int):=by omega
   have e2:(s2:Int)+(x:Int)=(s3:Int):=by omega
   have u1:IntKind.u64.wrap (x:Int)=(x:Int):=IntWalk.u64_in _ (by omega)
   have u2:IntKind.u64.wrap (s2:Int)=(s2:Int):=IntWalk.u64_in _ (by omega)
   have u3:IntKind.u64.wrap (s3:Int)=(s3:Int):=IntWalk.u64_in _ (by omega)
   have au:=hid af
   clear ac h1 h2 h3 hs ah af ap
   go_wp2_with fail
   go_roundg j
   case measure=>omega
   case rel=>exact ⟨k+1,by go_num,by omega,by rw [<-au.out],rfl⟩
end Go.Proofs.YtepjepkgcdfboaaGreatDoor
