/- bits.Reader by its contracts, the third part: Signed. -/
import Derived.Test.YtepjepkgcdfboaaGreatDoorMg18
set_option linter.unusedVariables false
set_option linter.unusedSimpArgs false
set_option maxHeartbeats 4000000
set_option maxRecDepth 100000
namespace Go.Proofs.YtepjepkgcdfboaaGreatDoor
open Go.RowKit
theorem f2n {x:Int} {n:Nat} (h:a7w x n=true):e0m (c1s x n) n=x:=by
 unfold a7w at h
 simp only [Bool.and_eq_true,decide_eq_true_eq] at h
 obtain ⟨⟨⟨h1,h2⟩,h3⟩,h4⟩:=h
 have hp:(2:Int)^n=2^(n-1)+2^(n-1):=by
  obtain ⟨m,rfl⟩:∃ m,n=m+1:=⟨n-1,by omega⟩
  rw [Int.pow_succ,Nat.add_sub_cancel]
  omega
 have ab:((2^(n-1):Nat):Int)=(2:Int)^(n-1):=by simp
 have aa:=a0i (n-1)
 have hc:=d1c x n
 unfold e0m
 by_cases hx:0<=x
 ·have e:x%2^n=x:=Int.emod_eq_of_lt hx (by omega)
  rw [e] at hc
  rw [if_pos (by omega),hc]
 ·have e:x%2^n=x+2^n:=by
   rw [<-Int.add_emod_right]
   exact Int.emod_eq_of_lt (by omega) (by omega)
  rw [e] at hc
  rw [if_neg (by omega),hc]
  omega
theorem f2m {x:Int} {n:Nat} (hn:1<=n) (h:x=0\/a7w x n=true):e0m (c1s x n) n=x:=by
 rcases h with rfl | h
 ·have e:c1s 0 n=0:=by simp [c1s]
  rw [e]
  unfold e0m
  rw [if_pos (Nat.two_pow_pos _)]
  rfl
 ·exact f2n h
theorem e0j (w:World) (b:Nat) (F ds:List Nat) (p n:Nat) (x:Int) (h:a1r w b F ds p) (hn:n<=31) (hx:x=0\/a7w x n=true) (ha:a0y ds p (a0b (c1s x n) n)) :
  Calls Tryz.prog 280 #[.pointer (some ⟨b,0,none⟩),.int .i64 n] w fun e w'=>e=.returned (.int .i64 x)/\a1r w' b F ds (p+n)/\Chg [b] w w':=by
 have aa:=a0j w b F ds p n (c1s x n) h (by omega) (c7j x n) ha
 rcases Nat.eq_zero_or_pos n with rfl | ac
 ·have ai:x=0:=by
   rcases hx with h | h
   ·exact h
   ·simp [a7w] at h
  subst ai
  clear hx ha h
  have t1:(((0:Nat):Int)==0)=true:=rfl
  go_enter Tryz.func280,Tryz.ntmps280
  go_wp2_with fail
  refine aa.mono ?_
  rintro e w1 ⟨rfl,ab,ae⟩
  obtain ⟨aj,af,ak,A,cap,ah⟩:=c8e ab
  clear aa
  go_wp2
  go_ret
  exact ⟨rfl,ab,ae⟩
 ·have ad:=e5p ac (by omega) (c7j x n)
  rw [f2m ac hx] at ad
  have ag:=c7j x n
  rw [IntWalk.i64_left,Int.fdiv_eq_ediv_of_nonneg _ (by have:=a0i (64-n);omega)] at ad
  obtain ⟨v,hv⟩:=zX (c1s x n)
  rw [<-hv] at aa ad ag
  have t1:((n:Int)==0)=false:=by rw [beq_eq_false_iff_ne];omega
  have e1:(64:Int)-(n:Int)=((64-n:Nat):Int):=by omega
  clear hx ha h hv
  go_enter Tryz.func280,Tryz.ntmps280
  go_wp2_with fail
  refine aa.mono ?_
  rintro e w1 ⟨rfl,ab,ae⟩
  obtain ⟨aj,af,ak,A,cap,ah⟩:=c8e ab
  clear aa
  go_wp2
  go_ret
  exact ⟨rfl,ab,ae⟩
def a9d (n:Nat) (l:List Int):List Nat:=l.flatMap fun x=>a0b (c1s x n) n
theorem c8a (n:Nat) (l:List Int) {m:Nat} (hm:m<l.length):a9d n (l.drop m)=a0b (c1s l[m] n) n++a9d n (l.drop (m+1)):=by
 unfold a9d
 rw [List.drop_eq_getElem_cons hm,List.flatMap_cons]
theorem f2g (w:World) (b:Nat) (F ds:List Nat) (p k:Nat) (l:List Int) (h:a1r w b F ds p) (hk:k<=25\/k=31) (hw:∀ x∈l,a2e x) (hl:l.length<=4096) (ha:a0y ds p (a3r k l)) :
  Calls Tryz.prog 260 #[.pointer (some ⟨b,0,none⟩),.int .i64 l.length] w fun e w'=>∃ v G,e=.returned (.tuple #[.int .i64 k,v,.int .i64 0])/\Own w' 3 v G (l.map vi)/\a1r w' b F ds (p+(a3r k l).length)/\Chg [b] w w'/\∀ x∈G,w.heap.size<=x:=by
 unfold a3r at ha ⊢
 have ao:k<2^5:=by omega
 have al:=a0j w b F ds p 5 k h (by omega) ao ha.left
 have aa:=ha.right
 rw [a0a] at aa
 have aX:=h.lt b h.mem
 rcases hk with hk | rfl
 ·rw [if_neg (by omega)] at aa ⊢
  have am:=fun w' (hr:a1r w' b F ds (p+5))=>c8h w' b F ds (p+5) k l hr hk hw (by omega) aa
  have t1:decide ((k:Int)<=25)=true:=zB (by omega)
  have aI:=hid am
  have HW:=hid hw
  rw [zC,a0a]
  generalize (a0r k l).length=q at *
  generalize l.length=n at *
  clear am ha aa hw h
  go_enter Tryz.func260,Tryz.ntmps260
  go_wp2_with fail
  refine al.mono ?_
  rintro e w1 ⟨rfl,ac,ab⟩
  have am:=aI.out w1 ac
  clear al
  go_wp2_with (go_at_call 69;refine (a2b _ b F ds _ ac).mono ?_;rintro e w' ⟨rfl,rfl⟩)
  refine am.mono ?_
  rintro e w2 ⟨v,G,rfl,ho,af,ae,hG⟩
  go_wp2
  refine bodyPost_ret (v:=.tuple #[.int .i64 k,v,.int .i64 0]) (by simp [results,Tryz.results260,go_sem]) rfl ?_
  exact ⟨v,G,rfl,ho,af.cast (by omega),ab.tq ae,fun x hx=>Nat.le_trans ab.size (hG x hx)⟩
 ·rw [if_pos rfl] at aa ⊢
  have aE:=b2m hw
  have aw:=d4y hw
  have aj:=fun A cap w' (hc:a0d vi w' A l)=>c8s l A cap w' hw hc (by omega)
  obtain ⟨wd,ag⟩:=zX (a4w l)
  rw [<-ag] at aa aE aw aj ⊢
  have ai:=fun w' (hr:a1r w' b F ds (p+5))=>a0j w' b F ds (p+5) 5 wd hr (by omega) (by omega) aa.left
  have ap:=aa.right
  rw [a0a] at ap
  have aG:a0y ds (p+5+5) (a9d wd (l.drop 0)):=by rw [List.drop_zero];exact ap
  have ad:(a0b 31 5++(a0b wd 5++l.flatMap fun x=>a0b (c1s x wd) wd)).length=5+(5+(a9d wd l).length):=by
   rw [zC,zC,a0a,a0a];rfl
  rw [ad]
  obtain ⟨n,hn⟩:=zX (l.length)
  rw [<-hn] at hl ⊢
  have HN:=hid hn
  have aH:=hid h.lt
  have HA:=hid aG
  have aM:=hid ai
  have aN:=hid aw
  have aK:=hid aj
  clear hn aG ap aa ha ai aw aj ag ad hw h
  go_enter Tryz.func260,Tryz.ntmps260
  go_wp2_with fail
  refine al.mono ?_
  rintro e w1 ⟨rfl,ac,ab⟩
  have ai:=aM.out w1 ac
  clear al
  go_wp2_with (go_at_call 69;refine (a2b _ b F ds _ ac).mono ?_;rintro e w' ⟨rfl,rfl⟩)
  refine ai.mono ?_
  rintro e w2 ⟨rfl,af,ae⟩
  have ah:=ab.tq ae
  clear ai ac ab ae
  go_wp2_with fail
  go_loopg [11,38] n (fun j v iv wr=>∃ G p' out,j<=n/\iv=.int .i64 ((n-j:Nat):Int)/\Own wr 3 v G (out.map vi)/\Hid (out=l.take (n-j))/\a1r wr b F ds p'/\Hid (a0y ds p' (a9d wd (l.drop (n-j))))/\Hid (p'+(a9d wd (l.drop (n-j))).length=p+5+5+(a9d wd l).length)/\Chg [b] w wr/\∀ x∈G,w.heap.size<=x)
  case atStart=>exact ⟨[],p+5+5,[],zQ _,by simp,Own.nil _ _,hid (by simp),af,hid (by rw [Nat.sub_self];exact HA.out),hid (by simp),ah,by simp⟩
  case round =>
   clear af ah
   obtain ⟨G,p',out,hj,rfl,ho,Ho,ar,Ha,Hp,ax,hG⟩:=hrel
   have HG:=hid hG
   clear hG
   rcases gk with _ | j
   ·obtain ⟨A,cap,rfl,aS,aQ,aL⟩:=ho.oq
    have t4:decide (((n-0:Nat):Int)<(n:Int))=false:=by simp
    have aO:decide (n<n)=false:=by simp
    have e:l.take (n-0)=l:=by rw [HN.out,Nat.sub_zero,zN]
    have e2:l.drop (n-0)=[]:=by rw [HN.out,Nat.sub_zero,List.drop_length]
    have aA:out=l:=Ho.out.trans e
    have hp:=Hp.out
    rw [e2] at hp
    have aD:p'=p+5+5+(a9d wd l).length:=by simpa [a9d] using hp
    subst aA
    have aj:=aK.out A cap wr aL
    have HP:=hid aD
    clear e e2 hp aD Ho Hp Ha
    go_wp2_with (go_at_call 69;refine (a2b _ b F ds _ ar).mono ?_;rintro e w' ⟨rfl,rfl⟩)
    refine aj.mono ?_
    rintro e w' ⟨rfl,rfl⟩
    go_wp2_with fail
    refine bodyPost_ret (v:=.tuple #[.int .i64 31,.slice A out.length cap,.int .i64 0]) (by simp [results,Tryz.results260,go_sem]) rfl ?_
    exact ⟨_,G,rfl,ho,ar.cast (by rw [HP.out];omega),ax,HG.out⟩
   ·obtain ⟨A,cap,rfl,aS,aQ,-⟩:=ho.oq
    obtain ⟨m,aC⟩:=zX (n-(j+1))
    rw [<-aC] at Ha Hp Ho ⊢
    have aF:m<n:=by omega
    have aB:n-j=m+1:=by omega
    have HM:=hid aB
    clear aC aB
    have aq:m<l.length:=by rw [<-HN.out];exact aF
    have ak:=c8a wd l aq
    have an:=a0o l aq
    have ay:=aN.out l[m] (zG _)
    obtain ⟨x,hx⟩:=zX (l[m])
    rw [<-hx] at ak ay an
    have aa:=Ha.out
    rw [ak] at aa
    have az:=e0j wr b F ds p' wd x ar aE ay aa.left
    have aW:=hid aa.right
    have aA:out.length<=4096:=by rw [Ho.out,zI];omega
    have aJ:=hid an
    have aP:=hid ak
    have t4:decide (m<n)=true:=zB aF
    have aO:decide ((m:Int)<(n:Int))=true:=zB (by omega)
    clear ak an hx aa aq ay
    go_wp2_with fail
    refine az.mono ?_
    rintro e aU ⟨rfl,ac,ab⟩
    have au:∀ y∈G,y∉[b]:=fun y hy=>by have:=HG.out y hy;simp;omega
    have aR:=ho.chg ab au
    have HB:=hid au
    clear az au
    go_wp2_with (at_builtin;refine a0f rfl rfl a0p rfl rfl (aR.alloc _) (.int .i64 x) rfl ?c1 ?c2 ?c3 ?c4 ?_)
    case c1=>simp [go_sem]
    case c2=>rfl
    case c3=>rw [zE];omega
    case c4=>rw [zE];omega
    intro g2 aV w2' af av
    go_wp2_with fail
    go_roundg j
    case measure=>omega
    case rel =>
     rw [HM.out]
     have ae:Chg [b] w w2':=(ax.tq (ab.alloc _)).trans av.chg fun x hx => .inr (HG.out x hx)
     have aT:∀ y∈F,y∉G:=fun y hy hyG=>by have:=HG.out y hyG;have:=aH.out y hy;omega
     refine ⟨[g2],_,out++[x],by omega,by go_num,?_,?_,(ac.same ((zR [] aU).alloc _)).chg av.chg aT,hid (by have:=aW.out;rw [a0a] at this;exact this),?_,ae,?_⟩
     ·have:=af.toOwn
      simpa [vi] using this
     ·exact hid (by rw [Ho.out,aJ.out])
     ·refine hid ?_
      rw [<-Hp.out,aP.out,zC,a0a]
      omega
     ·intro y hy
      simp at hy
      subst hy
      rcases av.new y (by simp) with h1 | h1
      ·exact HG.out y h1
      ·have:=ax.size
       have:=ab.size
       simp at h1
       omega
theorem b5r (l:List Int) (W d:Nat):∀ (k i:Nat),∃ r,a1c l W d (i+k)=a1c l W d i++r
 | 0,i=>⟨[],by simp⟩
 | k+1,i=>by
  obtain ⟨r,hr⟩:=b5r l W d k i
  exact ⟨r++b3s (a4r l W d (i+k)) l W d (i+k),by rw [show i+(k+1)=(i+k)+1 by omega,a1c,hr,zH]⟩
theorem e7i {d:Nat} {l:List Int} (hs:a1u d l) (i n:Nat):a1u d (a1a (l.take i) n):=by
 intro s h
 unfold a1a at h
 rcases zP.1 h with h | h
 ·exact hs s (List.mem_of_mem_take h)
 ·rw [List.eq_of_mem_replicate h];exact ⟨Int.le_refl _,a0i d⟩
theorem f1u (w:World) (b:Nat) (F ds:List Nat) (p:Nat) (l:List Int) (W H d:Nat) (h:a1r w b F ds p) (hw0:1<=W) (hw1:W<=64) (hh0:1<=H) (hh1:H<=64) (h0:1<=d) (h1:d<=16) (hl:l.length=W*H) (hs:a1u d l) (ha:a0y ds p (a1c l W d (W*H))) :
  Calls Tryz.prog 179 #[.pointer (some ⟨b,0,none⟩),.int .i64 W,.int .i64 H,.int .i64 d] w fun e w'=>∃ v g,e=.returned (.tuple #[v,.int .i64 0])/\Row w' 3 v g (l.map vi)/\a1r w' b F ds (p+(a1c l W d (W*H)).length)/\Chg [b] w w'/\w.heap.size<=g:=by
 have bn:l.length<=4096:=by rw [hl];exact zL hw1 hh1
 obtain ⟨bI,a9⟩:=a9c h0 h1
 have bD:=fun i=>b2x l W h0 h1 a9 i
 obtain ⟨n,hn⟩:=zX (l.length)
 have bR:n<=64*W:=by rw [hn,hl,zY];exact Nat.mul_le_mul_right W hh1
 have bW:(W:Int)*(H:Int)=(n:Int):=by rw [hn,hl];simp
 rw [<-hl,<-hn] at ha ⊢
 rw [<-hn] at bn
 have bT:=a1p (P:=Tryz.prog) a0p rfl .i64 .i64 n (by omega) (by omega)
 have t1:decide ((W:Int)<1)=false:=zA (by omega)
 have t2:decide ((64:Int)<(W:Int))=false:=zA (by omega)
 have t3:decide ((H:Int)<1)=false:=zA (by omega)
 have t4:decide ((64:Int)<(H:Int))=false:=zA (by omega)
 have av:=e3w d w h0 h1
 have bU:=h.lt b h.mem
 have bp:=h.lt
 have HA:=hid ha
 have bJ:=hid bD
 have HS:=hid hs
 have HN:=hid hn
 have HP:=hid a9
 have bj:=hid bp
 clear bD hs hn hl a9 ha bp
 go_enter Tryz.func179,Tryz.ntmps179
 go_wp2_with fail
 refine av.mono ?_
 rintro e w1 ⟨bm,rfl,aX,a8,bS⟩
 have aZ:=h.same a8
 have ac:=Row.zeros w1 n (by omega)
 obtain ⟨B,hB⟩:=zX (w1.heap.size)
 have aQ:Chg [] w1 (w1.alloc (.cells (List.replicate n (Value.int .i64 0)).toArray 3)):=(zR [] w1).alloc _
 have au:=aX.chg aQ (by simp)
 have bB:=aZ.same aQ
 have bK:bm<B:=by rw [hB];exact aX.lt
 rw [<-hB] at ac
 have HB:=hid hB
 have ak:=hid a8
 clear av h hB aX a8
 go_wp2_with (go_at_call 69;refine (a2b _ b F ds _ aZ).mono ?_;rintro e w' ⟨rfl,rfl⟩)
 rw [<-HB.out]
 go_loopg [14,15,16,17,18,19,20,55] n (fun j va vb vc vd ve vf vg iv wr=>∃ (i p':Nat),iv=.int .i64 i/\i+j=n/\Row wr 3 (.slice (some ⟨B,0,none⟩) n n) B ((a1a (l.take i) n).map vi)/\a1r wr b F ds p'/\Hid (p'=p+(a1c l W d i).length)/\b0v wr bm d (a4r l W d i)/\Hid (Chg [b] w wr))
 case atStart=>exact ⟨0,p,rfl,by omega,by simpa using ac,bB,hid (by simp [a1c]),au,hid ((ak.out.trans aQ (by simp)).mono (by simp))⟩
 case round =>
  clear ac bB au aQ aZ
  obtain ⟨i,p',rfl,bQ,ab,a0,Hp,ai,bz⟩:=hrel
  rcases gk with _ | j
  ·obtain rfl:n=i:=by omega
   have t5:decide (n<n)=false:=by simp
   have e:a1a (l.take n) n=l:=by
    have:=b5h l
    rw [<-HN.out] at this
    exact this
   rw [e] at ab
   go_wp2_with fail
   go_ret2
   exact ⟨_,B,rfl,ab,a0.cast Hp.out,bz.out,by have:=HB.out;have:=ak.out.size;omega⟩
  ·have ay:i<n:=by omega
   have t5:decide (i<n)=true:=zB ay
   obtain ⟨x,hx⟩:=zX (i%W)
   obtain ⟨y,hy⟩:=zX (i / W)
   have bu:x<W:=by rw [hx];exact Nat.mod_lt _ (by omega)
   have bE:y*W+x=i:=by rw [hx,hy,zY];exact Nat.div_add_mod i W
   have aU:nbr (a1a (l.take i) n) W (i%W) (i / W)=nbr l W (i%W) (i / W):=by
    have:=c7k (l:=l) bu bE (by rw [<-HN.out];omega)
    rw [<-HN.out,hx,hy] at this
    exact this
   clear hx hy bu bE
   have ah:(a1a (l.take i) n).length=n:=a4g (by rw [zI];omega)
   have aa:=bJ.out i
   have bl:=c0o (nbr l W (i%W) (i / W)) d
   obtain ⟨r,hr⟩:=b5r l W d (n-(i+1)) (i+1)
   rw [show i+1+(n-(i+1))=n by omega] at hr
   have aK:a1c l W d (i+1)=a1c l W d i++b3s (a4r l W d i) l W d i:=rfl
   have aP:a4r l W d (i+1)=d4a (a4r l W d i) l W d i:=rfl
   have a5:=HA.out
   rw [hr] at a5
   have a6:=a5.left
   rw [aK] at a6
   have az:=a6.right
   rw [<-Hp.out] at az
   obtain ⟨m,hm⟩:=zX (a4r l W d i)
   rw [<-hm] at ai aK aP aa az
   have a2:=d6r bm d m (a1a (l.take i) n) (some ⟨B,0,none⟩) n W i wr ai aa h0 h1 hw0 hw1 (by rw [ah];omega) (by omega) (e7i HS.out i n) ab.toOwn.cells (by rw [ah];exact bn)
   have ec:a6b (a1a (l.take i) n) W d i=a6b l W d i:=by unfold a6b;rw [aU]
   have et:a4k (a1a (l.take i) n) W d i=a4k l W d i:=by unfold a4k;rw [aU]
   have ep:a5v m (a1a (l.take i) n) W d i=a5v m l W d i:=by unfold a5v;rw [ec,et,aU]
   rw [ec,et,ep,ah] at a2
   have a7:i<l.length:=by rw [<-HN.out];exact ay
   have aR:=a5d HS.out i
   have bo:=d0m (a3e m (a6b l W d i)) (a3d 7 (nbr l W (i%W) (i / W)) d) (a4k l W d i) (d:=d) bI
   have bh:a5v m l W d i=b3i (a3e m (a6b l W d i)) (a3d 7 (nbr l W (i%W) (i / W)) d) (a4k l W d i) d:=rfl
   rw [<-bh] at bo
   have aq:=b0j (l.getD i 0) (a5v m l W d i) (a4k l W d i) h0
   have a3:=d0e (l.getD i 0) (a5v m l W d i) (a4k l W d i) h0 h1
   have aD:=a7k h1 aq
   have aj:=d8p (g:=a5v m l W d i) (a4k l W d i) aR.1 aR.2
   have aY:c0r m l W d i=c3q (l.getD i 0) (a5v m l W d i) (a4k l W d i) d:=rfl
   rw [<-aY] at aq a3 aj aD
   have bv:=d5v h0 aq.1 aq.2
   have bc:b3s m l W d i=a4d (kOf (a3e m (a6b l W d i))) (c0r m l W d i):=rfl
   have bx:d4a m l W d i=m.set (a6b l W d i) (b3j (a3e m (a6b l W d i)) (c0r m l W d i)):=rfl
   rw [bc] at az aK
   rw [bx] at aP
   have ao:a6b l W d i<365:=bl
   have bP:=d6j (a6e aa ao).2
   have aS:=a0o l a7
   have bi:l[i]=l.getD i 0:=by rw [zD,zF a7];rfl
   rw [bi] at aS
   have aN:(l.take i).length=i:=by rw [zI];omega
   obtain ⟨aO,aM⟩:=ab.fill_cell (by rw [aN];exact ay)
   have ba:=hid ab
   rw [aN] at aO aM
   generalize a6b l W d i=cx at *
   generalize a5v m l W d i=pr at *
   generalize a4k l W d i=tb at *
   generalize c0r m l W d i=er at *
   obtain ⟨xv,aJ⟩:=zX (l.getD i 0)
   rw [<-aJ] at aj aS aR aY
   have bk:=fun w h=>f3u bm d m cx w h aa ao
   generalize kOf (a3e m cx)=kk at *
   have af:=fun w h=>d6o bm d m cx er w h aa h0 h1 ao aq.1 aq.2
   obtain ⟨bF,aG⟩:=bo
   have bX:pr<65536:=Int.lt_of_lt_of_le aG HP.out
   have an:=fun w' (hq:a1r w' b F ds p')=>c8h w' b F ds p' kk [er] hq (by omega) (fun z hz=>by rw [zU.1 hz];exact a3) (by simp) (by simpa [a0r] using az)
   have bb:=fun w'=>a7x er d w' h0 h1
   rw [bv] at bb
   have be:=fun v w'=>b2n v d w' h0 h1
   have t6:(er != er)=false:=by simp
   have bG:=hid af
   have bO:=hid bk
   have bq:=hid aK
   have bf:=hid aP
   have bd:=hid aS
   have a4:=hid aN
   have br:=hid aj
   have bN:=hid an
   have bL:=hid bb
   have bA:=hid be
   clear af bk aK aP aY hm bh bl bi bc bx aa aq aj an bb be bv a3 a5 a6 az hr aU ah ec et ep aJ ab aS aN a7 aO aM aR aG
   go_wp2_with fail
   refine a2.mono ?_
   rintro e w2 ⟨rfl,aA⟩
   have aC:=a0.same aA
   have ap:=ai.chg aA (by simp)
   clear a2 a0 ai
   go_wp2_with fail
   refine (bO.out _ ap).mono ?_
   rintro e w3 ⟨rfl,n3,rfl⟩
   have aW:=bN.out _ (aC.same ((zR [] w2).drewN n3))
   rw [show (([er]:List Int).length:Int)=1 from rfl] at aW
   go_wp2_with fail
   refine aW.mono ?_
   rintro e w4 ⟨v4,G4,rfl,aE,aH,aT,bM⟩
   rcases aE.cases with ⟨_,a1,_⟩ | ⟨g4,aB,rfl⟩
   ·exfalso
    have:=congrArg List.length a1
    simp at this
   obtain ⟨c4,rfl,_,_,ae,_⟩:=aB.oq
   have e0:=ae 0 er rfl
   have bV:w4.cell? ⟨g4,0,none⟩=some (.int .i64 er):=e0
   have bH:b∉[bm]:=by have:=ak.out.size;simp;omega
   have aL:=(ap.chg ((zR [] w2).drewN n3) (by simp)).chg aT (by simp;omega)
   have ax:=hid (((bz.out.trans aA (by simp)).drewN n3).tq aT)
   have am:=((ba.out.chg aA (by simp)).drewN n3).chg aT (by have:=HB.out;have:=ak.out.size;simp;omega)
   have bs:=bG.out w4 aL
   have aw:=bL.out w4
   rw [show (([er]:List Int).length)=1 from rfl]
   clear aE aB ae e0 ap aC aA aT aW bM aL
   go_wp2_with (go_at_call 84;refine aw.mono ?_;rintro e w' ⟨rfl,rfl⟩)
   refine bs.mono ?_
   rintro e w5 ⟨rfl,aF,aV⟩
   have ad:=am.chg aV (by simp;omega)
   obtain ⟨aO,aM⟩:=ad.fill_cell (by rw [a4.out];exact ay)
   have ag:=ad.fill (by rw [a4.out];exact ay) xv
   rw [a4.out] at aO aM ag
   have bg:=hid ag
   have aI:=aH.chg aV (fun z hz hm=>by simp at hm;have:=bj.out z hz;have:=ak.out.size;omega)
   have al:=hid (ax.out.trans aV (fun z hz => .inr (by simp at hz;omega)))
   have ar:Chg [B] w5 (w5.setCell ⟨B,i,none⟩ (.int .i64 xv)):=(zR _ _).setCell (.inl (by simp)) _
   have bw:∀ z∈F,z∉[B]:=fun z hz hm=>by simp at hm;have:=bj.out z hz;have:=ak.out.size;have:=HB.out;omega
   have bC:=hid bw
   clear bs am ad ag aH aV aw bw
   cases tb with
   | false =>
    have aj:a0k (pr+er) d=xv:=br.out
    have hw:=bA.out (pr+er)
    rw [aj] at hw
    go_wp2_with (go_at_call 83;refine (hw _).mono ?_;rintro e w' ⟨rfl,rfl⟩)
    go_roundg j
    case measure=>omega
    case rel =>
     refine ⟨i+1,p'+(a0r kk [er]).length,by go_num,by omega,?_,aI.chg ar bC.out,hid ?_,?_,hid (al.out.trans ar (fun z hz => .inr (by simp at hz;have:=HB.out;have:=ak.out.size;omega)))⟩
     ·rw [bd.out];exact bg.out
     ·rw [bq.out,zC,Hp.out];simp [a0r];omega
     ·rw [bf.out];exact aF.chg ar (by simp;omega)
   | true =>
    have aj:a0k (pr + -er) d=xv:=br.out
    have hw:=bA.out (pr + -er)
    rw [aj] at hw
    go_wp2_with (go_at_call 83;refine (hw _).mono ?_;rintro e w' ⟨rfl,rfl⟩)
    go_roundg j
    case measure=>omega
    case rel =>
     refine ⟨i+1,p'+(a0r kk [er]).length,by go_num,by omega,?_,aI.chg ar bC.out,hid ?_,?_,hid (al.out.trans ar (fun z hz => .inr (by simp at hz;have:=HB.out;have:=ak.out.size;omega)))⟩
     ·rw [bd.out];exact bg.out
     ·rw [bq.out,zC,Hp.out];simp [a0r];omega
     ·rw [bf.out];exact aF.chg ar (by simp;omega)
def d8a (l:List Int) (i:Nat) (t:Tok):Prop :=
 (t.len=0/\t.dist=0/\t.lit=l.getD i 0)\/(1<=t.len/\i+t.len<=l.length/\1<=t.dist/\t.dist<=i/\∀ j,j<t.len->l.getD (i+j) 0=l.getD (i+j-t.dist) 0)
def b4p (l:List Int) (k:Nat) (rs:List Nat):Prop:=∀ d,1<=d->d<=k->∀ j,j<rs.getD d 0->l.getD (k+j) 0=l.getD (k+j-d) 0
structure f3i (l:List Int) (k:Nat) (rs:List Nat) (d:Nat) (s:DSt):Prop where
 r1:∀ e,1<=e->e<d->∀ j,j<s.runs.getD e 0->l.getD (k+j) 0=l.getD (k+j-e) 0
 r2:∀ e,d<=e->s.runs.getD e 0=rs.getD e 0
 dd:∀ m,s.dists.getD m 0≠0->s.dists.getD m 0<d/\m<=s.runs.getD (s.dists.getD m 0) 0
theorem d0f:∀ f D m d n,(a6z f D m d).getD n 0=D.getD n 0\/((a6z f D m d).getD n 0=d/\m<n/\n<=m+f)
 | 0,_,_,_,_ => .inl rfl
 | f+1,D,m,d,n=>by
  rw [a6z]
  rcases d0f f (D.set (m+1) d) (m+1) d n with h | ⟨h,h1,h2⟩
  ·rw [h,b0k]
   split
   ·exact .inr ⟨rfl,by omega,by omega⟩
   ·exact .inl rfl
  ·exact .inr ⟨h,by omega,by omega⟩
theorem e0k {l:List Int} {k d:Nat} {rs rs0:List Nat} (h:b4p l (k+1) rs0) (e:rs.getD d 0=rs0.getD d 0) (h1:1<=d) (h2:d<=k):∀ j,j<a8k l k rs d->l.getD (k+j) 0=l.getD (k+j-d) 0:=by
 intro j hj
 unfold a8k at hj
 split at hj
 ·rename_i hq
  cases j with
  | zero=>exact hq
  | succ j =>
   have:=h d h1 (by omega) j (by rw [<-e];omega)
   rw [show k+(j+1)=k+1+j by omega]
   exact this
 ·omega
theorem e1y {l:List Int} {k d:Nat} {rs:List Nat} {s:DSt} (hr:b4p l (k+1) rs) (hs:s.Ok) (h:f3i l k rs d s) (h1:1<=d) (h2:d<=k) (h3:d<=1024):f3i l k rs (d+1) (b5d l k s d):=by
 have hg:=e0k (rs:=s.runs) hr (h.r2 d (zQ _)) h1 h2
 have aa:d<s.runs.length:=by rw [hs.rl];omega
 refine ⟨fun e he1 he2 j hj => ?_,fun e he => ?_,fun m hm => ?_⟩
 ·have ab:j<(s.runs.set d (a8k l k s.runs d)).getD e 0:=hj
  rw [b0k] at ab
  split at ab
  ·rename_i hq
   obtain ⟨rfl,_⟩:=hq
   exact hg j ab
  ·rename_i hq
   exact h.r1 e he1 (by
    have:¬ d=e:=fun hh=>hq ⟨hh,aa⟩
    omega) j ab
 ·show (s.runs.set d (a8k l k s.runs d)).getD e 0=_
  rw [b0k,if_neg (by omega)]
  exact h.r2 e (by omega)
 ·have ac:(a6z (a8k l k s.runs d-s.longest) s.dists s.longest d).getD m 0≠0:=hm
  show (a6z (a8k l k s.runs d-s.longest) s.dists s.longest d).getD m 0<d+1/\m<=(s.runs.set d (a8k l k s.runs d)).getD ((a6z (a8k l k s.runs d-s.longest) s.dists s.longest d).getD m 0) 0
  rcases d0f (a8k l k s.runs d-s.longest) s.dists s.longest d m with e | ⟨e,e1,e2⟩
  ·rw [e] at ac ⊢
   obtain ⟨q1,q2⟩:=h.dd m ac
   refine ⟨by omega,?_⟩
   rw [b0k,if_neg (by omega)]
   exact q2
  ·rw [e]
   refine ⟨by omega,?_⟩
   rw [b0k,if_pos ⟨rfl,aa⟩]
   omega
theorem e1v {l:List Int} {k:Nat} {rs:List Nat} (hr:b4p l (k+1) rs):∀ f d s,s.Ok->f3i l k rs d s->1<=d->d+f<=k+1->d+f<=1025->f3i l k rs (d+f) (dGo l k f d s)
 | 0,_,_,_,h,_,_,_=>h
 | f+1,d,s,ho,h,h1,h2,h3=>by
  have:=e1v hr f (d+1) _ (c6r (l:=l) (at_:=k) ho (by omega)) (e1y hr ho h h1 (by omega) (by omega)) (by omega) (by omega) (by omega)
  rw [show d+(f+1)=d+1+f by omega]
  exact this
theorem d0d {l:List Int} {k:Nat} {rs:List Nat} (hr:b4p l (k+1) rs) (ho:b7u rs):f3i l k rs (1+min k 1024) (b5f l k rs):=by
 refine e1v hr _ _ _ (c0p ho) ⟨fun e h1 h2=>by omega,fun e _=>rfl,fun m hm => ?_⟩ (by omega) (by omega) (by omega)
 exfalso
 apply hm
 show (List.replicate 65 0).getD m 0=0
 rw [zD,List.getElem?_replicate]
 split<;>rfl
theorem e7t {l:List Nat} {i:Nat} (h:l.length<=i):l.getD i 0=0:=by
 rw [zD,List.getElem?_eq_none h];rfl
theorem d8o {l:List Int} {k:Nat} {rs:List Nat} (hr:b4p l (k+1) rs) (ho:b7u rs):b4p l k (b5f l k rs).runs:=by
 intro d h1 h2 j hj
 have hi:=d0d hr ho
 by_cases h3:d<=1024
 ·exact hi.r1 d h1 (by omega) j hj
 ·rw [e7t (by rw [(c6t ho).rl];omega)] at hj
  omega
theorem d1z {F:List Tok} {i j:Nat} {t:Tok}:a4s (F.set i t) j=if i=j/\i<F.length then t else a4s F j:=by
 unfold a4s
 rw [zD,zD,List.getElem?_set]
 by_cases h:i=j
 ·subst h
  by_cases h2:i<F.length
  ·simp [h2]
  ·simp [h2]
 ·simp [h]
def a8s (l:List Int) (k:Nat) (F:List Tok):Prop:=F.length=l.length/\∀ i,k<=i->i<l.length->d8a l i (a4s F i)
theorem d9g {l:List Int} {cp k n:Nat} {D:List Nat} {p:List Nat × List Tok} (hD:D.getD n 0≠0->3<=n->d8a l k ⟨n,D.getD n 0,0⟩) (h:a8s l k p.2):a8s l k (d9f cp k D n p).2:=by
 unfold d9f
 split
 ·exact h
 ·rename_i hq
  split
  ·refine ⟨by rw [List.length_set];exact h.1,fun i h1 h2 => ?_⟩
   rw [d1z]
   split
   ·rename_i he
    obtain ⟨rfl,_⟩:=he
    exact hD (by omega) (by omega)
   ·exact h.2 i h1 h2
  ·exact h
theorem c1g {l:List Int} {cp k:Nat} {D:List Nat} (hD:∀ n,D.getD n 0≠0->3<=n->d8a l k ⟨n,D.getD n 0,0⟩):∀ f m p,a8s l k p.2->a8s l k (b7b cp k D f m p).2
 | 0,_,_,h=>h
 | f+1,m,p,h=>c1g hD f (m+1) _ (d9g (hD m) h)
theorem e8j {l:List Int} {lit cp k:Nat} {s:LSt} (ho:s.Ok l.length lit (k+1)) (hk:k<l.length) (hr:b4p l (k+1) s.runs) (hf:a8s l (k+1) s.first):b4p l k (d0w l lit cp k s).runs/\a8s l k (d0w l lit cp k s).first:=by
 have ac:b7u s.runs:=⟨ho.rl,fun x hx=>(ho.rb x hx).1⟩
 have ab:=c6s (l:=l) (at_:=k) (rs:=s.runs) (B:=l.length-(k+1)) (fun x hx=>(ho.rb x hx).2)
 have aa:=d0d hr ac
 refine ⟨d8o hr ac,c1g (fun n hn h3 => ?_) 65 0 _ ?_⟩
 ·obtain ⟨h1,h2⟩:=aa.dd n hn
  have h4:=ab.db n hn
  have h5:=ab.lb
  refine .inr ⟨by simp only;omega,by simp only;omega,by simp only;omega,by simp only;omega,fun j hj => ?_⟩
  exact aa.r1 _ (by omega) h1 j (by simp only at hj;omega)
 ·refine ⟨by show (s.first.set k _).length=_;rw [List.length_set];exact hf.1,fun i h1 h2 => ?_⟩
  show d8a l i (a4s (s.first.set k _) i)
  rw [d1z]
  split
  ·rename_i he
   obtain ⟨rfl,_⟩:=he
   exact .inl ⟨rfl,rfl,rfl⟩
  ·rename_i he
   exact hf.2 i (by
    have:¬ k=i:=fun hh=>he ⟨hh,by rw [hf.1];exact hk⟩
    omega) h2
theorem f0s {l:List Int} {lit cp:Nat}:∀ k s,s.Ok l.length lit k->k<=l.length->b4p l k s.runs->a8s l k s.first->a8s l 0 (lGo l lit cp k s).first
 | 0,_,_,_,_,h=>h
 | k+1,s,ho,hk,hr,hf=>by
  obtain ⟨h1,h2⟩:=e8j (cp:=cp) ho (by omega) hr hf
  exact f0s k _ (c7c ho (by omega)) (by omega) h1 h2
theorem d9i (l:List Int) (lit cp:Nat):a8s l 0 (b4e l lit cp).first:=by
 refine f0s _ _ (c1h _ _) (zQ _) (fun d _ _ j hj => ?_) ⟨zV,fun i h1 h2=>by omega⟩
 exfalso
 have:(List.replicate 1025 0).getD d 0=0:=by
  rw [zD,List.getElem?_replicate]
  split<;>rfl
 have aa:j<(List.replicate 1025 0).getD d 0:=hj
 omega
def b2p (l:List Int):Nat->List Tok->Prop
 | i,[]=>l.length<=i
 | i,t::T=>i<l.length/\d8a l i t/\b2p l (i+max t.len 1) T
theorem c5x {l:List Int} {F:List Tok} (h:a8s l 0 F):∀ f i,l.length<=i+f->b2p l i (a9e F l.length f i)
 | 0,i,hi=>by simpa [a9e,b2p] using hi
 | f+1,i,hi=>by
  unfold a9e
  split
  ·rename_i hl
   exact ⟨hl,h.2 i (Nat.zero_le _) hl,c5x h f _ (by omega)⟩
  ·show l.length<=i
   omega
theorem d3r (l:List Int) (lit cp:Nat):b2p l 0 (a5z l lit cp):=c5x (d9i l lit cp) _ _ (by omega)
def d7a (bs:List Nat):List Nat:=bs++List.replicate ((8-bs.length%8)%8) 0
theorem b9m (bs:List Nat):(d7a bs).length=8*((bs.length+7) / 8):=by
 unfold d7a
 rw [zC,zV]
 omega
theorem e6g (w:World) (b:Nat) (F bs:List Nat) (h:a2n w b F bs) (hlen:bs.length<549755813000) :
  Calls Tryz.prog 51 #[.pointer (some ⟨b,0,none⟩)] w fun e w'=>e=.returned (.tuple #[])/\∃ F',a2n w' b F' (d7a bs)/\a0u F F' w w':=by
 have HW:=hid h
 clear h
 go_enter Tryz.func51,Tryz.ntmps51
 go_wp2_with fail
 go_loopg [] ((8-bs.length%8)%8) (fun j wr=>∃ (i:Nat) (F':List Nat),i+j=(8-bs.length%8)%8/\Hid (a2n wr b F' (bs++List.replicate i 0))/\Hid (a0u F F' w wr))
 case atStart=>exact ⟨0,F,by omega,hid (by simpa using HW.out),hid (a0u.refl _ _)⟩
 case round =>
  obtain ⟨i,F',af,HR,HG⟩:=hrel
  obtain ⟨v,G,hb,-,-⟩:=HR.out.ex
  have c1:=hb.cell 1
  simp only [zC,zV] at c1
  simp at c1
  obtain ⟨q,hq⟩:=zX (bs.length+i)
  have aa:((bs.length:Int)+(i:Int))=(q:Int):=by omega
  rw [aa] at c1
  rcases gk with _ | j
  ·have hm:(q:Int)%8=0:=by omega
   obtain rfl:i=(8-bs.length%8)%8:=by omega
   clear hb hq aa
   go_wp2
   go_end0
   exact ⟨rfl,F',HR.out,HG.out⟩
  ·obtain ⟨r,hr⟩:=zX (q%8)
   have hm:(q:Int)%8=(r:Int):=by omega
   have ae:((r:Int) != 0)=true:=by rw [bne_iff_ne];omega
   have ac:=c6f wr b F' _ 0 HR.out (by omega) (by rw [zC,zV];omega)
   clear hb hq aa hr
   go_wp2_with fail
   refine ac.mono ?_
   rintro e w2 ⟨rfl,F2,ab,ad⟩
   go_wp2_with fail
   go_roundg j
   case measure=>omega
   case rel =>
    refine ⟨i+1,F2,by omega,hid ?_,hid (HG.out.trans ad)⟩
    rw [List.replicate_succ',<-zH]
    exact ab
theorem a3f (w:World) (o:Obj):(w.alloc o).heap.size=w.heap.size+1:=by
 show (w.heap.push o).size=_
 exact Array.size_push _
theorem Blk.new2 (w:World) (o:Obj) (t:TypeId) (cs:Array Value):Blk ((w.alloc o).alloc (.cells cs t)) (w.heap.size+1) t cs:=by
 have h:=Blk.new (w.alloc o) t cs
 rw [a3f] at h
 exact h
theorem Blk.new3 (w:World) (o o2:Obj) (t:TypeId) (cs:Array Value):Blk (((w.alloc o).alloc o2).alloc (.cells cs t)) (w.heap.size+1+1) t cs:=by
 have h:=Blk.new2 (w.alloc o) o2 t cs
 rw [a3f] at h
 exact h
def a6y (p:a2a) (g o cap:Nat):Value:=.agg #[.int .i64 p.W,.int .i64 p.H,.int .i64 p.d,.slice (some ⟨g,o,none⟩) p.P.length cap]
structure a4l (w:World) (p:a2a) (g o:Nat) (B:Nat->Option Addr) (c:Nat->Nat) (G:List Nat):Prop where
 ok:p.Ok
 gG:g∈G
 lt:∀ x∈G,x<w.heap.size
 cell:∀ i,i<p.P.length->w.cell? ⟨g,o+i,none⟩=some (.slice (B i) (p.W*p.H) (c i))
 cells:∀ i,i<p.P.length->a0d vi w (B i) (p.P.getD i [])
 blk:∀ i,i<p.P.length->∀ ad,B i=some ad->ad.block∈G
 cap:∀ i,i<p.P.length->p.W*p.H<=c i/\c i<=9223372036854775807
section
variable {w w':World} {p:a2a} {g o:Nat} {B:Nat->Option Addr} {c:Nat->Nat} {G F:List Nat}
theorem a4l.chg (h:a4l w p g o B c G) (hc:Chg F w w') (hd:∀ x∈G,x∉F):a4l w' p g o B c G :=
 { h with
  lt:=fun x hx=>Nat.lt_of_lt_of_le (h.lt x hx) hc.size
  cell:=fun i hi=>(World.cell?_of_block (w:=w) (hc.block g (h.lt g h.gG) (hd g h.gG))).trans (h.cell i hi)
  cells:=fun i hi=>(h.cells i hi).chg hc fun ad e=>hd _ (h.blk i hi ad e) }
theorem a4l.same (h:a4l w p g o B c G) (hc:Chg [] w w'):a4l w' p g o B c G:=h.chg hc (by simp)
theorem a4l.len (h:a4l w p g o B c G) {i:Nat} (hi:i<p.P.length):(p.P.getD i []).length=p.W*p.H:=h.ok.len _ (by
 rw [zD,zF hi]
 exact zG hi)
theorem a4l.at_ (h:a4l w p g o B c G) {i:Nat} (hi:i<p.P.length):∃ b q,B i=some ⟨b,q,none⟩/\b∈G/\∀ k,k<p.W*p.H->w.cell? ⟨b,q+k,none⟩=some (.int .i64 ((p.P.getD i []).getD k 0)):=by
 have hl:=h.len hi
 obtain ⟨b,q,e,hb,hc⟩:=(h.cells i hi).ex (by rw [hl];exact h.ok.pos)
 refine ⟨b,q,e,h.blk i hi _ e,fun k hk => ?_⟩
 refine hc k _ ?_
 rw [zD (l:=p.P.getD i []),zF (by rw [hl];exact hk)]
 rfl
end
theorem b7k:b6m Tryz.prog 25 22 (.slice none 0 0) 1 24:=.mk' Tryz.underlying25 (by kernel_rfl)
structure a2k (w:World) (xs:List Value) (P:List (List Int)) (gs:List Nat):Prop where
 lx:xs.length=P.length
 lg:gs.length=P.length
 nd:gs.Nodup
 row:∀ (i:Nat) (l:List Int),P[i]?=some l->∃ u g,xs[i]?=some u/\gs[i]?=some g/\Row w 3 u g (l.map vi)
section
variable {w w':World} {xs:List Value} {P:List (List Int)} {gs F:List Nat}
theorem a2k.nil (w:World):a2k w [] [] []:=⟨rfl,rfl,List.nodup_nil,fun i l h=>by simp at h⟩
theorem a2k.chg (h:a2k w xs P gs) (hc:Chg F w w') (hd:∀ x∈gs,x∉F):a2k w' xs P gs :=
 ⟨h.lx,h.lg,h.nd,fun i l hl=>by
  obtain ⟨u,g,h1,h2,h3⟩:=h.row i l hl
  exact ⟨u,g,h1,h2,h3.chg hc (hd g (List.mem_of_getElem? h2))⟩⟩
theorem a2k.same (h:a2k w xs P gs) (hc:Chg [] w w'):a2k w' xs P gs:=h.chg hc (by simp)
theorem a2k.lt (h:a2k w xs P gs):∀ x∈gs,x<w.heap.size:=fun x hx=>by
 obtain ⟨i,hi,rfl⟩:=List.getElem_of_mem hx
 have hi':i<P.length:=by rw [<-h.lg];exact hi
 obtain ⟨u,g,h1,h2,h3⟩:=h.row i _ (zF hi')
 rw [zF hi] at h2
 injection h2 with h2
 rw [h2]
 exact h3.lt
theorem a2k.snoc (h:a2k w xs P gs) {u:Value} {g:Nat} {l:List Int} (r:Row w 3 u g (l.map vi)) (hg:g∉gs):a2k w (xs++[u]) (P++[l]) (gs++[g]):=by
 refine ⟨by simp [h.lx],by simp [h.lg],?_,fun i l' hl => ?_⟩
 ·rw [List.nodup_append]
  refine ⟨h.nd,by simp,fun a ha b hb => ?_⟩
  simp at hb
  subst hb
  exact fun e=>hg (by rw [<-e];exact ha)
 ·rcases Nat.lt_trichotomy i P.length with hi | hi | hi
  ·rw [List.getElem?_append_left hi] at hl
   obtain ⟨u',g',h1,h2,h3⟩:=h.row i l' hl
   exact ⟨u',g',by rw [List.getElem?_append_left (by rw [h.lx];exact hi)];exact h1,by rw [List.getElem?_append_left (by rw [h.lg];exact hi)];exact h2,h3⟩
  ·subst hi
   simp at hl
   subst hl
   exact ⟨u,g,by rw [<-h.lx];simp,by rw [<-h.lg];simp,r⟩
  ·rw [List.getElem?_eq_none (by simp;omega)] at hl
   cases hl
theorem a2k.set (h:a2k w xs P gs) {i g:Nat} {u:Value} (hx:xs[i]?=some u) (hg:gs[i]?=some g) {l:List Int} (r:Row w' 3 u g (l.map vi)) (hc:Chg [g] w w'):a2k w' xs (P.set i l) gs:=by
 refine ⟨by rw [h.lx,List.length_set],by rw [h.lg,List.length_set],h.nd,fun k l' hl => ?_⟩
 by_cases hk:i=k
 ·subst hk
  have hi:i<P.length:=by rw [<-h.lx];exact (List.getElem?_eq_some_iff.1 hx).1
  rw [List.getElem?_set_self hi] at hl
  injection hl with hl
  subst hl
  exact ⟨u,g,hx,hg,r⟩
 ·rw [List.getElem?_set_ne hk] at hl
  obtain ⟨u',g',h1,h2,h3⟩:=h.row k l' hl
  refine ⟨u',g',h1,h2,h3.chg hc fun hm => ?_⟩
  simp at hm
  subst hm
  have hi:=(List.getElem?_eq_some_iff.1 hg).1
  have aa:=(List.getElem?_eq_some_iff.1 h2).1
  have e1:=(List.getElem?_eq_some_iff.1 hg).2
  have e2:=(List.getElem?_eq_some_iff.1 h2).2
  exact hk ((List.getElem_inj h.nd).1 (e1.trans e2.symm))
end
structure a1x (w:World) (p:a2a) (gP cap:Nat) (xs:List Value) (gs:List Nat):Prop where
 ok:p.Ok
 row:Row w 22 (.slice (some ⟨gP,0,none⟩) p.P.length cap) gP xs
 pl:a2k w xs p.P gs
def f0z:Option Value->Option Addr
 | some (.slice a _ _)=>a
 | _=>none
def f1a:Option Value->Nat
 | some (.slice _ _ c)=>c
 | _=>0
section
variable {w w':World} {p:a2a} {gP cap:Nat} {xs:List Value} {gs F:List Nat}
theorem a1x.chg (h:a1x w p gP cap xs gs) (hc:Chg F w w') (hP:gP∉F) (hd:∀ x∈gs,x∉F):a1x w' p gP cap xs gs:=⟨h.ok,h.row.chg hc hP,h.pl.chg hc hd⟩
theorem a1x.same (h:a1x w p gP cap xs gs) (hc:Chg [] w w'):a1x w' p gP cap xs gs:=h.chg hc (by simp) (by simp)
theorem a1x.ltP (h:a1x w p gP cap xs gs):gP<w.heap.size:=h.row.lt
theorem a1x.plane (h:a1x w p gP cap xs gs) {i:Nat} (hi:i<p.P.length):∃ g c,xs[i]?=some (.slice (some ⟨g,0,none⟩) (p.W*p.H) c)/\gs[i]?=some g/\Row w 3 (.slice (some ⟨g,0,none⟩) (p.W*p.H) c) g ((p.P.getD i []).map vi)/\w.cell? ⟨gP,i,none⟩=some (.slice (some ⟨g,0,none⟩) (p.W*p.H) c):=by
 have hP:p.P[i]?=some (p.P.getD i []):=by rw [zD,zF hi];rfl
 obtain ⟨u,g,h1,h2,h3⟩:=h.pl.row i _ hP
 obtain ⟨c,rfl,ab,_⟩:=h3.oq
 have hl:(p.P.getD i []).length=p.W*p.H:=h.ok.len _ (List.mem_of_getElem? hP)
 rw [hl] at h1 h3
 obtain ⟨_,_,_,_,aa,_⟩:=h.row.open_
 refine ⟨g,c,h1,h2,h3,?_⟩
 rw [aa i (by rw [h.pl.lx];exact hi),h1]
theorem a1x.at_ (h:a1x w p gP cap xs gs):a4l w p gP 0 (fun i=>f0z xs[i]?) (fun i=>f1a xs[i]?) (gP::gs) where
 ok:=h.ok
 gG:=by simp
 lt:=fun x hx=>by
  rcases zJ.1 hx with rfl | hx
  ·exact h.row.lt
  ·exact h.pl.lt x hx
 cell:=fun i hi=>by
  obtain ⟨g,c,h1,h2,h3,h4⟩:=h.plane hi
  rw [Nat.zero_add,h4,h1]
  rfl
 cells:=fun i hi=>by
  obtain ⟨g,c,h1,h2,h3,h4⟩:=h.plane hi
  rw [h1]
  have ac:=h3.lt
  obtain ⟨c',e,_,_,ab,_⟩:=h3.oq
  exact ⟨fun _=>⟨g,0,rfl,ac,fun k a ha=>by rw [Nat.zero_add];exact ab k a ha⟩⟩
 blk:=fun i hi ad e=>by
  obtain ⟨g,c,h1,h2,h3,h4⟩:=h.plane hi
  rw [h1] at e
  injection e with e
  subst e
  exact List.mem_cons_of_mem _ (List.mem_of_getElem? h2)
 cap:=fun i hi=>by
  obtain ⟨g,c,h1,h2,h3,h4⟩:=h.plane hi
  rw [h1]
  obtain ⟨c',e,ae,aa,_⟩:=h3.oq
  injection e with _ e1 e2
  subst e2
  exact ⟨by show _<=c;omega,aa⟩
end
theorem a1x.setPlane {w w':World} {p p':a2a} {gP cap:Nat} {xs:List Value} {gs:List Nat} (h:a1x w p gP cap xs gs) {i g:Nat} {u:Value} {l:List Int} (hx:xs[i]?=some u) (hg:gs[i]?=some g)
  (r:Row w' 3 u g (l.map vi)) (hc:Chg [g] w w') (hgP:gP≠g) (hok:p'.Ok) (hP:p'.P=p.P.set i l):a1x w' p' gP cap xs gs:=by
 refine ⟨hok,?_,?_⟩
 ·have hl:p'.P.length=p.P.length:=by rw [hP,List.length_set]
  rw [hl]
  exact h.row.chg hc (by simpa using hgP)
 ·rw [hP]
  exact h.pl.set hx hg r hc
theorem a1x.neP {w:World} {p:a2a} {gP cap:Nat} {xs:List Value} {gs:List Nat} (h:a1x w p gP cap xs gs) {i g:Nat} (hi:i<p.P.length) (hg:gs[i]?=some g):gP≠g:=by
 obtain ⟨g',c,h1,h2,h3,_⟩:=h.plane hi
 rw [hg] at h2
 injection h2 with h2
 subst h2
 exact h.row.ne_row h3 (by decide)
theorem e4d {α:Type} {l:List α} {i:Nat} {x:α} (h:l.Nodup) (hx:x∉l):(l.set i x).Nodup:=by
 rw [List.Nodup,List.pairwise_iff_getElem] at h ⊢
 intro a b ha hb aa e
 rw [List.length_set] at ha hb
 have hm:∀ k (hk:k<l.length),l[k]∈l:=fun k hk=>zG hk
 rw [List.getElem_set,List.getElem_set] at e
 split at e
 ·split at e
  ·omega
  ·exact hx (e ▸ hm b hb)
 ·split at e
  ·exact hx (e ▸ hm a ha)
  ·exact h a b ha hb aa e
theorem a2k.replace {w w':World} {xs:List Value} {P:List (List Int)} {gs F:List Nat} (h:a2k w xs P gs) {i g:Nat} {u:Value} {l:List Int} (hi:i<P.length)
  (r:Row w' 3 u g (l.map vi)) (hc:Chg F w w') (hd:∀ x∈gs,x∉F) (hg:g∉gs):a2k w' (xs.set i u) (P.set i l) (gs.set i g):=by
 refine ⟨by rw [List.length_set,List.length_set,h.lx],by rw [List.length_set,List.length_set,h.lg],e4d h.nd hg,fun k l' hl => ?_⟩
 by_cases hk:i=k
 ·subst hk
  rw [List.getElem?_set_self hi] at hl
  injection hl with hl
  subst hl
  exact ⟨u,g,List.getElem?_set_self (by rw [h.lx];exact hi),List.getElem?_set_self (by rw [h.lg];exact hi),r⟩
 ·rw [List.getElem?_set_ne hk] at hl
  obtain ⟨u',g',h1,h2,h3⟩:=h.row k l' hl
  exact ⟨u',g',by rw [List.getElem?_set_ne hk];exact h1,by rw [List.getElem?_set_ne hk];exact h2,h3.chg hc (hd g' (List.mem_of_getElem? h2))⟩
theorem a1x.replace {w wa:World} {p p':a2a} {gP cap:Nat} {xs:List Value} {gs F:List Nat} (h:a1x w p gP cap xs gs) {i g:Nat} {u:Value} {l:List Int} (hi:i<p.P.length)
  (r:Row wa 3 u g (l.map vi)) (hc:Chg F w wa) (hF:∀ x∈gP::gs,x∉F) (hg:w.heap.size<=g) (hok:p'.Ok) (hP:p'.P=p.P.set i l) :
  a1x (wa.setCell ⟨gP,i,none⟩ u) p' gP cap (xs.set i u) (gs.set i g):=by
 have ae:g∉gs:=fun hm=>by have:=h.pl.lt g hm;omega
 have aa:gP≠g:=fun e=>by have:=h.ltP;omega
 have ab:gP∉gs:=fun hm=>by
  obtain ⟨k,hk,e⟩:=List.getElem_of_mem hm
  have ac:k<p.P.length:=by rw [<-h.pl.lg];exact hk
  have:=h.neP ac (zF hk)
  exact this e.symm
 have ad:Chg [gP] wa (wa.setCell ⟨gP,i,none⟩ u):=(zR [gP] wa).setCell (p:=⟨gP,i,none⟩) (.inl (by simp)) u
 refine ⟨hok,?_,?_⟩
 ·have hl:p'.P.length=p.P.length:=by rw [hP,List.length_set]
  rw [hl]
  exact (h.row.chg hc (hF gP (by simp))).set_ (by rw [h.pl.lx];exact hi) u
 ·rw [hP]
  have h1:=h.pl.replace hi r hc (fun x hx=>hF x (by simp [hx])) ae
  refine h1.chg ad ?_
  intro x hx hm
  simp at hm
  subst hm
  rcases List.mem_or_eq_of_mem_set hx with h2 | h2
  ·exact ab h2
  ·exact aa h2
theorem a1x.sample {w:World} {p p':a2a} {gP cap:Nat} {xs:List Value} {gs:List Nat} (h:a1x w p gP cap xs gs) {i g k:Nat} {u:Value} {v:Int} (hx:xs[i]?=some u) (hg:gs[i]?=some g) (hi:i<p.P.length)
  (hr:Row w 3 u g ((p.P.getD i []).map vi)) (hk:k<(p.P.getD i []).length) (hok:p'.Ok) (hP:p'.P=p.P.set i ((p.P.getD i []).set k v)) :
  a1x (w.setCell ⟨g,k,none⟩ (.int .i64 v)) p' gP cap xs gs:=by
 have h1:=hr.set_ (i:=k) (by rw [zE];exact hk) (.int .i64 v)
 have e:((p.P.getD i []).map vi).set k (.int .i64 v)=((p.P.getD i []).set k v).map vi:=by rw [List.map_set];rfl
 rw [e] at h1
 exact h.setPlane hx hg h1 ((zR [g] w).setCell (p:=⟨g,k,none⟩) (.inl (by simp)) _) (h.neP hi hg) hok hP
theorem d1l (W H d n:Nat) (w:World) (w0:1<=W) (w1:W<=64) (h0:1<=H) (h1:H<=64) (d0:1<=d) (d1:d<=16) (n0:1<=n) (n1:n<=4) :
  Calls Tryz.prog 82 #[.int .i64 W,.int .i64 H,.int .i64 d,.int .i64 n] w fun e w'=>e=.returned (.bool true)/\w=w':=by
 have t1:decide ((1:Int)<=(W:Int))=true:=zB (by omega)
 have t2:decide ((W:Int)<=64)=true:=zB (by omega)
 have t3:decide ((1:Int)<=(H:Int))=true:=zB (by omega)
 have t4:decide ((H:Int)<=64)=true:=zB (by omega)
 have t5:decide ((1:Int)<=(d:Int))=true:=zB (by omega)
 have t6:decide ((d:Int)<=16)=true:=zB (by omega)
 have t7:decide ((1:Int)<=(n:Int))=true:=zB (by omega)
 have t8:decide ((n:Int)<=4)=true:=zB (by omega)
 clear w0 w1 h0 h1 d0 d1 n0 n1
 go_enter Tryz.func82,Tryz.ntmps82
 go_wp2
 go_ret
 exact ⟨rfl,rfl⟩
theorem c1d {w:World} {p:a2a} {g o:Nat} {B:Nat->Option Addr} {c:Nat->Nat} {G:List Nat} (cap:Nat) (h:a4l w p g o B c G) :
  Calls Tryz.prog 42 #[a6y p g o cap] w fun e w'=>e=.returned (.bool true)/\Chg [] w w':=by
 obtain ⟨W,hW⟩:=zX (p.W)
 obtain ⟨H,hH⟩:=zX (p.H)
 obtain ⟨d,hd⟩:=zX (p.d)
 obtain ⟨n,hn⟩:=zX (p.P.length)
 obtain ⟨N,hN⟩:=zX (W*H)
 have eN:(W:Int)*(H:Int)=(N:Int):=by rw [hN];simp
 have aa:=h.ok
 have hp:=d1l W H d n
 have am:=fun w'=>hp w' (by rw [hW];exact aa.w0) (by rw [hW];exact aa.w1) (by rw [hH];exact aa.h0) (by rw [hH];exact aa.h1) (by rw [hd];exact aa.d0) (by rw [hd];exact aa.d1) (by rw [hn];exact aa.n0) (by rw [hn];exact aa.n1)
 have ay:N<=4096:=by rw [hN,hW,hH];exact aa.area
 have aq:n<=4:=by rw [hn];exact aa.n1
 have ak:1<=d:=by rw [hd];exact aa.d0
 have ao:d<=16:=by rw [hd];exact aa.d1
 have ab:∀ w',Chg [] w w'->∀ i,i<n->∃ b q,w'.cell? ⟨g,o+i,none⟩=some (.slice (some ⟨b,q,none⟩) N (c i))/\∀ k,k<N->∃ s:Int,w'.cell? ⟨b,q+k,none⟩=some (.int .i64 s)/\0<=s/\s<2^d:=by
  intro w' hc i hi
  have h':=h.same hc
  rw [hn] at hi
  obtain ⟨b,q,e,hb,hk⟩:=h'.at_ hi
  have ae:=h'.cell i hi
  rw [e,<-hW,<-hH,<-hN] at ae
  refine ⟨b,q,ae,fun k hk'=>⟨_,hk k (by rw [<-hW,<-hH,<-hN];exact hk'),?_⟩⟩
  rw [hd]
  exact b0l (h'.ok.smp _ (by rw [zD,zF hi];exact zG hi)) k
 unfold a6y
 rw [<-hW,<-hH,<-hd,<-hn]
 obtain ⟨w1,ad⟩:=zX (w.alloc (.cells #[.int .i64 W,.int .i64 H,.int .i64 d,.slice (some ⟨g,o,none⟩) n cap] 27))
 have ag:Chg [] w w1:=by rw [ad];exact (zR [] w).alloc _
 obtain ⟨bb,af⟩:=zX (w.heap.size)
 have ac:Blk w1 bb 27 #[.int .i64 W,.int .i64 H,.int .i64 d,.slice (some ⟨g,o,none⟩) n cap]:=by rw [ad,af];exact Blk.new w _ _
 have b0:=ac.cell 0
 have b1:=ac.cell 1
 have b2:=ac.cell 2
 have b3:=ac.cell 3
 simp at b0 b1 b2 b3
 obtain ⟨ai,aj⟩:=a9c ak ao
 have an:=hid ad
 have ap:=hid af
 have HC:=hid ab
 have ah:=hid ag
 clear hW hH hd hn hN aa hp ab ad af ac ag h
 go_enter Tryz.func42,Tryz.ntmps42
 go_wp2_with fail
 rw [<-an.out,<-ap.out]
 refine (am _).mono ?_
 rintro e w' ⟨rfl,rfl⟩
 go_wp2_with fail
 go_loopg [21] n (fun j iv wr=>∃ i:Nat,iv=.int .i64 i/\i+j=n/\w1=wr)
 case atStart=>exact ⟨0,rfl,by omega,rfl⟩
 case round =>
  obtain ⟨i,rfl,av,rfl⟩:=hrel
  rcases gk with _ | j
  ·obtain rfl:i=n:=by omega
   have t1:decide (i<i)=false:=by simp
   go_wp2
   go_ret
   exact ⟨rfl,ah.out⟩
  ·have hi:i<n:=by omega
   obtain ⟨b,q,ae,hk⟩:=HC.out _ ah.out i hi
   have HK:=hid hk
   have t2:((N:Int) != (N:Int))=false:=by simp
   clear hk
   go_wp2_with fail
   go_loopg [35] N (fun j2 kv wr=>∃ k:Nat,kv=.int .i64 k/\k+j2=N/\w1=wr)
   case atStart=>exact ⟨0,rfl,by omega,rfl⟩
   case round =>
    obtain ⟨k,rfl,aw,rfl⟩:=hrel
    rcases gk with _ | j2
    ·obtain rfl:k=N:=by omega
     go_wp2
     go_roundg j
     case measure=>omega
     case rel=>exact ⟨i+1,by go_num,by omega,rfl⟩
    ·have al:k<N:=by omega
     obtain ⟨s,ar,au,ax⟩:=HK.out k al
     have t3:decide (s<0)=false:=zA (by omega)
     have t4:decide ((2:Int)^d<=s)=false:=zA (by omega)
     go_wp2
     go_roundg j2
     case measure=>omega
     case rel=>exact ⟨k+1,by go_num,by omega,rfl⟩
theorem d2s (w:World) (o:Obj):(w.alloc o).heap.size=w.heap.size+1:=by
 show (w.heap.push o).size=_
 exact Array.size_push _
def e0g (i a b c d:Nat):List Nat:=if i=0 then [a,b,c,d] else if i=1 then [d,b,c,a] else [d,c,b,a]
theorem f2j (w:World) (g a b c d cap:Nat) (h:Row w 5 (.slice (some ⟨g,0,none⟩) 4 cap) g ([a,b,c,d].map b8)) :
  Calls Tryz.prog 92 #[.slice (some ⟨g,0,none⟩) 4 cap] w fun e w'=>e=.returned (.tuple #[])/\Row w' 5 (.slice (some ⟨g,0,none⟩) 4 cap) g ([d,c,b,a].map b8)/\Chg [g] w w':=by
 have HH:=hid h
 clear h
 go_enter Tryz.func92,Tryz.ntmps92
 go_wp2_with fail
 go_loopg [2,3] 2 (fun k s2 s3 wr=>∃ i:Nat,i+k=2/\s2=.int .i64 i/\s3=.int .i64 (3-(i:Int))/\Hid (Row wr 5 (.slice (some ⟨g,0,none⟩) 4 cap) g ((e0g i a b c d).map b8))/\Hid (Chg [g] w wr))
 case atStart=>exact ⟨0,rfl,rfl,rfl,hid HH.out,hid (zR _ _)⟩
 case round =>
  obtain ⟨i,af,rfl,rfl,HR,HC⟩:=hrel
  rcases (show i=0\/i=1\/i=2 by omega) with rfl | rfl | rfl
  ·obtain ⟨_,_,_,_,ad,ab⟩:=HR.out.open_
   have c0:=ad 0 (by simp [e0g])
   have c3:=ad 3 (by simp [e0g])
   have f0:=ab 0
   have f3:=ab 3
   simp [e0g,b8] at c0 c3
   obtain rfl:gk=2:=by omega
   have aa:Row ((wr.setCell ⟨g,0,none⟩ (.int .u8 d)).setCell ⟨g,3,none⟩ (.int .u8 a)).drew 5 (.slice (some ⟨g,0,none⟩) 4 cap) g ((e0g 1 a b c d).map b8) :=
    ((HR.out.set_ (i:=0) (by simp [e0g]) (.int .u8 d)).set_ (i:=3) (by simp [e0g]) (.int .u8 a)).drew
   have ac:=hid aa
   have ae:=hid (((HC.out.setCell (p:=⟨g,0,none⟩) (.inl (by simp)) (.int .u8 d)).setCell (p:=⟨g,3,none⟩) (.inl (by simp)) (.int .u8 a)).drew)
   clear ad ab af aa
   go_wp2_with fail
   go_region
   go_wp2
   go_roundg 1
   case measure=>omega
   case rel=>exact ⟨1,rfl,by go_num,by go_num,ac,ae⟩
  ·obtain ⟨_,_,_,_,ad,ab⟩:=HR.out.open_
   have c1:=ad 1 (by simp [e0g])
   have c2:=ad 2 (by simp [e0g])
   have f1:=ab 1
   have f2:=ab 2
   simp [e0g,b8] at c1 c2
   obtain rfl:gk=1:=by omega
   have aa:Row ((wr.setCell ⟨g,1,none⟩ (.int .u8 c)).setCell ⟨g,2,none⟩ (.int .u8 b)).drew 5 (.slice (some ⟨g,0,none⟩) 4 cap) g ((e0g 2 a b c d).map b8) :=
    ((HR.out.set_ (i:=1) (by simp [e0g]) (.int .u8 c)).set_ (i:=2) (by simp [e0g]) (.int .u8 b)).drew
   have ac:=hid aa
   have ae:=hid (((HC.out.setCell (p:=⟨g,1,none⟩) (.inl (by simp)) (.int .u8 c)).setCell (p:=⟨g,2,none⟩) (.inl (by simp)) (.int .u8 b)).drew)
   clear ad ab af aa
   go_wp2_with fail
   go_region
   go_wp2
   go_roundg 0
   case measure=>omega
   case rel=>exact ⟨2,rfl,by go_num,by go_num,ac,ae⟩
  ·go_wp2
   go_end0
   exact ⟨rfl,HR.out,HC.out⟩
theorem e1o (w:World):Calls Tryz.prog 97 #[.int .i64 4] w fun e w'=>e=.returned (.int .i64 4)/\w=w':=by
 go_enter Tryz.func97,Tryz.ntmps97
 go_wp2
 go_ret
 exact ⟨rfl,rfl⟩
def e3l (n i:Nat):List Nat:=(List.range i).map fun k=>n / 256^k%256
theorem e3n (n i:Nat):e3l n (i+1)=e3l n i++[n / 256^i%256]:=by simp [e3l,List.range_succ]
theorem e3m (n:Nat):e3l n 4=[n%256,n / 256%256,n / 65536%256,n / 16777216%256]:=by simp [e3l,List.range_succ]
theorem e5r (n:Nat) (hn:n<4294967296) (w:World) :
  Calls Tryz.prog 91 #[.int .u64 n,.int .i64 4] w fun e w'=>∃ (g cap:Nat),e=.returned (.slice (some ⟨g,0,none⟩) 4 cap)/\Row w' 5 (.slice (some ⟨g,0,none⟩) 4 cap) g ((e3l n 4).map b8)/\Chg [] w w'/\w.heap.size<=g:=by
 have ak:=fun w'=>e1o w'
 go_enter Tryz.func91,Tryz.ntmps91
 go_wp2_with fail
 refine (ak _).mono ?_
 rintro e w' ⟨rfl,rfl⟩
 go_wp2_with fail
 go_loopg [0,5,8] 4 (fun j v0 v5 v8 wr=>∃ (i m:Nat) (F:List Nat),v8=.int .i64 i/\i+j=4/\v0=.int .u64 m/\Hid (m=n / 256^i)/\m<4294967296/\Hid (Own wr 5 v5 F ((e3l n i).map b8))/\Hid (Chg [] w wr)/\Hid (∀ x∈F,w.heap.size<=x)/\Hid (0<i->v5≠.slice none 0 0))
 case atStart=>exact ⟨0,n,[],rfl,rfl,rfl,hid (by simp),hn,hid (Own.nil _ _),hid (zR _ _),hid (by simp),hid (by simp)⟩
 case round =>
  obtain ⟨i,m,F,rfl,ar,rfl,HM,hm,HO,HC,HF,HV⟩:=hrel
  rcases gk with _ | j
  ·obtain rfl:i=4:=by omega
   rcases HO.out.cases with ⟨hv,_⟩ | ⟨g,aa,hF⟩
   ·exact absurd hv (HV.out (by omega))
   ·obtain ⟨cap,rfl,_⟩:=aa.oq
    have an:=HF.out g (by rw [hF];simp)
    have ac:=hid aa
    clear aa
    go_wp2
    go_ret
    exact ⟨g,cap,rfl,ac.out,HC.out,an⟩
  ·have t1:decide ((i:Int)<4)=true:=zB (by omega)
   have ab:(m:Int)%256=((m%256:Nat):Int):=by omega
   have af:(m:Int) / 256=((m / 256:Nat):Int):=by omega
   obtain ⟨r,hr⟩:=zX (m%256)
   obtain ⟨q,hq⟩:=zX (m / 256)
   rw [<-hr] at ab
   rw [<-hq] at af
   have aq:r<256:=by omega
   have ae:q<4294967296:=by omega
   have ag:e3l n (i+1)=e3l n i++[r]:=by rw [e3n,<-HM.out,<-hr]
   have aj:q=n / 256^(i+1):=by rw [hq,HM.out,Nat.pow_succ,Nat.div_div_eq_div_mul]
   have al:=hid ag
   have ao:=hid aj
   have ad:=HO.out.alloc (.cells #[.int .u8 r] 5)
   have au:IntKind.u8.wrap (r:Int)=(r:Int):=by rw [IntKind.wrap_u8];omega
   have ah:Hid ((e3l n i).length=i):=hid (by simp [e3l])
   clear ag aj hr hq
   go_wp2_with (at_builtin;refine a0f rfl rfl b2h rfl rfl ad (.int .u8 r) rfl ?c1 ?c2 ?c3 ?c4 ?_)
   case c1=>simp [go_sem]
   case c2=>rfl
   case c3=>simp [ah.out];omega
   case c4=>simp [ah.out];omega
   intro g2 ap w2 am ai
   go_wp2_with fail
   go_roundg j
   case measure=>omega
   case rel =>
    refine ⟨i+1,q,[g2],by go_num,by omega,rfl,hid ao.out,ae,hid ?_,hid ?_,hid ?_,hid (by simp)⟩
    ·rw [al.out,zM]
     exact am.toOwn
    ·exact (HC.out.tq ((zR [] wr).alloc _)).trans ai.chg fun x hx => .inr (HF.out x hx)
    ·intro x hx
     rcases ai.new x hx with h | h
     ·exact HF.out x h
     ·have:=HC.out.size;rw [d2s] at h;omega
theorem f1f (n:Nat) (hn:n<4294967296) (w:World) :
  Calls Tryz.prog 52 #[.int .u64 n,.int .i64 4] w fun e w'=>∃ (g cap:Nat),e=.returned (.slice (some ⟨g,0,none⟩) 4 cap)/\Row w' 5 (.slice (some ⟨g,0,none⟩) 4 cap) g ((d8f n).map b8)/\Chg [] w w'/\w.heap.size<=g:=by
 have ac:=e5r n hn w
 go_enter Tryz.func52,Tryz.ntmps52
 go_wp2_with fail
 refine ac.mono ?_
 rintro e w1 ⟨g,cap,rfl,aa,ae,hg⟩
 rw [e3m] at aa
 have af:=f2j w1 g _ _ _ _ cap aa
 clear ac aa
 go_wp2_with fail
 refine af.mono ?_
 rintro e w2 ⟨rfl,ab,ad⟩
 go_wp2
 go_ret
 exact ⟨g,cap,rfl,ab,ae.trans ad (fun x hx => .inr (by simp at hx;omega)),hg⟩
theorem Row.cells_b8 {w:World} {v:Value} {g:Nat} {l:List Nat} (h:Row w 5 v g (l.map b8)):∃ cap,v=.slice (some ⟨g,0,none⟩) l.length cap/\l.length<=cap/\cap<=9223372036854775807/\a0d b8 w (some ⟨g,0,none⟩) l:=by
 have aa:=h.lt
 obtain ⟨cap,rfl,h2,h3,h4,h5⟩:=h.oq
 exact ⟨cap,rfl,h2,h3,⟨fun _=>⟨g,0,rfl,aa,fun i a ha=>by rw [Nat.zero_add];exact h4 i a ha⟩⟩⟩
theorem a0d.raw_b8 {w:World} {A:Option Addr} {l:List Nat} (h:a0d b8 w A l):a0d (fun u=>u) w A (l.map b8):=⟨fun h0=>by
 obtain ⟨b,o,e1,e2,e3⟩:=h.ex (by simpa using h0)
 refine ⟨b,o,e1,e2,fun i a ha => ?_⟩
 rw [zW] at ha
 obtain ⟨x,hx,rfl⟩:=Option.map_eq_some_iff.1 ha
 exact e3 i x hx⟩
theorem Row.cellsB {w:World} {g g' n c:Nat} {l:List Nat} (h:Row w 5 (.slice (some ⟨g',0,none⟩) n c) g (l.map b8)):a0d (fun u=>u) w (some ⟨g',0,none⟩) (l.map b8):=by
 obtain ⟨cap,e,_,_,hc⟩:=Row.cells_b8 h
 injection e with e _ _
 rw [e]
 exact hc.raw_b8
theorem e4j {w:World} {e:TypeId} {v:Value} {F:List Nat} {ys:List Value} {N:Nat} (h:Own w e v F ys) (hl:ys.length=N) (h0:0<N):∃ g c,v=.slice (some ⟨g,0,none⟩) N c/\Row w e (.slice (some ⟨g,0,none⟩) N c) g ys/\F=[g]:=by
 rcases h.cases with ⟨_,he,_⟩ | ⟨g,hr,hF⟩
 ·rw [he] at hl
  simp at hl
  omega
 ·have aa:=hr
  obtain ⟨c,rfl,_⟩:=hr.open_
  rw [hl] at aa ⊢
  exact ⟨g,c,rfl,aa,hF⟩
theorem b2z {bs:List Nat} (h:∀ b∈bs,b<2):∀ d∈a1n bs,d<256:=by
 intro d hd
 obtain ⟨i,_,rfl⟩:=List.mem_map.1 hd
 exact c9p h i
theorem c9o {bs:List Nat} (h:∀ b∈bs,b<2) (k:Nat):bt bs k<2:=by
 unfold bt
 rw [zD]
 cases hx:bs[k]? with
 | none=>simp
 | some x=>exact h x (List.mem_of_getElem? hx)
theorem c9k {bs:List Nat} (h:∀ b∈bs,b<2) {i:Nat} (hi:i<bs.length):a8h (a1n bs) i=bt bs i:=by
 have hq:i / 8<(bs.length+7) / 8:=by omega
 have e:(a1n bs).getD (i / 8) 0=a3k bs (i / 8):=by
  rw [zD]
  unfold a1n
  rw [zW,List.getElem?_range hq]
  rfl
 unfold a8h
 rw [e]
 obtain ⟨q,aa⟩:=zX (i / 8)
 obtain ⟨r,ab⟩:=zX (i%8)
 have ac:i=8*q+r:=by omega
 have ad:r<8:=by omega
 rw [<-aa,<-ab,ac]
 have b0:=c9o h (8*q)
 have b1:=c9o h (8*q+1)
 have b2:=c9o h (8*q+2)
 have b3:=c9o h (8*q+3)
 have b4:=c9o h (8*q+4)
 have b5:=c9o h (8*q+5)
 have b6:=c9o h (8*q+6)
 have b7:=c9o h (8*q+7)
 unfold a3k
 clear aa ab ac hq e hi
 obtain rfl | rfl | rfl | rfl | rfl | rfl | rfl | rfl:r=0\/r=1\/r=2\/r=3\/r=4\/r=5\/r=6\/r=7:=by omega
 all_goals
  simp only [Nat.add_zero,Nat.sub_zero,Nat.sub_self,Nat.reduceSub,Nat.reducePow]
  omega
theorem c3l {bs:List Nat} (h:∀ b∈bs,b<2):∃ rest,a5m (a1n bs)=bs++rest:=by
 refine ⟨(a5m (a1n bs)).drop bs.length,?_⟩
 have aa:bs.length<=(a5m (a1n bs)).length:=by rw [b9w,a4p];omega
 have e:(a5m (a1n bs)).take bs.length=bs:=by
  apply List.ext_getElem?
  intro i
  rcases zZ i bs.length with hi | hi
  ·rw [List.getElem?_take,if_pos hi,b9v (by rw [a4p];omega),c9k h hi]
   unfold bt
   rw [zD,zF hi]
   rfl
  ·rw [List.getElem?_take,if_neg (by omega),List.getElem?_eq_none hi]
 have e2:=List.take_append_drop bs.length (a5m (a1n bs))
 rw [e] at e2
 exact e2.symm
theorem b7v {A B C:List Nat} (h:∀ b∈A++B++C,b<2):a0y (a1n (A++B++C)) A.length B:=by
 obtain ⟨rest,hr⟩:=c3l h
 refine ⟨C++rest,?_⟩
 rw [hr,zH,zH,List.drop_left]
def beN (ds:List Nat):Nat:=ds.foldl (fun n c=>n*256+c) 0
theorem d5h {n:Nat} (h:n<4294967296):beN (d8f n)=n:=by
 unfold beN d8f
 simp only [List.foldl_cons,List.foldl_nil]
 omega
theorem d5u:∀ (ds:List Nat) (a:Nat),(∀ d∈ds,d<256)->ds.foldl (fun n c=>n*256+c) a<(a+1)*256^ds.length
 | [],a,_=>by simp
 | d::ds,a,h=>by
  have h1:=d5u ds (a*256+d) (fun x hx=>h x (by simp [hx]))
  have h2:=h d (by simp)
  rw [List.foldl_cons,zK,Nat.pow_succ]
  refine Nat.lt_of_lt_of_le h1 ?_
  rw [zY (256^ds.length) 256,<-Nat.mul_assoc]
  exact Nat.mul_le_mul_right _ (by omega)
theorem f0n {ds:List Nat} (hd:∀ d∈ds,d<256) (hl:ds.length<=4):beN ds<4294967296:=by
 have h:=d5u ds 0 hd
 have h2:256^ds.length<=256^4:=Nat.pow_le_pow_right (by decide) hl
 unfold beN
 omega
theorem e6v {ds:List Nat} {i:Nat} (h:i<ds.length):beN (ds.take (i+1))=beN (ds.take i)*256+ds.getD i 0:=by
 unfold beN
 rw [List.take_succ_eq_append_getElem h,List.foldl_append,zD,zF h]
 rfl
structure f0l (w:World) (b g cap:Nat) (ds:List Nat):Prop where
 blk:Blk w b 139 #[.slice (some ⟨g,0,none⟩) ds.length cap,.int .i64 0,.int .i64 0]
 row:Row w 5 (.slice (some ⟨g,0,none⟩) ds.length cap) g (ds.map b8)
 ne:g≠b
theorem f0l.same {w w':World} {b g cap:Nat} {ds:List Nat} (h:f0l w b g cap ds) (hc:Chg [] w w'):f0l w' b g cap ds:=⟨h.blk.chg hc (by simp),h.row.chg hc (by simp),h.ne⟩
theorem e4h (w:World) (A:Option Addr) (cap:Nat) (ds:List Nat) (hc:a0d b8 w A ds) (h0:0<ds.length) (hl:ds.length<=4) :
  Calls Tryz.prog 64 #[.slice A ds.length cap] w fun e w'=>∃ b g c,e=.returned (.pointer (some ⟨b,0,none⟩))/\f0l w' b g c ds/\Chg [] w w'/\w.heap.size<=b:=by
 have ab:a0d (fun u=>u) w A (ds.map b8):=⟨fun h0=>by
  obtain ⟨b,o,e1,e2,e3⟩:=hc.ex (by simpa using h0)
  refine ⟨b,o,e1,e2,fun i a ha => ?_⟩
  cases e:ds[i]? with
  | none=>simp [e] at ha
  | some d=>simp [e] at ha;subst ha;exact e3 i d e⟩
 have HC:=hid ab
 clear hc ab
 go_enter Tryz.func64,Tryz.ntmps64
 go_wp2_with (at_builtin;refine a1m rfl rfl b2h rfl rfl (Own.nil _ _) (ds.map b8) ds.length rfl ?c1 ?c2 ?c3 ?c4 ?c5 ?_)
 case c1=>exact (zE _).symm
 case c2=>exact HC.out
 case c3=>exact c4s _
 case c4=>rw [zE,List.length_nil];omega
 case c5=>rw [zE,List.length_nil];omega
 intro v' F' w' h2 h3
 rcases h2.cases with ⟨_,he,_⟩ | ⟨g,aa,hF⟩
 ·exfalso
  rw [List.map_eq_nil_iff.1 he] at h0
  simp at h0
 have hr:=aa
 obtain ⟨c,rfl,-⟩:=aa.oq
 have ac:=hr.lt
 have hs:=h3.size
 go_wp2
 go_ret
 refine ⟨w'.heap.size,g,c,rfl,⟨Blk.new _ _ _,hr.chg ((zR [] w').alloc _) (by simp),by omega⟩,h3.chg.alloc _,hs⟩
theorem e9b (w:World) (b g cap:Nat) (ds:List Nat) (h:f0l w b g cap ds) (hl:ds.length<=4) :
  Calls Tryz.prog 134 #[.pointer (some ⟨b,0,none⟩)] w fun e w'=>e=.returned (.int .i64 ds.length)/\∃ n,w'=w.drewN n:=by
 have ab:=h.blk.cell 0
 have aa:=h.blk.cell 1
 simp at ab aa
 clear h
 go_enter Tryz.func134,Tryz.ntmps134
 go_wp2_with fail
 go_quiet (fail)
 go_wp2
 go_ret
 exact ⟨by simp,_,rfl⟩
theorem e9v (w:World):(sizeOf 5).run Tryz.prog w=.ok 1 w:=by
 exact Tryz.sizeOf5 w
theorem e9d (w:World) (b g cap:Nat) (ds:List Nat) (h:f0l w b g cap ds) (hl:ds.length=4) :
  Calls Tryz.prog 96 #[.pointer (some ⟨b,0,none⟩),.int .i64 4] w fun e w'=>∃ v G,e=.returned v/\Own w' 5 v G (ds.map b8)/\Chg [b] w w':=by
 have aw:=fun w' (h':f0l w' b g cap ds)=>(e9b w' b g cap ds h' (by omega)).mono fun e w'' hh=>(⟨by rw [hh.1,hl];rfl,hh.2⟩:e=.returned (.int .i64 4)/\∃ n,w''=w'.drewN n)
 have hr:=h.row
 have az:=hr.cells_b8
 obtain ⟨aC,e',ap,aG,ao⟩:=az
 injection e' with _ _ e3
 subst e3
 rw [hl] at ap
 obtain ⟨A',aq,-,ae⟩:=c2s (P:=Tryz.prog) Tryz.underlying39 e9v (some ⟨g,0,none⟩) 4 cap 0 4 4 rfl (zQ _) ap
 have ad:=h.blk
 rw [hl] at ad
 have ah:∀ wn,Chg [] w wn->a0d (fun u=>u) wn A' (ds.map b8):=fun wn hn=>by
  have h1:=ae Nat b8 w ds hl ao
  rw [List.drop_zero,zT (by omega)] at h1
  exact (h1.same hn).raw_b8
 have aH:=h.row.lt
 obtain ⟨D,hD⟩:=zX (ds.map b8)
 rw [<-hD] at ah ⊢
 have am:D.length=4:=by rw [hD,zE,hl]
 have ar:∀ u∈D,u.oneCell'=true:=by rw [hD];exact c4s _
 have ab:=ad.cell 0
 have ac:=ad.cell 1
 have aa:=ad.cell 2
 simp at ab ac aa
 have HB:=hid ad
 have aA:=hid (aw w h)
 have aD:=hid ah
 have ak:=hid am
 have ax:=hid ar
 have aB:∀ w,(Instr.slice 39 (.slice (some ⟨g,0,none⟩) 4 cap) (some (.int .i64 0)) (some (.int .i64 4)) none).run Tryz.prog w=.ok (.slice A' 4 (cap-0)) w:=aq
 clear aw hr ao ae ad ah hD am ar h hl aq
 go_enter Tryz.func96,Tryz.ntmps96
 go_wp2_with fail
 refine aA.out.mono ?_
 rintro e w' ⟨rfl,n,rfl⟩
 obtain ⟨wn,ai⟩:=zX (w.drewN n)
 have hn:Chg [] w wn:=by rw [ai];exact (zR [] w).drewN n
 rw [<-ai]
 have ag:=HB.out.chg hn (by simp)
 have ab:=ag.cell 0
 have ac:=ag.cell 1
 have aa:=ag.cell 2
 simp at ab ac aa
 have HN:=hid hn
 clear ai hn ag
 go_wp2_with fail
 refine a0c 15 (by kernel_rfl) (by kernel_rfl) ?_
 simp only [List.take_succ_cons,List.take_zero,List.drop_succ_cons,List.drop_zero]
 repeat (go_big_quiet_step (fail))
 refine wpQuiet_nil ?_
 intro _ aF
 obtain ⟨nq,rfl⟩:=aF
 have HQ:Hid (Chg [] w (wn.drewN nq)):=hid (HN.out.drewN nq)
 have an:=aD.out _ HQ.out
 clear ab ac aa
 go_wp2_with (at_builtin;refine a1m rfl rfl b2h rfl rfl (Own.nil _ _) D 4 rfl ?c1 ?c2 ?c3 ?c4 ?c5 ?_)
 case c1=>exact ak.out.symm
 case c2=>exact an
 case c3=>exact ax.out
 case c4=>rw [ak.out,List.length_nil];omega
 case c5=>rw [ak.out,List.length_nil];omega
 intro v8 F8 w8 av al
 have h8:Own w8 5 v8 F8 D:=by simpa using av
 have aj:Chg [] w w8:=HQ.out.tq al.chg
 have af:=HB.out.chg aj (by simp)
 have ab:=af.cell 0
 have ac:=af.cell 1
 have aa:=af.cell 2
 have aI:=af.frozen 1
 simp at ab ac aa
 have aE:Hid (∀ x∈F8,x≠b):=hid (fun x hx e=>by
  rcases al.new x hx with hh | hh
  ·simp at hh
  ·have h1:=HB.out.lt
   have h2:=HQ.out.size
   omega)
 have H8:=hid h8
 have ay:=hid aj
 clear av al aj af an h8
 go_wp2_with fail
 go_ret
 have au:Chg [b] w8 (w8.setCell ⟨b,1,none⟩ (.int .i64 4)):=(zR [b] w8).setCell (p:=⟨b,1,none⟩) (.inl (by simp)) _
 exact ⟨v8,F8,rfl,H8.out.chg au (fun x hx=>by simpa using aE.out x hx),(ay.out.mono (by simp)).tq au⟩
theorem e4g (w:World):Calls Tryz.prog 97 #[.int .i64 4] w fun e w'=>e=.returned (.int .i64 4)/\w=w':=by
 go_enter Tryz.func97,Tryz.ntmps97
 go_wp2
 go_ret
 exact ⟨rfl,rfl⟩
theorem e4f (w:World) (b g cap:Nat) (ds:List Nat) (h:f0l w b g cap ds) (hl:ds.length=4) (hd:∀ d∈ds,d<256) :
  Calls Tryz.prog 65 #[.pointer (some ⟨b,0,none⟩),.int .i64 4] w fun e w'=>e=.returned (.int .u64 (beN ds:Int))/\Chg [b] w w':=by
 have ai:=e9d w b g cap ds h hl
 have am:=fun w'=>e4g w'
 have ak:∀ k,k<=4->beN (ds.take k)<4294967296:=fun k hk=>f0n (fun d h1=>hd d (List.mem_of_mem_take h1)) (by rw [zI];omega)
 have aa:∀ k,k<4->beN (ds.take (k+1))=beN (ds.take k)*256+ds.getD k 0:=fun k hk=>e6v (by omega)
 have ad:ds.take 4=ds:=zT (by omega)
 have al:∀ k,k<4->ds.getD k 0<256:=fun k hk=>by
  rw [zD,zF (by omega)]
  exact hd _ (zG _)
 have ar:=hid ai
 have ah:=hid ak
 have ae:=hid aa
 have ag:=hid ad
 have ax:=hid al
 have HL:=hid hl
 clear ai ak aa ad al hl h hd
 go_enter Tryz.func65,Tryz.ntmps65
 go_wp2_with fail
 refine (am _).mono ?_
 rintro e w' ⟨rfl,rfl⟩
 go_wp2_with fail
 refine ar.out.mono ?_
 rintro e w2 ⟨v,G,rfl,ab,ao⟩
 obtain ⟨A,c,rfl,-,-,an⟩:=ab.oq
 have aj:∀ k,k<4->∃ g o,A=some ⟨g,o,none⟩/\w2.cell? ⟨g,o+k,none⟩=some (b8 (ds.getD k 0)):=fun k hk=>by
  obtain ⟨g,o,e1,e2,e3⟩:=an.ex (by rw [HL.out];decide)
  refine ⟨g,o,e1,e3 k _ ?_⟩
  rw [zD,zF (by rw [HL.out];exact hk)]
  rfl
 have au:=hid aj
 have av:=hid ao
 rw [HL.out]
 clear ab an aj ao am
 go_wp2_with fail
 go_loopg [5,7,13] 4 (fun j v5 v7 v13 wr=>∃ k:Nat,v13=.int .i64 k/\k+j=4/\v5=.int .u64 (beN (ds.take k):Int)/\w2=wr)
 case atStart=>exact ⟨0,rfl,by omega,rfl,rfl⟩
 case round =>
  obtain ⟨k,rfl,ay,rfl,rfl⟩:=hrel
  rcases gk with _ | j
  ·obtain rfl:k=4:=by omega
   rw [ag.out]
   go_wp2_with fail
   go_ret
   exact ⟨rfl,av.out⟩
  ·have hk:k<4:=by omega
   have t1:decide ((k:Int)<4)=true:=zB (by omega)
   have t2:decide (k<4)=true:=zB (by omega)
   obtain ⟨g9,o9,hA,hx⟩:=au.out k hk
   subst hA
   unfold b8 at hx
   obtain ⟨x,ap⟩:=zX (ds.getD k 0)
   obtain ⟨s,hs⟩:=zX (beN (ds.take k))
   obtain ⟨s2,aq⟩:=zX (s*256)
   obtain ⟨s3,af⟩:=zX (beN (ds.take (k+1)))
   have ac:=ae.out k hk
   have h1:=ah.out k (by omega)
   have h2:=ah.out (k+1) (by omega)
   have h3:=ax.out k hk
   rw [<-ap] at hx ac h3
   rw [<-hs] at ac h1 ⊢
   rw [<-af] at ac h2
   rw [<-aq] at ac
   have e1:(s:Int)*256=(s2:Int):=by omega
   have e2:(s2:Int)+(x:Int)=(s3:Int):=by omega
   have u1:IntKind.u64.wrap (x:Int)=(x:Int):=IntWalk.u64_in _ (by omega)
   have u2:IntKind.u64.wrap (s2:Int)=(s2:Int):=IntWalk.u64_in _ (by omega)
   have u3:IntKind.u64.wrap (s3:Int)=(s3:Int):=IntWalk.u64_in _ (by omega)
   have aw:=hid af
   clear ac h1 h2 h3 hs aq af ap
   go_wp2_with fail
   go_roundg j
   case measure=>omega
   case rel=>exact ⟨k+1,by go_num,by omega,by rw [<-aw.out],rfl⟩
end Go.Proofs.YtepjepkgcdfboaaGreatDoor
