/- kinoraref24.Part by its contract. -/
import Derived.Test.YtepjepkgcdfboaaGreatDoorMg39
import Derived.Test.YtepjepkgcdfboaaGreatDoorMg43
set_option linter.unusedVariables false
set_option linter.unusedSimpArgs false
set_option maxHeartbeats 2000000
set_option maxRecDepth 100000
namespace Go.Proofs.YtepjepkgcdfboaaGreatDoor
open Go.RowKit
def f5o (l:List Int) (W X Y c:Nat):List Int:=(List.range c).map fun i=>l.getD (Y*W+(X+i)) 0
theorem f5u (l:List Int) (W X Y c:Nat):f5o l W X Y (c+1)=f5o l W X Y c++[l.getD (Y*W+(X+c)) 0]:=by simp [f5o,List.range_succ]
theorem f6b (w:World) (A:Option Addr) (cap:Nat) (l:List Int) (W H X Y pw ph:Nat) (hl:l.length=W*H) (hW:W<=64) (hH:H<=64) (hx:X+pw<=W) (hy:Y+ph<=H) (hc:a0d vi w A l) :
  Calls Tryz.prog 47 #[.slice A l.length cap,.int .i64 W,.int .i64 X,.int .i64 Y,.int .i64 pw,.int .i64 ph] w fun e w'=>∃ v F,e=.returned v/\Own w' 3 v F ((a9w l W X Y pw ph).map vi)/\Chg [] w w'/\∀ x∈F,w.heap.size<=x:=by
 obtain ⟨n,hn⟩:=zX (l.length)
 rw [<-hn]
 obtain ⟨YH,al⟩:=zX (Y+ph)
 have aJ:(Y:Int)+(ph:Int)=(YH:Int):=by omega
 obtain ⟨XW,aq⟩:=zX (X+pw)
 have aE:(X:Int)+(pw:Int)=(XW:Int):=by omega
 have aC:n<=4096:=by rw [hn,hl];exact zL hW hH
 have HN:=hid hn
 have HL:=hid hl
 have ao:=hid al
 have am:=hid aq
 have au:YH<=64:=by omega
 have ar:XW<=64:=by omega
 have HC:=hid hc
 have HB:=hid (And.intro hx hy)
 clear hn hl al aq hc hx hy
 go_enter Tryz.func47,Tryz.ntmps47
 go_wp2_with fail
 go_loopg [13,14,15] ph (fun j v13 v14 v15 wr=>∃ (k y:Nat) (F:List Nat),v14=.int .i64 y/\Hid (y=Y+k)/\y+j=YH/\k+j=ph/\Hid (Own wr 3 v13 F ((a9w l W X Y pw k).map vi))/\Hid (Chg [] w wr)/\Hid (∀ x∈F,w.heap.size<=x))
 case atStart=>exact ⟨0,Y,[],rfl,hid rfl,by have := ao.out;omega,by omega,hid (by simpa [a9w] using Own.nil w 3),hid (zR _ _),hid (by simp)⟩
 case round =>
  obtain ⟨k,y,F,rfl,HY,aK,aI,HO,ak,HF⟩:=hrel
  rcases gk with _ | j
  ·have t1:decide (y<YH)=false:=zA (by omega)
   have ho:=HO.out
   rw [show k=ph by omega] at ho
   have af:=hid ho
   clear ho
   go_wp2
   go_ret
   exact ⟨_,F,rfl,af.out,ak.out,HF.out⟩
  ·have t1:decide (y<YH)=true:=zB (by omega)
   have aL:y<64:=by omega
   obtain ⟨P,hP⟩:=zX (y*W)
   have eP:(y:Int)*(W:Int)=(P:Int):=by rw [hP];simp
   have aG:P<=4096:=by rw [hP];exact zL (show y<=64 by omega) hW
   have aB:P+W<=n:=by
    have h1:=HB.out.2
    have h2:=ao.out
    have h3:=Nat.mul_le_mul_right W (show y+1<=H by omega)
    rw [Nat.succ_mul,zY H] at h3
    have h4:=HN.out
    have h5:=HL.out
    omega
   have HP:=hid hP
   clear hP
   go_wp2_with fail
   go_loopg [13,15] pw (fun j2 v13 v15 wr2=>∃ (c x:Nat) (F2:List Nat),v15=.int .i64 x/\Hid (x=X+c)/\x+j2=XW/\c+j2=pw/\Hid (Own wr2 3 v13 F2 ((a9w l W X Y pw k++f5o l W X y c).map vi))/\Hid (Chg [] w wr2)/\Hid (∀ x∈F2,w.heap.size<=x))
   case atStart=>exact ⟨0,X,F,rfl,hid rfl,by have := am.out;omega,by omega,hid (by simpa [f5o] using HO.out),ak,HF⟩
   case round =>
    obtain ⟨c,x,F2,rfl,HX,aD,aH,af,ae,ag⟩:=hrel
    rcases gk with _ | j2
    ·have t2:decide (x<XW)=false:=zA (by omega)
     have ho:=af.out
     rw [show c=pw by omega] at ho
     have e:a9w l W X Y pw k++f5o l W X y pw=a9w l W X Y pw (k+1):=by rw [e0b,HY.out];rfl
     rw [e] at ho
     have az:=hid ho
     clear ho e
     go_wp2_with fail
     go_roundg j
     case measure=>omega
     case rel=>exact ⟨k+1,y+1,F2,by go_num,hid (by rw [HY.out];omega),by omega,by omega,az,ae,ag⟩
    ·have t2:decide (x<XW)=true:=zB (by omega)
     obtain ⟨q,hq⟩:=zX (P+x)
     have aF:(P:Int)+(x:Int)=(q:Int):=by omega
     have av:q<n:=by have:=HB.out.1;have:=am.out;omega
     have ai:q<l.length:=by rw [<-HN.out];exact av
     obtain ⟨g,o,rfl,aa⟩:=(HC.out.same ae.out).at_ ai
     obtain ⟨v,hv⟩:=zX (l[q])
     rw [<-hv] at aa
     have c1:wr.cell? ⟨g,o+q,none⟩=some (.int .i64 v):=aa
     have an:f5o l W X y (c+1)=f5o l W X y c++[v]:=by
      rw [f5u,hv,<-HX.out,<-HP.out,<-hq,zD,zF ai]
      rfl
     have ax:=hid an
     have ad:(a9w l W X Y pw k++f5o l W X y c).length<=8192:=by
      rw [zC,b1w]
      have h1:=zL (show k<=64 by omega) (show pw<=64 by omega)
      simp [f5o]
      omega
     have ab:=hid ad
     have ac:=af.out.alloc (.cells #[.int .i64 v] 3)
     clear aa hv an ad ai hq
     go_wp2_with (at_builtin;refine a0f rfl rfl a0p rfl rfl ac (.int .i64 v) rfl ?c1 ?c2 ?c3 ?c4 ?_)
     case c1=>simp [go_sem]
     case c2=>rfl
     case c3=>rw [zE];have := ab.out;omega
     case c4=>rw [zE];have := ab.out;omega
     intro g2 aA w2 ap aj
     have aw:=hid ap.toOwn
     have ay:Hid (Chg [] w w2):=hid ((ae.out.alloc _).trans aj.chg (fun x hx => .inr (ag.out x hx)))
     have ah:Hid (∀ x∈[g2],w.heap.size<=x):=hid (fun x hx=>by
      rcases aj.new x hx with h | h
      ·exact ag.out x h
      ·have h5:=ae.out.size
       have h6:=((zR [] wr).alloc (.cells #[.int .i64 v] 3)).size
       omega)
     clear ap aj ac
     go_wp2_with fail
     go_roundg j2
     case measure=>omega
     case rel =>
      refine ⟨c+1,x+1,[g2],by go_num,hid (by rw [HX.out];omega),by omega,by omega,hid ?_,ay,ah⟩
      rw [ax.out,zM,zM]
      exact aw.out
theorem f6m {w:World} {p:a2a} {g o:Nat} (cap:Nat) (hok:p.Ok) :
  Calls Tryz.prog 14 #[a6y p g o cap] w fun e w'=>∃ b F,e=.returned (.pointer (some ⟨b,0,none⟩))/\a2n w' b F (b3z p.W p.H p.d p.P.length)/\Chg [] w w'/\∀ x∈F,w.heap.size<=x:=by
 obtain ⟨HL,aa⟩:=zX (b3z p.W p.H p.d p.P.length)
 unfold a6y
 obtain ⟨n,hn⟩:=zX (p.P.length)
 have aK:1<=n:=by rw [hn];exact hok.n0
 have aL:n<=4:=by rw [hn];exact hok.n1
 rw [<-aa]
 rw [<-hn] at aa ⊢
 have aO:=hok.w0
 have aN:=hok.w1
 have aV:=hok.h0
 have aJ:=hok.h1
 have aH:=hok.d0
 have aS:=hok.d1
 obtain ⟨W1,aM⟩:∃ W1,p.W=W1+1:=⟨p.W-1,by omega⟩
 obtain ⟨H1,aR⟩:∃ H1,p.H=H1+1:=⟨p.H-1,by omega⟩
 obtain ⟨D1,aP⟩:∃ D1,p.d=D1+1:=⟨p.d-1,by omega⟩
 obtain ⟨N1,aF⟩:∃ N1,n=N1+1:=⟨n-1,by omega⟩
 have e1:(p.W:Int)-1=(W1:Int):=by omega
 have e2:(p.H:Int)-1=(H1:Int):=by omega
 have e3:(p.d:Int)-1=(D1:Int):=by omega
 have e4:(n:Int)-1=(N1:Int):=by omega
 have u1:IntKind.u64.wrap (W1:Int)=(W1:Int):=IntWalk.u64_in _ (by omega)
 have u2:IntKind.u64.wrap (H1:Int)=(H1:Int):=IntWalk.u64_in _ (by omega)
 have u3:IntKind.u64.wrap (D1:Int)=(D1:Int):=IntWalk.u64_in _ (by omega)
 have u4:IntKind.u64.wrap (N1:Int)=(N1:Int):=IntWalk.u64_in _ (by omega)
 have ab:HL=a0b W1 6++(a0b H1 6++(a0b D1 4++a0b N1 2)):=by
  rw [aa,b3z,show p.W-1=W1 by omega,show p.H-1=H1 by omega,show p.d-1=D1 by omega,show n-1=N1 by omega]
 have aX:W1<64:=by omega
 have aZ:H1<64:=by omega
 have aW:D1<16:=by omega
 have aY:N1<4:=by omega
 obtain ⟨w1,ag⟩:=zX (w.alloc (.cells #[.int .i64 p.W,.int .i64 p.H,.int .i64 p.d,.slice (some ⟨g,o,none⟩) n cap] 27))
 obtain ⟨w4,ah⟩:=zX (w1.alloc (.cells #[.slice none 0 0,.int .i64 0] 89))
 obtain ⟨X,hX⟩:=zX (w.heap.size)
 obtain ⟨b,hb⟩:=zX (X+1)
 have ao:w1.heap.size=b:=by rw [ag,a3f,hb,hX]
 have aw:Box w1 X (.int .i64 p.W) (.int .i64 p.H) (.int .i64 p.d) (.slice (some ⟨g,o,none⟩) n cap):=⟨by rw [ag,hX];exact Blk.new w _ _⟩
 have ak:Chg [] w1 w4:=by rw [ah];exact (zR [] w1).alloc _
 have aD:a2n w4 b [b] []:=by rw [ah,<-ao];exact a2n.new w1
 have aj:Chg [] w w4:=Chg.tq (by rw [ag];exact (zR [] w).alloc _) ak
 have ai:Hid (∀ Fz wz,a0u [b] Fz w4 wz->Box wz X (.int .i64 p.W) (.int .i64 p.H) (.int .i64 p.d) (.slice (some ⟨g,o,none⟩) n cap)):=hid (fun Fz wz hz=>(aw.same ak).chg hz.chg (by simp;omega))
 have aQ:Hid (∀ Fz wz,a0u [b] Fz w4 wz->Chg [] w wz):=hid (fun Fz wz hz=>aj.trans hz.chg (fun x hx => .inr (by simp at hx;omega)))
 have aI:Hid (∀ Fz wz,a0u [b] Fz w4 wz->∀ x∈Fz,w.heap.size<=x):=hid (fun Fz wz hz x hx=>by
  rcases hz.new x hx with h | h
  ·simp at h;omega
  ·have:=aj.size;omega)
 obtain ⟨a0,a1,a2,a3⟩:=(ai.out [b] w4 (a0u.refl _ _)).cells
 have ar:=a0t w4 b [b] [] W1 6 aD (by decide) (by omega) (by simp)
 have aC:Hid (w4=(w.alloc (.cells #[.int .i64 p.W,.int .i64 p.H,.int .i64 p.d,.slice (some ⟨g,o,none⟩) n cap] 27)).alloc (.cells #[.slice none 0 0,.int .i64 0] 89)):=hid (by rw [ah,ag])
 have aG:=hid hX
 have aT:=hid hb
 have am:=hid ab
 rw [aC.out,hX] at a0 a1 a2 a3
 clear ag ah hX hb ao aw ak aD aj aa ab hok hn aM aR aP aF aO aN aV aJ aH aS aK aL
 go_enter Tryz.func14,Tryz.ntmps14
 go_wp2_with fail
 rw [<-aC.out,<-aG.out,<-aT.out]
 refine ar.mono ?_
 rintro e w5 ⟨rfl,F5,az,al⟩
 obtain ⟨a0,a1,a2,a3⟩:=(ai.out F5 w5 al).cells
 have an:=a0t w5 b F5 _ H1 6 az (by decide) (by omega) (by simp [a0a])
 clear ar
 go_wp2_with fail
 refine an.mono ?_
 rintro e w6 ⟨rfl,F6,ay,aE⟩
 have ac:=al.trans aE
 obtain ⟨a0,a1,a2,a3⟩:=(ai.out F6 w6 ac).cells
 have aq:=a0t w6 b F6 _ D1 4 ay (by decide) (by omega) (by simp [a0a])
 clear an
 go_wp2_with fail
 refine aq.mono ?_
 rintro e w7 ⟨rfl,F7,aB,au⟩
 have ad:=ac.trans au
 obtain ⟨a0,a1,a2,a3⟩:=(ai.out F7 w7 ad).cells
 have ax:=a0t w7 b F7 _ N1 2 aB (by decide) (by omega) (by simp [a0a])
 clear aq
 go_wp2_with fail
 refine ax.mono ?_
 rintro e w8 ⟨rfl,F8,aA,ap⟩
 have ae:=ad.trans ap
 have af:a2n w8 b F8 HL:=by
  rw [am.out]
  simpa only [zH,List.nil_append] using aA
 have aU:=hid af
 have av:=hid ae
 clear ax az al ay aE ac aB au ad aA ap ae af a0 a1 a2 a3
 go_wp2_with fail
 go_ret
 exact ⟨b,F8,rfl,aU.out,aQ.out _ _ av.out,aI.out _ _ av.out⟩
theorem f6c {w:World} {l:List Int} {A:Option Addr} (cap:Nat) {W H d:Nat} (D:Int) (vP:Value) (hl:l.length=W*H) (hs:a1u d l) (hc:a0d vi w A l) (hcap:l.length<=cap) (w0:1<=W) (w1:W<=64) (h0:1<=H) (h1:H<=64) (d0:1<=d) (d1:d<=16)
  (b:Nat) (F bs:List Nat) (hw:a2n w b F bs) (hA:Apt A l F) (hp:Pts w) (h0F:0∉F) (hbs:bs.length<17179869184) :
  Calls Tryz.prog 16 #[.pointer (some ⟨b,0,none⟩),.slice A l.length cap,.agg #[.int .i64 W,.int .i64 H,.int .i64 D,vP],.int .i64 d] w fun e w'=>e=.returned (.bool true)/\∃ F',a2n w' b F' (bs++a1y none l W H d)/\a0u F F' w w':=by
 have ax:b1b none:=fun _ e=>by cases e
 obtain ⟨ss,al⟩:=zX (b6z W H 16)
 have aR:∀ w',Calls Tryz.prog 46 #[.int .i64 W,.int .i64 H,.int .i64 16] w' _:=fun w'=>d7t W H 16 w' w0 w1 h0 h1 (by decide) (by decide)
 have ak:∀ s∈ss,1<=s.w/\s.w<=16/\1<=s.h/\s.h<=16:=by rw [al];exact d3n (by decide)
 have ay:∀ s∈ss,s.x+s.w<=W/\s.y+s.h<=H:=by rw [al];exact e2t (by decide)
 have bC:ss.length<=4096:=by rw [al];exact b6y w1 h1
 have aj:0<l.length:=by rw [hl];exact Nat.mul_pos w0 h0
 have bM:1<=ss.length:=by
  rcases Nat.eq_zero_or_pos ss.length with h | h
  ·have h2:=f5w (w:=W) (h:=H) (s:=16) (by decide)
   rw [<-al,List.eq_nil_of_length_eq_zero h] at h2
   have h3:area ([]:List Sq)=0:=rfl
   omega
  ·exact h
 have be:=fun n=>b4h ax l W d0 d1 ak n
 have bD:=hid al
 rw [<-al] at aR
 obtain ⟨n,hn⟩:=zX (ss.length)
 obtain ⟨N,hN⟩:=zX (l.length)
 have bV:N<=4096:=by rw [hN,hl];exact zL w1 h1
 obtain ⟨bA,oA,rfl,a6,-⟩:=hc.ex aj
 have ba:bA∉F:=by have:=hA aj _ rfl;simpa using this
 have aa:=fun wz X Y pw ph h2 h3 (hz:a0d vi wz (some ⟨bA,oA,none⟩) l)=>f6b wz (some ⟨bA,oA,none⟩) cap l W H X Y pw ph hl w1 h1 h2 h3 hz
 have bT:(W:Int)*(H:Int)=(N:Int):=by rw [hN,hl];simp
 have t5:((N:Int) != (N:Int))=false:=by simp
 rw [<-hn] at bC bM
 rw [<-hN] at hcap aa ⊢
 have ai:∀ k,k<n->(1<=(a4e ss k).w/\(a4e ss k).w<=16/\1<=(a4e ss k).h/\(a4e ss k).h<=16)/\(a4e ss k).x+(a4e ss k).w<=W/\(a4e ss k).y+(a4e ss k).h<=H:=fun k hk=>⟨ak _ (b2d (by omega)),ay _ (b2d (by omega))⟩
 obtain ⟨wX,ap⟩:=zX (w.alloc (.cells #[.int .i64 W,.int .i64 H,.int .i64 D,vP] 27))
 obtain ⟨X,hX⟩:=zX (w.heap.size)
 have aP:Box wX X (.int .i64 W) (.int .i64 H) (.int .i64 D) vP:=⟨by rw [ap,hX];exact Blk.new w _ _⟩
 have bp:Chg [] w wX:=by rw [ap];exact (zR [] w).alloc _
 obtain ⟨a0,a1,a2,a3⟩:=aP.cells
 have bd:X∉F:=fun hm=>by have:=hw.lt X hm;omega
 have bL:=hid ap
 have bq:=hid hX
 have bJ:=hid aP
 have aY:=hid bp
 have bG:=hid bd
 have aw:=hid aa
 have HC:=hid hc
 have bK:=hid hs
 have bS:=hid ai
 have bv:Hid (∀ k,k<=n->(a2h none l W d ss k).length<=200000*k):=hid (fun k hk=>be k (by omega) (a5s _ _ _ _ _))
 have HN:=hid hn
 have HW:=hid hw
 have HP:=hid hp
 have bR:=hid ba
 have b0:=hid a6
 have bj:=hid h0F
 have bz:=hid hw.lt
 rw [ap,hX] at a0 a1 a2 a3
 clear ax hc hl hN hs ak ay be hw hp ba a6 h0F al hA aj ai ap hX aP bp bd aa
 go_enter Tryz.func16,Tryz.ntmps16
 go_wp2_with fail
 rw [<-bL.out,<-bq.out]
 refine (aR wX).mono ?_
 rintro e w2 ⟨v8,F8,rfl,ai,aD,bo⟩
 unfold c3i at ai
 rw [<-hn] at ai
 obtain ⟨A8,c8,rfl,bW,bZ,aZ,bg⟩:=b7t.open_ ai
 have bw:=hid aZ
 have an:=hid (aY.out.tq aD)
 have bP:=hid aD
 have aB:∀ ad,A8=some ad->ad.block<w2.heap.size/\ad.block∉F:=fun ad e=>by
  obtain ⟨g8,rfl,hf,_⟩:=bg ad e
  have h1:g8∈F8:=by rw [hf];simp
  have h2:=bo g8 h1
  refine ⟨ai.lt g8 h1,fun hm => ?_⟩
  have h3:g8<w.heap.size:=bz.out _ hm
  have:=aY.out.size
  omega
 have bf:=hid aB
 have bE:Hid (a2n w2 b F (bs++a2h none l W d ss 0)):=hid (by
  have e:a2h none l W d ss 0=[]:=rfl
  rw [e,List.append_nil]
  exact HW.out.same an.out)
 have aA:Hid (∀ F' wz,a0u F F' w2 wz->Box wz X (.int .i64 W) (.int .i64 H) (.int .i64 D) vP):=hid (fun F' wz hz=>(bJ.out.same aD).chg hz.chg bG.out)
 clear ai aD bo aZ bg aB hn aR a0 a1 a2 a3
 go_wp2_with fail
 go_loopg [10,11] n (fun j v10 v11 wr=>∃ (k:Nat) (Fk:List Nat),v10=.int .i64 k/\k+j=n/\Hid (a2n wr b Fk (bs++a2h none l W d ss k))/\Hid (a0u F Fk w2 wr))
 case atStart=>exact ⟨0,F,rfl,by omega,bE,hid (a0u.refl _ _)⟩
 case round =>
  obtain ⟨k,Fk,rfl,bX,ao,ag⟩:=hrel
  rcases gk with _ | j
  ·obtain rfl:k=n:=by omega
   have t1:decide ((k:Int)<(k:Int))=false:=by simp
   have t2:decide ((0:Int)<(k:Int))=true:=zB (by omega)
   have bY:decide (0<k)=true:=zB (by omega)
   have aN:=ao.out
   rw [HN.out,bD.out] at aN
   have ao:=hid aN
   clear aN
   go_wp2_with fail
   go_ret
   exact ⟨rfl,Fk,ao.out,a0u.pre an.out ag.out⟩
  ·have hk:k<n:=by omega
   have t1:decide ((k:Int)<(n:Int))=true:=zB (by omega)
   obtain ⟨g8,o8,aB,x0,x1,x2,x3⟩:=e5t (bw.out.chg ag.out.chg (fun ad e=>(bf.out ad e).2)) (show k<ss.length by rw [<-HN.out];exact hk)
   subst aB
   obtain ⟨⟨aE,aV,aI,aS⟩,aQ,aK⟩:=bS.out k hk
   obtain ⟨s,aJ⟩:=zX (a4e ss k)
   rw [<-aJ] at x0 x1 x2 x3 aE aV aI aS aQ aK
   have bH:=hid aJ
   clear aJ
   obtain ⟨sx,sy,sw,sh⟩:=s
   simp only at x0 x1 x2 x3 aE aV aI aS aQ aK
   obtain ⟨a0,a1,a2,a3⟩:=(aA.out _ _ ag.out).cells
   obtain ⟨XE,bn⟩:=zX (sx+sw)
   obtain ⟨YE,aX⟩:=zX (sy+sh)
   have eX:(sx:Int)+(sw:Int)=(XE:Int):=by omega
   have eY:(sy:Int)+(sh:Int)=(YE:Int):=by omega
   have t3:decide ((W:Int)<(XE:Int))=false:=zA (by omega)
   have br:decide (W<XE)=false:=zA (by omega)
   have t4:decide ((H:Int)<(YE:Int))=false:=zA (by omega)
   have bu:decide (H<YE)=false:=zA (by omega)
   have az:XE<=64:=by omega
   have aq:YE<=64:=by omega
   have bI:Hid (∀ nq,a0d vi (wr.drewN nq) (some ⟨bA,oA,none⟩) l):=hid (fun nq=>((HC.out.same an.out).chg ag.out.chg (fun ad e=>by injection e with e;subst e;exact bR.out)).same ((zR [] wr).drewN nq))
   have ac:∀ nq wz,Chg [] (wr.drewN nq) wz->(wz.cell? ⟨g8,o8+k*4,none⟩=some (.int .i64 sx)/\wz.cell? ⟨g8,o8+k*4+1,none⟩=some (.int .i64 sy)/\wz.cell? ⟨g8,o8+k*4+2,none⟩=some (.int .i64 sw)/\wz.cell? ⟨g8,o8+k*4+3,none⟩=some (.int .i64 sh))/\Box wz X (.int .i64 W) (.int .i64 H) (.int .i64 D) vP:=fun nq wz hz=>by
    have h9:=bf.out _ rfl
    have h8:=hz.block g8 (by have:=ag.out.chg.size;have:=h9.1;show g8<wr.heap.size;simp at *; omega) (by simp)
    have h7:∀ q,wz.cell? ⟨g8,q,none⟩=wr.cell? ⟨g8,q,none⟩:=fun q=>World.cell?_of_block (w:=wr.drewN nq) h8
    exact ⟨⟨(h7 _).trans x0,(h7 _).trans x1,(h7 _).trans x2,(h7 _).trans x3⟩,((aA.out _ _ ag.out).same ((zR [] wr).drewN nq)).same hz⟩
   have am:=hid ac
   obtain ⟨wo,bO⟩:=zX (wr)
   subst bO
   have bx:Hid (XE=sx+sw/\YE=sy+sh):=hid ⟨bn,aX⟩
   clear bn aX ac
   go_wp2_with fail
   go_quiet (fail)
   go_wp2_with fail
   refine a0c 23 (by kernel_rfl) (by kernel_rfl) ?_
   simp only [List.take_succ_cons,List.take_zero,List.drop_succ_cons,List.drop_zero]
   repeat (go_big_quiet_step (fail))
   refine wpQuiet_nil ?_
   intro _ aL
   obtain ⟨aW,rfl⟩:=aL
   obtain ⟨wp,aF⟩:=zX ((wo.drewN nq).drewN aW)
   have aU:Chg [] (wo.drewN nq) wp:=by rw [aF];exact (zR [] _).drewN aW
   have aa:=aw.out wp sx sy sw sh aQ aK ((bI.out nq).same aU)
   rw [<-aF]
   have a9:=hid aU
   clear x0 x1 x2 x3 a0 a1 a2 a3 aF aU eX eY t3 br t4 bu az aq
   go_wp2_with fail
   refine aa.mono ?_
   rintro e w6 ⟨v6,F6,rfl,af,a7,a5⟩
   have aH:Chg [] (wo.drewN nq) w6:=a9.out.tq a7
   obtain ⟨⟨x0,x1,x2,x3⟩,bQ⟩:=am.out nq w6 aH
   have ah:Chg [] wo w6:=((zR [] wo).drewN nq).tq aH
   have a4:a9w l W sx sy sw sh=a7e l W ⟨sx,sy,sw,sh⟩:=rfl
   rw [a4] at af
   obtain ⟨D6,hD⟩:=zX (a7e l W ⟨sx,sy,sw,sh⟩)
   rw [<-hD] at af
   obtain ⟨m,hm⟩:=zX (sw*sh)
   have aM:D6.length=m:=by rw [hD,b7n];exact hm.symm
   have bc:a1u d D6:=by rw [hD];exact d1k bK.out _ _ _ _ _
   have av:∀ x∈F6,wo.heap.size<=x:=fun x hx=>by
    have h1:=a5 x hx
    have h2:wo.heap.size<=wp.heap.size:=a9.out.size
    omega
   obtain ⟨A5,c5,rfl,bB,bU,bm⟩:=af.oq
   have a8:Apt A5 D6 Fk:=af.apt (fun x hx hm=>by
    have h1:=av x hx
    have h2:=ao.out.lt x hm
    omega)
   have ht:c9d w6 D6 A5 sw sh d:=⟨aE,aV,aI,aS,d0,d1,by rw [aM,hm],bc,bm⟩
   have bk:=ao.out.same ah
   have ar:=((HP.out.same an.out).chg ag.out.chg bj.out).same ah
   have bi:0∉Fk:=ag.out.out (by have:=HP.out.lt;have:=an.out.size;omega) bj.out
   have au:(bs++a2h none l W d ss k).length<34359738368:=by
    rw [zC]
    have:=bv.out k (by omega)
    omega
   have ae:=a6t none l W d ss k
   rw [<-bH.out] at ae
   simp only at ae
   rw [<-hD] at ae
   have aG:Hid (∀ F' wz,a0u Fk F' w6 wz->a0u F F' w2 wz):=hid (fun F' wz hz=>ag.out.trans (a0u.pre ah hz))
   have ab:=fun wz (hz:Chg [] w6 wz)=>f3a c5 (ht.same hz) (ar.same hz) b Fk _ (bk.same hz) a8 bi au
   unfold a2w at ab
   rw [aM] at ab bB ⊢
   have bl:(bs++a2h none l W d ss k)++a0e (a5n D6 sw sh d) D6 sw sh d=bs++a2h none l W d ss (k+1):=by
    rw [ae]
    simp only [zH,c8p,e2z]
   rw [bl] at ab
   have aO:=hid ab
   clear aa af a7 a5 aH ah a4 hD bc av bm a8 ht bk ar bi au ae ab bl aM hm bQ
   go_wp2_with fail
   refine a0c 13 (by kernel_rfl) (by kernel_rfl) ?_
   simp only [List.take_succ_cons,List.take_zero,List.drop_succ_cons,List.drop_zero]
   repeat (go_big_quiet_step (fail))
   refine wpQuiet_nil ?_
   intro _ aL
   obtain ⟨aC,rfl⟩:=aL
   have ab:=aO.out (w6.drewN aC) ((zR [] w6).drewN aC)
   have aT:Hid (Chg [] w6 (w6.drewN aC)):=hid ((zR [] w6).drewN aC)
   clear x0 x1 x2 x3
   go_wp2_with fail
   refine ab.mono ?_
   rintro e w7 ⟨rfl,F7,bb,bh⟩
   have bN:=hid (aG.out F7 w7 (a0u.pre aT.out bh))
   have bF:=hid bb
   clear bh bb ab
   go_wp2_with fail
   go_roundg j
   case measure=>omega
   case rel=>exact ⟨k+1,F7,by go_num,by omega,bF,bN⟩
end Go.Proofs.YtepjepkgcdfboaaGreatDoor
