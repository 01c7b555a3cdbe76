/- package pic by its contracts: Sum. -/
import Derived.Test.YtklocammllljiaaGreatDoorMg20
import Derived.Test.YtklocammllljiaaGreatDoorMg43
import Derived.Test.YtklocammllljiaaGreatDoorMg31
set_option linter.unusedVariables false
set_option linter.unusedSimpArgs false
set_option maxHeartbeats 2000000
set_option maxRecDepth 100000
namespace Go.Proofs.YtklocammllljiaaGreatDoor
open Go.RowKit
def smpBytes (v:Int):List Nat:=[v.toNat / 256,v.toNat%256]
def planeBytes (l:List Int):List Nat:=l.flatMap smpBytes
def picBytes (p:PicD):List Nat:=[p.W,p.H,p.d,p.P.length]++p.P.flatMap planeBytes
def picSum (p:PicD):Nat:=crcN (picBytes p)
theorem planeBytes_len (l:List Int):(planeBytes l).length=2*l.length:=by
 induction l with
 | nil=>rfl
 | cons a l ih=>simp only [planeBytes,List.flatMap_cons,zC,smpBytes,zK,List.length_nil] at ih ⊢; omega
theorem smp_16 {d:Nat} (h0:1<=d) (h1:d<=16) {v:Int} (hv0:0<=v) (hv1:v<2^d):v.toNat<65536:=by
 have:=(pow_d h0 h1).2
 omega
theorem planeBytes_lt {d:Nat} (h0:1<=d) (h1:d<=16) {l:List Int} (hs:SmpOk d l):∀ x∈planeBytes l,x<256:=by
 intro x hx
 obtain ⟨v,hv,hx⟩:=List.mem_flatMap.1 hx
 obtain ⟨a,b⟩:=hs v hv
 have:=smp_16 h0 h1 a b
 simp only [smpBytes,zJ,List.not_mem_nil,or_false] at hx
 omega
theorem picBytes_lt {p:PicD} (h:p.Ok):∀ x∈picBytes p,x<256:=by
 intro x hx
 rcases zP.1 hx with hx | hx
 ·have:=h.w1;have:=h.h1;have:=h.d1;have:=h.n1
  simp only [zJ,List.not_mem_nil,or_false] at hx
  omega
 ·obtain ⟨l,hl,hx⟩:=List.mem_flatMap.1 hx
  exact planeBytes_lt h.d0 h.d1 (h.smp l hl) x hx
theorem planes_bytes_len {m:Nat}:∀ (P:List (List Int)),(∀ l∈P,l.length=m)->(P.flatMap planeBytes).length=2*m*P.length
 | [],_=>by simp
 | l::P,h=>by
  rw [List.flatMap_cons,zC,planeBytes_len,h l (by simp),planes_bytes_len P (fun x hx=>h x (by simp [hx])),zK,Nat.mul_succ]
  omega
theorem picSum_lt {p:PicD} (h:p.Ok):picSum p<4294967296:=crcN_lt (picBytes_lt h)
theorem cells_two (w:World) (a b:Nat):Cells (fun u=>u) (w.alloc (.cells #[.int .u8 a,.int .u8 b] 5)) (some ⟨w.heap.size,0,none⟩) ([a,b].map b8):=⟨fun _=>by
 have hb:=Blk.new w 5 #[.int .u8 a,.int .u8 b]
 refine ⟨w.heap.size,0,rfl,hb.lt,fun i x hx => ?_⟩
 rw [Nat.zero_add,hb.cell i]
 match i,hx with
 | 0,hx=>exact hx
 | 1,hx=>exact hx
 | i+2,hx=>simp at hx⟩
theorem picSum_ok {w:World} {p:PicD} {g o:Nat} {B:Nat->Option Addr} {c:Nat->Nat} {G:List Nat} (cap:Nat) (h:PicAt w p g o B c G) :
  Calls Tryz.prog 127 #[picV p g o cap] w fun e w'=>e=.returned (.int .u32 (picSum p:Int))/\Chg [] w w':=by
 have aw:=fun w' (hc:Chg [] w w')=>is_yes cap (h.same hc)
 have aa:=h.ok
 unfold picV at aw ⊢
 obtain ⟨W,hW⟩:=zX (p.W)
 obtain ⟨H,hH⟩:=zX (p.H)
 obtain ⟨d,hd⟩:=zX (p.d)
 obtain ⟨n,hn⟩:=zX (p.P.length)
 obtain ⟨N,hN⟩:=zX (W*H)
 rw [<-hW,<-hH,<-hd,<-hn] at aw ⊢
 have bl:N<=4096:=by rw [hN,hW,hH];exact aa.area
 have bn:n<=4:=by rw [hn];exact aa.n1
 have bi:W<=64:=by rw [hW];exact aa.w1
 have bj:H<=64:=by rw [hH];exact aa.h1
 have bh:d<=16:=by rw [hd];exact aa.d1
 have al:∀ w',Chg [] w w'->∀ i,i<n->∃ b q,w'.cell? ⟨g,o+i,none⟩=some (.slice (some ⟨b,q,none⟩) N (c i))/\∀ w'',Chg [] w w''->∀ k,k<N->w''.cell? ⟨b,q+k,none⟩=some (.int .i64 ((p.P.getD i []).getD k 0)):=by
  intro w' hc i hi
  rw [hn] at hi
  obtain ⟨b,q,e,hb,hk⟩:=h.at_ hi
  have aF:=(h.same hc).cell i hi
  rw [e,<-hW,<-hH,<-hN] at aF
  refine ⟨b,q,aF,fun w'' hc'' k hk' => ?_⟩
  have hh:=hk k (by rw [<-hW,<-hH,<-hN];exact hk')
  exact (World.cell?_of_block (w:=w) (hc''.block b (h.lt b hb) (by simp))).trans hh
 have aZ:∀ i k,i<n->∃ m:Nat,(p.P.getD i []).getD k 0=(m:Int)/\m<65536:=by
  intro i k hi
  rw [hn] at hi
  obtain ⟨a,b⟩:=getD_smp (aa.smp _ (by rw [zD,zF hi];exact zG hi:p.P.getD i []∈p.P)) k
  exact ⟨((p.P.getD i []).getD k 0).toNat,by omega,smp_16 aa.d0 aa.d1 a b⟩
 have aj:∀ i,i<n->(p.P.getD i []).length=N:=fun i hi=>by rw [hN,hW,hH];exact h.len (by rw [<-hn];exact hi)
 have am:=picBytes_lt aa
 have a8:(picBytes p).length<=100000:=by
  unfold picBytes
  rw [zC,planes_bytes_len p.P (fun l hl=>aa.len l hl)]
  have h1:=aa.area
  have h2:=aa.n1
  have h3:=zL (zL (zQ 2) h1) h2
  simp only [zK,List.length_nil]
  omega
 have ah:∀ i,i<=n->([W,H,d,n]++(p.P.take i).flatMap planeBytes).length<=100000:=by
  intro i hi
  rw [zC,planes_bytes_len (m:=p.W*p.H) _ (fun l hl=>aa.len l (List.mem_of_mem_take hl)),zI,<-hn]
  have h1:=aa.area
  have h3:=zL (zL (zQ 2) h1) (show min i n<=4 by omega)
  simp only [zK,List.length_nil]
  omega
 obtain ⟨w1,aq⟩:=zX (w.alloc (.cells #[.int .i64 W,.int .i64 H,.int .i64 d,.slice (some ⟨g,o,none⟩) n cap] 25))
 have aM:Chg [] w w1:=by rw [aq];exact (zR [] w).alloc _
 have aV:Blk w1 w.heap.size 25 #[.int .i64 W,.int .i64 H,.int .i64 d,.slice (some ⟨g,o,none⟩) n cap]:=by rw [aq];exact Blk.new w _ _
 have a6:p.P.length=n:=hn.symm
 have aH:Hid (∀ i,i=n->crcN ([W,H,d,n]++(p.P.take i).flatMap planeBytes)=picSum p):=hid (fun i hi=>by
  rw [zT (by omega),hW,hH,hd,hn]
  rfl)
 have aC:Hid (∀ i,i=n->∀ x∈[W,H,d,n]++(p.P.take i).flatMap planeBytes,x<256):=hid (fun i hi=>by
  rw [zT (by omega),hW,hH,hd,hn]
  exact am)
 have an:Hid (∀ i,i<n->[W,H,d,n]++(p.P.take (i+1)).flatMap planeBytes=([W,H,d,n]++(p.P.take i).flatMap planeBytes)++planeBytes (p.P.getD i [])):=hid (fun i hi=>by
  have aL:i<p.P.length:=by omega
  rw [List.take_succ_eq_append_getElem aL,List.flatMap_append,zH,zD,zF aL]
  simp)
 have a2:=hid aq
 have ak:=hid aV
 have HC:=hid al
 have ba:=hid aZ
 have aY:=hid aM
 have a0:=hid aw
 have aO:=hid ah
 have a4:=hid aj
 have w8:∀ m:Nat,m<256->IntKind.u8.wrap (m:Int)=(m:Int):=fun m hm=>by rw [IntKind.wrap_u8];omega
 have wW:=w8 W (by omega)
 have wH:=w8 H (by omega)
 have wd:=w8 d (by omega)
 have wn:=w8 n (by omega)
 clear hW hH hd hn hN aa al aZ aq aV aM h aw am a8 ah aj w8 a6
 go_enter Tryz.func127,Tryz.ntmps127
 go_wp2_with fail
 rw [<-a2.out]
 refine (a0.out w1 aY.out).mono ?_
 rintro e w2 ⟨rfl,ae⟩
 have c0:=(ak.out.chg ae (by simp)).cell 0
 have c1:=(ak.out.chg ae (by simp)).cell 1
 have c2:=(ak.out.chg ae (by simp)).cell 2
 have c3:=(ak.out.chg ae (by simp)).cell 3
 simp at c0 c1 c2 c3
 have a5:=((ak.out.chg ae (by simp)).alloc (.cells #[.int .u8 W,.int .u8 H,.int .u8 d,.int .u8 n] 5)).cell 3
 simp at a5
 have ai:=hid (aY.out.trans_same ae)
 have ab:Own (w2.alloc (.cells #[.int .u8 W,.int .u8 H,.int .u8 d,.int .u8 n] 5)) 5 (.slice (some ⟨w2.heap.size,0,none⟩) 4 4) [w2.heap.size] ([W,H,d,n].map b8):=by
  have:=Row.made w2 5 ([W,H,d,n].map b8) (by simp [maxLen])
  exact Row.toOwn this
 have be:=hid ab
 clear ae ab
 go_wp2_with fail
 go_loopg [3,5,7,28,34] n (fun j v3 v5 v7 v28 v34 wr=>∃ (i:Nat) (F:List Nat),v28=.int .i64 i/\i+j=n/\Hid (Own wr 5 v3 F (([W,H,d,n]++(p.P.take i).flatMap planeBytes).map b8))/\Hid (Chg [] w wr)/\Hid (∀ x∈F,w.heap.size<=x))
 case atStart=>exact ⟨0,[w2.heap.size],rfl,by omega,hid (by simpa using be.out),hid (ai.out.alloc _),hid (by intro x hx;simp at hx;have := ai.out.size;omega)⟩
 case round =>
  obtain ⟨i,F,rfl,bm,HO,aE,HF⟩:=hrel
  rcases gk with _ | j
  ·obtain rfl:i=n:=by omega
   have t1:decide (i<i)=false:=by simp
   obtain ⟨ds,aS⟩:=zX ([W,H,d,i]++(p.P.take i).flatMap planeBytes)
   have ho:=HO.out
   have aA:=aC.out i rfl
   have aD:=aH.out i rfl
   have ah:=aO.out i (zQ _)
   rw [<-aS] at ho aA aD ah
   obtain ⟨A3,aG,rfl,a3,a7,aX⟩:=ho.open_map
   have au:=thirtyTwo_ok wr A3 aG _ aX aA (by omega)
   rw [aD] at au
   obtain ⟨q,hq⟩:=zX (ds.length)
   rw [<-hq] at au ⊢
   have a1:=hid au
   clear au a3 a7 aX ho aA aD ah aS hq
   go_wp2_with fail
   refine a1.out.mono ?_
   rintro e w' ⟨rfl,rfl⟩
   go_wp2
   go_ret
   exact ⟨rfl,aE.out⟩
  ·have hi:i<n:=by omega
   obtain ⟨b,q,aF,hk⟩:=HC.out wr aE.out i hi
   have HK:=hid hk
   obtain ⟨l,hl⟩:=zX (p.P.getD i [])
   obtain ⟨pre,ad⟩:=zX ([W,H,d,n]++(p.P.take i).flatMap planeBytes)
   have ar:=an.out i hi
   have af:=aO.out i (by omega)
   have aK:=a4.out i hi
   have ay:=ba.out i
   rw [<-hl] at ar aK ay
   rw [<-ad] at ar af
   have HL:=hid hl
   have az:=hid ad
   have bd:=hid ar
   have ao:=hid af
   have aJ:=hid aK
   have bc:=hid ay
   clear hk hl ad ar af aK ay
   go_wp2_with fail
   go_loopg [3,7,34] N (fun j2 v3 v7 v34 wr2=>∃ (k:Nat) (F2:List Nat),v34=.int .i64 k/\k+j2=N/\Hid (Own wr2 5 v3 F2 ((pre++planeBytes (l.take k)).map b8))/\Hid (Chg [] w wr2)/\Hid (∀ x∈F2,w.heap.size<=x))
   case atStart=>exact ⟨0,F,rfl,by omega,hid (by rw [az.out];simpa [planeBytes] using HO.out),hid aE.out,hid HF.out⟩
   case round =>
    obtain ⟨k,F2,rfl,bo,aQ,ax,aB⟩:=hrel
    rcases gk with _ | j2
    ·obtain rfl:k=N:=by omega
     have t2:decide (k<k)=false:=by simp
     go_wp2
     go_roundg j
     case measure=>omega
     case rel =>
      refine ⟨i+1,F2,by go_num,by omega,hid ?_,ax,aB⟩
      have h:=aQ.out
      rw [zT (by rw [aJ.out];exact zQ _)] at h
      rw [bd.out]
      exact h
    ·have aN:k<N:=by omega
     obtain ⟨m,hm,bg⟩:=bc.out k hi
     have bb:=HK.out wr ax.out k aN
     rw [<-HL.out,hm] at bb
     have aW:Hid (planeBytes (l.take (k+1))=planeBytes (l.take k)++[m / 256,m%256]):=by
      refine hid ?_
      have aU:k<l.length:=by rw [aJ.out];exact aN
      have e:l[k]=(m:Int):=by
       rw [<-hm,zD,zF aU]
       rfl
      rw [List.take_succ_eq_append_getElem aU,planeBytes,List.flatMap_append,e]
      simp [planeBytes,smpBytes]
     have aT:(planeBytes (l.take k)).length<=8192:=by rw [planeBytes_len,zI,aJ.out];omega
     have aR:=hid aT
     have a9:(m:Int) / 256=((m / 256:Nat):Int):=by omega
     obtain ⟨ag,ac⟩:=zX (m / 256)
     obtain ⟨av,ap⟩:=zX (m%256)
     rw [<-ac,<-ap] at aW
     rw [<-ac] at a9
     have bk:ag<256:=by omega
     have e8:IntKind.u8.wrap (ag:Int)=(ag:Int):=by rw [IntKind.wrap_u8];omega
     have e9:IntKind.u8.wrap (m:Int)=(av:Int):=by rw [IntKind.wrap_u8];omega
     have aI:=aQ.out.alloc (.cells #[.int .u8 ag,.int .u8 av] 5)
     have aP:=cells_two wr ag av
     have bf:=hid aP
     clear hm ac ap aT aP
     go_wp2_with (at_builtin;refine wpList_append_s rfl rfl u8_elem rfl rfl aI ([ag,av].map b8) 2 rfl ?c1 ?c2 ?c3 ?c4 ?c5 ?_)
     case c1=>rfl
     case c2=>exact bf.out
     case c3=>exact b8_one _
     case c4=>have := ao.out;have := aR.out;simp only [zE,zC,zK,List.length_nil];omega
     case c5=>have := ao.out;have := aR.out;simp only [zE,zC,zK,List.length_nil];omega
     intro v' F' w' h2 h3
     go_wp2_with fail
     go_roundg j2
     case measure=>omega
     case rel =>
      refine ⟨k+1,F',by go_num,by omega,hid ?_,hid ?_,hid ?_⟩
      ·rw [aW.out,zM,zM]
       exact h2
      ·exact (ax.out.trans_same ((zR [] wr).alloc _)).trans h3.chg fun x hx => .inr (aB.out x hx)
      ·intro x hx
       rcases h3.new x hx with h | h
       ·exact aB.out x h
       ·have:=ax.out.size;rw [alloc_size] at h;omega
end Go.Proofs.YtklocammllljiaaGreatDoor
