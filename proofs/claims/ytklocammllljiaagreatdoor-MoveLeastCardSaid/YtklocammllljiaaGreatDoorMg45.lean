/- package move by its contracts: grid, checksum. -/
import Derived.Test.YtklocammllljiaaGreatDoorMg42
import Derived.Test.YtklocammllljiaaGreatDoorMg44
import Derived.Test.YtklocammllljiaaGreatDoorMg32
set_option linter.unusedVariables false
set_option linter.unusedSimpArgs false
set_option maxHeartbeats 4000000
set_option maxRecDepth 100000
namespace Go.Proofs.YtklocammllljiaaGreatDoor
open Go.RowKit
theorem mgrid_ok {p:PicD} (hok:p.Ok) (g o cap:Nat) (w:World) :
  Calls Tryz.prog 51 #[picV p g o cap] w fun e w'=>∃ v F,e=.returned v/\SqOwn w' v F (gridL p.W p.H 8)/\Chg [] w w'/\∀ x∈F,w.heap.size<=x:=by
 have aa:=fun w'=>tgrid_ok p.W p.H 8 w' hok.w0 hok.w1 hok.h0 hok.h1 (by decide) (by decide)
 unfold picV
 have HT:=hid aa
 clear aa
 go_enter Tryz.func51,Tryz.ntmps51
 go_wp2_with fail
 refine (HT.out _).mono ?_
 rintro e w2 ⟨v,F,rfl,ab,ac,hF⟩
 go_wp2
 go_ret
 refine ⟨v,F,rfl,ab,((zR [] w).alloc _).trans_same ac,fun x hx => ?_⟩
 have:=hF x hx
 rw [alloc_size] at this
 omega
section
variable {P:Program}
theorem step_append_s {w:World} {ops:Array Oper} {o:Oper} {a:Act} {K:Act->World->Prop} {Q:Exit->Act->World->Prop} {E0:Prop} (hgd:o.guard=none) {s x:Operand} {t:TypeId}
  (ho:o.op=.call { callee:=.builtin .append,args:=#[s,x],argTypes:=#[t,t] })
  {e:TypeId} {z:Value} {bytes:Nat} (E:Elem P t e z 1 bytes) (hzs:z.cells.size=1)
  {v:Value} {F:List Nat} {xs:List Value} (hs:a.eval s=v) (hown:Own w e v F xs) {A:Option Addr} {c:Nat} (news:List Value) (n:Nat) (hx:a.eval x=.slice A n c) (hnl:n=news.length) (hn:Cells (fun u=>u) w A news)
  (h1:∀ u∈news,u.oneCell'=true) (h63:xs.length+news.length<=9223372036854775807) (hbytes:(xs.length+news.length)*bytes<=140737488355328)
  (h:∀ v' F' w',Own w' e v' F' (xs++news)->Grow F F' w w'->K (a.put o.dst v') w'):if Region.wanted o (yielded ops a.tmps)=true then Oper.wp P o a w K Q else E0:=by
 subst hnl
 rw [if_pos (by simp [Region.wanted,hgd])]
 obtain ⟨v',F',w',aa,h2,h3⟩:=run_append_s (P:=P) (ty:=o.type) E hzs hown (c:=c) news hn h1 h63 hbytes
 unfold Oper.wp execOp
 simp only [ho,resolve,invoke,builtin,Sem.run_bind,Sem.run_pure,Result.andThen_ok,List.map_toArray,List.map_cons,List.map_nil,hs,hx,aa]
 exact h v' F' w' h2 h3
end
theorem Row.cells_b8 {w:World} {v:Value} {g:Nat} {l:List Nat} (h:Row w 5 v g (l.map b8)):∃ cap,v=.slice (some ⟨g,0,none⟩) l.length cap/\l.length<=cap/\cap<=9223372036854775807/\Cells b8 w (some ⟨g,0,none⟩) l:=by
 have aa:=h.lt
 obtain ⟨cap,rfl,h2,h3,h4,h5⟩:=h.open_map
 exact ⟨cap,rfl,h2,h3,⟨fun _=>⟨g,0,rfl,aa,fun i a ha=>by rw [Nat.zero_add];exact h4 i a ha⟩⟩⟩
theorem Cells.raw_b8 {w:World} {A:Option Addr} {l:List Nat} (h:Cells b8 w A l):Cells (fun u=>u) w A (l.map b8):=⟨fun h0=>by
 obtain ⟨b,o,e1,e2,e3⟩:=h.ex (by simpa using h0)
 refine ⟨b,o,e1,e2,fun i a ha => ?_⟩
 rw [zW] at ha
 obtain ⟨x,hx,rfl⟩:=Option.map_eq_some_iff.1 ha
 exact e3 i x hx⟩
theorem Row.cellsB {w:World} {g g' n c:Nat} {l:List Nat} (h:Row w 5 (.slice (some ⟨g',0,none⟩) n c) g (l.map b8)):Cells (fun u=>u) w (some ⟨g',0,none⟩) (l.map b8):=by
 obtain ⟨aa,e,_,_,hc⟩:=Row.cells_b8 h
 injection e with e _ _
 rw [e]
 exact hc.raw_b8
def sumL (p:PicD) (body:List Nat):List Nat:=big4 (crcN (body++big4 (picSum p)))
theorem sumL_len (p:PicD) (body:List Nat):(sumL p body).length=4:=rfl
theorem checksum_ok {w:World} {p:PicD} {g o:Nat} {B:Nat->Option Addr} {c:Nat->Nat} {G:List Nat} (cap:Nat) (h:PicAt w p g o B c G) (A:Option Addr) (capb:Nat) (body:List Nat) (hc:Cells b8 w A body) (hd:∀ d∈body,d<256) (h0:0<body.length) (hl:body.length<=1099511627000) :
  Calls Tryz.prog 98 #[picV p g o cap,.slice A body.length capb] w fun e w'=>∃ g' cap',e=.returned (.slice (some ⟨g',0,none⟩) 4 cap')/\Row w' 5 (.slice (some ⟨g',0,none⟩) 4 cap') g' ((sumL p body).map b8)/\Chg [] w w'/\w.heap.size<=g':=by
 have av:∀ w',Chg [] w w'->_:=fun w' hc'=>clone_b_ok w' A capb body (hc.same hc') h0 (by omega)
 have aq:∀ w',Chg [] w w'->_:=fun w' hc'=>picSum_ok cap (h.same hc')
 have aA:=fun w'=>big4_ok (picSum p) (picSum_lt h.ok) w'
 have ax:∀ d∈body++big4 (picSum p),d<256:=fun d hd'=>by
  rcases zP.1 hd' with h1 | h1
  ·exact hd d h1
  ·exact big4_lt _ d h1
 have aw:=crcN_lt ax
 have ai:=fun w'=>big4_ok (crcN (body++big4 (picSum p))) aw w'
 have an:=fun w' A' cap' hc'=>thirtyTwo_ok w' A' cap' (body++big4 (picSum p)) hc' ax (by rw [zC];simp [big4];omega)
 have aE:=picSum_lt h.ok
 have ak:sumL p body=big4 (crcN (body++big4 (picSum p))):=rfl
 obtain ⟨ds,ao⟩:=zX (body++big4 (picSum p))
 have au:ds.length=body.length+4:=by rw [ao,zC];rfl
 rw [<-ao] at an ak ai aw
 obtain ⟨S,hS⟩:=zX (picSum p)
 obtain ⟨S2,aC⟩:=zX (crcN ds)
 rw [<-hS] at ao aq aA aE
 rw [<-aC] at an ak ai aw
 rw [ak]
 obtain ⟨n,hn⟩:=zX (body.length)
 rw [<-hn] at av hl au ⊢
 obtain ⟨n4,ay⟩:=zX (ds.length)
 rw [<-ay] at an au
 unfold picV at aq ⊢
 have aU:IntKind.u64.wrap (S:Int)=(S:Int):=IntWalk.u64_in _ (by omega)
 have aP:IntKind.u64.wrap (S2:Int)=(S2:Int):=IntWalk.u64_in _ (by omega)
 have aJ:=hid ao
 have HN:=hid hn
 have aL:=hid ay
 have aR:=hid au
 have aQ:=hid av
 have aH:=hid aq
 have aO:=hid aA
 have az:=hid ai
 have aI:=hid an
 have al:Blk (w.alloc (.cells #[.int .i64 p.W,.int .i64 p.H,.int .i64 p.d,.slice (some ⟨g,o,none⟩) p.P.length cap] 25)) w.heap.size 25 #[.int .i64 p.W,.int .i64 p.H,.int .i64 p.d,.slice (some ⟨g,o,none⟩) p.P.length cap]:=Blk.new w _ _
 obtain ⟨w1,ap⟩:=zX (w.alloc (.cells #[.int .i64 p.W,.int .i64 p.H,.int .i64 p.d,.slice (some ⟨g,o,none⟩) p.P.length cap] 25))
 rw [<-ap] at al
 have C1:Chg [] w w1:=by rw [ap];exact (zR [] w).alloc _
 have D1:Chg [] w w1.drew:=C1.drew
 have aF:=hid ap
 have ah:∀ wz,Chg [] w1 wz->wz.cell? ⟨w.heap.size,0,none⟩=some (.int .i64 p.W)/\wz.cell? ⟨w.heap.size,1,none⟩=some (.int .i64 p.H)/\wz.cell? ⟨w.heap.size,2,none⟩=some (.int .i64 p.d)/\wz.cell? ⟨w.heap.size,3,none⟩=some (.slice (some ⟨g,o,none⟩) p.P.length cap):=fun wz hz =>
  ⟨(al.chg hz (by simp)).cell 0,(al.chg hz (by simp)).cell 1,(al.chg hz (by simp)).cell 2,(al.chg hz (by simp)).cell 3⟩
 have E1:Chg [] w1 w1.drew:=(zR [] w1).drew
 obtain ⟨k0,k1,k2,k3⟩:=ah w1 (zR _ _)
 have HK:=hid ah
 clear av aq aA ai an ao hn ay au ax ak ap al ah hS aC h hc hd h0
 go_enter Tryz.func98,Tryz.ntmps98
 go_wp2_with fail
 rw [<-aF.out]
 go_region_held3 (fun w'=>w'.cell? ⟨w.heap.size,0,none⟩=some (.int .i64 p.W)/\w'.cell? ⟨w.heap.size,1,none⟩=some (.int .i64 p.H)/\w'.cell? ⟨w.heap.size,2,none⟩=some (.int .i64 p.d)/\w'.cell? ⟨w.heap.size,3,none⟩=some (.slice (some ⟨g,o,none⟩) p.P.length cap))
  (first | (go_keep;done) | exact HK.out _ ar | exact HK.out _ (by first | exact E1.trans_same ab | exact E1.trans_same aa | exact (E1.trans_same ab).trans_same aa | exact (E1.trans_same aa).trans_same ab | exact (E1.trans_same aa).trans_same ac | exact ((E1.trans_same ab).trans_same aa).trans_same ac | exact ((E1.trans_same aa).trans_same ab).trans_same ac | exact ((E1.trans_same aa).trans_same ac).trans_same ab) | trivial)
  (first
   | (go_at_call 126;refine (aQ.out _ (by first | exact D1 | exact D1.trans_same aa | exact (D1.trans_same aa).trans_same ac)).mono ?_;rintro e w5 ⟨v5,g5,rfl,ae,ab,aK⟩)
   | (go_at_call 127;refine (aH.out _ (by first | exact D1 | exact D1.trans_same ab)).mono ?_;rintro e w6 ⟨rfl,aa⟩)
   | (go_at_call 67;refine (aO.out _).mono ?_;rintro e w7 ⟨g7,c7,rfl,ag,ac,aD⟩)
   | (refine step_append_s (by rfl) (by rfl) u8_elem (by rfl) (by rfl) (((ae.chg aa (by simp)).chg ac (by simp)).toOwn) ((big4 S).map b8) 4 (by rfl) (by rfl) (Row.cellsB ag) (b8_one _) (by rw [zE,<-HN.out];simp [big4];omega) (by rw [zE,<-HN.out];simp [big4];omega) ?_;intro v8 F8 w8 af ad;have ar:Chg [] w1 w8 := (((E1.trans_same ab).trans_same aa).trans_same ac).trans ad.chg (fun x hx => .inr (by simp at hx;have := E1.size;have := D1.size;have := aa.size;have := ac.size;have := ab.size;omega));have aj:Hid (Chg [] w w8) := hid ((((D1.trans_same ab).trans_same aa).trans_same ac).trans ad.chg (fun x hx => .inr (by simp at hx;have := E1.size;have := D1.size;have := aa.size;have := ac.size;have := ab.size;omega))))
   | (refine step_append_s (by rfl) (by rfl) u8_elem (by rfl) (by rfl) ((ae.chg ac (by simp)).toOwn) ((big4 S).map b8) 4 (by rfl) (by rfl) (Row.cellsB ag) (b8_one _) (by rw [zE,<-HN.out];simp [big4];omega) (by rw [zE,<-HN.out];simp [big4];omega) ?_;intro v8 F8 w8 af ad;have ar:Chg [] w1 w8 := (((E1.trans_same aa).trans_same ab).trans_same ac).trans ad.chg (fun x hx => .inr (by simp at hx;have := E1.size;have := D1.size;have := aa.size;have := ac.size;have := ab.size;omega));have aj:Hid (Chg [] w w8) := hid ((((D1.trans_same aa).trans_same ab).trans_same ac).trans ad.chg (fun x hx => .inr (by simp at hx;have := E1.size;have := D1.size;have := aa.size;have := ac.size;have := ab.size;omega))))
   | (refine step_append_s (by rfl) (by rfl) u8_elem (by rfl) (by rfl) (ae.toOwn) ((big4 S).map b8) 4 (by rfl) (by rfl) (Row.cellsB (ag.chg ab (by simp))) (b8_one _) (by rw [zE,<-HN.out];simp [big4];omega) (by rw [zE,<-HN.out];simp [big4];omega) ?_;intro v8 F8 w8 af ad;have ar:Chg [] w1 w8 := (((E1.trans_same aa).trans_same ac).trans_same ab).trans ad.chg (fun x hx => .inr (by simp at hx;have := E1.size;have := D1.size;have := aa.size;have := ac.size;have := ab.size;omega));have aj:Hid (Chg [] w w8) := hid ((((D1.trans_same aa).trans_same ac).trans_same ab).trans ad.chg (fun x hx => .inr (by simp at hx;have := E1.size;have := D1.size;have := aa.size;have := ac.size;have := ab.size;omega)))))
 all_goals
  have ho:=af
  rw [<-zM,<-aJ.out] at ho
  obtain ⟨A8,c8,rfl,aN,aS,aB⟩:=ho.open_map
  rw [<-aL.out] at aN ⊢
  have aG:=hid aB
  clear af ho aB ad ar ae ag ab aa ac aK aD k0 k1 k2 k3 E1 D1 C1
  go_wp2_with fail
  refine (aI.out _ A8 c8 aG.out).mono ?_
  rintro e w' ⟨rfl,rfl⟩
  go_wp2_with fail
  refine (az.out _).mono ?_
  rintro e w9 ⟨g9,c9,rfl,am,aM,aT⟩
  go_wp2
  go_ret
  exact ⟨g9,c9,rfl,am,aj.out.trans_same aM,by have:=aj.out.size;omega⟩
theorem own_row {w:World} {e:TypeId} {v:Value} {F:List Nat} {ys:List Value} {N:Nat} (h:Own w e v F ys) (hl:ys.length=N) (h0:0<N):∃ g c,v=.slice (some ⟨g,0,none⟩) N c/\Row w e (.slice (some ⟨g,0,none⟩) N c) g ys/\F=[g]:=by
 rcases h.cases with ⟨_,he,_⟩ | ⟨g,hr,hF⟩
 ·rw [he] at hl
  simp at hl
  omega
 ·have aa:=hr
  obtain ⟨c,rfl,_⟩:=hr.open_
  rw [hl] at aa ⊢
  exact ⟨g,c,rfl,aa,hF⟩
theorem copy24_ok {w:World} {p:PicD} {g o:Nat} {B:Nat->Option Addr} {c:Nat->Nat} {G:List Nat} (cap:Nat) (h:PicAt w p g o B c G) :
  Calls Tryz.prog 13 #[picV p g o cap] w fun e w'=>∃ (gP capP:Nat) (xs:List Value) (gs:List Nat),e=.returned (picV p gP 0 capP)/\PicOwn w' p gP capP xs gs/\Chg [] w w'/\∀ x∈gP::gs,w.heap.size<=x:=by
 have am:=h.ok
 unfold picV
 obtain ⟨W,hW⟩:=zX (p.W)
 obtain ⟨H,hH⟩:=zX (p.H)
 obtain ⟨d,hd⟩:=zX (p.d)
 obtain ⟨n,hn⟩:=zX (p.P.length)
 obtain ⟨N,hN⟩:=zX (W*H)
 rw [<-hW,<-hH,<-hd,<-hn]
 have bx:n<=4:=by rw [hn];exact am.n1
 have bw:1<=n:=by rw [hn];exact am.n0
 have bb:∀ w',Chg [] w w'->∀ i,i<n->∃ b q,w'.cell? ⟨g,o+i,none⟩=some (.slice (some ⟨b,q,none⟩) N (c i))/\∀ w1,Chg [] w w1->Cells (fun u=>u) w1 (some ⟨b,q,none⟩) ((p.P.getD i []).map vi):=by
  intro w' hc i hi
  rw [hn] at hi
  obtain ⟨b,q,e,hb,hk⟩:=h.at_ hi
  have ar:=(h.same hc).cell i hi
  rw [e,<-hW,<-hH,<-hN] at ar
  refine ⟨b,q,ar,fun w1 hc1 => ?_⟩
  have ab:=(h.same hc1).cells i hi
  rw [e] at ab
  refine ⟨fun h0 => ?_⟩
  obtain ⟨b,o,e1,e2,e3⟩:=ab.ex (by simpa using h0)
  refine ⟨b,o,e1,e2,fun i a ha => ?_⟩
  rw [zW] at ha
  obtain ⟨x,hx,rfl⟩:=Option.map_eq_some_iff.1 ha
  exact e3 i x hx
 have aw:∀ i,i<n->(p.P.getD i []).length=N:=fun i hi=>by rw [hN,hW,hH];exact h.len (by rw [<-hn];exact hi)
 have be:0<N:=by rw [hN,hW,hH];exact am.pos
 have bC:N<=4096:=by rw [hN,hW,hH];exact am.area
 have a5:∀ (cs:Array Value),Blk ((w.alloc (.cells #[.int .i64 W,.int .i64 H,.int .i64 d,.slice (some ⟨g,o,none⟩) n cap] 25)).alloc (.cells cs 25)) w.heap.size 25 #[.int .i64 W,.int .i64 H,.int .i64 d,.slice (some ⟨g,o,none⟩) n cap]:=fun cs=>(Blk.new w _ _).alloc _
 obtain ⟨wA,an⟩:=zX (((w.alloc (.cells #[.int .i64 W,.int .i64 H,.int .i64 d,.slice (some ⟨g,o,none⟩) n cap] 25)).alloc (.cells #[.int .i64 0,.int .i64 0,.int .i64 0,.slice none 0 0] 25)))
 have a8:Chg [] w wA:=by rw [an];exact ((zR [] w).alloc _).alloc _
 obtain ⟨w1,ap⟩:=zX (wA.alloc (.cells #[.int .i64 W,.int .i64 H,.int .i64 d,.slice none 0 0] 25))
 obtain ⟨rb,aB⟩:=zX (w.heap.size+1)
 obtain ⟨cb,aU⟩:=zX (rb+1)
 have ak:wA.heap.size=cb:=by rw [an,alloc_size,alloc_size,aU,aB]
 have a9:CpSt [] wA W H d cb w1 (.slice none 0 0) [] [] [] []:=by
  refine ⟨by rw [ap,<-ak];exact Blk.new wA _ _,Own.nil _ _,PlRows.nil _,by simp,by simp,by simp,?_,by simp,by rw [ap];exact (zR [] wA).alloc _⟩
  intro x hx
  simp at hx
  omega
 have av:Blk wA w.heap.size 25 #[.int .i64 W,.int .i64 H,.int .i64 d,.slice (some ⟨g,o,none⟩) n cap]:=by rw [an];exact a5 _
 have aq:Blk wA rb 25 #[.int .i64 0,.int .i64 0,.int .i64 0,.slice none 0 0]:=by rw [an,aB];exact Blk.new2 w _ _ _
 rw [an] at ap
 have HP:Hid (p.P.length=n):=hid hn.symm
 have bA:Hid (p=⟨W,H,d,p.P⟩):=hid (by rw [hW,hH,hd])
 have bd:=hid am
 have bk:=hid ap
 have aE:=hid aB
 have aY:=hid aU
 have bf:=hid aq
 have bs:=hid a9
 have ai:=hid a8
 have bq:=hid ak
 have bu:=hid bb
 have aT:=hid aw
 have aP:=hid (h.lt g h.gG)
 have aJ:=hid av
 have bB:rb≠cb:=by omega
 clear hW hH hd hn hN am ap a8 bb h a9 aq an aB aU ak aw a5 av
 go_enter Tryz.func13,Tryz.ntmps13
 go_wp2_with fail
 rw [<-bk.out,<-aE.out,<-aY.out]
 go_loopg [4] n (fun j v16 wr=>∃ (i:Nat) (vP:Value) (F:List Nat) (xs:List Value) (gs:List Nat),v16=.int .i64 i/\i+j=n/\Hid (CpSt [] wA W H d cb wr vP F xs (p.P.take i) gs))
 case atStart=>exact ⟨0,_,[],[],[],rfl,by omega,hid (by simpa using bs.out)⟩
 case round =>
  obtain ⟨i,vP,F,xs,gs,rfl,bv,HS⟩:=hrel
  rcases gk with _ | j
  ·obtain rfl:i=n:=by omega
   have t1:decide (i<i)=false:=by simp
   have a0:p.P.take i=p.P:=zT (by rw [HP.out];exact zQ _)
   have hs:=HS.out
   rw [a0] at hs
   have ao:xs.length=i:=by rw [hs.pl.lx,HP.out]
   rcases hs.own.cases with ⟨_,he,_⟩ | ⟨gP,al,hF⟩
   ·exfalso
    rw [he] at ao
    simp at ao
    omega
   have hr:=al
   obtain ⟨capP,rfl,aD,aS,-,-⟩:=al.open_
   rw [ao] at hr hs
   have b0:=hs.blk.cell 0
   have b1:=hs.blk.cell 1
   have b2:=hs.blk.cell 2
   have b3:=hs.blk.cell 3
   simp at b0 b1 b2 b3
   have ah:=(aJ.out.chg HS.out.chg (by simp)).cell 3
   simp at ah
   have ac:=bf.out.chg hs.chg (by simp)
   have z0:=ac.frozen 0
   have z1:=ac.frozen 1
   have z2:=ac.frozen 2
   have z3:=ac.frozen 3
   have k0:=ac.cell 0
   have k1:=ac.cell 1
   have k2:=ac.cell 2
   have k3:=ac.cell 3
   simp at k0 k1 k2 k3
   clear al aD aS a0
   go_wp2_with fail
   obtain ⟨w9,aQ⟩:=zX ((((wr.setCell ⟨rb,0,none⟩ (.int .i64 W)).setCell ⟨rb,1,none⟩ (.int .i64 H)).setCell ⟨rb,2,none⟩ (.int .i64 d)).setCell ⟨rb,3,none⟩ (.slice (some ⟨gP,0,none⟩) i capP))
   have aC:Blk w9 rb 25 #[.int .i64 W,.int .i64 H,.int .i64 d,.slice (some ⟨gP,0,none⟩) i capP]:=by
    rw [aQ]
    have:=(((ac.set_ 0 (.int .i64 W)).set_ 1 (.int .i64 H)).set_ 2 (.int .i64 d)).set_ 3 (.slice (some ⟨gP,0,none⟩) i capP)
    simpa using this
   have aL:Chg [rb] wr w9:=by
    rw [aQ]
    exact ((((zR [rb] wr).setCell (p:=⟨rb,0,none⟩) (.inl (by simp)) _).setCell (p:=⟨rb,1,none⟩) (.inl (by simp)) _).setCell (p:=⟨rb,2,none⟩) (.inl (by simp)) _).setCell (p:=⟨rb,3,none⟩) (.inl (by simp)) _
   have g0:=aC.cell 0
   have g1:=aC.cell 1
   have g2:=aC.cell 2
   have g3:=aC.cell 3
   simp at g0 g1 g2 g3
   rw [<-aQ]
   refine bodyPost_ret (v:=.agg #[.int .i64 W,.int .i64 H,.int .i64 d,.slice (some ⟨gP,0,none⟩) i capP]) (by simp [results,Tryz.results13,go_sem,g0,g1,g2,g3]) rfl ?_
   have aj:∀ x∈gP::gs,rb<x:=by
    intro x hx
    have:=bq.out
    have:=aY.out
    rcases zJ.1 hx with rfl | hx
    ·have:=hs.new x (by simp [hF]);omega
    ·have:=hs.new x (by simp [hx]);omega
   refine ⟨gP,capP,xs,gs,rfl,⟨bd.out,?_,hs.pl.chg aL ?_⟩,?_,?_⟩
   ·rw [HP.out]
    refine hr.chg aL ?_
    intro hm
    have:=aj gP (by simp)
    simp at hm
    omega
   ·intro x hx hm
    have:=aj x (by simp [hx])
    simp at hm
    omega
   ·refine (ai.out.trans_same hs.chg).trans aL ?_
    intro x hx
    simp at hx
    have:=aE.out
    exact .inr (by omega)
   ·intro x hx
    have:=aj x hx
    have:=aE.out
    omega
  ·have hi:i<n:=by omega
   have t1:decide (i<n)=true:=zB hi
   obtain ⟨b,q,ar,hk⟩:=bu.out wr (ai.out.trans_same HS.out.chg) i hi
   have aW:i<p.P.length:=by rw [HP.out];exact hi
   have a2:Hid (p.P.take (i+1)=p.P.take i++[p.P.getD i []]):=hid (by
    rw [List.take_succ_eq_append_getElem aW,zD,zF aW]
    rfl)
   have ao:Hid (xs.length=i):=hid (by rw [HS.out.pl.lx,zI];omega)
   have y3:=HS.out.blk.cell 3
   simp at y3
   have ah:=(aJ.out.chg HS.out.chg (by simp)).cell 3
   simp at ah
   have HI:=hid hi
   obtain ⟨l,hl⟩:=zX (p.P.getD i [])
   have aR:=aT.out i hi
   rw [<-hl] at a2 hk aR
   have HK:=hid hk
   have ay:=hid aR
   obtain ⟨wB,aM⟩:=zX (wr.alloc (.cells #[] 3))
   have aV:Chg [] wr wB:=by rw [aM];exact (zR [] wr).alloc _
   have hz:Own wB.drew 3 (.slice (some ⟨wr.heap.size,0,none⟩) 0 0) [wr.heap.size] []:=by rw [aM];exact ((Row.made wr 3 [] (by simp [maxLen])).drew).toOwn
   have ba:Cells (fun u=>u) wB.drew (some ⟨b,q,none⟩) (l.map vi):=HK.out _ (((ai.out.trans_same HS.out.chg).trans_same aV).drew)
   have bz:=HS.out.same aV.drew
   have yB:=(HS.out.blk.alloc (.cells #[] 3)).cell 3
   simp at yB
   have HZ:=hid hz
   have aI:=hid ba
   have a3:=hid aM
   have af:∀ wz,Chg [] wA wz->wz.cell? ⟨w.heap.size,3,none⟩=some (.slice (some ⟨g,o,none⟩) n cap):=fun wz hz=>by
    have h:=(aJ.out.chg hz (by simp)).cell 3
    simpa using h
   have aa:=hid af
   clear hk aW hl aR hz ba af
   have a4:∀ wz,Chg [] wr wz->wz.cell? ⟨g,o+i,none⟩=some (.slice (some ⟨b,q,none⟩) N (c i)):=fun wz hz=>(World.cell?_of_block (w:=wr) (hz.block g (Nat.lt_of_lt_of_le aP.out (ai.out.trans_same HS.out.chg).size) (by simp))).trans ar
   have aK:=hid a4
   have aZ:∀ wz,Chg [] w wz->wz.cell? ⟨g,o+i,none⟩=some (.slice (some ⟨b,q,none⟩) N (c i)):=fun wz hz=>by
    have h0:w.cell? ⟨g,o+i,none⟩=some (.slice (some ⟨b,q,none⟩) N (c i)):=by
     rw [<-ar]
     exact (World.cell?_of_block (w:=w) ((ai.out.trans_same HS.out.chg).block g aP.out (by simp))).symm
    exact (World.cell?_of_block (w:=w) (hz.block g aP.out (by simp))).trans h0
   have a7:=hid aZ
   have bh:Hid (wr.heap.size<=wB.heap.size):=hid aV.size
   clear a4 aZ
   have za:=aa.out _ (HS.out.chg.alloc (.cells #[] 3))
   have zb:=aK.out _ ((zR [] wr).alloc (.cells #[] 3))
   go_wp2_with fail
   go_region_law
    (first
     | (refine step_append_s (by rfl) (by rfl) int_elem (by rfl) (by rfl) (by have h := HZ.out;rw [a3.out] at h;exact h) (l.map vi) N (by rfl) (by rw [zE];exact ay.out.symm) (by have h := aI.out;rw [a3.out] at h;exact h) (vi_one _) (by rw [zE,ay.out];simp;omega) (by rw [zE,ay.out];simp;omega) ?_;intro v5 F5 w5 au aO;obtain ⟨g5,c5,rfl,ae,a6⟩ := own_row au (by rw [zC,zE,ay.out];simp) be;have ad:Chg [] wr w5 := (((zR [] wr).alloc (.cells #[] 3)).drew).trans aO.chg (fun x hx => .inr (by simp at hx;omega));have a1:wr.heap.size<=g5 := (by rcases aO.new g5 (by rw [a6];simp) with hh | hh;simp at hh;omega;have := ((zR [] wr).alloc (.cells #[] 3)).size;simp at hh;omega);have aH := HS.out.same ad;have ag := aH.own;have aA := aH.blk;have y5 := aA.cell 3;have n5 := (aA.alloc (.cells #[.slice (some ⟨g5,0,none⟩) N c5] 22)).cell 3;have bm := aa.out w5 (HS.out.chg.trans_same ad);have bn := aK.out w5 ad;have bl := aa.out _ ((HS.out.chg.trans_same ad).alloc (.cells #[.slice (some ⟨g5,0,none⟩) N c5] 22));have bp := aK.out _ (ad.alloc (.cells #[.slice (some ⟨g5,0,none⟩) N c5] 22));simp at y5 n5)
     | (refine step_append_o1 (by rfl) (by rfl) rows_el (by rfl) (by rfl) (ag.alloc (.cells #[.slice (some ⟨g5,0,none⟩) N c5] 22)) (.slice (some ⟨g5,0,none⟩) N c5) (by rfl) (by simp [go_sem]) (by rfl) (by rw [ao.out];omega) (by rw [ao.out];omega) ?_;intro g2 aX w6 bc az;have aG := (aA.alloc (.cells #[.slice (some ⟨g5,0,none⟩) N c5] 22)).chg az.chg HS.out.cF;have y6 := aG.cell 3;have z6 := aG.frozen 3;simp at y6;have ax:Chg [] wA w6 := ((HS.out.chg.trans_same ad).alloc (.cells #[.slice (some ⟨g5,0,none⟩) N c5] 22)).trans az.chg (fun x hx => .inr (HS.out.new x (by simp [hx])));have aN:Chg [] wA (w6.setCell ⟨cb,3,none⟩ (.slice (some ⟨g2,0,none⟩) (xs.length+1) aX)) := ax.setCell (.inr (HS.out.new cb (by simp))) _;have br := aa.out w6 ax;have bi := a7.out w6 (ai.out.trans_same ax);have bg := aa.out _ aN;have bo := a7.out _ (ai.out.trans_same aN)))
   all_goals
    have aF:=CpSt.next HS.out (ad.alloc (.cells #[.slice (some ⟨g5,0,none⟩) N c5] 22)) (ae.alloc _) a1 bc az
    rw [<-a2.out] at aF
    have bj:=hid aF
    clear aF bc az aG y6 z6 y5 n5 aA ag aH ae ad ax aN bm bn bl bp br bi bg bo au aO a6 a1
    go_wp2_with fail
    go_roundg j
    case measure=>omega
    case rel=>exact ⟨i+1,_,_,_,_,by go_num,by omega,bj⟩
theorem idx_inj {W a b i c:Nat} (hi:i<W) (hc:c<W) (h:a*W+i=b*W+c):a=b/\i=c:=by
 have e1:(a*W+i) / W=a:=by rw [Nat.add_comm,Nat.add_mul_div_right _ _ (by omega),Nat.div_eq_of_lt hi,Nat.zero_add]
 have e2:(b*W+c) / W=b:=by rw [Nat.add_comm,Nat.add_mul_div_right _ _ (by omega),Nat.div_eq_of_lt hc,Nat.zero_add]
 have aa:a=b:=by rw [<-e1,<-e2,h]
 subst aa
 exact ⟨rfl,by omega⟩
structure OvSt (l part:List Int) (W H X Y pw ph k c:Nat) (lo:List Int):Prop where
 len:lo.length=l.length
 smp:∀ d,SmpOk d l->SmpOk d part->SmpOk d lo
 got:∀ j i,(j<k/\i<pw\/j=k/\i<c)->lo.getD ((Y+j)*W+(X+i)) 0=part.getD (j*pw+i) 0
theorem OvSt.start (l part:List Int) (W H X Y pw ph:Nat):OvSt l part W H X Y pw ph 0 0 l:=⟨rfl,fun _ h _=>h,fun j i h=>by omega⟩
theorem OvSt.row {l part:List Int} {W H X Y pw ph k:Nat} {lo:List Int} (h:OvSt l part W H X Y pw ph k pw lo):OvSt l part W H X Y pw ph (k+1) 0 lo:=⟨h.len,h.smp,fun j i hj=>h.got j i (by omega)⟩
theorem OvSt.set {l part:List Int} {W H X Y pw ph k c:Nat} {lo:List Int} (h:OvSt l part W H X Y pw ph k c lo) (hx:X+pw<=W) (hc:c<pw) (hpl:k*pw+c<part.length) (hq:(Y+k)*W+(X+c)<l.length) :
  OvSt l part W H X Y pw ph k (c+1) (lo.set ((Y+k)*W+(X+c)) (part.getD (k*pw+c) 0)):=by
 refine ⟨by rw [List.length_set,h.len],fun d hl hp => ?_,fun j i hj => ?_⟩
 ·intro v hv
  rcases List.mem_or_eq_of_mem_set hv with h2 | h2
  ·exact h.smp d hl hp v h2
  ·rw [h2];exact getD_smp hp _
 ·rw [zD]
  by_cases he:(Y+k)*W+(X+c)=(Y+j)*W+(X+i)
  ·obtain ⟨e1,e2⟩:=idx_inj (by omega) (by omega) he
   have e3:j=k:=by omega
   have e4:i=c:=by omega
   subst e3
   subst e4
   rw [List.getElem?_set_self (by rw [h.len];exact hq)]
   rfl
  ·rw [List.getElem?_set_ne he,<-zD]
   refine h.got j i ?_
   rcases hj with h1 | ⟨rfl,h1⟩
   ·exact .inl h1
   ·right
    refine ⟨rfl,?_⟩
    rcases zZ i c with h2 | h2
    ·exact h2
    ·exfalso
     have:i=c:=by omega
     exact he (by rw [this])
theorem OvSt.done {l part:List Int} {W H X Y pw ph:Nat} {lo:List Int} (h:OvSt l part W H X Y pw ph ph 0 lo) (hp:part.length=ph*pw):partF lo W X Y pw ph=part:=by
 apply List.ext_getElem?
 intro t
 rcases zZ t (ph*pw) with ht | ht
 ·have aa:0<pw:=by
   rcases Nat.eq_zero_or_pos pw with h0 | h0
   ·rw [h0] at ht;simp at ht
   ·exact h0
  have hj:t / pw<ph:=Nat.div_lt_of_lt_mul (by rw [zY];exact ht)
  have hi:=Nat.mod_lt t aa
  have e:t=t / pw*pw+t%pw:=by have:=Nat.div_add_mod t pw;rw [zY] at this;exact this.symm
  have h1:=partF_get lo W X Y (w:=pw) (h:=ph) hj hi
  rw [h.got (t / pw) (t%pw) (.inl ⟨hj,hi⟩),<-e] at h1
  rw [h1,zD,zF (by rw [hp];exact ht)]
  rfl
 ·rw [List.getElem?_eq_none (by rw [partF_len];exact ht),List.getElem?_eq_none (by rw [hp];exact ht)]
theorem over24_ok (w:World) (A:Option Addr) (cap:Nat) (l:List Int) (Am:Option Addr) (capM:Nat) (part:List Int) (W H X Y pw ph:Nat) (hl:l.length=W*H) (hl0:0<l.length) (hpl:part.length=ph*pw) (hW:W<=64) (hH:H<=64) (hx:X+pw<=W) (hy:Y+ph<=H) (hc:Cells vi w A l) (hm:Cells vi w Am part) :
  Calls Tryz.prog 16 #[.slice A l.length cap,.int .i64 W,.slice Am part.length capM,.int .i64 X,.int .i64 Y,.int .i64 pw,.int .i64 ph] w fun e w'=>∃ (g c:Nat) (lo:List Int),e=.returned (.slice (some ⟨g,0,none⟩) l.length c)/\Row w' 3 (.slice (some ⟨g,0,none⟩) l.length c) g (lo.map vi)/\OvSt l part W H X Y pw ph ph 0 lo/\Chg [] w w'/\w.heap.size<=g:=by
 obtain ⟨N,hN⟩:=zX (l.length)
 obtain ⟨M,hM⟩:=zX (part.length)
 rw [<-hN,<-hM]
 have aV:N<=4096:=by rw [hN,hl];exact zL hW hH
 have aN:0<N:=by omega
 have aQ:M<=4096:=by rw [hM,hpl];exact zL (show ph<=64 by omega) (show pw<=64 by omega)
 have au:Cells (fun u=>u) (w.alloc (.cells #[] 3)) A (l.map vi):=by
  have h1:=hc.same ((zR [] w).alloc (.cells #[] 3))
  refine ⟨fun h0 => ?_⟩
  obtain ⟨b,o,e1,e2,e3⟩:=h1.ex (by simpa using h0)
  refine ⟨b,o,e1,e2,fun i a ha => ?_⟩
  rw [zW] at ha
  obtain ⟨x,hx,rfl⟩:=Option.map_eq_some_iff.1 ha
  exact e3 i x hx
 have hz:Own (w.alloc (.cells #[] 3)) 3 (.slice (some ⟨w.heap.size,0,none⟩) 0 0) [w.heap.size] []:=(Row.made w 3 [] (by simp [maxLen])).toOwn
 have HB:=hid (And.intro hx hy)
 have HL:=hid hl
 have aC:=hid hpl
 have ab:=hid hN
 have ay:=hid hM
 have HC:=hid hm
 have aH:=hid au
 have HZ:=hid hz
 have a0:pw<=64:=by omega
 have aR:ph<=64:=by omega
 have hX:X<=64:=by omega
 have hY:Y<=64:=by omega
 clear hN hM hl hpl hx hy hc hm au hz hl0
 go_enter Tryz.func16,Tryz.ntmps16
 go_wp2_with (at_builtin;refine wpList_append_s rfl rfl int_elem rfl rfl HZ.out (l.map vi) N rfl ?c1 ?c2 ?c3 ?c4 ?c5 ?_)
 case c1=>rw [zE];exact ab.out
 case c2=>exact aH.out
 case c3=>exact vi_one _
 case c4=>rw [zE,<-ab.out];simp;omega
 case c5=>rw [zE,<-ab.out];simp;omega
 intro v1 F1 w1 af am
 obtain ⟨g,c,rfl,ag,ar⟩:=own_row (N:=N) af (by rw [zE];exact ab.out.symm) aN
 have ac:Chg [] w w1:=((zR [] w).alloc (.cells #[] 3)).trans am.chg (fun x hx => .inr (by simp at hx;omega))
 have hg:w.heap.size<=g:=by
  rcases am.new g (by rw [ar];simp) with h | h
  ·simp at h;omega
  ·have:=alloc_size w (.cells #[] 3);omega
 have aJ:=hid ag
 have aD:=hid ac
 have HG:=hid hg
 have aO:Hid (∀ wz,Chg [g] w1 wz->Cells vi wz Am part):=hid (fun wz hz=>(HC.out.same ac).keep (fun h0 ad e=>by
  obtain ⟨b,o,e1,e2,_⟩:=HC.out.ex h0
  rw [e] at e1
  injection e1 with e1
  subst e1
  simp
  omega) hz)
 clear af am ar ag ac hg
 go_wp2_with fail
 go_loopg [16,17] ph (fun j v16 v17 wr=>∃ (k:Nat) (lo:List Int),v16=.int .i64 k/\k+j=ph/\Hid (Row wr 3 (.slice (some ⟨g,0,none⟩) N c) g (lo.map vi))/\Hid (OvSt l part W H X Y pw ph k 0 lo)/\Hid (Chg [g] w1 wr))
 case atStart=>exact ⟨0,l,rfl,by omega,aJ,hid (OvSt.start l part W H X Y pw ph),hid (zR _ _)⟩
 case round =>
  obtain ⟨k,lo,rfl,aZ,HR,HO,ae⟩:=hrel
  rcases gk with _ | j
  ·have aw:k=ph:=by omega
   have t1:decide (k<ph)=false:=zA (by omega)
   have aP:=hid aw
   clear aw
   go_wp2_with fail
   go_ret
   have ho:=HO.out
   rw [aP.out] at ho
   exact ⟨g,c,lo,rfl,HR.out,ho,aD.out.trans ae.out (fun x hx=>by simp at hx;right;have:=HG.out;omega),HG.out⟩
  ·have hk:k<ph:=by omega
   have t1:decide (k<ph)=true:=zB hk
   obtain ⟨Yk,aB⟩:=zX (Y+k)
   have eY:(Y:Int)+(k:Int)=(Yk:Int):=by omega
   have aE:Yk<64:=by have:=HB.out.2;omega
   obtain ⟨P0,ao⟩:=zX (Yk*W)
   have eP:(Yk:Int)*(W:Int)=(P0:Int):=by rw [ao];simp
   have aF:P0+W<=N:=by
    have h1:=HB.out.2
    have h3:=Nat.mul_le_mul_right W (show Yk+1<=H by omega)
    rw [Nat.succ_mul,zY H] at h3
    have h4:=ab.out
    have h5:=HL.out
    omega
   obtain ⟨P1,aA⟩:=zX (P0+X)
   have aX:(P0:Int)+(X:Int)=(P1:Int):=by omega
   obtain ⟨Q0,an⟩:=zX (k*pw)
   have eQ:(k:Int)*(pw:Int)=(Q0:Int):=by rw [an];simp
   have aU:Q0+pw<=M:=by
    have h3:=Nat.mul_le_mul_right pw (show k+1<=ph by omega)
    rw [Nat.succ_mul] at h3
    have:=aC.out
    have:=ay.out
    omega
   have ai:Hid (P1=(Y+k)*W+X/\Q0=k*pw):=hid ⟨by rw [aA,ao,aB],an⟩
   clear aB ao aA an
   go_wp2_with fail
   obtain ⟨aT,rfl⟩:=zX (wr)
   go_loopg [17] pw (fun j2 v17 wr=>∃ (i:Nat) (lo:List Int),v17=.int .i64 i/\i+j2=pw/\Hid (Row wr 3 (.slice (some ⟨g,0,none⟩) N c) g (lo.map vi))/\Hid (OvSt l part W H X Y pw ph k i lo)/\Hid (Chg [g] w1 wr))
   case atStart=>exact ⟨0,lo,rfl,by omega,HR,HO,ae⟩
   case round =>
    obtain ⟨i,lo,rfl,aW,HR,HO,ae⟩:=hrel
    rcases gk with _ | j2
    ·have az:i=pw:=by omega
     have t2:decide (i<pw)=false:=zA (by omega)
     have ho:=HO.out
     rw [az] at ho
     have aI:=hid ho.row
     clear az ho
     go_wp2_with fail
     go_roundg j
     case measure=>omega
     case rel=>exact ⟨k+1,lo,by go_num,by omega,HR,aI,ae⟩
    ·have hi:i<pw:=by omega
     have t2:decide (i<pw)=true:=zB hi
     obtain ⟨q,hq⟩:=zX (P1+i)
     have aY:(P1:Int)+(i:Int)=(q:Int):=by omega
     obtain ⟨r,hr⟩:=zX (Q0+i)
     have er:(Q0:Int)+(i:Int)=(r:Int):=by omega
     have aS:=HB.out.1
     have ak:P1=P0+X:=by omega
     have al:q<N:=by omega
     have aG:r<M:=by omega
     have ah:r<part.length:=by rw [<-ay.out];exact aG
     obtain ⟨gm,om,rfl,aa⟩:=(aO.out wr ae.out).at_ ah
     obtain ⟨v,hv⟩:=zX (part[r])
     rw [<-hv] at aa
     have c1:wr.cell? ⟨gm,om+r,none⟩=some (.int .i64 v):=aa
     have ap:lo.length=N:=by rw [HO.out.len,ab.out]
     obtain ⟨_,-,-,-,ax,av⟩:=HR.out.open_map
     have aq:lo[q]?=some (lo.getD q 0):=by rw [zD,zF (by rw [ap];exact al)];rfl
     have c2:=ax q _ aq
     have c3:=av q
     obtain ⟨x,hx⟩:=zX (lo.getD q 0)
     rw [<-hx] at c2
     have aL:Hid (OvSt l part W H X Y pw ph k (i+1) (lo.set q v)):=hid (by
      have h1:=HO.out.set HB.out.1 hi (by rw [<-ai.out.2,<-hr];exact ah) (by
       have e:(Y+k)*W+(X+i)=q:=by rw [<-Nat.add_assoc,<-ai.out.1,hq]
       rw [e,<-ab.out]
       exact al)
      have e:(Y+k)*W+(X+i)=q:=by rw [<-Nat.add_assoc,<-ai.out.1,hq]
      have e2:part.getD (k*pw+i) 0=v:=by
       rw [<-ai.out.2,<-hr,hv,zD,zF ah]
       rfl
      rw [e,e2] at h1
      exact h1)
     have aj:=HR.out.set_ (i:=q) (by rw [zE,ap];exact al) (.int .i64 v)
     have e3:(lo.map vi).set q (.int .i64 v)=(lo.set q v).map vi:=by rw [List.map_set];rfl
     rw [e3] at aj
     have aK:=hid aj
     have aM:=hid (ae.out.setCell (p:=⟨g,q,none⟩) (.inl (by simp)) (.int .i64 v))
     clear aa hv aq ax av hx aj e3 ap ah hq hr ak
     go_wp2_with fail
     go_roundg j2
     case measure=>omega
     case rel=>exact ⟨i+1,lo.set q v,by go_num,by omega,aK,aL,aM⟩
structure LsSt (p q:PicD) (s:Sq) (m:Int × Int) (gR cR:Nat) (wr:World) (i:Nat) (r:PicD) (xs:List Value) (gs:List Nat):Prop where
 own:PicOwn wr r gR cR xs gs
 al:AlikeD q r
 got:∀ k,k<i->oldB r k s (0,0)=oldB p k s m
 rest:∀ k,i<=k->r.P.getD k []=q.P.getD k []
theorem LsSt.same {p q:PicD} {s:Sq} {m:Int × Int} {gR cR:Nat} {wr w':World} {i:Nat} {r:PicD} {xs:List Value} {gs:List Nat} (h:LsSt p q s m gR cR wr i r xs gs) (hc:Chg [] wr w'):LsSt p q s m gR cR w' i r xs gs:=⟨h.own.same hc,h.al,h.got,h.rest⟩
theorem getD_setne {α:Type} {l:List α} {i k:Nat} {x d:α} (h:i≠k):(l.set i x).getD k d=l.getD k d:=by
 rw [zD,zD,List.getElem?_set_ne h]
theorem getD_set_self {α:Type} {l:List α} {i:Nat} {x d:α} (h:i<l.length):(l.set i x).getD i d=x:=by
 rw [zD,List.getElem?_set_self h]
 rfl
theorem LsSt.next {p q:PicD} {s:Sq} {m:Int × Int} {gR cR:Nat} {wr wa:World} {i:Nat} {r:PicD} {xs:List Value} {gs:List Nat} (h:LsSt p q s m gR cR wr i r xs gs) (hp:p.Ok) (ha:AlikeD p q) (hs:SqIn p.W p.H s) (hi:i<q.P.length)
  {g5:Nat} {u:Value} {lo:List Int} {H:Nat} (row:Row wa 3 u g5 (lo.map vi)) (hc:Chg [] wr wa) (hg:wr.heap.size<=g5) (ho:OvSt (q.P.getD i []) (oldB p i s m) p.W H s.x s.y s.w s.h s.h 0 lo) :
  LsSt p q s m gR cR (wa.setCell ⟨gR,i,none⟩ u) (i+1) (setP r i lo) (xs.set i u) (gs.set i g5):=by
 have ab:i<r.P.length:=by rw [<-h.al.n];exact hi
 have ag:i<p.P.length:=by rw [ha.n];exact hi
 have ac:=plane_mem ab
 have aa:lo.length=r.W*r.H:=by rw [ho.len,<-h.rest i (zQ _)];exact h.own.ok.len _ ac
 have ae:r.d=p.d:=by rw [<-h.al.d,<-ha.d]
 have af:r.W=p.W:=by rw [<-h.al.W,<-ha.W]
 have ad:SmpOk r.d lo:=by
  refine ho.smp r.d ?_ ?_
  ·rw [<-h.rest i (zQ _)];exact h.own.ok.smp _ ac
  ·rw [ae];exact oldB_smp hp ag s m
 refine ⟨h.own.replace ab row hc (by simp) hg (setP_ok h.own.ok i aa ad) rfl,setP_alike h.al i lo,fun k hk => ?_,fun k hk => ?_⟩
 ·rcases zZ k i with h1 | h1
  ·rw [<-h.got k h1]
   unfold oldB
   show partF ((r.P.set i lo).getD k []) r.W _ _ _ _=_
   rw [getD_setne (by omega)]
  ·obtain rfl:k=i:=by omega
   rw [<-ho.done (oldB_len _ _ _ _)]
   unfold oldB
   show partF ((r.P.set k lo).getD k []) r.W _ _ _ _=_
   rw [getD_set_self ab,af]
   simp
 ·show (r.P.set i lo).getD k []=_
  rw [getD_setne (by omega)]
  exact h.rest k (by omega)
def diffsF (p q:PicD) (s:Sq) (m:Int × Int) (i:Nat):List (List Int):=(List.range i).map fun k=>diffB p q k s m
theorem diffsF_succ (p q:PicD) (s:Sq) (m:Int × Int) (i:Nat):diffsF p q s m (i+1)=diffsF p q s m i++[diffB p q i s m]:=by simp [diffsF,List.range_succ]
def sameTo (p q:PicD) (s:Sq) (m:Int × Int) (i:Nat):Bool:=(List.range i).all fun k=>decide (oldB q k s (0,0)=oldB p k s m)
theorem sameTo_succ (p q:PicD) (s:Sq) (m:Int × Int) (i:Nat):sameTo p q s m (i+1)=(sameTo p q s m i&&decide (oldB q i s (0,0)=oldB p i s m)):=by simp [sameTo,List.range_succ]
structure DfSt (w0:World) (p q:PicD) (s:Sq) (m:Int × Int) (n gD:Nat) (w:World) (i:Nat) (xs:List Value) (gs:List Nat):Prop where
 row:Row w 22 (.slice (some ⟨gD,0,none⟩) n n) gD (xs++List.replicate (n-i) (.slice none 0 0))
 pl:PlRows w xs (diffsF p q s m i) gs
 dg:gD∉gs
 new:∀ x∈gD::gs,w0.heap.size<=x
 chg:Chg [] w0 w
section
variable {w0 w wa:World} {p q:PicD} {s:Sq} {m:Int × Int} {n gD i:Nat} {xs:List Value} {gs:List Nat}
theorem DfSt.len (h:DfSt w0 p q s m n gD w i xs gs):xs.length=i:=by rw [h.pl.lx];simp [diffsF]
theorem DfSt.same (h:DfSt w0 p q s m n gD w i xs gs) (hc:Chg [] w wa):DfSt w0 p q s m n gD wa i xs gs:=⟨h.row.chg hc (by simp),h.pl.same hc,h.dg,h.new,h.chg.trans_same hc⟩
theorem DfSt.next (h:DfSt w0 p q s m n gD w i xs gs) (hi:i<n) {g5:Nat} {u:Value} (ca:Chg [g5] w wa) (hg5:w.heap.size<=g5) (r:Row wa 3 u g5 ((diffB p q i s m).map vi)) :
  DfSt w0 p q s m n gD (wa.setCell ⟨gD,i,none⟩ u) (i+1) (xs++[u]) (gs++[g5]):=by
 have hl:=h.len
 have aa:g5≠gD:=fun e=>by have:=h.row.lt;omega
 have ab:g5∉gs:=fun hm=>by have:=h.pl.lt g5 hm;omega
 have ad:gD∉[g5]:=by simpa using aa.symm
 have ac:Chg [gD] wa (wa.setCell ⟨gD,i,none⟩ u):=(zR [gD] wa).setCell (p:=⟨gD,i,none⟩) (.inl (by simp)) u
 refine ⟨?_,?_,?_,?_,?_⟩
 ·have h1:=(h.row.chg ca ad).set_ (i:=i) (by simp [hl];omega) u
  have e:(xs++List.replicate (n-i) (Value.slice none 0 0)).set i u=(xs++[u])++List.replicate (n-(i+1)) (Value.slice none 0 0):=by
   rw [List.set_append_right _ _ (by omega),hl,Nat.sub_self]
   rw [show n-i=(n-(i+1))+1 by omega,List.replicate_succ]
   simp
  rw [e] at h1
  exact h1
 ·rw [diffsF_succ]
  refine ((h.pl.chg ca ?_).snoc r ab).chg ac ?_
  ·intro x hx hm
   simp at hm
   exact ab (hm ▸ hx)
  ·intro x hx hm
   simp at hm
   subst hm
   rcases zP.1 hx with hx | hx
   ·exact h.dg hx
   ·simp at hx;exact aa hx.symm
 ·intro hm
  rcases zP.1 hm with hx | hx
  ·exact h.dg hx
  ·simp at hx;exact aa hx.symm
 ·intro x hx
  have:=h.chg.size
  simp only [zJ,zP,List.not_mem_nil,or_false] at hx
  rcases hx with rfl | hx | rfl
  ·exact h.new x (by simp)
  ·exact h.new x (by simp [hx])
  ·omega
 ·refine (h.chg.trans ca fun x hx => .inr ?_).setCell (.inr (h.new gD (by simp))) u
  have:=h.chg.size
  simp at hx
  omega
end
def mixD (df now:List Int) (k:Nat):List Int:=df.take k++now.drop k
theorem mixD_len {df now:List Int} (h:df.length=now.length) (k:Nat):(mixD df now k).length=now.length:=by simp [mixD];omega
theorem mixD_get {df now:List Int} {k:Nat} (h:df.length=now.length) (hk:k<now.length):(mixD df now k)[k]?=some (now.getD k 0):=by
 unfold mixD
 have hl:(df.take k).length=k:=by rw [zI];omega
 rw [zS (by omega),hl,Nat.sub_self,List.getElem?_drop,Nat.add_zero,zD,zF hk]
 rfl
theorem mixD_set {df now:List Int} {k:Nat} (h:df.length=now.length) (hk:k<now.length) (v:Int) (hv:df[k]?=some v):(mixD df now k).set k v=mixD df now (k+1):=by
 unfold mixD
 have hl:(df.take k).length=k:=by rw [zI];omega
 have aa:k<df.length:=by omega
 rw [List.set_append_right _ _ (by omega),hl,Nat.sub_self,List.drop_eq_getElem_cons hk,List.set_cons_zero,List.take_succ_eq_append_getElem aa,zH]
 rw [zF aa] at hv
 injection hv with hv
 rw [hv]
 rfl
theorem diffB_get {p q:PicD} {i:Nat} {s:Sq} {m:Int × Int} {k:Nat} (hk:k<s.h*s.w):(diffB p q i s m)[k]?=some (wrapI ((oldB q i s (0,0)).getD k 0-(oldB p i s m).getD k 0) q.d):=by
 unfold diffB diffW
 rw [List.getElem?_zipWith]
 have h1:k<(oldB q i s (0,0)).length:=by rw [oldB_len];exact hk
 have h2:k<(oldB p i s m).length:=by rw [oldB_len];exact hk
 rw [zF h1,zF h2,zD,zD,zF h1,zF h2]
 rfl
def PutBlockPost (w:World) (b:Nat) (F bs ts:List Nat) (e:Ending) (w':World):Prop:=e=.returned (.tuple #[])/\∃ F',IsWr w' b F' (bs++ts)/\Grow F F' w w'
theorem putBlock_ok {w:World} {p q:PicD} {g o:Nat} {B:Nat->Option Addr} {c:Nat->Nat} {G:List Nat} (cap:Nat) (h:PicAt w p g o B c G)
  {g' o':Nat} {B':Nat->Option Addr} {c':Nat->Nat} {G':List Nat} (cap':Nat) (h':PicAt w q g' o' B' c' G') (ha:AlikeD p q) (s:Sq) (m:Int × Int) (hs:SqIn p.W p.H s) (hm:mvOk p.W p.H s m)
  (sw0:1<=s.w) (sw1:s.w<=8) (sh0:1<=s.h) (sh1:s.h<=8) (b:Nat) (F bs:List Nat) (hw:IsWr w b F bs) (hp:Pts w) (h0F:0∉F) (hbs:bs.length<17179869184) :
  Calls Tryz.prog 125 #[.pointer (some ⟨b,0,none⟩),picV p g o cap,picV q g' o' cap',sqV s,.int .i64 m.1,.int .i64 m.2] w (PutBlockPost w b F bs (blockBits p q s m)):=by
 have bL:=h.ok
 have ab:=h'.ok
 have cx:s.x<=64:=by have:=hs.x;have:=bL.w1;omega
 have ce:s.y<=64:=by have:=hs.y;have:=bL.h1;omega
 have bi:=hm.fit
 have bV:∀ w',Chg [] w w'->∀ i,i<q.P.length->_:=fun w' hc i hi=>part_ok cap (h.same hc) i (by rw [ha.n];exact hi) s m bi.x0 bi.x1 bi.y0 bi.y1 cx ce
 have a9:=hs.fit
 have aX:∀ w',Chg [] w w'->∀ i,i<q.P.length->_:=fun w' hc i hi=>part_ok cap' (h'.same hc) i hi s (0,0) a9.x0 (by rw [<-ha.W];exact a9.x1) a9.y0 (by rw [<-ha.H];exact a9.y1) cx ce
 obtain ⟨n,hn⟩:=zX (q.P.length)
 obtain ⟨M,hM⟩:=zX (s.h*s.w)
 have dO:M<=64:=by rw [hM];exact zL sh1 sw1
 have dE:0<M:=by rw [hM];exact Nat.mul_pos sh0 sw0
 have d3:n<=4:=by rw [hn];exact ab.n1
 have aA:∀ i,(oldB q i s (0,0)).length=M:=fun i=>by rw [oldB_len,hM]
 have aw:∀ i,(oldB p i s m).length=M:=fun i=>by rw [oldB_len,hM]
 have az:∀ i,(diffB p q i s m).length=M:=fun i=>by rw [diffB_len,hM,zY]
 have ap:∀ i,i<q.P.length->SmpOk q.d (oldB q i s (0,0)):=fun i hi=>oldB_smp h'.ok hi s (0,0)
 have an:∀ i,i<q.P.length->SmpOk q.d (oldB p i s m):=fun i hi=>by rw [<-ha.d];exact oldB_smp h.ok (by rw [ha.n];exact hi) s m
 have aQ:∀ i,SmpOk q.d (diffB p q i s m):=fun i=>diffW_smp _ _ _
 have aP:∀ i k,k<M->_:=fun i k hk=>diffB_get (p:=p) (q:=q) (i:=i) (s:=s) (m:=m) (k:=k) (by rw [<-hM];exact hk)
 have cc:∀ v w,_:=fun v w=>wrap_ok v q.d w ab.d0 ab.d1
 have bZ:=ab.d0
 have bP:=ab.d1
 obtain ⟨d,hd⟩:=zX (q.d)
 rw [<-hd] at ap an aQ cc bZ bP
 rw [<-hn] at bV aX ap an
 unfold picV sqV at bV aX ⊢
 rw [<-hd] at aX ⊢
 rw [<-hn] at aX ⊢
 obtain ⟨w1,au⟩:=zX ((((w.alloc (.cells #[.int .i64 p.W,.int .i64 p.H,.int .i64 p.d,.slice (some ⟨g,o,none⟩) p.P.length cap] 25)).alloc (.cells #[.int .i64 q.W,.int .i64 q.H,.int .i64 d,.slice (some ⟨g',o',none⟩) n cap'] 25)).alloc (.cells #[.int .i64 s.x,.int .i64 s.y,.int .i64 s.w,.int .i64 s.h] 31)))
 have bB:Blk w1 w.heap.size 25 #[.int .i64 p.W,.int .i64 p.H,.int .i64 p.d,.slice (some ⟨g,o,none⟩) p.P.length cap]:=by rw [au];exact ((Blk.new w _ _).alloc _).alloc _
 have bI:Blk w1 (w.heap.size+1) 25 #[.int .i64 q.W,.int .i64 q.H,.int .i64 d,.slice (some ⟨g',o',none⟩) n cap']:=by rw [au];exact (Blk.new2 w _ _ _).alloc _
 have bH:Blk w1 (w.heap.size+1+1) 31 #[.int .i64 s.x,.int .i64 s.y,.int .i64 s.w,.int .i64 s.h]:=by rw [au];exact Blk.new3 w _ _ _ _
 have bU:Hid (Chg [] w w1):=hid (by rw [au];exact (((zR [] w).alloc _).alloc _).alloc _)
 have cJ:w1.heap.size=w.heap.size+1+1+1:=by rw [au,alloc_size,alloc_size,alloc_size]
 have aK:∀ (E:List Nat) wr,Chg E w1 wr->w.heap.size∉E->w.heap.size+1∉E->w.heap.size+1+1∉E->(wr.cell? ⟨w.heap.size,0,none⟩=some (.int .i64 p.W)/\wr.cell? ⟨w.heap.size,1,none⟩=some (.int .i64 p.H)/\wr.cell? ⟨w.heap.size,2,none⟩=some (.int .i64 p.d)/\wr.cell? ⟨w.heap.size,3,none⟩=some (.slice (some ⟨g,o,none⟩) p.P.length cap)) /\
   (wr.cell? ⟨w.heap.size+1,0,none⟩=some (.int .i64 q.W)/\wr.cell? ⟨w.heap.size+1,1,none⟩=some (.int .i64 q.H)/\wr.cell? ⟨w.heap.size+1,2,none⟩=some (.int .i64 d)/\wr.cell? ⟨w.heap.size+1,3,none⟩=some (.slice (some ⟨g',o',none⟩) n cap')) /\
   (wr.cell? ⟨w.heap.size+1+1,0,none⟩=some (.int .i64 s.x)/\wr.cell? ⟨w.heap.size+1+1,1,none⟩=some (.int .i64 s.y)/\wr.cell? ⟨w.heap.size+1+1,2,none⟩=some (.int .i64 s.w)/\wr.cell? ⟨w.heap.size+1+1,3,none⟩=some (.int .i64 s.h)):=fun E wr hc e1 e2 e3 =>
  ⟨⟨(bB.chg hc e1).cell 0,(bB.chg hc e1).cell 1,(bB.chg hc e1).cell 2,(bB.chg hc e1).cell 3⟩,⟨(bI.chg hc e2).cell 0,(bI.chg hc e2).cell 1,(bI.chg hc e2).cell 2,(bI.chg hc e2).cell 3⟩,⟨(bH.chg hc e3).cell 0,(bH.chg hc e3).cell 1,(bH.chg hc e3).cell 2,(bH.chg hc e3).cell 3⟩⟩
 have dS:=run_make1 (P:=Tryz.prog) rows_el rfl .i64 .i64 n (by omega) (by omega)
 have cO:DfSt w1 p q s m n w1.heap.size (w1.alloc (.cells (List.replicate n (Value.slice none 0 0)).toArray 22)) 0 [] []:=by
  refine ⟨?_,PlRows.nil _,by simp,by simp,(zR [] w1).alloc _⟩
  have:=Row.made w1 22 (List.replicate n (.slice none 0 0)) (by simp [maxLen];omega)
  simpa using this
 have a5:=hw.same bU.out
 have bN:=hw.lt
 have dI:=hid a5
 have bh:=hid bN
 have HP:=hid hp
 have am:=hid aK
 have dM:=hid cO
 have dz:=hid au
 have HZ:=hid cJ
 have cZ:=hid bV
 have dc:=hid aX
 have cG:=hid aA
 have c6:=hid aw
 have ch:=hid az
 have dp:=hid ap
 have da:=hid an
 have de:=hid aQ
 have dl:=hid aP
 have dq:=hid cc
 have dv:=hid hm
 have aR:Hid (n=q.P.length/\d=q.d/\M=s.h*s.w):=hid ⟨hn,hd,hM⟩
 obtain ⟨c9,dJ⟩:=pow_d bZ bP
 obtain ⟨⟨a0,a1,a2,a3⟩,⟨b0,b1,b2,b3⟩,⟨s0,s1,s2,s3⟩⟩:=aK [] w1 (zR _ _) (by simp) (by simp) (by simp)
 clear bV aX aA aw az ap an aQ aP cc hn hd hM au bB bI bH aK cO a5 bN hp hw bL ab bi a9 h h' ha hs hm cx ce cJ
 go_enter Tryz.func125,Tryz.ntmps125
 go_wp2_with fail
 obtain ⟨gD,bW⟩:=zX (w1.heap.size)
 obtain ⟨w2,b9⟩:=zX (w1.alloc (.cells (Array.replicate n (Value.slice none 0 0)) 22))
 have cX:Hid (gD=w.heap.size+1+1+1):=hid (by rw [bW,HZ.out])
 have be:DfSt w1 p q s m n gD w2 0 [] []:=by
  have:=dM.out
  rw [List.toArray_replicate] at this
  rw [bW,b9]
  exact this
 have ca:=hid be
 have dY:=hid bW
 rw [<-dz.out,<-b9,<-cX.out]
 clear bW be b9
 go_loopg [13,14,15,16,17,26] n (fun j v13 v14 v15 v16 v17 v26 wr=>∃ (i:Nat) (xs:List Value) (gs:List Nat),v26=.int .i64 i/\i+j=n/\v13=.bool (sameTo p q s m i)/\Hid (DfSt w1 p q s m n gD wr i xs gs))
 case atStart=>exact ⟨0,[],[],rfl,by omega,rfl,ca⟩
 case round =>
  obtain ⟨i,xs,gs,rfl,dR,rfl,HS⟩:=hrel
  rcases gk with _ | j
  ·obtain rfl:i=n:=by omega
   have t1:decide (i<i)=false:=by simp
   have cn:sameTo p q s m i=sameB p q s m:=by rw [aR.out.1];rfl
   obtain ⟨z,hz⟩:=zX (sameTo p q s m i)
   rw [<-hz] at cn ⊢
   have bL:=dv.out
   obtain ⟨m1,m2,m3,m4,_⟩:=bL
   obtain ⟨e1,cP⟩:∃ e1:Nat,m.1+4=(e1:Int):=⟨(m.1+4).toNat,by omega⟩
   obtain ⟨e2,cI⟩:∃ e2:Nat,m.2+4=(e2:Int):=⟨(m.2+4).toNat,by omega⟩
   have dU:e1<=8:=by omega
   have dX:e2<=8:=by omega
   have bc:vecBits m=bitsOf e1 4++bitsOf e2 4:=by
    unfold vecBits
    rw [cP,cI]
    rfl
   have u1:IntKind.u64.wrap (e1:Int)=(e1:Int):=IntWalk.u64_in _ (by omega)
   have u2:IntKind.u64.wrap (e2:Int)=(e2:Int):=IntWalk.u64_in _ (by omega)
   have bJ:Chg [] w wr:=bU.out.trans_same HS.out.chg
   have aW:=dI.out.same HS.out.chg
   have bK:blockBits p q s m=if z=true then (if m=(0,0) then bitsOf 0 2 else bitsOf 1 2++vecBits m) else bitsOf 2 2++(vecBits m++changeBits p q s m q.P.length):=by rw [cn];rfl
   have aC:=fun k=>changeBits_len p q (s:=s) m sw0 sh0 sw1 sh1 (by rw [<-aR.out.2.1];exact bZ) (by rw [<-aR.out.2.1];exact bP) k
   have d2:=hid bK
   have bz:=hid bc
   have ag:=hid bJ
   have cp:=hid aC
   have aq:z=true->m.1=0->m.2=0->blockBits p q s m=bitsOf 0 2:=fun a b c=>by rw [bK,if_pos a,if_pos (Prod.ext b c)]
   have aF:z=true->¬ (m.1=0/\m.2=0)->blockBits p q s m=bitsOf 1 2++vecBits m:=fun a b=>by rw [bK,if_pos a,if_neg (fun e=>b (by rw [e];exact ⟨rfl,rfl⟩))]
   have aH:z=false->blockBits p q s m=bitsOf 2 2++(vecBits m++changeBits p q s m q.P.length):=fun a=>by rw [bK,if_neg (by rw [a];simp)]
   have aZ:=hid aq
   have bx:=hid aF
   have bo:=hid aH
   clear bK bc bJ aC aq aF aH hz cn m1 m2 m3 m4
   cases z with
   | true =>
    by_cases c1:m.1=0/\m.2=0
    ·have ax:=aZ.out rfl c1.1 c1.2
     have cV:(m.1==0)=true:=by simpa using c1.1
     have dN:(m.2==0)=true:=by simpa using c1.2
     have aa:=wput_ok wr b F bs 0 2 aW (by decide) (by decide) (by omega)
     have bF:=hid ax
     clear c1 aW ax cP cI
     go_wp2_with fail
     refine aa.mono ?_
     rintro e w3 ⟨rfl,F3,aU,aV⟩
     go_wp2_with fail
     refine bodyPost_ret (results_none rfl _ _ _) rfl ?_
     exact ⟨rfl,F3,by rw [bF.out];exact aU,Grow.pre ag.out aV⟩
    ·have ax:=bx.out rfl c1
     have aa:=wput_ok wr b F bs 1 2 aW (by decide) (by decide) (by omega)
     have bF:=hid ax
     have cb:(m.1==0)=false\/((m.1==0)=true/\(m.2==0)=false):=by
      by_cases q1:m.1=0
      ·right
       exact ⟨by simpa using q1,by simpa using fun q2=>c1 ⟨q1,q2⟩⟩
      ·left;simpa using q1
     clear c1 aW ax
     rcases cb with cV | ⟨cV,dN⟩
     all_goals
      go_wp2_with fail
      refine aa.mono ?_
      rintro e w3 ⟨rfl,F3,aU,aV⟩
      have aB:=wput_ok w3 b F3 _ e1 4 aU (by decide) (by omega) (by rw [zC,bitsOf_len];omega)
      go_wp2_with fail
      refine aB.mono ?_
      rintro e w4 ⟨rfl,F4,bR,bY⟩
      have bf:=wput_ok w4 b F4 _ e2 4 bR (by decide) (by omega) (by rw [zC,zC,bitsOf_len,bitsOf_len];omega)
      clear aB aa
      go_wp2_with fail
      refine bf.mono ?_
      rintro e w5 ⟨rfl,F5,bT,aJ⟩
      clear bf
      go_wp2_with fail
      refine bodyPost_ret (results_none rfl _ _ _) rfl ?_
      exact ⟨rfl,F5,by rw [bF.out,bz.out];simpa only [zH] using bT,Grow.pre ag.out ((aV.trans bY).trans aJ)⟩
   | false =>
    have ax:=bo.out rfl
    have aa:=wput_ok wr b F bs 2 2 aW (by decide) (by decide) (by omega)
    have bF:=hid ax
    have bq:gD∉F:=fun hm=>by have:=bh.out gD hm;have:=cX.out;omega
    have aI:∀ k,k<i->∃ gk ck,wr.cell? ⟨gD,k,none⟩=some (.slice (some ⟨gk,0,none⟩) M ck)/\Row wr 3 (.slice (some ⟨gk,0,none⟩) M ck) gk ((diffB p q k s m).map vi)/\gk∉F:=by
     intro k hk
     have hP:(diffsF p q s m i)[k]?=some (diffB p q k s m):=by unfold diffsF;rw [zW,List.getElem?_range hk];rfl
     obtain ⟨u,gk,h1,h2,h3⟩:=HS.out.pl.row k _ hP
     obtain ⟨ck,rfl,_⟩:=h3.open_map
     rw [ch.out k] at h1 h3
     obtain ⟨_,-,-,-,ao,-⟩:=HS.out.row.open_
     have dG:k<xs.length:=by rw [HS.out.len];exact hk
     refine ⟨gk,ck,?_,h3,fun hm => ?_⟩
     ·rw [ao k (by rw [zC];omega),List.getElem?_append_left dG,h1]
     ·have h4:=bh.out gk hm
      have h5:=HS.out.new gk (List.mem_cons_of_mem _ (List.mem_of_getElem? h2))
      have h6:=HZ.out
      omega
    have a7:=hid aI
    have cw:=hid bq
    have bC:=HS.out.row.lt
    have co:=hid bC
    have cF:0<w.heap.size:=HP.out.lt
    have H0:=hid cF
    have dB:=hid HS.out.chg
    obtain ⟨cT,rfl⟩:=zX (wr)
    clear aW ax aI bq bC cF
    go_wp2_with fail
    refine aa.mono ?_
    rintro e w3 ⟨rfl,F3,aU,aV⟩
    have aB:=wput_ok w3 b F3 _ e1 4 aU (by decide) (by omega) (by rw [zC,bitsOf_len];omega)
    go_wp2_with fail
    refine aB.mono ?_
    rintro e w4 ⟨rfl,F4,bR,bY⟩
    have bf:=wput_ok w4 b F4 _ e2 4 bR (by decide) (by omega) (by rw [zC,zC,bitsOf_len,bitsOf_len];omega)
    clear aB aa
    go_wp2_with fail
    refine bf.mono ?_
    rintro e w5 ⟨rfl,F5,bT,aJ⟩
    have c8:Hid (IsWr w5 b F5 (bs++(bitsOf 2 2++(vecBits m++changeBits p q s m 0)))):=hid (by
     have e0:changeBits p q s m 0=[]:=rfl
     rw [bz.out,e0]
     simpa only [zH,List.append_nil] using bT)
    have aN:=hid ((aV.trans bY).trans aJ)
    clear bf aU bR bT aV bY aJ
    go_wp2_with fail
    go_loopg [19,102] i (fun j2 v19 v102 wr3=>∃ (k:Nat) (F6:List Nat),v102=.int .i64 k/\k+j2=i/\Hid (IsWr wr3 b F6 (bs++(bitsOf 2 2++(vecBits m++changeBits p q s m k))))/\Hid (Grow F F6 cT wr3))
    case atStart=>exact ⟨0,F5,rfl,by omega,c8,aN⟩
    case round =>
     obtain ⟨k,F6,rfl,dt,cS,aE⟩:=hrel
     rcases gk with _ | j2
     ·obtain rfl:k=i:=by omega
      have t2:decide (k<k)=false:=by simp
      go_wp2_with fail
      refine bodyPost_ret (results_none rfl _ _ _) rfl ?_
      refine ⟨rfl,F6,?_,Grow.pre ag.out aE.out⟩
      rw [bF.out,<-aR.out.1]
      exact cS.out
     ·have hk:k<i:=by omega
      have t2:decide (k<i)=true:=zB hk
      obtain ⟨gk,ck,bk,aS,aL⟩:=a7.out k hk
      have bj:=aS.lt
      have dj:wr.cell? ⟨gD,k,none⟩=some (.slice (some ⟨gk,0,none⟩) M ck):=(World.cell?_of_block (w:=cT) (aE.out.chg.block gD co.out cw.out)).trans bk
      have aD:=aS.chg aE.out.chg aL
      have bd:gk∉F6:=aE.out.out bj aL
      obtain ⟨l,hl⟩:=zX (diffB p q k s m)
      have bX:=ch.out k
      have cu:=de.out k
      rw [<-hl] at bX cu aD
      have ai:Cells vi wr (some ⟨gk,0,none⟩) l:=by
       have bN:=aD.lt
       obtain ⟨_,_,_,_,ao,_⟩:=aD.open_map
       exact ⟨fun _=>⟨gk,0,rfl,bN,fun a x hx=>by rw [Nat.zero_add];exact ao a x hx⟩⟩
      have av:Tile wr l (some ⟨gk,0,none⟩) s.w s.h d:=⟨sw0,by omega,sh0,by omega,bZ,bP,by rw [bX,aR.out.2.2,zY],cu,ai⟩
      have cH:=(HP.out.same ag.out).chg aE.out.chg h0F
      have cW:0∉F6:=aE.out.out (Nat.lt_of_lt_of_le H0.out ag.out.size) h0F
      have aC:=cp.out k
      have aa:=tput_ok ck av cH b F6 _ cS.out (apt_block bd) cW (by rw [zC,zC,zC,bitsOf_len,vecBits_len];omega)
      rw [bX] at aa
      unfold PutPost at aa
      have a8:(bs++(bitsOf 2 2++(vecBits m++changeBits p q s m k)))++tileBits (bestKind l s.w s.h d) l s.w s.h d=bs++(bitsOf 2 2++(vecBits m++changeBits p q s m (k+1))):=by
       rw [changeBits_succ,hl,aR.out.2.1]
       simp only [zH,tileBest]
      rw [a8] at aa
      have br:Chg F w1 wr:=(dB.out.mono (by simp)).trans aE.out.chg (fun x hx => .inl hx)
      obtain ⟨-,⟨-,-,b2,-⟩,⟨-,-,s2,s3⟩⟩:=am.out F wr br (fun hm=>by have:=bh.out _ hm;omega) (fun hm=>by have:=bh.out _ hm;omega) (fun hm=>by have:=bh.out _ hm;omega)
      have cv:=hid aa
      clear aa a8 br cH av ai aD aS bk bX cu hl aC bd aL bj cW
      go_wp2_with fail
      refine cv.out.mono ?_
      rintro e w7 ⟨rfl,F7,cY,dd⟩
      go_wp2_with fail
      go_roundg j2
      case measure=>omega
      case rel=>exact ⟨k+1,F7,by go_num,by omega,hid cY,hid (aE.out.trans dd)⟩
  ·have hi:i<n:=by omega
   have t1:decide (i<n)=true:=zB hi
   obtain ⟨bn,rfl⟩:=zX (wr)
   obtain ⟨⟨a0,a1,a2,a3⟩,⟨b0,b1,b2,b3⟩,⟨s0,s1,s2,s3⟩⟩:=am.out [] bn HS.out.chg (by simp) (by simp) (by simp)
   have cD:=cZ.out bn (bU.out.trans_same HS.out.chg) i hi
   obtain ⟨z,hz⟩:=zX (sameTo p q s m i)
   rw [<-hz]
   have dh:=hid hz
   clear hz
   go_wp2_with fail
   refine cD.mono ?_
   rintro e w4 ⟨v4,F4,rfl,bw,b6,dL⟩
   have af:=hid (HS.out.chg.trans_same b6)
   have aB:=dc.out w4 (bU.out.trans_same af.out) i hi
   clear cD a0 a1 a2 a3 b0 b1 b2 b3 s0 s1 s2 s3
   obtain ⟨⟨a0,a1,a2,a3⟩,⟨b0,b1,b2,b3⟩,⟨s0,s1,s2,s3⟩⟩:=am.out [] w4 af.out (by simp) (by simp) (by simp)
   go_wp2_with fail
   refine aB.mono ?_
   rintro e w5 ⟨v5,F5,rfl,bl,bm,cL⟩
   have cz:=hid (af.out.trans_same bm)
   have bp:=hid ((zR [] bn).trans_same b6)
   clear aB a0 a1 a2 a3 b0 b1 b2 b3 s0 s1 s2 s3
   obtain ⟨A4,c4,rfl,cQ,dD,a4⟩:=bw.open_map
   obtain ⟨aY,ac⟩:=zX (oldB p i s m)
   obtain ⟨ak,ae⟩:=zX (oldB q i s (0,0))
   have ay:=c6.out i
   have ar:=cG.out i
   rcases bl.cases with ⟨_,he,_⟩ | ⟨g5,aj,bu⟩
   ·exfalso
    have:=cG.out i
    rw [List.map_eq_nil_iff.1 he] at this
    simp at this
    omega
   have bv:=aj
   obtain ⟨c5,rfl,cK,dw,bD,cm⟩:=aj.open_map
   have aJ:w4.heap.size<=g5:=cL g5 (by rw [bu];simp)
   have cj:Cells vi w5 (some ⟨g5,0,none⟩) (oldB q i s (0,0)):=⟨fun _=>⟨g5,0,rfl,bv.lt,fun k a hk=>by rw [Nat.zero_add];exact bD k a hk⟩⟩
   rw [<-ac] at ay a4 cQ
   rw [<-ae] at ar cj cK bv
   rw [<-ac,<-ae,ay,ar]
   rw [ay] at cQ
   rw [ar] at cK bv
   have ci:=da.out i hi
   have cl:=dp.out i hi
   rw [<-ac] at ci
   rw [<-ae] at cl
   have b5:=sameTo_succ p q s m i
   rw [<-dh.out,<-ae,<-ac] at b5
   have a6:=equal_i_ok w5 (some ⟨g5,0,none⟩) A4 c5 c4 ak aY cj (a4.same bm) (by rw [ay,ar]) (by rw [ar];omega)
   rw [ar,ay] at a6
   have dF:=hid ac
   have di:=hid ae
   have du:=hid ay
   have bS:=hid ar
   have dg:=hid ci
   have dk:=hid cl
   have dm:=hid (a4.same bm)
   have dn:=hid bv
   have aN:=hid aJ
   have dK:=hid b5
   have cR:∀ ad,A4=some ad->ad.block<w4.heap.size:=fun ad e=>by
    obtain ⟨b0,o0,e0,dC,_⟩:=a4.ex (by rw [ay];exact dE)
    rw [e] at e0
    injection e0 with e0
    subst e0
    exact dC
   have c3:=hid cR
   have cf:=hid bm
   clear ac ae ay ar ci cl a4 cj aj bv dD dw bD cm bu bw bl b6 bm dL cL b5 cR aJ
   obtain ⟨eq,aM⟩:=zX (decide (ak=aY))
   rw [<-aM] at a6
   have ah:=dK.out
   rw [<-aM] at ah
   clear aM
   rcases (show z=false\/z=true by cases z<;>simp) with rfl | rfl
   have aG:Hid (sameTo p q s m (i+1)=false):=hid (by rw [ah];rfl)
   obtain ⟨w6,rfl⟩:=zX (w5)
   have aT:Chg [] w6 w6:=zR _ _
   clear a6 ah
   go_wp2_with fail
   rotate_left
   have aG:Hid (sameTo p q s m (i+1)=eq):=hid (by rw [ah];cases eq<;>rfl)
   clear ah
   go_wp2_with fail
   refine a6.mono ?_
   rintro e w6 ⟨rfl,aT⟩
   clear a6
   rotate_left
   all_goals
    have cy:=hid (cf.out.trans_same aT)
    have cq:(diffB p q i s m).length=ak.length:=by rw [ch.out,bS.out]
    obtain ⟨df,cd⟩:=zX (diffB p q i s m)
    have aP:=dl.out i
    rw [<-cd] at cq aP
    rw [<-di.out,<-dF.out,<-aR.out.2.1] at aP
    have ba:Row w6 3 (.slice (some ⟨g5,0,none⟩) M c5) g5 ((mixD df ak 0).map vi):=by
     have h1:=dn.out.chg aT (by simp)
     simpa [mixD] using h1
    have c0:=hid ba
    have ct:=hid (cz.out.trans_same aT)
    have dr:=hid cd
    have al:=hid cq
    have cC:=hid aP
    have c7:=hid (dm.out.same aT)
    clear ba cd cq aP aT
    go_wp2_with fail
    go_loopg [17,47] M (fun j2 v17 v47 wr2=>∃ k:Nat,v47=.int .i64 k/\k+j2=M/\Hid (Row wr2 3 (.slice (some ⟨g5,0,none⟩) M c5) g5 ((mixD df ak k).map vi))/\Hid (Chg [g5] w6 wr2))
    case atStart=>exact ⟨0,rfl,by omega,c0,hid (zR _ _)⟩
    case round =>
     obtain ⟨k,rfl,dt,cg,bM⟩:=hrel
     rcases gk with _ | j2
     ·obtain rfl:k=M:=by omega
      have t2:decide (k<k)=false:=by simp
      have aD:=cg.out
      rw [show mixD df ak k=diffB p q i s m by
       rw [<-dr.out]
       unfold mixD
       rw [zT (by rw [al.out,bS.out];exact zQ _),List.drop_of_length_le (by rw [bS.out];exact zQ _),List.append_nil]] at aD
      have cr:Chg [g5] bn wr:=(((bp.out.trans_same cy.out).mono (by simp)).trans bM.out (fun x hx => .inl hx))
      have bb:bn.heap.size<=g5:=Nat.le_trans bp.out.size aN.out
      have hD:gD∉[g5]:=by have:=HS.out.row.lt;simp;omega
      have bG:=HS.out.row.chg cr hD
      obtain ⟨_,-,-,-,ao,bg⟩:=bG.open_
      have dj:wr.cell? ⟨gD,i,none⟩=some (.slice none 0 0):=by
       rw [ao i (by rw [zC,HS.out.len,zV];omega),zS (by rw [HS.out.len];exact zQ _),HS.out.len,Nat.sub_self,List.getElem?_replicate,if_pos (by omega)]
      have dZ:=bg i
      have a8:=HS.out.next hi cr bb aD
      have dx:=hid a8
      clear aD cr hD bG ao bg a8 bb
      go_wp2_with fail
      go_roundg j
      case measure=>omega
      case rel=>exact ⟨i+1,_,_,by go_num,by omega,by rw [aG.out],dx⟩
     ·have hk:k<M:=by omega
      have t2:decide (k<M)=true:=zB hk
      have bO:k<ak.length:=by rw [bS.out];exact hk
      have cs:k<aY.length:=by rw [du.out];exact hk
      have cN:=mixD_get al.out bO
      obtain ⟨_,-,-,-,ao,bg⟩:=cg.out.open_map
      have aC:=ao k _ cN
      have dQ:=bg k
      have bA:Apt A4 aY [g5]:=fun _ ad e hm=>by have:=c3.out ad e;have:=aN.out;simp at hm;omega
      obtain ⟨ga,oa,dH,b4⟩:=(c7.out.keep bA bM.out).at_ cs
      subst dH
      obtain ⟨x,hx⟩:=zX (ak.getD k 0)
      obtain ⟨y,hy⟩:=zX (aY.getD k 0)
      have cE:aY[k]=y:=by rw [hy,zD,zF cs];rfl
      rw [cE] at b4
      rw [<-hx] at aC
      have cA:wr.cell? ⟨ga,oa+k,none⟩=some (.int .i64 y):=b4
      have cB:wr.cell? ⟨g5,k,none⟩=some (.int .i64 x):=aC
      obtain ⟨dy,cM⟩:=getD_smp dk.out k
      obtain ⟨ds,cU⟩:=getD_smp dg.out k
      rw [<-hx] at dy cM
      rw [<-hy] at ds cU
      have dT:x<65536:=by omega
      have dP:y<65536:=by omega
      have bQ:=cC.out k hk
      rw [<-hx,<-hy] at bQ
      have aO:=dq.out (x-y)
      obtain ⟨v,hv⟩:=zX (wrapI (x-y) d)
      rw [<-hv] at bQ aO
      have dA:Hid (∀ w,Calls Tryz.prog 102 #[.int .i64 (x-y),.int .i64 d] w fun e w'=>e=.returned (.int .i64 v)/\w'=w):=hid (fun w=>(aO w).mono fun e w' h=>⟨h.1,h.2.symm⟩)
      have au:IntKind.i64.wrap (x-y)=x-y:=IntWalk.i64_in _ (by omega)
      have br:Chg [g5] w1 wr:=((ct.out.mono (F':=[g5]) (by simp))).trans bM.out (fun x hx => .inl hx)
      have b2:=(am.out [g5] wr br (by have:=aN.out;have:=af.out.size;have:=HZ.out;simp;omega) (by have:=aN.out;have:=af.out.size;have:=HZ.out;simp;omega) (by have:=aN.out;have:=af.out.size;have:=HZ.out;simp;omega)).2.1.2.2.1
      have bE:=mixD_set al.out bO v bQ
      have b7:=hid bE
      have c2:=hid bO
      clear aC b4 hx hy cE bQ aO hv br bE ao bg cN bA bO cs cM cU
      go_wp2_with fail
      refine wp_region_quiet_tail 15 (by kernel_rfl) (by kernel_rfl) ?_
      simp only [List.take_succ_cons,List.take_zero,List.drop_succ_cons,List.drop_zero]
      repeat (go_big_quiet_step ((go_at_call 102;exact Calls.quiet_of_same (dA.out _))))
      refine wpQuiet_nil ?_
      intro _ db
      obtain ⟨nq,rfl⟩:=db
      go_wp2_with fail
      go_roundg j2
      case measure=>omega
      case rel =>
       refine ⟨k+1,by go_num,by omega,hid ?_,hid ((bM.out.drewN nq).setCell (p:=⟨g5,k,none⟩) (.inl (by simp)) _)⟩
       have h1:=(cg.out.drewN nq).set_ (i:=k) (by rw [zE,mixD_len al.out];exact c2.out) (.int .i64 v)
       have e:((mixD df ak k).map vi).set k (.int .i64 v)=(mixD df ak (k+1)).map vi:=by rw [<-b7.out,List.map_set];rfl
       rw [e] at h1
       exact h1
def mvCells (m:Int × Int):List Value:=[.int .i64 m.1,.int .i64 m.2]
theorem mv_flat_get:∀ (ms:List (Int × Int)) (i:Nat),i<ms.length->(ms.flatMap mvCells)[i*2]?=some (.int .i64 (ms.getD i (0,0)).1)/\(ms.flatMap mvCells)[i*2+1]?=some (.int .i64 (ms.getD i (0,0)).2)
 | [],i,h=>by simp at h
 | m::ms,0,_=>⟨rfl,rfl⟩
 | m::ms,i+1,h=>by
  obtain ⟨a,b⟩:=mv_flat_get ms i (by simpa using h)
  have hl:(mvCells m).length=2:=rfl
  rw [List.flatMap_cons]
  refine ⟨?_,?_⟩
  ·rw [zS (by omega),hl,show (i+1)*2-2=i*2 by omega,a];rfl
  ·rw [zS (by omega),hl,show (i+1)*2+1-2=i*2+1 by omega,b];rfl
theorem mv_len (ms:List (Int × Int)):(ms.flatMap mvCells).length=ms.length*2:=by
 induction ms with
 | nil=>rfl
 | cons m ms ih=>rw [List.flatMap_cons,zC,ih,zK];simp only [mvCells,zK,List.length_nil];omega
theorem blockBits_pos (p q:PicD) (s:Sq) (m:Int × Int):2<=(blockBits p q s m).length:=by
 unfold blockBits
 split
 ·split
  ·rw [bitsOf_len];omega
  ·rw [zC,bitsOf_len];omega
 ·rw [zC,bitsOf_len];omega
theorem moveBits_pos (p q:PicD) (ss:List Sq) (ms:List (Int × Int)):∀ n,2*n<=(moveBits p q ss ms n).length
 | 0=>by simp
 | n+1=>by
  have h1:=moveBits_pos p q ss ms n
  have h2:=blockBits_pos p q (sqAt ss n) (ms.getD n (0,0))
  rw [moveBits_succ,zC]
  omega
def mvBody (p q:PicD) (ms:List (Int × Int)):List Nat:=packed (padF (moveBits p q (gridL q.W q.H 8) ms (gridL q.W q.H 8).length))
def mvBytes (p q:PicD) (ms:List (Int × Int)):List Nat:=mvBody p q ms++sumL p (mvBody p q ms)
def MvBits (p q:PicD) (ms:List (Int × Int)):Prop:=∀ b∈moveBits p q (gridL q.W q.H 8) ms (gridL q.W q.H 8).length,b<2
theorem grid8_len {W H:Nat} (hW:W<=64) (hH:H<=64):(gridL W H 8).length<=4096:=by
 have h1:=grid_len W H 8
 have h2:H*W<=64*64:=zL hH hW
 omega
theorem by_ok {w:World} {p q:PicD} {g o:Nat} {B:Nat->Option Addr} {c:Nat->Nat} {G:List Nat} (cap:Nat) (h:PicAt w p g o B c G)
  {g' o':Nat} {B':Nat->Option Addr} {c':Nat->Nat} {G':List Nat} (cap':Nat) (h':PicAt w q g' o' B' c' G') (ha:AlikeD p q) (hp:Pts w)
  (AM:Option Addr) (capM:Nat) (ms:List (Int × Int)) (hM:Cells (fun v=>v) w AM (ms.flatMap mvCells)) (hml:ms.length=(gridL q.W q.H 8).length) (hmo:∀ i,i<ms.length->mvOk p.W p.H (sqAt (gridL q.W q.H 8) i) (ms.getD i (0,0))) :
  Calls Tryz.prog 96 #[picV p g o cap,picV q g' o' cap',.slice AM ms.length capM] w fun e w'=>∃ v G9,e=.returned (.tuple #[v,.int .i64 0])/\Own w' 5 v G9 ((mvBytes p q ms).map b8)/\Chg [] w w'/\(∀ x∈G9,w.heap.size<=x)/\MvBits p q ms:=by
 have aO:=h.ok
 have ab:=h'.ok
 have av:=fun w' (hc:Chg [] w w')=>alike_yes cap (h.same hc) cap' (h'.same hc) ha
 have aR:=fun w'=>mgrid_ok ab g' o' cap' w'
 obtain ⟨ss,an⟩:=zX (gridL q.W q.H 8)
 have aQ:∀ s∈ss,1<=s.w/\s.w<=8/\1<=s.h/\s.h<=8:=by rw [an];exact grid_ok (by decide)
 have aw:∀ s∈ss,SqIn p.W p.H s:=fun s hs=>by
  rw [an] at hs
  obtain ⟨a,b⟩:=grid_in (by decide) s hs
  exact ⟨by rw [ha.W];exact a,by rw [ha.H];exact b⟩
 have b6:ss.length<=4096:=by rw [an];exact grid8_len ab.w1 ab.h1
 rw [<-an] at hml hmo aR
 obtain ⟨n,hn⟩:=zX (ss.length)
 have aF:=moveBits_len p q (ss:=ss) ms aQ ab.d0 ab.d1 ab.n1
 have ck:0<n:=by
  rcases Nat.eq_zero_or_pos n with h0 | h0
  ·exfalso
   have h1:=area_grid (w:=q.W) (h:=q.H) (s:=8) (by decide)
   rw [<-an,List.eq_nil_of_length_eq_zero (show ss.length=0 by omega)] at h1
   have h2:=ab.pos
   simp [area] at h1
   omega
  ·exact h0
 obtain ⟨gm,om,rfl,bf,aV⟩:=hM.ex (by rw [mv_len];omega)
 have bN:∀ i,i<n->w.cell? ⟨gm,om+i*2,none⟩=some (.int .i64 (ms.getD i (0,0)).1)/\w.cell? ⟨gm,om+i*2+1,none⟩=some (.int .i64 (ms.getD i (0,0)).2):=fun i hi=>by
  obtain ⟨a,b⟩:=mv_flat_get ms i (by omega)
  exact ⟨aV _ _ a,by have:=aV _ _ b;rwa [<-Nat.add_assoc] at this⟩
 have ap:∀ w',Chg [] w w'->∀ i,i<n->∀ b F bs,IsWr w' b F bs->0∉F->bs.length<17179869184->_:=fun w' hc i hi b F bs hw h0 hb =>
  have aH:=aQ _ (sqAt_mem (i:=i) (ss:=ss) (by omega))
  putBlock_ok cap (h.same hc) cap' (h'.same hc) ha (sqAt ss i) (ms.getD i (0,0)) (aw _ (sqAt_mem (by omega))) (hmo i (by omega)) aH.1 aH.2.1 aH.2.2.1 aH.2.2.2 b F bs hw (hp.same hc) h0 hb
 have aA:∀ w' i,i<n->Calls Tryz.prog 94 #[.agg #[.int .i64 p.W,.int .i64 p.H,.int .i64 p.d,.slice (some ⟨g,o,none⟩) p.P.length cap],sqV (sqAt ss i),.int .i64 (ms.getD i (0,0)).1,.int .i64 (ms.getD i (0,0)).2] w' fun e w''=>e=.returned (.bool true)/\Chg [] w' w'':=fun w' i hi=>by
  have aH:=aQ _ (sqAt_mem (i:=i) (ss:=ss) (by omega))
  have bz:=aw _ (sqAt_mem (i:=i) (ss:=ss) (by omega))
  have hm:=hmo i (by omega)
  have h1:=isMove_ok p.W p.H p.d p.P.length g o cap (sqAt ss i) (ms.getD i (0,0)) w' aO.w1 aO.h1 (by have:=bz.x;have:=aO.w1;omega) (by have:=bz.y;have:=aO.h1;omega) (by omega) (by omega) (by have:=hm.1;omega) (by have:=hm.2.1;omega) (by have:=hm.2.2.1;omega) (by have:=hm.2.2.2.1;omega)
  rw [(mvB_iff _ _ _ _).2 hm] at h1
  exact h1
 have am:=fun w' (hc:Chg [] w w')=>fun A capb af=>checksum_ok cap (h.same hc) A capb af
 have bB:(∀ b∈moveBits p q ss ms n,b<2)->MvBits p q ms:=fun h=>by unfold MvBits;rw [<-an,<-hn];exact h
 have bV:=hid bB
 clear bB
 have aj:mvBytes p q ms=packed (padF (moveBits p q ss ms n))++sumL p (packed (padF (moveBits p q ss ms n))):=by rw [hn,an];rfl
 unfold picV sqV at ap aA
 unfold picV at av aR am ⊢
 have bG:ms.length=n:=by omega
 rw [bG]
 obtain ⟨w1,ax⟩:=zX (((w.alloc (.cells #[.int .i64 p.W,.int .i64 p.H,.int .i64 p.d,.slice (some ⟨g,o,none⟩) p.P.length cap] 25)).alloc (.cells #[.int .i64 q.W,.int .i64 q.H,.int .i64 q.d,.slice (some ⟨g',o',none⟩) q.P.length cap'] 25)))
 have ay:Blk w1 w.heap.size 25 #[.int .i64 p.W,.int .i64 p.H,.int .i64 p.d,.slice (some ⟨g,o,none⟩) p.P.length cap]:=by rw [ax];exact (Blk.new w _ _).alloc _
 have az:Blk w1 (w.heap.size+1) 25 #[.int .i64 q.W,.int .i64 q.H,.int .i64 q.d,.slice (some ⟨g',o',none⟩) q.P.length cap']:=by rw [ax];exact Blk.new2 w _ _ _
 have aY:Chg [] w w1:=by rw [ax];exact ((zR [] w).alloc _).alloc _
 have bu:w1.heap.size=w.heap.size+1+1:=by rw [ax,alloc_size,alloc_size]
 have aD:∀ (E:List Nat) (wr wz:World) (i:Nat),i<n->Chg [] w1 wr->(∀ x∈E,w1.heap.size<=x/\x<wr.heap.size)->Chg E (wr.alloc (.cells #[.int .i64 ((sqAt ss i).x:Int),.int .i64 ((sqAt ss i).y:Int),.int .i64 ((sqAt ss i).w:Int),.int .i64 ((sqAt ss i).h:Int)] 31)) wz ->
   (wz.cell? ⟨w.heap.size,0,none⟩=some (.int .i64 p.W)/\wz.cell? ⟨w.heap.size,1,none⟩=some (.int .i64 p.H)/\wz.cell? ⟨w.heap.size,2,none⟩=some (.int .i64 p.d)/\wz.cell? ⟨w.heap.size,3,none⟩=some (.slice (some ⟨g,o,none⟩) p.P.length cap)) /\
   (wz.cell? ⟨w.heap.size+1,0,none⟩=some (.int .i64 q.W)/\wz.cell? ⟨w.heap.size+1,1,none⟩=some (.int .i64 q.H)/\wz.cell? ⟨w.heap.size+1,2,none⟩=some (.int .i64 q.d)/\wz.cell? ⟨w.heap.size+1,3,none⟩=some (.slice (some ⟨g',o',none⟩) q.P.length cap')) /\
   (wz.cell? ⟨wr.heap.size,0,none⟩=some (.int .i64 ((sqAt ss i).x:Int))/\wz.cell? ⟨wr.heap.size,1,none⟩=some (.int .i64 ((sqAt ss i).y:Int))/\wz.cell? ⟨wr.heap.size,2,none⟩=some (.int .i64 ((sqAt ss i).w:Int))/\wz.cell? ⟨wr.heap.size,3,none⟩=some (.int .i64 ((sqAt ss i).h:Int))) /\
   (wz.cell? ⟨gm,om+i*2,none⟩=some (.int .i64 (ms.getD i (0,0)).1)/\wz.cell? ⟨gm,om+i*2+1,none⟩=some (.int .i64 (ms.getD i (0,0)).2)):=by
  intro E wr wz i hi hc hE hz
  have e1:w.heap.size∉E:=fun hm=>by have:=(hE _ hm).1;omega
  have e2:w.heap.size+1∉E:=fun hm=>by have:=(hE _ hm).1;omega
  have e3:wr.heap.size∉E:=fun hm=>by have:=(hE _ hm).2;omega
  have e4:gm∉E:=fun hm=>by have:=(hE _ hm).1;omega
  have k1:=((ay.chg hc (by simp)).alloc _).chg hz e1
  have k2:=((az.chg hc (by simp)).alloc _).chg hz e2
  have k3:=(Blk.new wr 31 #[.int .i64 ((sqAt ss i).x:Int),.int .i64 ((sqAt ss i).y:Int),.int .i64 ((sqAt ss i).w:Int),.int .i64 ((sqAt ss i).h:Int)]).chg hz e3
  have bM:Chg E w wz:=(((aY.trans_same hc).alloc _).mono (by simp)).trans hz (fun x hx => .inl hx)
  obtain ⟨m1,m2⟩:=bN i hi
  exact ⟨⟨k1.cell 0,k1.cell 1,k1.cell 2,k1.cell 3⟩,⟨k2.cell 0,k2.cell 1,k2.cell 2,k2.cell 3⟩,⟨k3.cell 0,k3.cell 1,k3.cell 2,k3.cell 3⟩,⟨(World.cell?_of_block (w:=w) (bM.block gm bf e4)).trans m1,(World.cell?_of_block (w:=w) (bM.block gm bf e4)).trans m2⟩⟩
 have aJ:=fun wz (hc:Chg [] w1 wz)=>And.intro (And.intro ((ay.chg hc (by simp)).cell 0) (And.intro ((ay.chg hc (by simp)).cell 1) (And.intro ((ay.chg hc (by simp)).cell 2) ((ay.chg hc (by simp)).cell 3)))) (And.intro ((az.chg hc (by simp)).cell 0) (And.intro ((az.chg hc (by simp)).cell 1) (And.intro ((az.chg hc (by simp)).cell 2) ((az.chg hc (by simp)).cell 3))))
 have bZ:=hid ax
 have aG:=hid aY
 have HZ:=hid bu
 have al:=hid aD
 have bT:=hid ap
 have b4:=hid aA
 have bQ:=hid am
 have cc:=hid aj
 have ce:=hid av
 have ca:=hid aR
 have br:=hid aF
 have HN:=hid hn
 have HP:=hid hp
 have aL:=hid aJ
 have bU:n<=4096:=by omega
 clear aD ap aA am aj av aR aF ay az ax aY bu bN aV hM hmo aQ aw aO ab h h' ha hp hn hml bG an bf b6 aJ
 go_enter Tryz.func96,Tryz.ntmps96
 go_wp2_with fail
 rw [<-bZ.out]
 refine (ce.out w1 aG.out).mono ?_
 rintro e w2 ⟨rfl,a9⟩
 obtain ⟨⟨a0,a1,a2,a3⟩,⟨b0,b1,b2,b3⟩⟩:=aL.out w2 a9
 have bc:=hid a9
 clear a9
 go_wp2_with fail
 refine (ca.out w2).mono ?_
 rintro e w3 ⟨v8,F8,rfl,bo,bJ,bR⟩
 obtain ⟨A8,c8,rfl,cj,cl,bH,-⟩:=OwnK.open_ bo
 have aa:=hid (bc.out.trans_same bJ)
 have bk:=hid bH
 rw [<-HN.out]
 clear bo bJ bR bH a0 a1 a2 a3 b0 b1 b2 b3
 have t0:((n:Int) != (n:Int))=false:=by simp
 go_wp2_with fail
 go_loopg [9,10,28] n (fun j v9 v10 v28 wr=>∃ i:Nat,v28=.int .i64 i/\i+j=n/\Hid (Chg [] w3 wr))
 case atStart=>exact ⟨0,rfl,by omega,hid (zR _ _)⟩
 case round =>
  obtain ⟨i,rfl,cg,aB⟩:=hrel
  rcases gk with _ | j
  ·obtain rfl:i=n:=by omega
   have t1:decide (i<i)=false:=by simp
   obtain ⟨wo,rfl⟩:=zX (wr)
   obtain ⟨w4,aP⟩:=zX (wo.alloc (.cells #[.slice none 0 0,.int .i64 0] 102))
   obtain ⟨b,hb⟩:=zX (wo.heap.size)
   have bA:IsWr w4 b [b] []:=by rw [aP,hb];exact IsWr.new wo
   have bx:Hid (Chg [] w3 w4):=hid (by rw [aP];exact aB.out.alloc _)
   have bL:w3.heap.size<=b:=by rw [hb];exact aB.out.size
   have cd:=hid bA
   have bO:=hid aP
   have HB:=hid hb
   have bm:=hid bL
   have a4:Hid (w1.heap.size<=w3.heap.size/\w.heap.size<=w1.heap.size/\0<w.heap.size):=hid ⟨aa.out.size,aG.out.size,HP.out.lt⟩
   clear bA aP hb bL
   go_wp2_with fail
   rw [<-bO.out,<-HB.out]
   go_loopg [12,13,52] i (fun j2 v12 v13 v52 wr=>∃ (k:Nat) (F:List Nat),v52=.int .i64 k/\k+j2=i/\Hid (IsWr wr b F (moveBits p q ss ms k))/\Hid (Grow [b] F w4 wr))
   case atStart=>exact ⟨0,[b],rfl,by omega,hid (by simpa [moveBits] using cd.out),hid (Grow.refl _ _)⟩
   case round =>
    obtain ⟨k,F,rfl,ci,aS,bg⟩:=hrel
    have bF:Chg [] w3 wr:=bx.out.trans bg.out.chg (fun x hx => .inr (by simp at hx;have:=bm.out;omega))
    have bC:∀ x∈F,w3.heap.size<=x:=fun x hx=>by
     rcases bg.out.new x hx with h | h
     ·simp at h;have:=bm.out;omega
     ·have:=bx.out.size;omega
    have ai:=hid bF
    have be:=hid bC
    clear bF bC
    rcases gk with _ | j2
    ·obtain rfl:k=i:=by omega
     have t2:decide (k<k)=false:=by simp
     have aW:=hid (bV.out aS.out.bit)
     have a7:=br.out k (by rw [<-HN.out];exact zQ _)
     have av:=walign_ok wr b F _ aS.out (by omega)
     obtain ⟨T,hT⟩:=zX (padF (moveBits p q ss ms k))
     have bp:T.length<=4000000000:=by
      have:=padF_len (moveBits p q ss ms k)
      rw [hT]
      omega
     have bE:0<T.length:=by
      have h1:=padF_len (moveBits p q ss ms k)
      have h2:=moveBits_pos p q ss ms k
      rw [hT]
      omega
     have aj:=cc.out
     rw [<-hT] at av aj
     have HT:=hid bp
     have cb:=hid bE
     have a6:=hid aj
     clear hT aj a7 bp bE
     go_wp2_with fail
     refine av.mono ?_
     rintro e w5 ⟨rfl,F5,ba,bn⟩
     have ar:Chg [] w3 w5:=ai.out.trans bn.chg (fun x hx => .inr (be.out x hx))
     have aM:=ba.bit
     have bl:=wbytes_ok w5 b F5 T ba (by have:=HT.out;omega)
     clear av
     go_wp2_with fail
     refine bl.mono ?_
     rintro e w6 ⟨v6,G6,rfl,ah,aq,bv⟩
     obtain ⟨A6,c6,rfl,bX,bS,bw⟩:=ah.open_map
     have ad:Chg [] w3 w6:=ar.trans_same aq
     obtain ⟨⟨a0,a1,a2,a3⟩,-⟩:=aL.out w6 (aa.out.trans_same ad)
     have am:=bQ.out w6 ((aG.out.trans_same aa.out).trans_same ad) A6 c6 (packed T) bw (packed_dig aM) (by rw [packed_len];have:=cb.out;omega) (by rw [packed_len];have:=HT.out;omega)
     obtain ⟨af,ag⟩:=zX (packed T)
     have aF:af.length<=1000000000:=by rw [ag,packed_len];have:=HT.out;omega
     have aj:=a6.out
     rw [<-ag] at am ah aj ⊢
     obtain ⟨nb,bd⟩:=zX (af.length)
     rw [<-bd] at am ah ⊢
     have cf:=hid bd
     have aK:=hid aF
     have aN:=hid ah
     have aZ:=hid am
     have aT:=hid aj
     have au:=hid ad
     have bI:=hid (fun x hx=>Nat.le_trans ar.size (bv x hx):∀ x∈G6,w3.heap.size<=x)
     clear ba bn aM bl ah aq bv bX bS bw ar ad am ag bd aF aj
     go_wp2_with fail
     refine aZ.out.mono ?_
     rintro e w7 ⟨g7,c7,rfl,ao,bb,bW⟩
     have aE:=aN.out.same bb
     have bY:=hid ao
     have aI:=hid (au.out.trans_same bb)
     have a5:(sumL p af).length=4:=rfl
     clear ao bb bW a0 a1 a2 a3
     go_wp2_with (at_builtin;refine wpList_append_s rfl rfl u8_elem rfl rfl aE ((sumL p af).map b8) 4 rfl ?c1 ?c2 ?c3 ?c4 ?c5 ?_)
     case c1=>rfl
     case c2=>exact Row.cellsB bY.out
     case c3=>exact b8_one _
     case c4=>rw [zE,zE,a5];have := aK.out;omega
     case c5=>rw [zE,zE,a5];have := aK.out;omega
     intro v8 b7 w8 bP bK
     have bi:=aT.out
     clear a5
     go_wp2
     refine bodyPost_ret (v:=.tuple #[v8,.int .i64 0]) (by simp [results,Tryz.results96,go_sem]) rfl ?_
     have ch:w.heap.size<=w3.heap.size:=by have:=a4.out;omega
     refine ⟨v8,b7,rfl,by rw [bi,zM];exact bP,?_,fun x hx => ?_,aW.out⟩
     ·refine ((aG.out.trans_same aa.out).trans_same aI.out).trans bK.chg (fun x hx => .inr ?_)
      have:=bI.out x hx
      omega
     ·rcases bK.new x hx with h | h
      ·have:=bI.out x h;omega
      ·have:=aI.out.size;omega
    ·have hk:k<i:=by omega
     have t2:decide (k<i)=true:=zB hk
     have aC:k<ss.length:=by rw [<-HN.out];exact hk
     obtain ⟨g8,o8,bj,x0,x1,x2,x3⟩:=sq_cell (bk.out.same ai.out) aC
     subst bj
     have hE:∀ x∈F,w1.heap.size<=x/\x<wr.heap.size:=fun x hx=>⟨by have:=be.out x hx;have:=a4.out;omega,aS.out.lt x hx⟩
     obtain ⟨⟨k0,k1,k2,k3⟩,⟨q0,q1,q2,q3⟩,⟨s0,s1,s2,s3⟩,⟨m0,m1⟩⟩:=al.out [] wr _ k hk (aa.out.trans_same ai.out) (by simp) (zR _ _)
     have ac:∀ wz,Chg F (wr.alloc (.cells #[.int .i64 ((sqAt ss k).x:Int),.int .i64 ((sqAt ss k).y:Int),.int .i64 ((sqAt ss k).w:Int),.int .i64 ((sqAt ss k).h:Int)] 31)) wz->wz.cell? ⟨w.heap.size,0,none⟩=some (.int .i64 p.W)/\wz.cell? ⟨w.heap.size,1,none⟩=some (.int .i64 p.H)/\wz.cell? ⟨w.heap.size,2,none⟩=some (.int .i64 p.d)/\wz.cell? ⟨w.heap.size,3,none⟩=some (.slice (some ⟨g,o,none⟩) p.P.length cap)/\wz.cell? ⟨w.heap.size+1,0,none⟩=some (.int .i64 q.W)/\wz.cell? ⟨w.heap.size+1,1,none⟩=some (.int .i64 q.H)/\wz.cell? ⟨w.heap.size+1,2,none⟩=some (.int .i64 q.d)/\wz.cell? ⟨w.heap.size+1,3,none⟩=some (.slice (some ⟨g',o',none⟩) q.P.length cap')/\wz.cell? ⟨wr.heap.size,0,none⟩=some (.int .i64 ((sqAt ss k).x:Int))/\wz.cell? ⟨wr.heap.size,1,none⟩=some (.int .i64 ((sqAt ss k).y:Int))/\wz.cell? ⟨wr.heap.size,2,none⟩=some (.int .i64 ((sqAt ss k).w:Int))/\wz.cell? ⟨wr.heap.size,3,none⟩=some (.int .i64 ((sqAt ss k).h:Int))/\wz.cell? ⟨gm,om+k*2,none⟩=some (.int .i64 (ms.getD k (0,0)).1)/\wz.cell? ⟨gm,om+k*2+1,none⟩=some (.int .i64 (ms.getD k (0,0)).2):=fun wz hz=>by
      obtain ⟨⟨k0,k1,k2,k3⟩,⟨q0,q1,q2,q3⟩,⟨s0,s1,s2,s3⟩,⟨m0,m1⟩⟩:=al.out F wr wz k hk (aa.out.trans_same ai.out) hE hz
      exact ⟨k0,k1,k2,k3,q0,q1,q2,q3,s0,s1,s2,s3,m0,m1⟩
     have ae:=hid ac
     have a7:=br.out k (by omega)
     have ak:Chg [] wr (wr.alloc (.cells #[.int .i64 ((sqAt ss k).x:Int),.int .i64 ((sqAt ss k).y:Int),.int .i64 ((sqAt ss k).w:Int),.int .i64 ((sqAt ss k).h:Int)] 31)).drew:=((zR [] wr).alloc _).drew
     have ap:=bT.out _ (((aG.out.trans_same aa.out).trans_same ai.out).trans_same ak) k hk b F _ (aS.out.same ak) (fun h0=>by have:=be.out 0 h0;have:=a4.out;omega) (by omega)
     unfold PutBlockPost at ap
     rw [<-moveBits_succ] at ap
     have aX:=hid ap
     have bh:=hid ak
     clear aC ac ap a7 hE ak
     go_wp2_with fail
     go_region_held3 (fun w'=>w'.cell? ⟨w.heap.size,0,none⟩=some (.int .i64 p.W)/\w'.cell? ⟨w.heap.size,1,none⟩=some (.int .i64 p.H)/\w'.cell? ⟨w.heap.size,2,none⟩=some (.int .i64 p.d)/\w'.cell? ⟨w.heap.size,3,none⟩=some (.slice (some ⟨g,o,none⟩) p.P.length cap)/\w'.cell? ⟨w.heap.size+1,0,none⟩=some (.int .i64 q.W)/\w'.cell? ⟨w.heap.size+1,1,none⟩=some (.int .i64 q.H)/\w'.cell? ⟨w.heap.size+1,2,none⟩=some (.int .i64 q.d)/\w'.cell? ⟨w.heap.size+1,3,none⟩=some (.slice (some ⟨g',o',none⟩) q.P.length cap')/\w'.cell? ⟨wr.heap.size,0,none⟩=some (.int .i64 ((sqAt ss k).x:Int))/\w'.cell? ⟨wr.heap.size,1,none⟩=some (.int .i64 ((sqAt ss k).y:Int))/\w'.cell? ⟨wr.heap.size,2,none⟩=some (.int .i64 ((sqAt ss k).w:Int))/\w'.cell? ⟨wr.heap.size,3,none⟩=some (.int .i64 ((sqAt ss k).h:Int))/\w'.cell? ⟨gm,om+k*2,none⟩=some (.int .i64 (ms.getD k (0,0)).1)/\w'.cell? ⟨gm,om+k*2+1,none⟩=some (.int .i64 (ms.getD k (0,0)).2)) (first | (go_keep;done) | exact ae.out _ (((zR F _).drew).trans_same aU.chg)) (first | (go_at_call 125;refine aX.out.mono ?_;rintro e w6 ⟨rfl,F6,bD,aU⟩))
     have bq:=bg.out.trans (Grow.pre bh.out aU)
     have b5:=hid bq
     have b9:=hid bD
     clear bq aU bD
     go_wp2_with fail
     go_roundg j2
     case measure=>omega
     case rel=>exact ⟨k+1,F6,by go_num,by omega,b9,b5⟩
  ·have hi:i<n:=by omega
   have t1:decide (i<n)=true:=zB hi
   have aC:i<ss.length:=by rw [<-HN.out];exact hi
   obtain ⟨g8,o8,bj,x0,x1,x2,x3⟩:=sq_cell (bk.out.same aB.out) aC
   subst bj
   obtain ⟨⟨k0,k1,k2,k3⟩,-,⟨s0,s1,s2,s3⟩,⟨m0,m1⟩⟩:=al.out [] wr _ i hi (aa.out.trans_same aB.out) (by simp) (zR _ _)
   have ac:∀ wz,Chg [] (wr.alloc (.cells #[.int .i64 ((sqAt ss i).x:Int),.int .i64 ((sqAt ss i).y:Int),.int .i64 ((sqAt ss i).w:Int),.int .i64 ((sqAt ss i).h:Int)] 31)) wz->wz.cell? ⟨w.heap.size,0,none⟩=some (.int .i64 p.W)/\wz.cell? ⟨w.heap.size,1,none⟩=some (.int .i64 p.H)/\wz.cell? ⟨w.heap.size,2,none⟩=some (.int .i64 p.d)/\wz.cell? ⟨w.heap.size,3,none⟩=some (.slice (some ⟨g,o,none⟩) p.P.length cap)/\wz.cell? ⟨wr.heap.size,0,none⟩=some (.int .i64 ((sqAt ss i).x:Int))/\wz.cell? ⟨wr.heap.size,1,none⟩=some (.int .i64 ((sqAt ss i).y:Int))/\wz.cell? ⟨wr.heap.size,2,none⟩=some (.int .i64 ((sqAt ss i).w:Int))/\wz.cell? ⟨wr.heap.size,3,none⟩=some (.int .i64 ((sqAt ss i).h:Int))/\wz.cell? ⟨gm,om+i*2,none⟩=some (.int .i64 (ms.getD i (0,0)).1)/\wz.cell? ⟨gm,om+i*2+1,none⟩=some (.int .i64 (ms.getD i (0,0)).2):=fun wz hz=>by
    obtain ⟨⟨k0,k1,k2,k3⟩,-,⟨s0,s1,s2,s3⟩,⟨m0,m1⟩⟩:=al.out [] wr wz i hi (aa.out.trans_same aB.out) (by simp) hz
    exact ⟨k0,k1,k2,k3,s0,s1,s2,s3,m0,m1⟩
   have ae:=hid ac
   have aA:=fun wz=>b4.out wz i hi
   have a8:=hid aA
   clear aC ac aA
   go_wp2_with fail
   go_region_held3 (fun w'=>w'.cell? ⟨w.heap.size,0,none⟩=some (.int .i64 p.W)/\w'.cell? ⟨w.heap.size,1,none⟩=some (.int .i64 p.H)/\w'.cell? ⟨w.heap.size,2,none⟩=some (.int .i64 p.d)/\w'.cell? ⟨w.heap.size,3,none⟩=some (.slice (some ⟨g,o,none⟩) p.P.length cap)/\w'.cell? ⟨wr.heap.size,0,none⟩=some (.int .i64 ((sqAt ss i).x:Int))/\w'.cell? ⟨wr.heap.size,1,none⟩=some (.int .i64 ((sqAt ss i).y:Int))/\w'.cell? ⟨wr.heap.size,2,none⟩=some (.int .i64 ((sqAt ss i).w:Int))/\w'.cell? ⟨wr.heap.size,3,none⟩=some (.int .i64 ((sqAt ss i).h:Int))/\w'.cell? ⟨gm,om+i*2,none⟩=some (.int .i64 (ms.getD i (0,0)).1)/\w'.cell? ⟨gm,om+i*2+1,none⟩=some (.int .i64 (ms.getD i (0,0)).2)) (first | (go_keep;done) | exact ae.out _ (((zR [] _).drew).trans_same aq) | exact ae.out _ aq) (first | (go_at_call 94;refine (a8.out _).mono ?_;rintro e w6 ⟨rfl,aq⟩))
   have ad:Chg [] w3 w6:=((aB.out.alloc (.cells #[.int .i64 ((sqAt ss i).x:Int),.int .i64 ((sqAt ss i).y:Int),.int .i64 ((sqAt ss i).w:Int),.int .i64 ((sqAt ss i).h:Int)] 31)).drew).trans_same aq
   have au:=hid ad
   clear ad aq
   go_wp2_with fail
   go_roundg j
   case measure=>omega
   case rel=>exact ⟨i+1,by go_num,by omega,au⟩
theorem two_elem:Elem Tryz.prog 136 137 (.agg #[.int .i64 0,.int .i64 0]) 2 16:=.mk' Tryz.underlying136 (by kernel_rfl)
def BestMs (p q:PicD) (ss:List Sq) (ms:List (Int × Int)) (i:Nat):Prop:=∀ k,k<i->∃ c,BestM p q (sqAt ss k) (fun _=>True) (ms.getD k (0,0)).1 (ms.getD k (0,0)).2 c
theorem BestMs.snoc {p q:PicD} {ss:List Sq} {ms:List (Int × Int)} {i:Nat} (h:BestMs p q ss ms i) (hl:ms.length=i) {dx dy:Int} {c:Nat} (hb:BestM p q (sqAt ss i) (fun _=>True) dx dy c):BestMs p q ss (ms++[(dx,dy)]) (i+1):=fun k hk=>by
 rcases zZ k i with h1 | h1
 ·obtain ⟨c',h2⟩:=h k h1
  refine ⟨c',?_⟩
  have e:(ms++[(dx,dy)]).getD k (0,0)=ms.getD k (0,0):=by
   rw [zD,zD,List.getElem?_append_left (by omega)]
  rw [e]
  exact h2
 ·obtain rfl:k=i:=by omega
  have e:(ms++[(dx,dy)]).getD k (0,0)=(dx,dy):=by
   rw [zD,<-hl]
   simp
  rw [e]
  exact ⟨c,hb⟩
def EncPost (w:World) (p q:PicD) (e:Ending) (w':World):Prop :=
 ∃ v G9 ms,e=.returned (.tuple #[v,.int .i64 0])/\Own w' 5 v G9 ((mvBytes p q ms).map b8)/\ms.length=(gridL q.W q.H 8).length/\BestMs p q (gridL q.W q.H 8) ms (gridL q.W q.H 8).length/\Chg [] w w'/\(∀ x∈G9,w.heap.size<=x)/\MvBits p q ms
theorem encode_ok {w:World} {p q:PicD} {g o:Nat} {B:Nat->Option Addr} {c:Nat->Nat} {G:List Nat} (cap:Nat) (h:PicAt w p g o B c G)
  {g' o':Nat} {B':Nat->Option Addr} {c':Nat->Nat} {G':List Nat} (cap':Nat) (h':PicAt w q g' o' B' c' G') (ha:AlikeD p q) (hp:Pts w) :
  Calls Tryz.prog 53 #[picV p g o cap,picV q g' o' cap'] w (EncPost w p q):=by
 have a7:=h.ok
 have ac:=h'.ok
 have ay:=fun w' (hc:Chg [] w w')=>alike_yes cap (h.same hc) cap' (h'.same hc) ha
 have av:=fun w'=>mgrid_ok ac g' o' cap' w'
 unfold EncPost
 obtain ⟨ss,an⟩:=zX (gridL q.W q.H 8)
 have am:∀ s∈ss,SqIn p.W p.H s:=fun s hs=>by
  rw [an] at hs
  obtain ⟨a,b⟩:=grid_in (by decide) s hs
  exact ⟨by rw [ha.W];exact a,by rw [ha.H];exact b⟩
 have aX:ss.length<=4096:=by rw [an];exact grid8_len ac.w1 ac.h1
 have ad:=fun w' (hc:Chg [] w w') AM capM ms hM hml hmo=>by_ok cap (h.same hc) cap' (h'.same hc) ha (hp.same hc) AM capM ms hM hml hmo
 rw [<-an] at av ⊢
 simp only [<-an] at ad
 obtain ⟨n,hn⟩:=zX (ss.length)
 have ah:∀ w',Chg [] w w'->∀ i,i<n->_:=fun w' hc i hi=>search_ok cap (h.same hc) cap' (h'.same hc) ha (sqAt ss i) (am _ (sqAt_mem (by omega)))
 unfold picV sqV at ah
 unfold picV at ay av ad ⊢
 obtain ⟨w1,ak⟩:=zX (((w.alloc (.cells #[.int .i64 p.W,.int .i64 p.H,.int .i64 p.d,.slice (some ⟨g,o,none⟩) p.P.length cap] 25)).alloc (.cells #[.int .i64 q.W,.int .i64 q.H,.int .i64 q.d,.slice (some ⟨g',o',none⟩) q.P.length cap'] 25)))
 have ao:Blk w1 w.heap.size 25 #[.int .i64 p.W,.int .i64 p.H,.int .i64 p.d,.slice (some ⟨g,o,none⟩) p.P.length cap]:=by rw [ak];exact (Blk.new w _ _).alloc _
 have aq:Blk w1 (w.heap.size+1) 25 #[.int .i64 q.W,.int .i64 q.H,.int .i64 q.d,.slice (some ⟨g',o',none⟩) q.P.length cap']:=by rw [ak];exact Blk.new2 w _ _ _
 have aI:Chg [] w w1:=by rw [ak];exact ((zR [] w).alloc _).alloc _
 have ap:=fun wz (hc:Chg [] w1 wz)=>And.intro (And.intro ((ao.chg hc (by simp)).cell 0) (And.intro ((ao.chg hc (by simp)).cell 1) (And.intro ((ao.chg hc (by simp)).cell 2) ((ao.chg hc (by simp)).cell 3)))) (And.intro ((aq.chg hc (by simp)).cell 0) (And.intro ((aq.chg hc (by simp)).cell 1) (And.intro ((aq.chg hc (by simp)).cell 2) ((aq.chg hc (by simp)).cell 3))))
 have aL:=hid ak
 have al:=hid aI
 have aW:=hid ay
 have aO:=hid av
 have HN:=hid hn
 have af:=hid ap
 have aV:=hid ad
 have a4:=hid ah
 have a5:n<=4096:=by omega
 clear ay av ao aq ak aI am a7 ac h h' ha hp hn an aX ap ad ah
 go_enter Tryz.func53,Tryz.ntmps53
 go_wp2_with fail
 rw [<-aL.out]
 refine (aW.out w1 al.out).mono ?_
 rintro e w2 ⟨rfl,aA⟩
 obtain ⟨⟨a0,a1,a2,a3⟩,⟨b0,b1,b2,b3⟩⟩:=af.out w2 aA
 have az:=hid aA
 clear aA
 go_wp2_with fail
 refine (aO.out w2).mono ?_
 rintro e w3 ⟨v8,F8,rfl,aH,aF,aM⟩
 obtain ⟨A8,c8,rfl,ba,a8,aE,-⟩:=OwnK.open_ aH
 have ab:=hid (az.out.trans_same aF)
 have aN:=hid aE
 rw [<-HN.out]
 clear aH aF aM aE a0 a1 a2 a3 b0 b1 b2 b3
 go_wp2_with fail
 go_loopg [6,8,9,10,11,19] n (fun j v6 v8 v9 v10 v11 v19 wr=>∃ (i:Nat) (ms:List (Int × Int)) (F:List Nat),v19=.int .i64 i/\i+j=n/\Hid (OwnK wr 137 2 v6 F i (ms.flatMap mvCells))/\Hid (ms.length=i)/\Hid (BestMs p q ss ms i)/\Hid (Chg [] w3 wr)/\Hid (∀ x∈F,w3.heap.size<=x))
 case atStart=>exact ⟨0,[],[],rfl,by omega,hid (OwnK.nil _ _ _),hid rfl,hid (fun k hk=>by omega),hid (zR _ _),hid (by simp)⟩
 case round =>
  obtain ⟨i,ms,F,rfl,a9,HO,aj,HB,ae,HF⟩:=hrel
  obtain ⟨⟨a0,a1,a2,a3⟩,⟨b0,b1,b2,b3⟩⟩:=af.out wr (ab.out.trans_same ae.out)
  rcases gk with _ | j
  ·obtain rfl:i=n:=by omega
   have t1:decide (i<i)=false:=by simp
   obtain ⟨AM,cM,rfl,aS,aQ,aJ,-⟩:=HO.out.open_
   have ad:=aV.out wr ((al.out.trans_same ab.out).trans_same ae.out) AM cM ms aJ (by rw [aj.out];exact HN.out) (fun k hk=>by
    obtain ⟨c,hb⟩:=HB.out k (by rw [<-aj.out];exact hk)
    exact hb.ok)
   rw [aj.out] at ad
   have aw:=hid ad
   clear ad aS aQ aJ
   go_wp2_with fail
   refine aw.out.mono ?_
   rintro e w9 ⟨v9,G9,rfl,aa,aY,aZ,aB⟩
   go_wp2
   refine bodyPost_ret (v:=.tuple #[v9,.int .i64 0]) (by simp [results,Tryz.results53,go_sem]) rfl ?_
   refine ⟨v9,G9,ms,rfl,aa,by rw [aj.out];exact HN.out,by rw [<-HN.out];exact HB.out,((al.out.trans_same ab.out).trans_same ae.out).trans_same aY,fun x hx => ?_,aB⟩
   have h1:=aZ x hx
   have h2:=((al.out.trans_same ab.out).trans_same ae.out).size
   omega
  ·have hi:i<n:=by omega
   have t1:decide (i<n)=true:=zB hi
   have aG:i<ss.length:=by rw [<-HN.out];exact hi
   obtain ⟨g8,o8,aU,x0,x1,x2,x3⟩:=sq_cell (aN.out.same ae.out) aG
   subst aU
   have aR:=af.out _ (((ab.out.trans_same ae.out)).alloc (.cells #[.int .i64 ((sqAt ss i).x:Int),.int .i64 ((sqAt ss i).y:Int),.int .i64 ((sqAt ss i).w:Int),.int .i64 ((sqAt ss i).h:Int)] 31))
   obtain ⟨⟨c0,c1,c2,c3⟩,⟨d0,d1,d2,d3⟩⟩:=aR
   have ah:=a4.out _ ((((al.out.trans_same ab.out).trans_same ae.out)).alloc (.cells #[.int .i64 ((sqAt ss i).x:Int),.int .i64 ((sqAt ss i).y:Int),.int .i64 ((sqAt ss i).w:Int),.int .i64 ((sqAt ss i).h:Int)] 31)) i hi
   unfold SearchPost at ah
   have aD:=hid ah
   clear ah aG
   go_wp2_with fail
   refine aD.out.mono ?_
   rintro e w5 ⟨dx,dy,cc,rfl,hb,ax⟩
   have ar:=hid ((ae.out.alloc (.cells #[.int .i64 ((sqAt ss i).x:Int),.int .i64 ((sqAt ss i).y:Int),.int .i64 ((sqAt ss i).w:Int),.int .i64 ((sqAt ss i).h:Int)] 31)).trans_same ax)
   have au:=((HO.out.same ((zR [] wr).alloc (.cells #[.int .i64 ((sqAt ss i).x:Int),.int .i64 ((sqAt ss i).y:Int),.int .i64 ((sqAt ss i).w:Int),.int .i64 ((sqAt ss i).h:Int)] 31))).same ax).same ((zR [] w5).alloc (.cells #[.int .i64 dx,.int .i64 dy] 137))
   have ai:=Blk.new w5 137 #[.int .i64 dx,.int .i64 dy]
   have a6:=hid (HB.out.snoc aj.out hb)
   clear hb ax a0 a1 a2 a3 b0 b1 b2 b3 c0 c1 c2 c3 d0 d1 d2 d3 x0 x1 x2 x3
   go_wp2_with (at_builtin;refine wpList_append_k1 rfl rfl two_elem rfl (by decide) rfl au [.int .i64 dx,.int .i64 dy] rfl rfl ?c1 ?c2 ?c3 ?c4 ?_)
   case c1 =>
    intro q u hq
    match q,hq with
    | 0,hq=>rw [<-hq];exact ai.cell 0
    | 1,hq=>rw [<-hq];exact ai.cell 1
    | q+2,hq=>simp at hq
   case c2=>intro u hu;simp at hu;rcases hu with rfl | rfl<;>rfl
   case c3=>omega
   case c4=>omega
   intro g9 aP w9 aa ag
   have aK:=hid aa
   have aT:Hid (Chg [] w3 w9):=hid ((ar.out.alloc _).trans ag.chg (fun x hx => .inr (HF.out x hx)))
   have aC:Hid (∀ x∈[g9],w3.heap.size<=x):=hid (fun x hx=>by
    rcases ag.new x hx with h | h
    ·exact HF.out x h
    ·have:=ar.out.size;rw [alloc_size] at h;omega)
   clear aa ag au ai
   go_wp2_with fail
   go_roundg j
   case measure=>omega
   case rel =>
    refine ⟨i+1,ms++[(dx,dy)],[g9],by go_num,by omega,hid ?_,hid (by rw [zC,aj.out];rfl),a6,aT,aC⟩
    rw [List.flatMap_append]
    exact aK.out
theorem costL_self (l:List Int) (d:Nat) (hs:SmpOk d l):costL l l d=0:=by
 unfold costL
 induction l with
 | nil=>rfl
 | cons a l ih =>
  rw [List.zipWith_cons_cons,List.sum_cons,ih (fun x hx=>hs x (by simp [hx]))]
  have e:foldI (a-a) d=0:=by
   rw [show a-a=0 by omega]
   have hz:wrapI 0 d=0:=wrapI_in (Int.le_refl 0) (two_pow_pos' d)
   have hp:=two_pow_pos' (d-1)
   unfold foldI
   rw [hz,if_neg (by omega)]
  rw [e]
  rfl
theorem partF_row (l:List Int) (W x y:Nat) {w h k:Nat} (hk:k<h):((partF l W x y w h).drop (k*w)).take w=(List.range w).map fun i=>l.getD ((y+k)*W+(x+i)) 0:=by
 have aa:=partF_len l W x y w h
 have h2:k*w+w<=h*w:=by
  have:=Nat.mul_le_mul_right w (show k+1<=h by omega)
  rw [Nat.succ_mul] at this
  exact this
 apply List.ext_getElem?
 intro i
 rcases zZ i w with hi | hi
 ·rw [List.getElem?_take,if_pos hi,List.getElem?_drop,partF_get l W x y hk hi,zW,List.getElem?_range hi]
  rfl
 ·rw [List.getElem?_eq_none (by rw [zI];omega),List.getElem?_eq_none (by simp;omega)]
theorem oldB_zero {p q:PicD} (ha:AlikeD p q) (i:Nat) (s:Sq):oldB q i s (0,0)=partF (q.P.getD i []) p.W s.x s.y s.w s.h:=by
 unfold oldB
 rw [ha.W]
 simp
theorem copy_row_eq {q l:List Int} {W H:Nat} {bs:List Sq} {sx sy sw sh k:Nat} (hq:q.length=l.length) (hl:l.length=W*H) (hx:sx+sw<=W) (hy:sy+sh<=H) (hk:k<sh) :
  splice ((mixF q l W (bs++[⟨sx,sy,sw,k⟩])).map vi) ((sy+k)*W+sx) ((((partF q W sx sy sw sh).drop (k*sw)).take sw).map vi)=(mixF q l W (bs++[⟨sx,sy,sw,k+1⟩])).map vi:=by
 rw [partF_row q W sx sy hk]
 have h1:=mixF_row (q:=q) (l:=l) (W:=W) (H:=H) (bs:=bs) (s:=⟨sx,sy,sw,k⟩) hq hl hx (by simp only;omega)
 simp only at h1
 rw [<-h1]
 simp [splice,List.map_take,List.map_drop]
theorem unD_get {p q:PicD} {i:Nat} {s:Sq} {m:Int × Int} {k:Nat} (hs:SmpOk q.d (oldB q i s (0,0))) (hk:k<s.h*s.w) :
  (oldB q i s (0,0))[k]?=some (wrapI ((oldB p i s m).getD k 0+(diffB p q i s m).getD k 0) q.d):=by
 have hu:=undiff_diff (d:=q.d) (now:=oldB q i s (0,0)) (old:=oldB p i s m) (by rw [oldB_len,oldB_len]) hs
 have h2:k<(oldB p i s m).length:=by rw [oldB_len];exact hk
 have h3:k<(diffB p q i s m).length:=by rw [diffB_len,zY];exact hk
 have aa:oldB q i s (0,0)=List.zipWith (fun a b=>wrapI (a+b) q.d) (oldB p i s m) (diffB p q i s m):=hu.symm
 rw [aa,List.getElem?_zipWith,zF h2,zF h3,zD,zD,zF h2,zF h3]
 rfl
structure GbIn (w:World) (p q:PicD) (g o:Nat) (B:Nat->Option Addr) (c:Nat->Nat) (G:List Nat) (bs:List Sq) (s:Sq) (m:Int × Int) (b:Nat) (F ds:List Nat) (pos gP capP:Nat) (xs:List Value) (gs:List Nat):Prop where
 was:PicAt w p g o B c G
 now:PicOwn w (bwP p q bs s 0) gP capP xs gs
 rd:IsRd w b F ds pos
 qok:q.Ok
 ha:AlikeD p q
 hs:SqIn p.W p.H s
 hm:mvOk p.W p.H s m
 sw0:1<=s.w
 sw1:s.w<=8
 sh0:1<=s.h
 sh1:s.h<=8
 pts:Pts w
 gG:∀ x∈G,x∉b::gs
 fG:∀ x∈F,x∉gP::gs
 f0:0∉F
 g0:0∉gs
def GbPost (w:World) (p q:PicD) (bs:List Sq) (s:Sq) (b:Nat) (F ds:List Nat) (pos gP capP:Nat) (xs:List Value) (gs:List Nat) (e:Ending) (w':World):Prop :=
 e=.returned (.int .i64 0)/\IsRd w' b F ds pos/\PicOwn w' (bwP p q bs s p.P.length) gP capP xs gs/\Chg (b::gs) w w'
theorem same_at {p q:PicD} {s:Sq} {m:Int × Int} (h:sameB p q s m=true) {i:Nat} (hi:i<q.P.length):oldB p i s m=oldB q i s (0,0):=by
 unfold sameB at h
 rw [List.all_eq_true] at h
 have:=h i (List.mem_range.2 hi)
 exact (of_decide_eq_true this).symm
structure GbSt (w1:World) (p q:PicD) (bs:List Sq) (s:Sq) (b:Nat) (F ds:List Nat) (pos gP capP:Nat) (xs:List Value) (gs:List Nat) (wr:World) (i:Nat):Prop where
 rd:IsRd wr b F ds pos
 now:PicOwn wr (bwP p q bs s i) gP capP xs gs
 chg:Chg (b::gs) w1 wr
theorem GbSt.next {w1:World} {p q:PicD} {bs:List Sq} {s:Sq} {b:Nat} {F ds:List Nat} {pos pos' gP capP:Nat} {xs:List Value} {gs:List Nat} {wr wa w':World} {i gi:Nat} {u:Value} (h:GbSt w1 p q bs s b F ds pos gP capP xs gs wr i)
  (hp:p.Ok) (hq:q.Ok) (ha:AlikeD p q) (hi:i<p.P.length) (fG:∀ x∈F,x∉gP::gs) (hx:xs[i]?=some u) (hg:gs[i]?=some gi)
  (rd:IsRd wa b F ds pos') (c1:Chg [b] wr wa) (c2:Chg [gi] wa w') (r:Row w' 3 u gi ((mixF (q.P.getD i []) (p.P.getD i []) p.W (bs++[s])).map vi)) :
  GbSt w1 p q bs s b F ds pos' gP capP xs gs w' (i+1):=by
 have aa:gi∈gs:=List.mem_of_getElem? hg
 have ac:=rd.mem
 have ab:=fG b ac
 have ad:Chg (b::gs) wr w':=(c1.mono (F':=b::gs) (by simp)).trans c2 fun x hx=>by
  simp at hx
  subst hx
  exact .inl (by simp [aa])
 refine ⟨rd.chg c2 fun x hx hm => ?_,?_,h.chg.trans_same ad⟩
 ·simp at hm
  subst hm
  exact fG x hx (by simp [aa])
 ·have hn:=h.now.chg c1 (F:=[b]) (by simpa using fun e=>ab (by simp [e])) (by
   intro x hx hm
   simp at hm
   subst hm
   exact ab (by simp [hx]))
  exact hn.setPlane hx hg r c2 (hn.neP (by rw [bwP_len];exact hi) hg) (bwP_ok hp hq ha bs s (i+1)) (bwP_succ bs s hi).symm
theorem slice_to {P:Program} {t e:TypeId} (ht:P.underlying t=some (.slice e)) (A:Option Addr) (n c hi:Nat) (h:hi<=n) (hnc:n<=c) (w:World) (hs:(sizeOf e).run P w=.ok 1 w) :
  (Instr.slice t (.slice A n c) none (some (.int .i64 hi)) none).run P w=.ok (.slice A hi c) w:=by
 have he:=elem_of ht
 rw [run_slice_h (P:=P) (w:=w) t A n c (by rw [he];exact ht) .i64 (hi:Int) (by omega) (by omega),he,hs]
 simp [sliced]
 intro _
 cases A with
 | none=>rfl
 | some ad=>simp [Addr.add]
theorem bitsOf_zero:∀ n,bitsOf 0 n=List.replicate n 0:=fun n=>by
 apply List.ext_getElem?
 intro i
 rcases zZ i n with hi | hi
 ·rw [bitsOf_get 0 n i hi,List.getElem?_replicate,if_pos hi]
  simp
 ·rw [List.getElem?_eq_none (by rw [bitsOf_len];exact hi),List.getElem?_eq_none (by rw [zV];exact hi)]
theorem bwP_any (p q:PicD) (bs:List Sq) (s s':Sq):bwP p q bs s 0=bwP p q bs s' 0:=by
 unfold bwP
 congr 1
theorem take_sq {ss:List Sq} {i:Nat} (h:i<ss.length):ss.take (i+1)=ss.take i++[sqAt ss i]:=by
 rw [List.take_succ_eq_append_getElem h]
 unfold sqAt
 rw [zD,zF h]
 rfl
theorem moveBits_pre (p q:PicD) (ss:List Sq) (ms:List (Int × Int)):∀ k n i,i+k=n->∃ rest,moveBits p q ss ms n=moveBits p q ss ms i++rest
 | 0,n,i,h=>⟨[],by rw [List.append_nil,show i=n by omega]⟩
 | k+1,n,i,h=>by
  obtain ⟨r,hr⟩:=moveBits_pre p q ss ms k n (i+1) (by omega)
  exact ⟨_,by rw [hr,moveBits_succ,zH]⟩
theorem mem_padF {bs:List Nat} (h:∀ b∈bs,b<2):∀ b∈padF bs,b<2:=fun b hb=>by
 unfold padF at hb
 rcases zP.1 hb with h1 | h1
 ·exact h b h1
 ·rw [List.eq_of_mem_replicate h1];omega
theorem body_block {p q:PicD} {ms:List (Int × Int)} {ss:List Sq} {n:Nat} (h:∀ b∈moveBits p q ss ms n,b<2) {i:Nat} (hi:i<n) :
  Ahead (packed (padF (moveBits p q ss ms n))) (moveBits p q ss ms i).length (blockBits p q (sqAt ss i) (ms.getD i (0,0))):=by
 have hp:=mem_padF h
 obtain ⟨r,hr⟩:=moveBits_pre p q ss ms (n-(i+1)) n (i+1) (by omega)
 have e:padF (moveBits p q ss ms n)=moveBits p q ss ms i++blockBits p q (sqAt ss i) (ms.getD i (0,0))++(r++List.replicate ((8-(moveBits p q ss ms n).length%8)%8) 0):=by
  unfold padF
  rw [hr,moveBits_succ]
  simp only [zH]
 rw [e] at hp ⊢
 exact ahead_packed hp
theorem body_rest {bs:List Nat} (h:∀ b∈bs,b<2):Ahead (packed (padF bs)) bs.length (bitsOf 0 ((8-bs.length%8)%8)):=by
 have hp:=mem_padF h
 have e:padF bs=bs++bitsOf 0 ((8-bs.length%8)%8)++[]:=by
  rw [bitsOf_zero]
  unfold padF
  rw [List.append_nil]
 rw [e] at hp ⊢
 exact ahead_packed hp
theorem body_left (bs:List Nat):8*(packed (padF bs)).length-bs.length=(8-bs.length%8)%8:=by
 rw [packed_len,padF_len]
 omega
theorem getBlock_same {w:World} {p q:PicD} {g o:Nat} {B:Nat->Option Addr} {c:Nat->Nat} {G:List Nat} {bs:List Sq} {s:Sq} {m:Int × Int} {b:Nat} {F ds:List Nat} {pos gP capP:Nat} {xs:List Value} {gs:List Nat} (cap:Nat)
  (h:GbIn w p q g o B c G bs s m b F ds pos gP capP xs gs) (hsame:sameB p q s m=true) (hah:Ahead ds pos (blockBits p q s m)) :
  Calls Tryz.prog 99 #[.pointer (some ⟨b,0,none⟩),picV p g o cap,picV (bwP p q bs s 0) gP 0 capP,sqV s] w (GbPost w p q bs s b F ds (pos+(blockBits p q s m).length) gP capP xs gs):=by
 have aj:=h.was.ok
 have ap:=h.qok
 have ha:=h.ha
 have hs:=h.hs
 have hm:=h.hm
 obtain ⟨bQ,cy,cG,cw⟩:(1<=s.w/\s.w<=8/\1<=s.h/\s.h<=8):=⟨h.sw0,h.sw1,h.sh0,h.sh1⟩
 have co:s.x<=64:=by have:=hs.x;have:=aj.w1;omega
 have bX:s.y<=64:=by have:=hs.y;have:=aj.h1;omega
 have cF:=aj.w1
 have c7:=aj.h1
 have aI:=hm.fit
 have cd:∀ k,w.heap.size<=k->k∉b::gs:=fun k hk ad=>by
  rcases zJ.1 ad with rfl | h1
  ·have:=h.rd.lt _ h.rd.mem;omega
  ·have:=h.now.pl.lt k h1;omega
 have bS:=ha.n
 obtain ⟨n,hn⟩:=zX (p.P.length)
 rw [<-hn] at bS
 obtain ⟨N,hN⟩:=zX (p.W*p.H)
 obtain ⟨M,hM⟩:=zX (s.h*s.w)
 have dd:M<=64:=by rw [hM];exact zL cw cy
 have dt:0<M:=by rw [hM];exact Nat.mul_pos cG bQ
 have du:N<=4096:=by rw [hN];exact aj.area
 have dp:n<=4:=by rw [hn];exact aj.n1
 have ba:∀ w',Chg (b::gs) w w'->∀ i,i<n->_:=fun w' hc i hi=>part_ok cap (h.was.chg hc h.gG) i (by rw [<-hn];exact hi) s m aI.x0 aI.x1 aI.y0 aI.y1 co bX
 have be:=fun w'=>isMove_ok p.W p.H p.d n g o cap s m w' cF c7 co bX (by omega) (by omega) (by have:=hm.1;omega) (by have:=hm.2.1;omega) (by have:=hm.2.2.1;omega) (by have:=hm.2.2.2.1;omega)
 rw [(mvB_iff p.W p.H s m).2 hm] at be
 have db:=aj.d0
 have cE:=aj.d1
 have bU:∀ v w,_:=fun v w=>wrap_ok v p.d w db cE
 unfold GbPost
 unfold picV sqV at ba ⊢
 unfold sqV at be
 rw [<-hn] at ba ⊢
 rw [bwP_len,<-hn]
 show Calls _ _ #[_,_,.agg #[.int .i64 p.W,.int .i64 p.H,.int .i64 p.d,.slice (some ⟨gP,0,none⟩) n capP],_] _ _
 obtain ⟨w1,ax⟩:=zX ((((w.alloc (.cells #[.int .i64 p.W,.int .i64 p.H,.int .i64 p.d,.slice (some ⟨g,o,none⟩) n cap] 25)).alloc (.cells #[.int .i64 p.W,.int .i64 p.H,.int .i64 p.d,.slice (some ⟨gP,0,none⟩) n capP] 25)).alloc (.cells #[.int .i64 s.x,.int .i64 s.y,.int .i64 s.w,.int .i64 s.h] 31)))
 have aV:Blk w1 w.heap.size 25 #[.int .i64 p.W,.int .i64 p.H,.int .i64 p.d,.slice (some ⟨g,o,none⟩) n cap]:=by rw [ax];exact ((Blk.new w _ _).alloc _).alloc _
 have bF:Blk w1 (w.heap.size+1) 25 #[.int .i64 p.W,.int .i64 p.H,.int .i64 p.d,.slice (some ⟨gP,0,none⟩) n capP]:=by rw [ax];exact (Blk.new2 w _ _ _).alloc _
 have a4:Blk w1 (w.heap.size+1+1) 31 #[.int .i64 s.x,.int .i64 s.y,.int .i64 s.w,.int .i64 s.h]:=by rw [ax];exact Blk.new3 w _ _ _ _
 have a6:Chg [] w w1:=by rw [ax];exact (((zR [] w).alloc _).alloc _).alloc _
 have aq:∀ (E:List Nat) wr,Chg E w1 wr->(∀ k,w.heap.size<=k->k∉E)->(wr.cell? ⟨w.heap.size,0,none⟩=some (.int .i64 p.W)/\wr.cell? ⟨w.heap.size,1,none⟩=some (.int .i64 p.H)/\wr.cell? ⟨w.heap.size,2,none⟩=some (.int .i64 p.d)/\wr.cell? ⟨w.heap.size,3,none⟩=some (.slice (some ⟨g,o,none⟩) n cap)) /\
   (wr.cell? ⟨w.heap.size+1,0,none⟩=some (.int .i64 p.W)/\wr.cell? ⟨w.heap.size+1,3,none⟩=some (.slice (some ⟨gP,0,none⟩) n capP)) /\
   (wr.cell? ⟨w.heap.size+1+1,0,none⟩=some (.int .i64 s.x)/\wr.cell? ⟨w.heap.size+1+1,1,none⟩=some (.int .i64 s.y)/\wr.cell? ⟨w.heap.size+1+1,2,none⟩=some (.int .i64 s.w)/\wr.cell? ⟨w.heap.size+1+1,3,none⟩=some (.int .i64 s.h)):=fun E wr hc e =>
  ⟨⟨(aV.chg hc (e _ (by omega))).cell 0,(aV.chg hc (e _ (by omega))).cell 1,(aV.chg hc (e _ (by omega))).cell 2,(aV.chg hc (e _ (by omega))).cell 3⟩,⟨(bF.chg hc (e _ (by omega))).cell 0,(bF.chg hc (e _ (by omega))).cell 3⟩,⟨(a4.chg hc (e _ (by omega))).cell 0,(a4.chg hc (e _ (by omega))).cell 1,(a4.chg hc (e _ (by omega))).cell 2,(a4.chg hc (e _ (by omega))).cell 3⟩⟩
 have bh:gP∉b::gs:=fun ad=>by
  rcases zJ.1 ad with e | h1
  ·exact h.fG b h.rd.mem (by simp [e])
  ·obtain ⟨k,hk,e⟩:=List.getElem_of_mem h1
   have cP:k<(bwP p q bs s 0).P.length:=by rw [<-h.now.pl.lg];exact hk
   exact h.now.neP cP (zF hk) e.symm
 have aP:=h.rd.chg a6 (by simp)
 have aY:∀ w2 pos',IsRd w2 b F ds pos'->Chg [b] w1 w2->GbSt w1 p q bs s b F ds pos' gP capP xs gs w2 0:=fun w2 pos' hr hc =>
  ⟨hr,(h.now.same a6).chg hc (by simpa using fun e=>bh (by simp [e])) (by
   intro x hx ad
   simp at ad
   subst ad
   exact h.fG _ h.rd.mem (by simp [hx])),hc.mono (by simp)⟩
 have bM:∀ w2,Chg (b::gs) w w2->Pts w2:=fun w2 hc=>h.pts.chg hc fun ad=>by
  rcases zJ.1 ad with e | h1
  ·exact h.f0 (by rw [e];exact h.rd.mem)
  ·exact h.g0 h1
 have bJ:=h.fG
 have cc:=h.f0
 have ce:=fun i=>oldB_zero ha i s
 have aG:∀ i,(oldB p i s m).length=M:=fun i=>by rw [oldB_len,hM]
 have aB:∀ i,i<n->(p.P.getD i []).length=N/\(q.P.getD i []).length=N:=fun i hi=>⟨by rw [hN];exact aj.len _ (plane_mem (by omega)),by rw [hN,ha.W,ha.H];exact ap.len _ (plane_mem (by omega))⟩
 have au:∀ k,k<s.h->(s.y+k)*p.W+s.x+s.w<=N:=fun k hk=>by
  have h1:=hs.x
  have h2:s.y+k+1<=p.H:=by have:=hs.y;omega
  have h3:=Nat.mul_le_mul_right p.W h2
  rw [Nat.succ_mul,zY p.H,<-hN] at h3
  omega
 have aW:∀ k,k<s.h->k*s.w+s.w<=M:=fun k hk=>by
  have h3:=Nat.mul_le_mul_right s.w (show k+1<=s.h by omega)
  rw [Nat.succ_mul,<-hM] at h3
  exact h3
 have ak:∀ i k,i<n->k<s.h->_:=fun i k hi hk=>copy_row_eq (q:=q.P.getD i []) (l:=p.P.getD i []) (W:=p.W) (H:=p.H) (bs:=bs) (sx:=s.x) (sy:=s.y) (sw:=s.w) (sh:=s.h) (k:=k) (by rw [(aB i hi).1,(aB i hi).2]) (by rw [(aB i hi).1,hN]) hs.x hs.y hk
 have b5:∀ i,i<n->oldB p i s m=partF (q.P.getD i []) p.W s.x s.y s.w s.h:=fun i hi=>by rw [same_at hsame (by omega),ce i]
 obtain ⟨e1,cb⟩:∃ e1:Nat,m.1+4=(e1:Int):=⟨(m.1+4).toNat,by have:=hm.1;omega⟩
 obtain ⟨e2,bP⟩:∃ e2:Nat,m.2+4=(e2:Int):=⟨(m.2+4).toNat,by have:=hm.2.2.1;omega⟩
 have dj:e1<=8:=by have:=hm.2.1;omega
 have dm:e2<=8:=by have:=hm.2.2.2.1;omega
 have aE:vecBits m=bitsOf e1 4++bitsOf e2 4:=by
  unfold vecBits
  rw [cb,bP]
  rfl
 have z1:(e1:Int)-4=m.1:=by omega
 have z2:(e2:Int)-4=m.2:=by omega
 have y1:IntKind.i64.wrap (e1:Int)=(e1:Int):=IntWalk.i64_in _ (by omega)
 have y2:IntKind.i64.wrap (e2:Int)=(e2:Int):=IntWalk.i64_in _ (by omega)
 have z3 : -4<=m.1:=by omega
 have z4:m.1<=4:=by omega
 have z5 : -4<=m.2:=by omega
 have z6:m.2<=4:=by omega
 have b9:=hid ax
 have bf:=hid ba
 have cV:=hid be
 have dl:=hid bU
 have af:=hid aq
 have cs:=hid aY
 have dg:=hid bM
 have bR:=hid bJ
 have aJ:=hid aG
 have b4:=hid aB
 have cO:=hid au
 have cN:=hid aW
 have cx:=hid ak
 have bC:=hid aE
 have cW:=hid bh
 have ay:=hid cd
 have bN:=hid aP
 have ca:=hid a6
 have cB:=hid aj
 have cz:=hid ap
 have HA:=hid ha
 have bY:=hid hah
 have HN:=hid hn
 have cU:=hid hN
 have HM:=hid hM
 have df:=hid cc
 have cI:=hid b5
 have an:=hid hsame
 obtain ⟨⟨a0,a1,a2,a3⟩,⟨b0,b3⟩,⟨s0,s1,s2,s3⟩⟩:=aq [] w1 (zR _ _) (by simp)
 have H9:=hid (show m.1=0->m.2=0->m=(0,0) from fun a b=>Prod.ext a b)
 clear ax aV bF a4 ba be bU aq aY bM bJ aG aB au aW ak aE bh cd aP a6 aj ap ha hah hn hN hM cc b5 ce hs hm aI hsame bS cb bP h
 have bl:m=(0,0)\/(¬ m=(0,0)/\(m.1==0)=false)\/(¬ m=(0,0)/\(m.1==0)=true/\(m.2==0)=false):=by
  by_cases ag:m=(0,0)
  ·exact .inl ag
  ·right
   by_cases q1:m.1=0
   ·right
    exact ⟨ag,by simpa using q1,by simpa using fun q2=>ag (H9.out q1 q2)⟩
   ·left
    exact ⟨ag,by simpa using q1⟩
 rcases bl with ag | ⟨ag,dc⟩ | ⟨ag,dc,dv⟩
 have aa:blockBits p q s m=bitsOf 0 2:=by unfold blockBits;rw [if_pos an.out,if_pos ag]
 obtain ⟨ab,ar⟩:=zX (pos+2)
 have aM:Hid (pos+(blockBits p q s m).length=ab):=hid (by rw [aa,bitsOf_len,ar])
 have hh:=bY.out
 rw [aa] at hh
 have az:=rget_ahead w1 b F ds pos 2 0 bN.out (by omega) (by decide) hh
 rw [<-ar] at az
 have m1:m.1=0:=by rw [ag]
 have m2:m.2=0:=by rw [ag]
 have c4:=hid (And.intro m1 m2)
 have ao:=bf.out
 rw [m1,m2] at ao
 have bf:=hid ao
 clear aa ar hh ao m1 m2 ag z1 z2 z3 z4 z5 z6 y1 y2
 go_enter Tryz.func99,Tryz.ntmps99
 go_wp2_with fail
 rw [<-b9.out]
 refine az.mono ?_
 rintro e w2 ⟨rfl,aw,aH⟩
 have ac:=err_ok w2 b F ds ab aw
 have a9:=hid (cs.out w2 ab aw aH)
 obtain ⟨⟨a0,a1,a2,a3⟩,⟨b0,b3⟩,⟨s0,s1,s2,s3⟩⟩:=af.out (b::gs) w2 a9.out.chg ay.out
 clear az aw
 go_wp2_with (go_at_call 84;refine ac.mono ?_;rintro e w' ⟨rfl,rfl⟩)
 clear a0 a1 a2 a3 b0 b3 s0 s1 s2 s3 ac aH
 rotate_left
 iterate 2
  have aa:blockBits p q s m=bitsOf 1 2++vecBits m:=by unfold blockBits;rw [if_pos an.out,if_neg ag]
  clear ag
  have hh:=bY.out
  rw [aa] at hh
  have az:=rget_ahead w1 b F ds pos 2 1 bN.out (by omega) (by decide) hh.left
  have aD:=hh.right
  rw [bitsOf_len] at aD
  rw [bC.out] at aD
  have cq:=aD.left
  have bA:=aD.right
  rw [bitsOf_len] at bA
  obtain ⟨ab,ar⟩:=zX (pos+2+4+4)
  have aM:Hid (pos+(blockBits p q s m).length=ab):=hid (by rw [aa,zC,bitsOf_len,vecBits_len,ar])
  have aN:=fun w' hr=>rget_ahead w' b F ds (pos+2) 4 e1 hr (by omega) (by omega) cq
  have aA:=fun w' hr=>rget_ahead w' b F ds (pos+2+4) 4 e2 hr (by omega) (by omega) bA
  rw [<-ar] at aA
  have cJ:=hid aN
  have cv:=hid aA
  clear aa ar hh aD cq bA aN aA
  go_enter Tryz.func99,Tryz.ntmps99
  go_wp2_with fail
  rw [<-b9.out]
  refine az.mono ?_
  rintro e w2 ⟨rfl,aw,aH⟩
  have ac:=err_ok w2 b F ds _ aw
  have aN:=cJ.out w2 aw
  have bu:=hid aH
  clear az aw aH
  go_wp2_with (go_at_call 84;refine ac.mono ?_;rintro e w' ⟨rfl,rfl⟩)
  refine aN.mono ?_
  rintro e w3 ⟨rfl,cm,ch⟩
  have aA:=cv.out w3 cm
  have bD:=hid (bu.out.trans_same ch)
  clear aN ac cm ch
  go_wp2_with fail
  refine aA.mono ?_
  rintro e w4 ⟨rfl,bo,bI⟩
  have ac:=err_ok w4 b F ds _ bo
  have aU:=hid (bD.out.trans_same bI)
  have cZ:=hid bo
  obtain ⟨⟨a0,a1,a2,a3⟩,⟨b0,b3⟩,⟨s0,s1,s2,s3⟩⟩:=af.out [b] w4 aU.out (fun k hk ad=>ay.out k hk (by simp at ad;simp [ad]))
  clear aA bo bI
  go_wp2_with (go_at_call 84;refine ac.mono ?_;rintro e w' ⟨rfl,rfl⟩)
  refine (cV.out _).mono ?_
  rintro e w5 ⟨rfl,am⟩
  have aO:=aU.out.trans_same (am.mono (F':=[b]) (by simp))
  have a9:=hid (cs.out w5 ab (cZ.out.chg am (by simp)) aO)
  obtain ⟨⟨a0,a1,a2,a3⟩,⟨b0,b3⟩,⟨s0,s1,s2,s3⟩⟩:=af.out (b::gs) w5 a9.out.chg ay.out
  clear am aO ac
  go_wp2_with fail
  clear a0 a1 a2 a3 b0 b3 s0 s1 s2 s3
  rotate_left
 all_goals
  go_loopg [14,15,16,17,18,19,67] n (fun j v14 v15 v16 v17 v18 v19 v67 wr=>∃ i:Nat,v67=.int .i64 i/\i+j=n/\Hid (GbSt w1 p q bs s b F ds ab gP capP xs gs wr i))
  case atStart=>exact ⟨0,rfl,by omega,a9⟩
  case round =>
   obtain ⟨i,rfl,dh,HS⟩:=hrel
   rcases gk with _ | j
   ·obtain rfl:i=n:=by omega
    have t1:decide (i<i)=false:=by simp
    go_wp2_with fail
    go_ret
    have br:=HS.out
    refine ⟨rfl,?_,?_,?_⟩
    ·rw [aM.out]
     exact br.rd
    ·exact br.now
    ·exact (ca.out.mono (by simp)).trans_same br.chg
   ·have hi:i<n:=by omega
    have t1:decide (i<n)=true:=zB hi
    have bd:i<p.P.length:=by rw [<-HN.out];exact hi
    obtain ⟨wr0,rfl⟩:=zX (wr)
    have bg:Chg (b::gs) w wr0:=(ca.out.mono (by simp)).trans_same HS.out.chg
    obtain ⟨⟨a0,a1,a2,a3⟩,⟨b0,b3⟩,⟨s0,s1,s2,s3⟩⟩:=af.out (b::gs) wr0 HS.out.chg ay.out
    have bV:=bf.out wr0 bg i hi
    obtain ⟨gi,ci,a7,bp,ah,ae⟩:=HS.out.now.plane (i:=i) (by rw [bwP_len];exact bd)
    have cj:(bwP p q bs s i).P.getD i []=mixF (q.P.getD i []) (p.P.getD i []) p.W bs:=by
     rw [zD,bwP_get bs s i bd,if_neg (by omega)]
     rfl
    rw [cj] at ah
    change Row wr0 3 (.slice (some ⟨gi,0,none⟩) (p.W*p.H) ci) gi _ at ah
    change wr0.cell? ⟨gP,i,none⟩=some (.slice (some ⟨gi,0,none⟩) (p.W*p.H) ci) at ae
    change xs[i]?=some (.slice (some ⟨gi,0,none⟩) (p.W*p.H) ci) at a7
    rw [<-cU.out] at ah ae a7
    have aZ:=HS.out.now.ltP
    have aX:gi∈gs:=List.mem_of_getElem? bp
    have aC:∀ wz,Chg (b::gs) wr0 wz->wz.cell? ⟨gP,i,none⟩=some (.slice (some ⟨gi,0,none⟩) N ci):=fun wz hz=>(World.cell?_of_block (w:=wr0) (hz.block gP aZ cW.out)).trans ae
    have bw:N<=ci:=by
     obtain ⟨_,e,h1,_⟩:=ah.open_
     injection e with _ e3 e4
     subst e4
     rw [zE,mixF_len,(b4.out i hi).1] at h1
     exact h1
    have c0:=hid a7
    have cA:=hid bp
    have cr:=hid ah
    have cM:=hid aC
    have cp:=hid aX
    have dr:=hid bg
    have da:=hid bd
    clear a7 bp ah ae aC cj aZ aX bg bd
    go_wp2_with fail
    refine bV.mono ?_
    rintro e w5 ⟨v5,F5,rfl,aL,am,b1⟩
    clear bV
    rcases aL.cases with ⟨_,he,_⟩ | ⟨g5,ai,aS⟩
    ·exfalso
     have:=aJ.out i
     rw [List.map_eq_nil_iff.1 he] at this
     simp at this
     omega
    have av:=ai
    obtain ⟨c5,rfl,bW,cR,al,bv⟩:=ai.open_map
    have bK:wr0.heap.size<=g5:=b1 g5 (by rw [aS];simp)
    rw [aJ.out i] at bW av ⊢
    have cK:=hid av
    have cT:=hid bK
    have dq:=hid am
    have aT:gi<wr0.heap.size:=cr.out.lt
    have bm:=hid aT
    clear aL ai av al bv aS b1 bK aT cR a0 a1 a2 a3 b0 b3 s0 s1 s2 s3
    obtain ⟨w6,rfl⟩:=zX (w5)
    have bk:=hid (HS.out.rd.chg am (by simp))
    have bb:Hid (Chg [b] wr0 w6):=hid (am.mono (by simp))
    have bi:=cK.out
    rw [cI.out i hi] at bi
    have c6:=hid bi
    have dk:Hid (ab=ab):=hid rfl
    clear bi am
    have aK:Chg (b::gs) w1 w6:=HS.out.chg.trans_same (bb.out.mono (by simp))
    obtain ⟨⟨a0,a1,a2,a3⟩,⟨b0,b3⟩,⟨s0,s1,s2,s3⟩⟩:=af.out (b::gs) w6 aK ay.out
    clear aK
    have ck:Row w6 3 (.slice (some ⟨gi,0,none⟩) N ci) gi ((mixF (q.P.getD i []) (p.P.getD i []) p.W (bs++[⟨s.x,s.y,s.w,0⟩])).map vi):=by
     rw [mixF_flat _ _ _ _ _ rfl]
     refine cr.out.chg bb.out ?_
     intro ad
     simp at ad
     subst ad
     exact bR.out _ HS.out.rd.mem (by simp [cp.out])
    have c8:=hid ck
    clear ck
    go_wp2_with fail
    go_loopg [19,116] s.h (fun j2 v19 v116 wr2=>∃ k:Nat,v116=.int .i64 k/\k+j2=s.h/\Hid (Row wr2 3 (.slice (some ⟨gi,0,none⟩) N ci) gi ((mixF (q.P.getD i []) (p.P.getD i []) p.W (bs++[⟨s.x,s.y,s.w,k⟩])).map vi))/\Hid (Chg [gi] w6 wr2))
    case atStart=>exact ⟨0,rfl,by omega,c8,hid (zR _ _)⟩
    case round =>
     obtain ⟨k,rfl,dn,bZ,a5⟩:=hrel
     have bc:Chg (b::gs) wr0 wr:=(bb.out.mono (F':=b::gs) (by simp)).trans a5.out (fun x hx=>by
      simp at hx
      subst hx
      exact .inl (by simp [cp.out]))
     rcases gk with _ | j2
     ·have cn:k=s.h:=by omega
      have t2:decide (k<s.h)=false:=zA (by omega)
      have bB:=bZ.out
      rw [cn] at bB
      have bO:=HS.out.next cB.out cz.out HA.out da.out bR.out (by rw [c0.out]) cA.out bk.out bb.out a5.out bB
      have cS:=hid bO
      clear bB bO cn bc
      go_wp2_with fail
      go_roundg j
      case measure=>omega
      case rel=>exact ⟨i+1,by go_num,by omega,cS⟩
     ·have hk:k<s.h:=by omega
      have t2:decide (k<s.h)=true:=zB hk
      obtain ⟨Yk,cf⟩:=zX (s.y+k)
      have eY:(s.y:Int)+(k:Int)=(Yk:Int):=by omega
      have au:=cO.out k hk
      have aW:=cN.out k hk
      have ak:=cx.out i k hi hk
      rw [<-cf] at au ak
      obtain ⟨P0,bG⟩:=zX (Yk*p.W)
      have eP:(Yk:Int)*(p.W:Int)=(P0:Int):=by rw [bG];simp
      rw [<-bG] at au ak
      obtain ⟨at_,b2⟩:=zX (P0+s.x)
      have eQ:(P0:Int)+(s.x:Int)=(at_:Int):=by omega
      rw [<-b2] at au ak
      obtain ⟨lo,a8⟩:=zX (k*s.w)
      have eL:(k:Int)*(s.w:Int)=(lo:Int):=by rw [a8];simp
      rw [<-a8] at aW ak
      obtain ⟨k1,bL⟩:=zX (k+1)
      have eK:(k:Int)+1=(k1:Int):=by omega
      obtain ⟨bE,bn⟩:=zX (lo+s.w)
      have eH:(k1:Int)*(s.w:Int)=(bE:Int):=by rw [bL,bn,a8];simp [Int.add_mul]
      have bz:at_<N:=by omega
      have c9:=slice_at (P:=Tryz.prog) Tryz.underlying22 size_int gi N ci at_ bz bw
      obtain ⟨A',di,-,cg⟩:=slice_mid (P:=Tryz.prog) Tryz.underlying22 size_int (some ⟨g5,0,none⟩) M c5 lo s.w bE bn (by omega) bW
      have aQ:g5∉[gi]:=fun ad=>by
       simp at ad
       have:=cT.out
       have:=bm.out
       omega
      have av:=c6.out.chg a5.out aQ
      obtain ⟨_,-,-,-,al,-⟩:=av.open_map
      have b6:Cells vi wr (some ⟨g5,0,none⟩) (partF (q.P.getD i []) p.W s.x s.y s.w s.h):=⟨fun _=>⟨g5,0,rfl,av.lt,fun k a hk=>by rw [Nat.zero_add];exact al k a hk⟩⟩
      obtain ⟨R,hR⟩:=zX (((partF (q.P.getD i []) p.W s.x s.y s.w s.h).drop lo).take s.w)
      have bT:Cells vi wr A' R:=by rw [hR];exact cg Int vi wr _ (by rw [partF_len,HM.out]) b6
      have ct:R.length=s.w:=by rw [hR,zI,zO,partF_len,<-HM.out];omega
      rw [<-hR] at ak
      have bH:((mixF (q.P.getD i []) (p.P.getD i []) p.W (bs++[⟨s.x,s.y,s.w,k⟩])).map vi).length=N:=by rw [zE,mixF_len,(b4.out i hi).1]
      have cu:=cM.out wr bc
      have aR:Chg (b::gs) w1 wr:=HS.out.chg.trans_same bc
      obtain ⟨⟨a0,a1,a2,a3⟩,⟨b0,b3⟩,⟨s0,s1,s2,s3⟩⟩:=af.out (b::gs) wr aR ay.out
      have bj:=hid bT
      have bq:=hid ak
      have cX:=hid ct
      have cH:=hid bH
      have c2:Yk<=72:=by omega
      have de:P0<=4096:=by omega
      have cL:at_<=4096:=by omega
      have cY:lo<=64:=by omega
      have c1:bE<=64:=by omega
      have cD:k1<=8:=by omega
      have aF:Hid (at_+s.w<=N/\s.w<=N-at_):=hid ⟨by omega,by omega⟩
      clear cf bG b2 a8 bL bn au aW ak cg aQ av al b6 hR bT ct bH aR bc a0 a1 a2 a3
      go_wp2_with fail
      refine wp_region_quiet_tail 27 (by kernel_rfl) (by kernel_rfl) ?_
      simp only [List.take_succ_cons,List.take_zero,List.drop_succ_cons,List.drop_zero]
      repeat (go_big_quiet_step (fail))
      refine wpQuiet_nil ?_
      intro _ cC
      obtain ⟨nq,rfl⟩:=cC
      have cl:=bZ.out.drewN nq
      go_wp2_with (refine wpList_copy_row rfl (.tmp 134) (.tmp 145) 22 22 rfl Tryz.underlying22 (by kernel_rfl) cl at_ (N-at_) (ci-at_) s.w (c5-lo) rfl rfl (R.map vi) ?n1 ?n2 ?n3 ?n4 ?n5 ?n6 ?_)
      case n1=>rw [zE];exact cX.out
      case n2=>exact bQ
      case n3=>exact aF.out.2
      case n4 =>
       have h1:=bj.out.drewN nq
       refine ⟨fun h0 => ?_⟩
       obtain ⟨b,o,e1,e2,e3⟩:=h1.ex (by simpa using h0)
       refine ⟨b,o,e1,e2,fun i a ha => ?_⟩
       rw [zW] at ha
       obtain ⟨x,hx,rfl⟩:=Option.map_eq_some_iff.1 ha
       exact e3 i x hx
      case n5=>rw [cH.out];exact aF.out.1
      case n6 =>
       intro u hu
       obtain ⟨x,_,rfl⟩:=List.mem_map.1 hu
       rfl
      intro w7 bx b7
      rw [<-zD,<-zD,bq.out] at bx
      have cQ:=hid bx
      have c3:Hid (Chg [gi] w6 w7):=hid ((a5.out.drewN nq).trans_same b7)
      clear bx b7 cl
      go_wp2_with fail
      go_roundg j2
      case measure=>omega
      case rel=>exact ⟨k+1,by go_num,by omega,cQ,c3⟩
end Go.Proofs.YtklocammllljiaaGreatDoor
