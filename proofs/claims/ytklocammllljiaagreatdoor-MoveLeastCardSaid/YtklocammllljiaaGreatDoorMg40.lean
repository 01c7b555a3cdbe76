/- package kinorakeep2 by its contracts, the third part: Plane. -/
import Derived.Test.YtklocammllljiaaGreatDoorMg29
set_option linter.unusedVariables false
set_option linter.unusedSimpArgs false
set_option maxHeartbeats 4000000
set_option maxRecDepth 100000
namespace Go.Proofs.YtklocammllljiaaGreatDoor
open Go.RowKit
theorem plane_round {w3 wx w4:World} {b cap a2 d P r i j n rb s:Nat} {A:Option Addr} {L:List Int} {l:List Int} {F:List Nat} {g2 cap2:Nat} {o:Obj}
  (hrw:IsRw wx rb s) (htp:IsTp wx b A cap L a2) (hch:Chg [rb] w3 wx) (hF:∀ x∈F,rb<x) (hll:l.length=i) (hsm:SmpOk d l) (hrP:r<P) (hP:P=2^d)
  (hsz:w3.heap.size<=wx.heap.size) (hs3:w3.heap.size=rb+1) (hb:b<rb) (hap:Apt A L F) (hij:i+(j+1)=n)
  (hr4:Row w4 3 (.slice (some ⟨g2,0,none⟩) (i+1) cap2) g2 (l.map vi++[.int .i64 r])) (gr4:Grow F [g2] (wx.alloc o) w4) :
  ∃ (i' s':Nat) (l':List Int) (F':List Nat),Value.int .i64 ((i:Int)+1)=.int .i64 i'/\i'+j=n/\Own w4 3 (.slice (some ⟨g2,0,none⟩) (i+1) cap2) F' (l'.map vi)/\l'.length=i'/\Hid (SmpOk d l')/\IsRw w4 rb s'/\(∀ x∈F',rb<x)/\IsTp w4 b A cap L a2/\Chg [rb] w3 w4:=by
 have aa:Chg F wx w4:=((zR [] wx).alloc o).mono (by simp) |>.trans_same gr4.chg
 have ab:rb∉F:=fun hm=>by have:=hF rb hm;omega
 have ac:b∉F:=fun hm=>by have:=hF b hm;omega
 refine ⟨i+1,s,l++[(r:Int)],[g2],by simp,by omega,?_,by simp [hll],?_,⟨hrw.1.chg aa ab,hrw.2⟩,?_,?_,?_⟩
 ·have:=hr4.toOwn
  simpa [vi] using this
 ·refine hid ?_
  intro z hz
  rcases zP.1 hz with h1 | h1
  ·exact hsm z h1
  ·simp at h1
   subst h1
   have e:(2:Int)^d=(P:Int):=by rw [hP];simp
   rw [e]
   omega
 ·intro y hy
  simp at hy
  subst hy
  rcases gr4.new y (by simp) with h1 | h1
  ·exact hF y h1
  ·simp at h1
   omega
 ·exact htp.same aa ac hap
 ·exact hch.trans aa fun x hx => .inr (by have:=hF x hx;omega)
theorem plane_tp (w:World) (b cap at_ W H d:Nat) (A:Option Addr) (L:List Int) (h:IsTp w b A cap L at_) (hw0:1<=W) (hw1:W<=64) (hh0:1<=H) (hh1:H<=64) (h0:1<=d) (h1:d<=16) :
  Calls Tryz.prog 57 #[.pointer (some ⟨b,0,none⟩),.int .i64 W,.int .i64 H,.int .i64 d] w fun e w'=>∃ (v:Value) (g:Nat) (l:List Int) (at':Nat),e=.returned v/\Row w' 3 v g (l.map vi)/\l.length=W*H/\SmpOk d l/\IsTp w' b A cap L at'/\Chg [b] w w'/\w.heap.size<=g:=by
 have a8:=next_tp w b cap at_ 7 A L h (by omega) (by omega)
 obtain ⟨n,hn⟩:=zX (W*H)
 have bI:(W:Int)*(H:Int)=(n:Int):=by rw [hn];simp
 have bM:n<=4096:=by rw [hn];exact zL hw1 hh1
 have bA:1<=n:=by rw [hn];exact Nat.mul_pos hw0 hh0
 have bC:n<=64*W:=by rw [hn,zY];exact Nat.mul_le_mul_right W hh1
 obtain ⟨P,hP⟩:=zX (2^d)
 have bQ:(2:Int)^d=(P:Int):=by rw [hP];simp
 have bS:1<=P:=by rw [hP];exact Nat.two_pow_pos d
 have bT:P<=65536:=by rw [hP];exact Nat.pow_le_pow_right (n:=2) (by decide) h1
 have bz:(P:Int)≠0:=by omega
 have bm:(W:Int)≠0:=by omega
 have HP:=hid hP
 have HN:=hid hn
 have bF:=h.blk.lt
 rw [<-hn]
 clear hn hP h
 go_enter Tryz.func57,Tryz.ntmps57
 go_wp2_with fail
 refine a8.mono ?_
 rintro e w1 ⟨kd,a1,rfl,bN,aP,aC⟩
 have aO:=next_tp w1 b cap a1 1048576 A L aP (by omega) (by omega)
 clear a8 aP
 go_wp2_with fail
 refine aO.mono ?_
 rintro e w2 ⟨sd,a2,rfl,bO,ac,a9⟩
 obtain ⟨rb,aU⟩:=zX (w2.heap.size)
 obtain ⟨w3,aJ⟩:=zX (w2.alloc (.cells #[.int .i64 sd] 144))
 have aF:IsRw w3 rb sd:=⟨by rw [aJ,aU];exact Blk.new w2 _ _,by omega⟩
 have aG:Hid (∀ F:List Nat,(∀ x∈F,rb<x)->Apt A L F):=hid (fun F hF=>Apt.fresh ac.cells (fun x hx=>by have:=hF x hx;omega))
 have aE:Hid (Apt A L [rb]):=hid (Apt.fresh ac.cells (by simp;omega))
 have aL:IsTp w3 b A cap L a2:=ac.fresh (by rw [aJ];exact (zR [] w2).alloc _)
 have aI:=aC.trans_same a9
 have bK:=aI.size
 have a4:Chg [b] w w3:=by rw [aJ];exact aI.alloc _
 have an:rb≠b:=by have:=ac.blk.lt;omega
 have am:Hid (b<rb):=hid (by have:=ac.blk.lt;omega)
 have bb:w3.heap.size=rb+1:=by rw [aJ,aU];simp
 have bq:=hid aJ
 have bd:=hid aU
 have aD:=hid bb
 have aX:w.heap.size<=rb:=by omega
 clear aO ac aC a9 aI aJ aU bb
 go_wp2_with fail
 rw [<-bq.out,<-bd.out]
 go_loopg [13,14,15,16,17] n (fun j vo vi' v15 v16 v17 wr=>∃ (i s:Nat) (l:List Int) (F:List Nat),vi'=.int .i64 i/\i+j=n/\Own wr 3 vo F (l.map vi)/\l.length=i/\Hid (SmpOk d l)/\IsRw wr rb s/\(∀ x∈F,rb<x)/\IsTp wr b A cap L a2/\Chg [rb] w3 wr)
 case atStart=>exact ⟨0,sd,[],[],rfl,by omega,Own.nil _ _,rfl,hid (by intro s hs;simp at hs),aF,by simp,aL,zR _ _⟩
 case round =>
  clear aF aL
  obtain ⟨i,s,l,F,rfl,bD,ay,aH,aB,aF,hF,a0,aZ⟩:=hrel
  obtain ⟨Ao,co,rfl,bn,bf,_⟩:=ay.open_map
  rcases gk with _ | j
  ·obtain rfl:i=n:=by omega
   have aY:Chg [b] w wr:=a4.trans aZ (fun x hx=>by rw [zU.1 hx];exact .inr aX)
   rcases ay.cases with ⟨_,aW,_⟩ | ⟨g,a3,rfl⟩
   ·exfalso
    have:=congrArg List.length aW
    rw [zE] at this
    simp at this
    rw [this] at aH
    simp at aH
    omega
   have bB:=hF g (by simp)
   clear ay hF
   go_wp2
   go_ret
   exact ⟨_,g,l,a2,rfl,a3,aH,aB.out,a0,aY,by omega⟩
  ·have bH:i<n:=by omega
   obtain ⟨x,hx⟩:=zX (i%W)
   obtain ⟨y,hy⟩:=zX (i / W)
   have aM:x<64:=by have:=Nat.mod_lt i (show W>0 by omega);omega
   have aN:y<64:=by rw [hy];exact Nat.div_lt_of_lt_mul (by rw [zY];omega)
   have bh:(i:Int)%(W:Int)=(x:Int):=by rw [hx];simp
   have bw:(i:Int) / (W:Int)=(y:Int):=by rw [hy];simp
   have bR:(i:Int).tmod (W:Int)=(x:Int):=by rw [Int.tmod_eq_emod_of_nonneg (by omega)];exact bh
   have bG:(i:Int).tdiv (W:Int)=(y:Int):=by rw [Int.tdiv_eq_ediv_of_nonneg (by omega)];exact bw
   have a7:=fun n (a:1<=n) (b:n<=1073741824) w' (hc:Chg [] wr w')=>next_rw w' rb s n ⟨aF.1.chg hc (by simp),aF.2⟩ a b
   have ba:=hid a7
   have ao:=hid a0
   have a5:=hid aF
   have ae:Hid (Own wr 3 (.slice Ao i co) F (l.map vi)):=hid (by rw [<-aH];exact ay)
   rw [aH]
   have af:=hid aH
   have aj:=hid hF
   have ap:=hid aZ
   clear hx hy a7 a0 aF ay hF aZ aH bn
   go_wp2
   go_quiet (fail)
   obtain ⟨p3,bi⟩:=zX (x / 3)
   obtain ⟨p4,bv⟩:=zX (y / 4)
   have bs:p3<64:=by omega
   have bu:p4<64:=by omega
   have x3:(x:Int) / 3=(p3:Int):=by omega
   have y4:(y:Int) / 4=(p4:Int):=by omega
   have bE:(x:Int).tdiv 3=(p3:Int):=by rw [Int.tdiv_eq_ediv_of_nonneg (by omega)];exact x3
   have bP:(y:Int).tdiv 4=(p4:Int):=by rw [Int.tdiv_eq_ediv_of_nonneg (by omega)];exact y4
   obtain ⟨xx,a6⟩:=zX (x*x)
   obtain ⟨yy,aV⟩:=zX (y*y)
   have bx:xx<=4096:=by rw [a6];exact zL (Nat.le_of_lt aM) (Nat.le_of_lt aM)
   have br:yy<=4096:=by rw [aV];exact zL (Nat.le_of_lt aN) (Nat.le_of_lt aN)
   have bj:(x:Int)*(x:Int)=(xx:Int):=by rw [a6];simp
   have bg:(y:Int)*(y:Int)=(yy:Int):=by rw [aV];simp
   obtain ⟨p2,bp⟩:=zX (yy / 2)
   have bo:p2<=4096:=by omega
   have y2:(yy:Int) / 2=(p2:Int):=by omega
   have bL:(yy:Int).tdiv 2=(p2:Int):=by rw [Int.tdiv_eq_ediv_of_nonneg (by omega)];exact y2
   obtain ⟨mm,bk⟩:=zX ((x+3*y)%5)
   have bJ:mm<5:=by omega
   have bl:((x:Int)+3*(y:Int))%5=(mm:Int):=by omega
   have be:((x:Int)+3*(y:Int)).tmod 5=(mm:Int):=by rw [Int.tmod_eq_emod_of_nonneg (by omega)];exact bl
   clear a6 aV bk bp bi bv
   obtain ⟨wy,aR⟩:=zX (wr.drewN nq)
   have HQ:Hid (Chg [rb] wr wy):=hid (by rw [aR];exact ((zR [] wr).drewN nq).mono (by simp))
   have bc:=fun n a b=>ba.out n a b wy (by rw [aR];exact (zR [] wr).drewN nq)
   have az:Hid (IsRw wy rb s):=hid (by rw [aR];exact ⟨a5.out.1.drewN _,a5.out.2⟩)
   have aA:=hid bc
   rw [<-aR]
   clear ba a5 bc aR
   rcases (by omega:kd=0\/kd=1\/kd=2\/kd=3\/kd=4\/kd=5\/kd=6) with rfl | rfl | rfl | rfl | rfl | rfl | rfl
   ·obtain ⟨v,rfl⟩:=zX (sd)
    obtain ⟨r,hr⟩:=zX (v%P)
    have ak:r<P:=by rw [hr];exact Nat.mod_lt _ (by omega)
    have au:(v:Int)%(P:Int)=(r:Int):=by rw [hr];simp
    have aK:(v:Int).tmod (P:Int)=(r:Int):=by rw [Int.tmod_eq_emod_of_nonneg (by omega)];exact au
    have aa:Chg [rb] wr wy:=HQ.out
    have ad:Own wy 3 (.slice Ao i co) F (l.map vi):=ae.out.chg aa (fun y hy=>by have:=aj.out y hy;simp;omega)
    have ah:=az
    have ab:=ap.out.trans_same aa
    have ac:=ao.out.same aa (by simpa using an.symm) aE.out
    have ag:=hid ac
    have ai:=hid ab
    have ar:=hid ak
    have aq:=hid ab.size
    clear hr ak ac aa ab aA ao ae ap HQ az
    go_wp2_with (at_builtin;refine wpList_append_o1 rfl rfl int_elem rfl rfl (ad.alloc _) (.int .i64 r) rfl ?c1 ?c2 ?c3 ?c4 ?_)
    case c1=>simp [go_sem]
    case c2=>rfl
    case c3=>rw [zE,af.out];omega
    case c4=>rw [zE,af.out];omega
    intro g2 aw w4 al av
    rw [af.out] at al ⊢
    go_wp2_with fail
    go_roundg j
    case measure=>omega
    case rel=>exact plane_round ah.out ag.out ai.out aj.out af.out aB.out ar.out HP.out aq.out aD.out am.out (aG.out F aj.out) (by omega) al av
   ·have ax:=aA.out 65536 (by omega) (by omega)
    rw [show ((65536:Nat):Int)=65536 from rfl] at ax
    go_wp2_with fail
    refine ax.mono ?_
    rintro e wz ⟨q,s1,rfl,hq,aQ,aC⟩
    clear ax
    obtain ⟨v,rfl⟩:=zX (q)
    obtain ⟨r,hr⟩:=zX (v%P)
    have ak:r<P:=by rw [hr];exact Nat.mod_lt _ (by omega)
    have au:(v:Int)%(P:Int)=(r:Int):=by rw [hr];simp
    have aK:(v:Int).tmod (P:Int)=(r:Int):=by rw [Int.tmod_eq_emod_of_nonneg (by omega)];exact au
    have aa:Chg [rb] wr wz:=HQ.out.trans_same aC
    have ad:Own wz 3 (.slice Ao i co) F (l.map vi):=ae.out.chg aa (fun y hy=>by have:=aj.out y hy;simp;omega)
    have ah:=hid aQ
    have ab:=ap.out.trans_same aa
    have ac:=ao.out.same aa (by simpa using an.symm) aE.out
    have ag:=hid ac
    have ai:=hid ab
    have ar:=hid ak
    have aq:=hid ab.size
    clear hr ak ac aa ab aA ao ae ap HQ az
    go_wp2_with (at_builtin;refine wpList_append_o1 rfl rfl int_elem rfl rfl (ad.alloc _) (.int .i64 r) rfl ?c1 ?c2 ?c3 ?c4 ?_)
    case c1=>simp [go_sem]
    case c2=>rfl
    case c3=>rw [zE,af.out];omega
    case c4=>rw [zE,af.out];omega
    intro g2 aw w4 al av
    rw [af.out] at al ⊢
    go_wp2_with fail
    go_roundg j
    case measure=>omega
    case rel=>exact plane_round ah.out ag.out ai.out aj.out af.out aB.out ar.out HP.out aq.out aD.out am.out (aG.out F aj.out) (by omega) al av
   ·have ax:=aA.out 3 (by omega) (by omega)
    rw [show ((3:Nat):Int)=3 from rfl] at ax
    go_wp2_with fail
    refine ax.mono ?_
    rintro e wz ⟨q,s1,rfl,hq,aQ,aC⟩
    clear ax
    obtain ⟨v,hv⟩:=zX (sd+3*x+2*y+q)
    have aT:(sd:Int)+3*(x:Int)+2*(y:Int)+(q:Int)=(v:Int):=by omega
    have aS:v<1073741824:=by omega
    clear hv
    obtain ⟨r,hr⟩:=zX (v%P)
    have ak:r<P:=by rw [hr];exact Nat.mod_lt _ (by omega)
    have au:(v:Int)%(P:Int)=(r:Int):=by rw [hr];simp
    have aK:(v:Int).tmod (P:Int)=(r:Int):=by rw [Int.tmod_eq_emod_of_nonneg (by omega)];exact au
    have aa:Chg [rb] wr wz:=HQ.out.trans_same aC
    have ad:Own wz 3 (.slice Ao i co) F (l.map vi):=ae.out.chg aa (fun y hy=>by have:=aj.out y hy;simp;omega)
    have ah:=hid aQ
    have ab:=ap.out.trans_same aa
    have ac:=ao.out.same aa (by simpa using an.symm) aE.out
    have ag:=hid ac
    have ai:=hid ab
    have ar:=hid ak
    have aq:=hid ab.size
    clear hr ak ac aa ab aA ao ae ap HQ az
    go_wp2_with (at_builtin;refine wpList_append_o1 rfl rfl int_elem rfl rfl (ad.alloc _) (.int .i64 r) rfl ?c1 ?c2 ?c3 ?c4 ?_)
    case c1=>simp [go_sem]
    case c2=>rfl
    case c3=>rw [zE,af.out];omega
    case c4=>rw [zE,af.out];omega
    intro g2 aw w4 al av
    rw [af.out] at al ⊢
    go_wp2_with fail
    go_roundg j
    case measure=>omega
    case rel=>exact plane_round ah.out ag.out ai.out aj.out af.out aB.out ar.out HP.out aq.out aD.out am.out (aG.out F aj.out) (by omega) al av
   ·have ax:=aA.out 5 (by omega) (by omega)
    rw [show ((5:Nat):Int)=5 from rfl] at ax
    go_wp2_with fail
    refine ax.mono ?_
    rintro e wz ⟨q,s1,rfl,hq,aQ,aC⟩
    clear ax
    obtain ⟨v,hv⟩:=zX (sd+q*7)
    have aT:(sd:Int)+(q:Int)*7=(v:Int):=by omega
    have aS:v<1073741824:=by omega
    clear hv
    obtain ⟨r,hr⟩:=zX (v%P)
    have ak:r<P:=by rw [hr];exact Nat.mod_lt _ (by omega)
    have au:(v:Int)%(P:Int)=(r:Int):=by rw [hr];simp
    have aK:(v:Int).tmod (P:Int)=(r:Int):=by rw [Int.tmod_eq_emod_of_nonneg (by omega)];exact au
    have aa:Chg [rb] wr wz:=HQ.out.trans_same aC
    have ad:Own wz 3 (.slice Ao i co) F (l.map vi):=ae.out.chg aa (fun y hy=>by have:=aj.out y hy;simp;omega)
    have ah:=hid aQ
    have ab:=ap.out.trans_same aa
    have ac:=ao.out.same aa (by simpa using an.symm) aE.out
    have ag:=hid ac
    have ai:=hid ab
    have ar:=hid ak
    have aq:=hid ab.size
    clear hr ak ac aa ab aA ao ae ap HQ az
    go_wp2_with (at_builtin;refine wpList_append_o1 rfl rfl int_elem rfl rfl (ad.alloc _) (.int .i64 r) rfl ?c1 ?c2 ?c3 ?c4 ?_)
    case c1=>simp [go_sem]
    case c2=>rfl
    case c3=>rw [zE,af.out];omega
    case c4=>rw [zE,af.out];omega
    intro g2 aw w4 al av
    rw [af.out] at al ⊢
    go_wp2_with fail
    go_roundg j
    case measure=>omega
    case rel=>exact plane_round ah.out ag.out ai.out aj.out af.out aB.out ar.out HP.out aq.out aD.out am.out (aG.out F aj.out) (by omega) al av
   ·obtain ⟨v,hv⟩:=zX (sd+p3*11+p4)
    have aT:(sd:Int)+(p3:Int)*11+(p4:Int)=(v:Int):=by omega
    have aS:v<1073741824:=by omega
    clear hv
    obtain ⟨r,hr⟩:=zX (v%P)
    have ak:r<P:=by rw [hr];exact Nat.mod_lt _ (by omega)
    have au:(v:Int)%(P:Int)=(r:Int):=by rw [hr];simp
    have aK:(v:Int).tmod (P:Int)=(r:Int):=by rw [Int.tmod_eq_emod_of_nonneg (by omega)];exact au
    have aa:Chg [rb] wr wy:=HQ.out
    have ad:Own wy 3 (.slice Ao i co) F (l.map vi):=ae.out.chg aa (fun y hy=>by have:=aj.out y hy;simp;omega)
    have ah:=az
    have ab:=ap.out.trans_same aa
    have ac:=ao.out.same aa (by simpa using an.symm) aE.out
    have ag:=hid ac
    have ai:=hid ab
    have ar:=hid ak
    have aq:=hid ab.size
    clear hr ak ac aa ab aA ao ae ap HQ az
    go_wp2_with (at_builtin;refine wpList_append_o1 rfl rfl int_elem rfl rfl (ad.alloc _) (.int .i64 r) rfl ?c1 ?c2 ?c3 ?c4 ?_)
    case c1=>simp [go_sem]
    case c2=>rfl
    case c3=>rw [zE,af.out];omega
    case c4=>rw [zE,af.out];omega
    intro g2 aw w4 al av
    rw [af.out] at al ⊢
    go_wp2_with fail
    go_roundg j
    case measure=>omega
    case rel=>exact plane_round ah.out ag.out ai.out aj.out af.out aB.out ar.out HP.out aq.out aD.out am.out (aG.out F aj.out) (by omega) al av
   ·obtain ⟨v,hv⟩:=zX (sd+xx+p2)
    have aT:(sd:Int)+(xx:Int)+(p2:Int)=(v:Int):=by omega
    have aS:v<1073741824:=by omega
    clear hv
    obtain ⟨r,hr⟩:=zX (v%P)
    have ak:r<P:=by rw [hr];exact Nat.mod_lt _ (by omega)
    have au:(v:Int)%(P:Int)=(r:Int):=by rw [hr];simp
    have aK:(v:Int).tmod (P:Int)=(r:Int):=by rw [Int.tmod_eq_emod_of_nonneg (by omega)];exact au
    have aa:Chg [rb] wr wy:=HQ.out
    have ad:Own wy 3 (.slice Ao i co) F (l.map vi):=ae.out.chg aa (fun y hy=>by have:=aj.out y hy;simp;omega)
    have ah:=az
    have ab:=ap.out.trans_same aa
    have ac:=ao.out.same aa (by simpa using an.symm) aE.out
    have ag:=hid ac
    have ai:=hid ab
    have ar:=hid ak
    have aq:=hid ab.size
    clear hr ak ac aa ab aA ao ae ap HQ az
    go_wp2_with (at_builtin;refine wpList_append_o1 rfl rfl int_elem rfl rfl (ad.alloc _) (.int .i64 r) rfl ?c1 ?c2 ?c3 ?c4 ?_)
    case c1=>simp [go_sem]
    case c2=>rfl
    case c3=>rw [zE,af.out];omega
    case c4=>rw [zE,af.out];omega
    intro g2 aw w4 al av
    rw [af.out] at al ⊢
    go_wp2_with fail
    go_roundg j
    case measure=>omega
    case rel=>exact plane_round ah.out ag.out ai.out aj.out af.out aB.out ar.out HP.out aq.out aD.out am.out (aG.out F aj.out) (by omega) al av
   ·obtain ⟨v,hv⟩:=zX (sd+mm*9)
    have aT:(sd:Int)+(mm:Int)*9=(v:Int):=by omega
    have aS:v<1073741824:=by omega
    clear hv
    obtain ⟨r,hr⟩:=zX (v%P)
    have ak:r<P:=by rw [hr];exact Nat.mod_lt _ (by omega)
    have au:(v:Int)%(P:Int)=(r:Int):=by rw [hr];simp
    have aK:(v:Int).tmod (P:Int)=(r:Int):=by rw [Int.tmod_eq_emod_of_nonneg (by omega)];exact au
    have aa:Chg [rb] wr wy:=HQ.out
    have ad:Own wy 3 (.slice Ao i co) F (l.map vi):=ae.out.chg aa (fun y hy=>by have:=aj.out y hy;simp;omega)
    have ah:=az
    have ab:=ap.out.trans_same aa
    have ac:=ao.out.same aa (by simpa using an.symm) aE.out
    have ag:=hid ac
    have ai:=hid ab
    have ar:=hid ak
    have aq:=hid ab.size
    clear hr ak ac aa ab aA ao ae ap HQ az
    go_wp2_with (at_builtin;refine wpList_append_o1 rfl rfl int_elem rfl rfl (ad.alloc _) (.int .i64 r) rfl ?c1 ?c2 ?c3 ?c4 ?_)
    case c1=>simp [go_sem]
    case c2=>rfl
    case c3=>rw [zE,af.out];omega
    case c4=>rw [zE,af.out];omega
    intro g2 aw w4 al av
    rw [af.out] at al ⊢
    go_wp2_with fail
    go_roundg j
    case measure=>omega
    case rel=>exact plane_round ah.out ag.out ai.out aj.out af.out aB.out ar.out HP.out aq.out aD.out am.out (aG.out F aj.out) (by omega) al av
theorem side24_yes (c:Nat) (w:World) (h0:1<=c) (h1:c<=64):Calls Tryz.prog 92 #[.int .i64 c] w fun e w'=>e=.returned (.bool true)/\w=w':=by
 have t1:decide ((1:Int)<=(c:Int))=true:=zB (by omega)
 have t2:decide ((c:Int)<=64)=true:=zB (by omega)
 go_enter Tryz.func92,Tryz.ntmps92
 go_wp2
 go_ret
 exact ⟨rfl,rfl⟩
theorem depth24_yes (c:Nat) (w:World) (h0:1<=c) (h1:c<=16):Calls Tryz.prog 49 #[.int .i64 c] w fun e w'=>e=.returned (.bool true)/\w=w':=by
 have t1:decide ((1:Int)<=(c:Int))=true:=zB (by omega)
 have t2:decide ((c:Int)<=16)=true:=zB (by omega)
 go_enter Tryz.func49,Tryz.ntmps49
 go_wp2
 go_ret
 exact ⟨rfl,rfl⟩
theorem wrap24_ok (v:Int) (d:Nat) (w:World) (h0:1<=d) (h1:d<=16):Calls Tryz.prog 37 #[.int .i64 v,.int .i64 d] w fun e w'=>e=.returned (.int .i64 (wrapI v d))/\w=w':=by
 obtain ⟨ac,ab⟩:=pow_d h0 h1
 have hm:=band_mask v (i:=d) (by omega)
 have aa:=depth24_yes d w h0 h1
 have HM:=hid hm
 clear hm
 go_enter Tryz.func37,Tryz.ntmps37
 go_wp2_with fail
 refine aa.mono ?_
 rintro e w1 ⟨rfl,rfl⟩
 go_wp2
 go_ret
 exact ⟨congrArg (fun z=>Ending.returned (.int .i64 z)) HM.out,rfl⟩
theorem tape_new (w:World) (A:Option Addr) (cap:Nat) (L:List Int) (hc:Cells vi w A L) (hin:∀ x∈L,In64 x) (hlen:L.length<=9223372036854775807) :
  Calls Tryz.prog 19 #[.slice A L.length cap] w fun e w'=>∃ b,e=.returned (.pointer (some ⟨b,0,none⟩))/\IsTp w' b A cap L 0/\Chg [] w w'/\w.heap.size<=b:=by
 have HC:=hid hc
 have HI:=hid hin
 clear hc hin
 go_enter Tryz.func19,Tryz.ntmps19
 go_wp2
 go_ret
 have ch:Chg [] w (w.alloc (.cells #[.slice A L.length cap,.int .i64 0] 96)):=(zR [] w).alloc _
 exact ⟨w.heap.size,rfl,⟨Blk.new w _ _,HC.out.chg ch (by simp),Apt.fresh HC.out (by simp),HI.out,Nat.zero_le _,hlen⟩,ch,zQ _⟩
theorem ints_ok (w:World) (A B:Option Addr) (ca cb:Nat) (la lb:List Int) (hA:Cells vi w A la) (hB:Cells vi w B lb) (ha:la.length<=4096) (hb:lb.length<=4611686018427387904) :
  Calls Tryz.prog 123 #[.slice A la.length ca,.slice B lb.length cb] w fun e w'=>e=.returned (.bool (decide (la=lb)))/\∃ q,w'=w.drewN q:=by
 by_cases hne:la.length=lb.length
 ·obtain ⟨n,hn⟩:=zX (la.length)
  have aa:lb.length=n:=by rw [hn,hne]
  rw [aa]
  rw [<-hn] at ha ⊢
  have HA:=hid hn
  have HB:=hid aa
  clear hn aa hne hb
  have t1:((n:Int)==(n:Int))=true:=by simp
  have t2:((n:Int) != (n:Int))=false:=by simp
  go_enter Tryz.func123,Tryz.ntmps123
  go_wp2_with fail
  go_loopg [5] n (fun j iv wr=>∃ i q:Nat,iv=.int .i64 i/\i+j=n/\Hid (la.take i=lb.take i)/\wr=w.drewN q)
  case atStart=>exact ⟨0,0,rfl,by omega,hid rfl,rfl⟩
  case round =>
   obtain ⟨i,q,rfl,ai,HT,rfl⟩:=hrel
   rcases gk with _ | j
   ·obtain rfl:i=n:=by omega
    have ht:=HT.out
    rw [zT (by rw [<-HA.out];exact zQ _),zT (by rw [HB.out];exact zQ _)] at ht
    have hE:Hid (decide (la=lb)=true):=hid (zB ht)
    clear ht
    go_wp2
    go_ret
    exact ⟨by rw [hE.out];rfl,q,rfl⟩
   ·have ad:i<n:=by omega
    have af:i<la.length:=by rw [<-HA.out];exact ad
    have ae:i<lb.length:=by rw [HB.out];exact ad
    obtain ⟨ga,oa,rfl,ab⟩:=hA.at_ af
    obtain ⟨gb,ob,rfl,ac⟩:=hB.at_ ae
    obtain ⟨x,hx⟩:=zX (la[i])
    obtain ⟨y,hy⟩:=zX (lb[i])
    rw [<-hx] at ab
    rw [<-hy] at ac
    have cA:w.cell? ⟨ga,oa+i,none⟩=some (.int .i64 x):=ab
    have cB:w.cell? ⟨gb,ob+i,none⟩=some (.int .i64 y):=ac
    have HX:=hid hx
    have HY:=hid hy
    have ah:=hid af
    have ag:=hid ae
    have ak:=hid hA
    have aj:=hid hB
    clear hx hy ab ac hA hB
    go_wp2
    go_quiet (fail)
    by_cases hxy:x=y
    ·subst hxy
     have t5:(x != x)=false:=by simp
     go_wp2
     go_roundg j
     case measure=>omega
     case rel =>
      refine ⟨i+1,q+nq,by go_num,by omega,hid ?_,by first | rfl | rw [World.drewN_drewN]⟩
      rw [List.take_succ_eq_append_getElem ah.out,List.take_succ_eq_append_getElem ag.out,HT.out,<-HX.out,<-HY.out]
    ·have t5:(x != y)=true:=by simpa using hxy
     have hd:decide (la=lb)=false:=zA fun e=>hxy (by rw [HX.out,HY.out];subst e;rfl)
     have HD:=hid hd
     clear hd
     go_wp2
     go_ret
     exact ⟨by rw [HD.out];rfl,q+nq,by first | rfl | rw [World.drewN_drewN]⟩
 ·have hd:decide (la=lb)=false:=zA fun e=>hne (by rw [e])
  rw [hd]
  have t1:((la.length:Int)==(lb.length:Int))=false:=by simpa using (by omega:¬ (la.length:Int)=lb.length)
  have t2:(la.length==lb.length)=false:=by simpa using hne
  go_enter Tryz.func123,Tryz.ntmps123
  go_wp2
  go_ret
  exact ⟨rfl,0,rfl⟩
theorem Row.cells_vi {w:World} {v:Value} {g:Nat} {l:List Int} (h:Row w 3 v g (l.map vi)):∃ cap,v=.slice (some ⟨g,0,none⟩) l.length cap/\Cells vi w (some ⟨g,0,none⟩) l:=by
 have aa:=h.lt
 obtain ⟨cap,rfl,h2,h3,h4,h5⟩:=h.open_map
 exact ⟨cap,rfl,⟨fun _=>⟨g,0,rfl,aa,fun i a ha=>by rw [Nat.zero_add];exact h4 i a ha⟩⟩⟩
theorem apt_block {α:Type} {g:Nat} {l:List α} {F:List Nat} (h:g∉F):Apt (some ⟨g,0,none⟩) l F:=fun _ ad e=>by
 injection e with e
 subst e
 exact h
theorem rows24_ok {w:World} {p q:PicD} {g o:Nat} {B:Nat->Option Addr} {c:Nat->Nat} {G:List Nat} (cap:Nat) (h:PicAt w p g o B c G)
  {g' o':Nat} {B':Nat->Option Addr} {c':Nat->Nat} {G':List Nat} (cap':Nat) (h':PicAt w q g' o' B' c' G') (hP:p.P=q.P) (hW:p.W=q.W) (hH:p.H=q.H) :
  Calls Tryz.prog 88 #[.slice (some ⟨g,o,none⟩) p.P.length cap,.slice (some ⟨g',o',none⟩) q.P.length cap'] w fun e w'=>e=.returned (.bool true)/\Chg [] w w':=by
 have ac:=h.ok
 obtain ⟨N,hN⟩:=zX (p.W*p.H)
 have aa:∀ wr,Chg [] w wr->∀ i,i<p.P.length->wr.cell? ⟨g,o+i,none⟩=some (.slice (B i) N (c i))/\wr.cell? ⟨g',o'+i,none⟩=some (.slice (B' i) N (c' i))/\∀ wz,Chg [] w wz->Calls Tryz.prog 123 #[.slice (B i) N (c i),.slice (B' i) N (c' i)] wz fun e w'=>e=.returned (.bool true)/\∃ q,w'=wz.drewN q:=by
  intro wr hc i hi
  have h1:=(h.same hc).cell i hi
  have h2:=(h'.same hc).cell i (by rw [<-hP];exact hi)
  rw [<-hN] at h1
  rw [<-hW,<-hH,<-hN] at h2
  refine ⟨h1,h2,fun wz hz => ?_⟩
  have e1:=h.len hi
  have e2:=h'.len (i:=i) (by rw [<-hP];exact hi)
  have k1:=(h.same hz).cells i hi
  have k2:=(h'.same hz).cells i (by rw [<-hP];exact hi)
  rw [<-hP] at k2 e2
  have h3:=ints_ok wz (B i) (B' i) (c i) (c' i) _ _ k1 k2 (by rw [e1];exact ac.area) (by rw [e1];have:=ac.area;omega)
  rw [e1,<-hN] at h3
  simpa using h3
 rw [<-hP]
 obtain ⟨n,hn⟩:=zX (p.P.length)
 have af:n<=4:=by rw [hn];exact ac.n1
 rw [<-hn] at aa ⊢
 have HC:=hid aa
 have t0:((n:Int) != (n:Int))=false:=by simp
 clear aa hn ac h h' hP hW hH hN
 go_enter Tryz.func88,Tryz.ntmps88
 go_wp2_with fail
 go_loopg [5] n (fun j v5 wr=>∃ i:Nat,v5=.int .i64 i/\i+j=n/\Hid (Chg [] w wr))
 case atStart=>exact ⟨0,rfl,by omega,hid (zR _ _)⟩
 case round =>
  obtain ⟨i,rfl,ae,ab⟩:=hrel
  rcases gk with _ | j
  ·obtain rfl:i=n:=by omega
   have t1:decide (i<i)=false:=by simp
   go_wp2
   go_ret
   exact ⟨rfl,ab.out⟩
  ·have hi:i<n:=by omega
   have t1:decide (i<n)=true:=zB hi
   obtain ⟨c1,c2,ad⟩:=HC.out wr ab.out i hi
   have HI:Hid (∀ k,Calls Tryz.prog 123 #[.slice (B i) N (c i),.slice (B' i) N (c' i)] (wr.drewN k) fun e w'=>e=.returned (.bool true)/\∃ q,w'=wr.drewN q):=hid (fun k=>(ad (wr.drewN k) (ab.out.drewN k)).mono fun e w' h=>by
    obtain ⟨h1,q,h2⟩:=h
    exact ⟨h1,k+q,by rw [h2,World.drewN_drewN]⟩)
   clear ad
   go_wp2_with fail
   go_quiet ((go_at_call 123;exact HI.out _))
   go_wp2_with fail
   go_roundg j
   case measure=>omega
   case rel=>exact ⟨i+1,by go_num,by omega,hid (ab.out.drewN nq)⟩
theorem picSame_ok {w:World} {p q:PicD} {g o:Nat} {B:Nat->Option Addr} {c:Nat->Nat} {G:List Nat} (cap:Nat) (h:PicAt w p g o B c G)
  {g' o':Nat} {B':Nat->Option Addr} {c':Nat->Nat} {G':List Nat} (cap':Nat) (h':PicAt w q g' o' B' c' G') (hP:p.P=q.P) (hW:p.W=q.W) (hH:p.H=q.H) (hd:p.d=q.d) :
  Calls Tryz.prog 35 #[picV p g o cap,picV q g' o' cap'] w fun e w'=>e=.returned (.bool true)/\Chg [] w w':=by
 have hr:=fun w' (hc:Chg [] w w')=>rows24_ok cap (h.same hc) cap' (h'.same hc) hP hW hH
 unfold picV
 rw [<-hW,<-hH,<-hd]
 have ac:Blk (w.alloc (.cells #[.int .i64 p.W,.int .i64 p.H,.int .i64 p.d,.slice (some ⟨g,o,none⟩) p.P.length cap] 25)) w.heap.size 25 #[.int .i64 p.W,.int .i64 p.H,.int .i64 p.d,.slice (some ⟨g,o,none⟩) p.P.length cap]:=Blk.new w _ _
 have aa:Chg [] w ((w.alloc (.cells #[.int .i64 p.W,.int .i64 p.H,.int .i64 p.d,.slice (some ⟨g,o,none⟩) p.P.length cap] 25)).alloc (.cells #[.int .i64 p.W,.int .i64 p.H,.int .i64 p.d,.slice (some ⟨g',o',none⟩) q.P.length cap'] 25)):=((zR [] w).alloc _).alloc _
 have ab:=hr _ aa
 have HR:=hid ab
 have HC:=hid aa
 clear hr ab ac aa h h' hW hH hd hP
 go_enter Tryz.func35,Tryz.ntmps35
 go_wp2_with fail
 refine HR.out.mono ?_
 rintro e w2 ⟨rfl,ad⟩
 go_wp2
 go_ret
 exact ⟨rfl,HC.out.trans_same ad⟩
structure AlSt (w:World) (p:PicD) (g o cap b capT:Nat) (A:Option Addr) (L:List Int) (bx nb rb gP cP:Nat) (wr:World) (q:PicD) (xs:List Value) (gs:List Nat) (at':Nat):Prop where
 own:PicOwn wr q gP cP xs gs
 al:AlikeD p q
 tp:IsTp wr b A capT L at'
 chg:Chg [b] w wr
 bxB:Blk wr bx 25 #[.int .i64 p.W,.int .i64 p.H,.int .i64 p.d,.slice (some ⟨g,o,none⟩) p.P.length cap]
 nbB:Blk wr nb 25 #[.int .i64 p.W,.int .i64 p.H,.int .i64 p.d,.slice (some ⟨gP,0,none⟩) p.P.length cP]
 rbB:Blk wr rb 25 #[.int .i64 0,.int .i64 0,.int .i64 0,.slice none 0 0]
 far:∀ x∈gP::gs,w.heap.size<=x/\x≠bx/\x≠nb/\x≠rb
 big:w.heap.size<=bx/\w.heap.size<=nb/\w.heap.size<=rb
 old:b<w.heap.size
 tpA:∀ F:List Nat,(∀ x∈F,w.heap.size<=x)->Apt A L F
section
variable {w:World} {p:PicD} {g o cap b capT:Nat} {A:Option Addr} {L:List Int} {bx nb rb gP cP:Nat} {wr:World} {q:PicD} {xs:List Value} {gs:List Nat} {at':Nat}
theorem AlSt.tape (h:AlSt w p g o cap b capT A L bx nb rb gP cP wr q xs gs at') {w':World} {at2:Nat} (hc:Chg [b] wr w') (tp:IsTp w' b A capT L at2):AlSt w p g o cap b capT A L bx nb rb gP cP w' q xs gs at2:=by
 have ho:=h.old
 obtain ⟨h1,h2,h3⟩:=h.big
 exact { h with
  own:=h.own.chg hc (by have:=(h.far gP (by simp)).1;simp;omega) (fun x hx=>by have:=(h.far x (by simp [hx])).1;simp;omega)
  tp:=tp
  chg:=h.chg.trans_same hc
  bxB:=h.bxB.chg hc (by simp;omega)
  nbB:=h.nbB.chg hc (by simp;omega)
  rbB:=h.rbB.chg hc (by simp;omega) }
theorem AlSt.same (h:AlSt w p g o cap b capT A L bx nb rb gP cP wr q xs gs at') {w':World} (hc:Chg [] wr w'):AlSt w p g o cap b capT A L bx nb rb gP cP w' q xs gs at':=h.tape (hc.mono (by simp)) (h.tp.fresh hc)
theorem AlSt.turn (h:AlSt w p g o cap b capT A L bx nb rb gP cP wr q xs gs at') {w':World} {q':PicD} {xs':List Value} {gs' F:List Nat} (hc:Chg F wr w') (hF:∀ x∈F,w.heap.size<=x/\x≠bx/\x≠nb/\x≠rb)
  (own:PicOwn w' q' gP cP xs' gs') (al:AlikeD p q') (far:∀ x∈gP::gs',w.heap.size<=x/\x≠bx/\x≠nb/\x≠rb):AlSt w p g o cap b capT A L bx nb rb gP cP w' q' xs' gs' at':=by
 have ho:=h.old
 exact { h with
  own:=own
  al:=al
  far:=far
  tp:=h.tp.same hc (fun hm=>by have:=(hF b hm).1;omega) (h.tpA F fun x hx=>(hF x hx).1)
  chg:=h.chg.trans hc fun x hx => .inr (hF x hx).1
  bxB:=h.bxB.chg hc fun hm=>(hF _ hm).2.1 rfl
  nbB:=h.nbB.chg hc fun hm=>(hF _ hm).2.2.1 rfl
  rbB:=h.rbB.chg hc fun hm=>(hF _ hm).2.2.2 rfl }
theorem AlSt.store (h:AlSt w p g o cap b capT A L bx nb rb gP cP wr q xs gs at') {i gi k:Nat} {v:Int} (hi:i<q.P.length) (hg:gs[i]?=some gi) (hk:k<q.W*q.H) (v0:0<=v) (v1:v<2^q.d) :
  ∃ q',AlSt w p g o cap b capT A L bx nb rb gP cP (wr.setCell ⟨gi,k,none⟩ (.int .i64 v)) q' xs gs at':=by
 obtain ⟨g',c,h1,h2,h3,h4⟩:=h.own.plane hi
 rw [hg] at h2
 injection h2 with h2
 subst h2
 have hm:=plane_mem hi
 have aa:=h.own.ok.len _ hm
 have ac:=h.own.ok.smp _ hm
 refine ⟨setP q i ((q.P.getD i []).set k v),?_⟩
 have ab:gi∈gs:=List.mem_of_getElem? hg
 refine h.turn (F:=[gi]) ((zR [gi] wr).setCell (p:=⟨gi,k,none⟩) (.inl (by simp)) _) ?_ ?_ (setP_alike h.al i _) h.far
 ·intro x hx
  simp at hx
  subst hx
  exact h.far x (by simp [ab])
 ·exact h.own.sample h1 hg hi h3 (by rw [aa];exact hk) (setP_ok h.own.ok i (by rw [List.length_set];exact aa) (set_smp ac k v0 v1)) rfl
theorem AlSt.plane (h:AlSt w p g o cap b capT A L bx nb rb gP cP wr q xs gs at') {wa:World} {at2 i g5:Nat} {u:Value} {l:List Int} (hi:i<q.P.length) (hc:Chg [b] wr wa) (tp:IsTp wa b A capT L at2)
  (r:Row wa 3 u g5 (l.map vi)) (hg5:wr.heap.size<=g5) (hl:l.length=q.W*q.H) (hs:SmpOk q.d l) :
  ∃ q',AlSt w p g o cap b capT A L bx nb rb gP cP (wa.setCell ⟨gP,i,none⟩ u) q' (xs.set i u) (gs.set i g5) at2:=by
 have ha:=h.tape hc tp
 have ho:=h.old
 have ab:=h.chg.size
 have aa:=h.far
 obtain ⟨b1,b2,b3⟩:=h.big
 have l1:=h.bxB.lt
 have l2:=h.nbB.lt
 have l3:=h.rbB.lt
 refine ⟨setP q i l,?_⟩
 refine ha.turn (F:=[gP]) ((zR [gP] wa).setCell (p:=⟨gP,i,none⟩) (.inl (by simp)) _) ?_ ?_ (setP_alike h.al i _) ?_
 ·intro x hx
  simp at hx
  subst hx
  exact h.far x (by simp)
 ·refine h.own.replace hi r hc ?_ hg5 (setP_ok h.own.ok i hl hs) rfl
  intro x hx hm
  simp at hm
  subst hm
  have:=(aa x hx).1
  omega
 ·intro x hx
  rcases zJ.1 hx with rfl | hx
  ·exact aa x (by simp)
  ·rcases List.mem_or_eq_of_mem_set hx with h2 | h2
   ·exact aa x (by simp [h2])
   ·subst h2
    exact ⟨by omega,by omega,by omega,by omega⟩
theorem AlSt.at_ (h:AlSt w p g o cap b capT A L bx nb rb gP cP wr q xs gs at') {i N:Nat} (hi:i<p.P.length) (hN:N=p.W*p.H) :
  ∃ gi ci,gs[i]?=some gi/\gi∈gs/\wr.cell? ⟨gP,i,none⟩=some (.slice (some ⟨gi,0,none⟩) N ci)/\wr.frozen? ⟨gP,i,none⟩=false/\(∀ k,k<N->∃ v:Int,wr.cell? ⟨gi,k,none⟩=some (.int .i64 v)/\0<=v/\v<2^p.d)/\∀ k,wr.frozen? ⟨gi,k,none⟩=false:=by
 have ab:i<q.P.length:=by rw [<-h.al.n];exact hi
 obtain ⟨gi,ci,h1,h2,h3,h4⟩:=h.own.plane ab
 obtain ⟨_,_,_,_,_,af⟩:=h.own.row.open_
 obtain ⟨_,_,_,_,ae,ac⟩:=h3.open_map
 have aa:=h.own.ok.len _ (plane_mem ab)
 have ad:=h.own.ok.smp _ (plane_mem ab)
 have eN:q.W*q.H=N:=by rw [hN,h.al.W,h.al.H]
 rw [eN] at h4 aa
 refine ⟨gi,ci,h2,List.mem_of_getElem? h2,h4,af i,fun k hk=>⟨(q.P.getD i []).getD k 0,ae k _ ?_,?_⟩,ac⟩
 ·rw [zD (l:=q.P.getD i []),zF (by rw [aa];exact hk)]
  rfl
 ·rw [h.al.d]
  exact getD_smp ad k
end
theorem fold24_ok (v:Int) (d:Nat) (w:World) (h0:1<=d) (h1:d<=16):Calls Tryz.prog 15 #[.int .i64 v,.int .i64 d] w fun e w'=>e=.returned (.int .i64 (foldI v d))/\w=w':=by
 obtain ⟨ag,af⟩:=pow_d h0 h1
 have hh:=two_pow_half h0
 have ae:=two_pow_pos' (d-1)
 have hw:=wrap24_ok v d w h0 h1
 have ab:=depth24_yes d w h0 h1
 have ac:=wrapI_lo v d
 have ad:=wrapI_hi v d
 have aa:foldI v d=if 2^(d-1)<=wrapI v d then wrapI v d-2^d else wrapI v d:=rfl
 obtain ⟨u,hu⟩:=zX (wrapI v d)
 rw [<-hu] at hw ac ad aa
 have HD:=hid aa
 have e1:(2:Int)^((d:Int)-1).toNat=2^(d-1):=by congr 1;omega
 have ah:(2:Int)^(d-1)<=32768:=by omega
 clear aa hu hh
 by_cases hs:2^(d-1)<=u
 ·have t3:decide ((2:Int)^(d-1)<=u)=true:=by simpa using hs
  rw [if_pos hs] at HD
  go_enter Tryz.func15,Tryz.ntmps15
  go_wp2_with (first | (go_at_call 37;refine hw.mono ?_;rintro e w' ⟨rfl,rfl⟩) | (go_at_call 49;refine ab.mono ?_;rintro e w' ⟨rfl,rfl⟩))
  go_ret
  rw [HD.out]
  exact ⟨rfl,rfl⟩
 ·have t3:decide ((2:Int)^(d-1)<=u)=false:=by simpa using hs
  rw [if_neg hs] at HD
  go_enter Tryz.func15,Tryz.ntmps15
  go_wp2_with (first | (go_at_call 37;refine hw.mono ?_;rintro e w' ⟨rfl,rfl⟩) | (go_at_call 49;refine ab.mono ?_;rintro e w' ⟨rfl,rfl⟩))
  go_ret
  rw [HD.out]
  exact ⟨rfl,rfl⟩
end Go.Proofs.YtklocammllljiaaGreatDoor
