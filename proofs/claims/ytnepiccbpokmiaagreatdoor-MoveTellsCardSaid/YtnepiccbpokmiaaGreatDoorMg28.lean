/- Lemmas. -/
import Derived.Test.YtnepiccbpokmiaaGreatDoorMg21
import Derived.Deep.RegionLaw
import Derived.Deep.RegionHeld3
import Derived.Deep.CutBlock
set_option linter.all false
set_option maxHeartbeats 4000000
set_option maxRecDepth 100000
namespace Go.Proofs.YtnepiccbpokmiaaGreatDoor
open Tryz List Nat Go.RowKit
variable {w:World}
theorem tw{x:Int}{s:Value}(h:s.oneCell'=true):∀u∈[Value.int .i64 x,s],u.oneCell'=true:=λu a=>by
 rcases zJ.1 a with rfl|a
 .rfl
 rcases zJ.1 a with rfl|a
 .exact h
 .cases a
theorem new2(w:World)(t:TypeId)(a b:Value):∀j u,[a,b][j]?=some u->(w.alloc (.cells #[a,b] t)).cell? ((⟨w.heap.size,0,none⟩:Addr).add j)=some u:=λj u hj=>by
 have c:=gn.new w t #[a,b]
 match j,hj with
 | 0,hj=>rw[<-hj];exact c.X 0
 | 1,hj=>rw[<-hj];exact c.X 1
 | j+2,hj=>simp at hj
theorem KJ(Q:Value->Prop)(w:World)(A A':Option Addr)(cap cap':Nat)(a b:List El)(ha:mv Q w A a)(hb:mv Q w A' b)(hal:a.length<=1048576)(hbl:b.length<=1048576)(G:∀e∈a,e.wt<=1073741824)(H:∀e∈b,e.wt<=1073741824):Calls prog 167 #[.slice A a.length cap,.slice A' b.length cap'] w λe w'=>∃v F,e=.returned v/\lh Q w' v F (iQ a b)/\gf [] w w'/\∀x∈F,w.heap.size<=x:=by
 have⟨n,hn⟩:=zX a.length;have⟨m,hm⟩:=zX b.length;rw[<-hn]at hal⊢;rw[<-hm]at hbl⊢;have⟨HN,HM,HA,HB⟩:=gz hn hm ha hb;have⟨aG,aH⟩:=gy G H;clear hn hm ha hb G H;go_enter func167,ntmps167;go_wp2_with fail
 go_loopg [5,6,7] (n+m) (λj vo iv kv wr=>∃(i k:Nat) (c:List El) (F:List Nat),iv=.int .i64 i/\kv=.int .i64 k/\i<=n/\k<=m/\i+k+j=n+m/\gh (c++iQ (a.drop i) (b.drop k)=iQ a b)/\gh (c.length=i+k)/\gh (lh Q wr vo F c)/\gh (gf [] w wr)/\gh (∀x∈F,w.heap.size<=x))
 .exact⟨0,0,[],[],rfl,rfl,by omega,by omega,by omega,gd rfl,gd rfl,gd (lh.nil _),gd (zR _ _),gd (by simp)⟩
 obtain⟨i,k,c,F,rfl,rfl,aU,aV,aT,O,P,R,g,B⟩:=hrel;obtain⟨A5,c5,hv,_⟩:=R.o.open_;subst hv;have⟨r,hr⟩:=zX c.length;have aW:r<=2097152:=by have:=P.o;omega
 rw[<-hr];have J:=gd hr;clear hr;rcases gk with _|j
 .obtain rfl:i=n:=by omega
  obtain rfl:k=m:=by omega
  have t1:decide (i<i)=false:=by simp
  have t2:decide (k<k)=false:=by simp
  have al:=Ie c O.o (by rw[<-HN.o];exact zQ _) (by rw[<-HM.o];exact zQ _);have aw:=gd al;clear al;go_wp2_with fail;go_ret;exact⟨_,F,rfl,by rw[<-aw.o,J.o];exact R.o,g.o,B.o⟩
 .obtain⟨ps,aJ,Y,aK⟩:=R.o.ex
  rw[<-J.o]at Y;have ad:=λu o=>Y.Y (((zR [] wr).drewN u).alloc o);have⟨am,aI⟩:=gy aK aJ;clear Y aK aJ;by_cases hL:i<n/\∀(t:k<b.length) (hi:i<a.length),a[i].wt<=b[k].wt
  .obtain⟨hi,T⟩:=hL
   have t1:decide (i<n)=true:=zB hi;have d:i<a.length:=(by rw[<-HN.o];exact hi);have D:=Jg (b:=b) (k:=k) d λt=>T t d;obtain⟨ba,oa,sa,rfl,aR,az,aL,M,K⟩:=HA.o.at2 g.o d;have V:=aG.o a[i] (zG d);have C:=M F B.o;have⟨x,hx⟩:=zX (a[i]);rw[<-hx]at D az V C;have aN:(0:Int)<=(i:Int):=(by omega);have aO:(i:Int)<(n:Int):=(by omega);have⟨ay,ak,HQ⟩:=gS D C K;rcases zZ k m with t|t
   focus
    have t2:decide (m<=k)=false:=zA (by omega);have f:k<b.length:=(by rw[<-HM.o];exact t);obtain⟨bb,ob,sb,rfl,aS,S,aM,N,L⟩:=HB.o.at2 g.o f;have s:=T f d;have W:=aH.o b[k] (zG f);rw[<-hx]at s;have⟨y,hy⟩:=zX (b[k].wt);rw[<-hy]at S s W;have aP:(0:Int)<=(k:Int):=(by omega);have aQ:(k:Int)<(m:Int):=(by omega);have t3:decide (x.wt<=y)=true:=zB s;clear N L hy f s
   rotate_left
   focus
    have t2:decide (m<=k)=true:=zB (by omega)
   all_goals
    clear M K D C hx d T;go_wp2_with fail
    go_quiet (fail)
    go_wp2_with(at_builtin;refine ou rfl rfl o7 rfl (by decide) rfl (ad _ _) [.int .i64 x.wt,sa] rfl rfl ?c1 ?c2 ?c3 ?c4 ?_)
    case c1=>exact new2 _ _ _ _
    case c2=>exact tw ak.o.one
    case c3=>omega
    case c4=>omega
    intro q X I E l;have ax:gh (lh Q I (.slice q (r+1) X) [q] (c++[x])):=gd (zi aI.o (λp hp=>⟨(am.o p hp).1.Y (((zR [] wr).drewN _).alloc _),(am.o p hp).2⟩) (ak.o.Y (((zR [] wr).drewN _).alloc _)) HQ.o l E (by rw[J.o]));have Z:gh (gf [] w I):=gd (l.fresh B.o ((g.o.drewN _).alloc _));have av:gh (∀z∈[q],w.heap.size<=z):=gd (l.freshF B.o ((g.o.drewN _).alloc _));have au:gh ((c++[x])++iQ (a.drop (i+1)) (b.drop k)=iQ a b):=gd (by rw[<-O.o,ay.o,zH];rfl);clear ad E l;go_wp2_with fail
    go_roundg j
    .exact⟨i+1,k,c++[x],[q],by go_num,rfl,by omega,by omega,by omega,au,gd (by rw[zC,P.o];simp;omega),ax,Z,av⟩
    .omega
  .have aB:k<m:=by
    rcases zZ k m with h|h
    .exact h
    .exfalso
     refine hL ⟨by omega,λt _=>?_⟩
     have:=HM.o
     omega
   have U:∀(hi:i<a.length) (t:k<b.length),b[k].wt<a[i].wt:=λhi t=>by
    rcases zZ b[k].wt a[i].wt with h|h
    .exact h
    .exfalso
     exact hL ⟨by rw[HN.o];exact hi,λ_ _=>h⟩
   have t2:decide (m<=k)=false:=zA (by omega);have f:k<b.length:=(by rw[<-HM.o];exact aB);have D:=Id (a:=a) (i:=i) f λhi=>U hi f;obtain⟨bb,ob,sb,rfl,aS,S,aM,N,L⟩:=HB.o.at2 g.o f;have W:=aH.o b[k] (zG f);have C:=N F B.o;have⟨x,hx⟩:=zX (b[k]);rw[<-hx]at D S W C;have aP:(0:Int)<=(k:Int):=(by omega);have aQ:(k:Int)<(m:Int):=(by omega);have⟨ay,ak,HQ⟩:=gS D C L;rcases zZ i n with hi|hi
   focus
    have t1:decide (i<n)=true:=zB hi;have d:i<a.length:=(by rw[<-HN.o];exact hi);obtain⟨ba,oa,sa,rfl,aR,az,aL,M,K⟩:=HA.o.at2 g.o d;have s:=U d f;have V:=aG.o a[i] (zG d);rw[<-hx]at s;have⟨y,hy⟩:=zX (a[i].wt);rw[<-hy]at az s V;have aN:(0:Int)<=(i:Int):=(by omega);have aO:(i:Int)<(n:Int):=(by omega);have t3:decide (y<=x.wt)=false:=zA (by omega);clear M K hy d s
   rotate_left
   focus
    have t1:decide (i<n)=false:=zA (by omega)
   all_goals
    clear N L D C hx f U hL;go_wp2_with fail
    go_quiet (fail)
    go_wp2_with(at_builtin;refine ou rfl rfl o7 rfl (by decide) rfl (ad _ _) [.int .i64 x.wt,sb] rfl rfl ?c1 ?c2 ?c3 ?c4 ?_)
    case c1=>exact new2 _ _ _ _
    case c2=>exact tw ak.o.one
    case c3=>omega
    case c4=>omega
    intro q X I E l;have ax:gh (lh Q I (.slice q (r+1) X) [q] (c++[x])):=gd (zi aI.o (λp hp=>⟨(am.o p hp).1.Y (((zR [] wr).drewN _).alloc _),(am.o p hp).2⟩) (ak.o.Y (((zR [] wr).drewN _).alloc _)) HQ.o l E (by rw[J.o]));have Z:gh (gf [] w I):=gd (l.fresh B.o ((g.o.drewN _).alloc _));have av:gh (∀z∈[q],w.heap.size<=z):=gd (l.freshF B.o ((g.o.drewN _).alloc _));have au:gh ((c++[x])++iQ (a.drop i) (b.drop (k+1))=iQ a b):=gd (by rw[<-O.o,ay.o,zH];rfl);clear ad E l;go_wp2_with fail
    go_roundg j
    .exact⟨i,k+1,c++[x],[q],rfl,by go_num,by omega,by omega,by omega,au,gd (by rw[zC,P.o];simp;omega),ax,Z,av⟩
    .omega
theorem Hy{A:Option Addr}{ps:List (El × Value)}{c lo:Nat}(f:gu (λv=>v) w A (ps.flatMap l7))(h:lo<=ps.length)(g:ps.length<=c):gu (λv=>v) w (if c=lo then A else Option.map (λx=>x.add (lo*2)) A) ((ps.drop lo).flatMap l7):=by
 refine⟨λh0=>?_⟩;rw[tC,zO]at h0;obtain⟨b,o,rfl,e,d⟩:=f.ex (by rw[tC];omega);rw[if_neg (by omega)];refine⟨b,o+lo*2,?_,e,λi a ha=>?_⟩
 .simp only[Option.map_some,Addr.add]
  split
  .rename_i h;rw[h];rfl
  .rfl
 .rw[<-Of,getElem?_drop]at ha
  have:=d (lo*2+i) a ha
  rwa [<-Nat.add_assoc]at this
theorem ic.made0b(w:World)(o:Obj)(e:TypeId)(k:Nat):ic ((w.alloc o).alloc (.cells #[] e)) e k (.slice (some ⟨w.heap.size+1,0,none⟩) 0 0) [w.heap.size+1] 0 []:=by
 have h:=ic.made0 (w.alloc o) e k;rw[show(w.alloc o).heap.size=w.heap.size+1 from Array.size_push _]at h;exact h
theorem EV{g:Nat}{t:TypeId}{a b:Value}(h:gn w g t #[a,b]):∀j u,[a,b][j]?=some u->w.cell? ((⟨g,0,none⟩:Addr).add j)=some u:=λj u hj=>by
 match j,hj with
 | 0,hj=>rw[<-hj];exact h.X 0
 | 1,hj=>rw[<-hj];exact h.X 1
 | j+2,hj=>simp at hj
theorem J8(w:World)(o:Obj)(t:TypeId)(cs:Array Value):gn ((w.alloc o).alloc (.cells cs t)).drew (w.heap.size+1) t cs:=by
 have h:=gn.new (w.alloc o) t cs;rw[show(w.alloc o).heap.size=w.heap.size+1 from Array.size_push _]at h;exact h.drew
theorem Lv(Q:Value->Prop)(w:World)(A:Option Addr)(cap:Nat)(l:List El)(x:El)(s:Value)(h:mv Q w A l)(C:l.length<=cap)(T:cap<=9223372036854775807)(hr:l9 l)(hs:js w [] x s)(r:Q s)(hl:l.length<=4096)(hw:∀e∈l,e.wt<=4096)(D:x.wt<=4096):Calls prog 166 #[.slice A l.length cap,.agg #[.int .i64 x.wt,s]] w λe E=>∃v F,e=.returned v/\lh Q E v F (pq l x)/\gf [] w E/\∀y∈F,w.heap.size<=y:=by
 have⟨n,hn⟩:=zX l.length;rw[<-hn]at hl C⊢;have⟨X,hX⟩:=zX x.wt;rw[<-hX]at D⊢;have⟨w1,am⟩:=zX (w.alloc (.cells #[X,s] 169));have Z:=jD am;have N:gn w1 w.heap.size 169 #[X,s]:=by rw[am];exact gn.new _ _ _
 have a2:w1.heap.size=w.heap.size+1:=by rw[am];exact Array.size_push _
 have⟨B,hB⟩:=zX w.heap.size;rw[<-hB]at N a2;have⟨HN,HX,HH,HR⟩:=gz hn hX h hr;have⟨HS,HW,aX,HC⟩:=gz hs hw am Z;have⟨HB,aC⟩:=gy hB N;clear hn hX h hr hs hw am Z hB N;go_enter func166,ntmps166
 go_upto_block 0 with fail
 rw[<-HB.o,<-aX.o]
 go_cut [5] (λs5 wx=>∃i:Nat,s5=.int .i64 i/\i<=n/\gh ((∀j (h:j<l.length),i<=j->x.wt<l[j].wt)/\∀h:0<i,∀hi:i-1<l.length,l[i-1].wt<=x.wt)/\gh (gf [] w1 wx))
 case first=>
  go_wp2_with fail
  go_loopg [5] n (λj iv wr=>iv=.int .i64 j/\j<=n/\gh (∀q (h:q<l.length),j<=q->x.wt<l[q].wt)/\gh (gf [] w1 wr))
  .exact⟨rfl,zQ _,gd (λq h h2=>by have:=HN.o;omega),gd (zR _ _)⟩
  obtain⟨rfl,aI,H,d⟩:=hrel;have c:=aC.o.Z d.o (by simp);have x0:wr.cell? B=some (.int .i64 X):=c.X 0;have x1:wr.cell? ⟨B,1,none⟩=some s:=c.X 1;clear c;rcases gk with _|k
  .go_wp2_with fail
   go_quiet (fail)
   go_wp2_with fail;go_meet
   case rel=>exact⟨0,rfl,by omega,gd ⟨H.o,λh=>by omega⟩,gd (d.o.drewN _)⟩
  .have⟨i,hi⟩:=zX (k+1)
   have aJ:k<l.length:=(by rw[<-HN.o];omega);obtain⟨b,o,s',rfl,hb,c1,c2,-,-⟩:=HH.o.at2 (HC.o.tq d.o) aJ;have a3:=HW.o l[k] (zG aJ);have⟨y,hy⟩:=zX (l[k].wt);rw[<-hy]at c1 a3;have a6:(i:Int)-1=(k:Int):=(by omega);have a7:(0:Int)<=(k:Int):=(by omega);have a8:(k:Int)<(n:Int):=(by omega);have a9:decide (0<i)=true:=zB (by omega);rw[<-hi];rw[<-hi]at aI H;have⟨HI,HY⟩:=gy hi hy;clear hi hy;by_cases hgt:X<y
   .have t2:decide (X<y)=true:=zB hgt
    go_wp2_with fail
    go_quiet (fail)
    go_wp2_with fail
    go_roundg k
    .refine⟨by go_num,by omega,gd (λq h h2=>?_),gd (d.o.drewN _)⟩
     by_cases r:q=k
     .subst r
      have:=HY.o
      have:=HX.o
      omega
     .exact H.o q h (by have:=HI.o;omega)
    .omega
   .have t2:decide (X<y)=false:=zA hgt
    go_wp2_with fail
    go_quiet (fail)
    go_wp2_with fail;go_meet
    case rel=>
     refine⟨i,rfl,aI,gd ⟨H.o,λh a0=>?_⟩,gd (d.o.drewN _)⟩;have e:i-1=k:=(by have:=HI.o;omega);have e2:l[i-1].wt=l[k].wt:=(by congr 2);rw[e2,<-HY.o,<-HX.o];omega
 case rest=>
  obtain⟨i,rfl,a1,V,d⟩:=hcut;have t:=gd (HC.o.tq d.o);have ak:=K3 HR.o (x:=x) (i:=i) (by rw[<-HN.o];exact a1) (λj h h2=>V.o.1 j h h2) (λh=>V.o.2 h (by have:=HN.o;omega));have ar:=gd ak;obtain⟨ps,M,P,K⟩:=(HH.o.Y t.o).ex;have aP:ps.length=n:=by rw[HN.o,<-M,zE]
  have R:gu (λv=>v) wc (if cap=i then A else Option.map (λx=>x.add (i*2)) A) ((ps.drop i).flatMap l7):=Hy P (by omega) (by omega);obtain⟨A2,aZ⟩:∃A2,(if cap=i then A else Option.map (λx=>x.add (i*2)) A)=A2:=⟨_,rfl⟩;rw[aZ]at R;have aH:gu (λv=>v) wc A ((ps.take i).flatMap l7):=by rw[<-Og];exact P.take _
  have aK:((ps.take i).flatMap l7).length=i*2:=by rw[tC,zI,Nat.min_eq_left (by omega)]
  have aL:((ps.drop i).flatMap l7).length=(n-i)*2:=by rw[tC,zO,aP]
  have aM:=FP (ps.take i) (λp hp=>(K p (mem_of_mem_take hp)).1.one);have aN:=FP (ps.drop i) (λp hp=>(K p (mem_of_mem_drop hp)).1.one);have⟨aE,aW⟩:=gy K M;have a4:(0:Int)<=(i:Int):=by omega
  have a5:(i:Int)<=(cap:Int):=by omega
  have a0:(i:Int)<=(n:Int):=by omega
  have⟨aq,aR,av,aU⟩:=gz aH R aK aL;have⟨aw,aV⟩:=gy aM aN;have W:gh (s.oneCell'=true):=gd HS.o.one;have c:=aC.o.Z d.o (by simp);have x0:wc.cell? B=some (.int .i64 X):=c.X 0;have x1:wc.cell? ⟨B,1,none⟩=some s:=c.X 1;have O:gh (∀wz,gf [] wc wz->wz.cell? B=some (.int .i64 X)/\wz.cell? ⟨B,1,none⟩=some s):=gd λwz hz=>⟨(c.Z hz (by simp)).X 0,(c.Z hz (by simp)).X 1⟩;clear ak aP P K M aH R aK aL aM aN c;go_wp2_with fail
  go_region_held3 (λE=>E.cell? B=some (.int .i64 X)/\E.cell? ⟨B,1,none⟩=some s)
   (first|(go_keep;done)|exact O.o _ u|exact O.o _ g|exact O.o _ ad)
   (first
    | (refine tM (by rfl) (by rfl) o7 (by rfl) (by decide) (by rfl) L _ (n-i) (by rfl) aU.o (aR.o.Y g) aV.o (by omega) (by omega) ?_;intro v5 G w5 aO S;have u:gf [] wc w5 := S.fresh I g;have J := S.freshF I g)
    | (refine tL (by rfl) (by rfl) o7 (by rfl) (by decide) (by rfl) (z.Y ((zR [] w3).alloc _)) [.int .i64 X,s] (by rfl) (by rfl) (new2 _ _ _ _) (tw W.o) (by omega) (by omega) ?_;intro g4 aY w4 L m;have g:gf [] wc w4 := m.fresh f (ad.alloc _);have I := m.freshF f (ad.alloc _))
    | (refine tL (by rfl) (by rfl) o7 (by rfl) (by decide) (by rfl) z [.int .i64 X,s] (by rfl) (by rfl) Y (tw W.o) (by omega) (by omega) ?_;intro g4 aY w4 L m;have g:gf [] wc w4 := m.fresh f ad;have I := m.freshF f ad)
    | (refine tM (by rfl) (by rfl) o7 (by rfl) (by decide) (by rfl) (((ic.made0 wc _ 2)).Y ((zR [] _).drew)) _ i (by rfl) av.o ((aq.o.Y ((zR [] wc).alloc _)).Y ((zR [] _).drew)) aw.o (by omega) (by omega) ?_;intro v3 U w3 z a;have ad:gf [] wc w3 := a.fresh (by simp) (((zR [] wc).alloc _).drew);have f := a.freshF (w := wc) (by simp) (((zR [] wc).alloc _).drew))
    | (refine tM (by rfl) (by rfl) o7 (by rfl) (by decide) (by rfl) ((((ic.made0 wc _ 2)).Y ((zR [] _).alloc _)).Y ((zR [] _).drew)) _ i (by rfl) av.o (((aq.o.Y ((zR [] wc).alloc _)).Y ((zR [] _).alloc _)).Y ((zR [] _).drew)) aw.o (by omega) (by omega) ?_;intro v3 U w3 z a;have ad:gf [] wc w3 := a.fresh (by simp) ((((zR [] wc).alloc _).alloc _).drew);have f := a.freshF (w := wc) (by simp) ((((zR [] wc).alloc _).alloc _).drew);have Y := EV ((J8 wc _ _ _).Z a.Z (by simp)))
    | (refine tM (by rfl) (by rfl) o7 (by rfl) (by decide) (by rfl) (((ic.made0b wc _ _ 2)).Y ((zR [] _).drew)) _ i (by rfl) av.o (((aq.o.Y ((zR [] wc).alloc _)).Y ((zR [] _).alloc _)).Y ((zR [] _).drew)) aw.o (by omega) (by omega) ?_;intro v3 U w3 z a;have ad:gf [] wc w3 := a.fresh (by intro x D;rw[zU.1 D];omega) ((((zR [] wc).alloc _).alloc _).drew);have f := a.freshF (w := wc) (by intro x D;rw[zU.1 D];omega) ((((zR [] wc).alloc _).alloc _).drew);have Y := EV ((((gn.new wc _ _).alloc _).drew).Z a.Z (by simp))))
  all_goals
   have aT:gh (lh Q w5 v5 G (pq l x)):=gd (by
    rw[ar.o];have e:0+i+1+(n-i)=(l.take i++x::l.drop i).length:=by
     rw[zC,zI,zK,zO,<-HN.o];omega
    refine⟨ps.take i++(x,s)::ps.drop i,?_,?_,λp hp=>?_⟩
    .rw[zM,map_cons,map_take,map_drop,aW.o]
    .rw[<-e,flatMap_append,flatMap_cons]
     have h9:=aO;simp only[nil_append,zH]at h9;show ic _ _ _ _ _ _ (_++([.int .i64 x.wt,s]++_));rw[<-HX.o];exact h9
    .have h8:∀q∈ps,js w5 G q.1 q.2/\Q q.2:=λq r=>⟨(aE.o q r).1.later u J,(aE.o q r).2⟩
     rcases zP.1 hp with h|h
     .exact h8 p (mem_of_mem_take h)
     .rcases zJ.1 h with rfl|h
      .exact⟨HS.o.later (t.o.tq u) (λy hy=>Nat.le_trans t.o.size (J y hy)),r⟩
      .exact h8 p (mem_of_mem_drop h))
   have aQ:=gd (t.o.tq u);have aS:gh (∀y∈G,w.heap.size<=y):=gd λy hy=>Nat.le_trans t.o.size (J y hy);clear z L aO a m S ad g u f I J x0 x1;go_wp2_with fail;go_ret;exact⟨v5,G,rfl,aT.o,aQ.o,aS.o⟩
end Go.Proofs.YtnepiccbpokmiaaGreatDoor
