/- Lemmas. -/
import Derived.Test.YtifdlkoepaepiaaGreatDoorMh23
import Derived.Deep.RegionLaw
import Derived.Deep.RegionHeld3
set_option linter.all false
set_option maxHeartbeats 2000000
set_option maxRecDepth 100000
namespace Go.Proofs.YtifdlkoepaepiaaGreatDoor
open Tryz List Nat Go.RowKit
variable {G:List Nat}{g o:Nat}{c:Nat->Nat}{B:Nat->Option Addr}
structure ll (E:List Nat) (w0:World) (W H d:Nat) (cb:Nat) (w:World) (vP:Value) (F:List Nat) (xs:List Value) (P:List (List Int)) (gs:List Nat):Prop where
 blk:gn w cb 46 #[W,H,d,vP]
 own:jj w 22 vP F xs
 pl:jm w xs P gs
 cF:cb∉F
 cg:cb∉gs
 gF:∀x∈gs,x∉F
 new:∀x∈cb::(F++gs),w0.heap.size<=x
 old:∀x∈E,x<w0.heap.size
 Z:gg E w0 w
section
variable {E:List Nat} {w0 w w':World} {W H d cb:Nat} {vP:Value} {F:List Nat} {xs:List Value} {P:List (List Int)} {gs:List Nat}
theorem ll.turn(h:ll E w0 W H d cb w vP F xs P gs)(a:gg E w w'):ll E w0 W H d cb w' vP F xs P gs:=by
 have b:∀x∈cb::(F++gs),x∉E:=λx hx hm=>by have:=h.new x hx;have:=h.old x hm;omega
 exact { h with blk:=h.blk.Z a (b cb (by simp)),own:=h.own.Z a (λx hx=>b x (by simp[hx])),pl:=h.pl.Z a (λx hx=>b x (by simp[hx])),Z:=h.Z.tq a }
theorem ll.Y(h:ll E w0 W H d cb w vP F xs P gs)(a:gg [] w w'):ll E w0 W H d cb w' vP F xs P gs:=h.turn (a.mono (by simp))
theorem ll.next{q k:World}(h:ll E w0 W H d cb w vP F xs P gs){u:Value}{i:Nat}{l:List Int}(n:gg E w q)(r:gv q 3 u i (l.map vi))(J:w.heap.size<=i){b:Value}{g2:Nat}(K:gv k 22 b g2 (xs++[u]))(j:gE F [g2] q k):ll E w0 W H d cb (k.setCell ⟨cb,3,none⟩ b) b [g2] (xs++[u]) (P++[l]) (gs++[i]):=by
 have m:=h.turn n;have D:=m.blk.lt;have s:i∉F:=λf=>by have:=h.own.lt i f;omega
 have t:g2≠cb:=λe=>j.o D h.cF (by rw[<-e];simp);have I:∀x∈gs,x≠g2:=λx a e=>j.o (m.pl.lt x a) (h.gF x a) (by rw[e];simp);have ad:i≠g2:=λe=>j.o r.lt s (by rw[e];simp);have v:i≠cb:=λe=>by have:=h.blk.lt;omega
 have A:i∉gs:=λf=>by have:=h.pl.lt i f;omega
 have C:gg [cb] k (k.setCell ⟨cb,3,none⟩ b):=(zR [cb] k).zs 3 b;have z:∀x∈F,w0.heap.size<=x:=λx a=>h.new x (by simp[a]);refine⟨?_,?_,?_,by simpa using t.symm,?_,?_,?_,h.old,?_⟩
 .have:=(m.blk.Z j.Z h.cF).S 3 b
  simpa using this
 .exact(K.Q (p:=⟨cb,3,none⟩) t b).R
 .refine((m.pl.Z j.Z h.gF).snoc (r.Z j.Z s) A).Z C ?_
  intro x a f;simp at f;subst f;rcases zP.1 a with a|a
  .exact h.cg a
  .simp at a;exact v a.symm
 .intro f
  rcases zP.1 f with a|a
  .exact h.cg a
  .simp at a;exact v a.symm
 .intro x a f
  simp at f;rcases zP.1 a with a|a
  .exact I x a f
  .simp at a;exact ad (a.symm.trans f)
 .intro x a
  have M:=h.Z.size;have L:=n.size;simp only[zJ,zP,not_mem_nil,or_false]at a;rcases a with rfl|rfl|a|rfl
  .exact h.new x (by simp)
  .rcases j.new x (by simp)with y|y
   .exact z x y
   .omega
  .exact h.new x (by simp[a])
  .omega
 .exact((h.Z.tq n).trans j.Z λx a=>.inr (z x a)).setCell (.inr (h.new cb (by simp))) b
end
theorem BB{w:World}{p:qc}(C:Nat)(h:ip w p g o B c G):Calls prog 65 #[gW p g o C] w λe w'=>∃(f a:Nat) (xs:List Value) (gs:List Nat),e=.returned (gW p f 0 a)/\iL w' p f a xs gs/\gg [] w w'/\∀x∈f::gs,w.heap.size<=x:=by
 have y:=h.ok;unfold gW;have⟨W,hW⟩:=zX p.W;have⟨H,hH⟩:=zX p.H;have⟨d,hd⟩:=zX p.d;have⟨n,hn⟩:=zX p.P.length;have⟨N,hN⟩:=zX (W*H);rw[<-hW,<-hH,<-hd,<-hn];have aX:n<=4:=by rw[hn];exact y.n1
 have aW:1<=n:=by rw[hn];exact y.n0
 have A:∀w',gg [] w w'->∀i,i<n->∃b q,w'.cell? ⟨g,o+i,none⟩=some (.slice (some ⟨b,q,none⟩) N (c i))/\∀w1,gg [] w w1->Calls prog 93 #[.slice (some ⟨b,q,none⟩) N (c i)] w1 λe w2=>∃g5 c5,e=.returned (.slice (some ⟨g5,0,none⟩) N c5)/\gv w2 3 (.slice (some ⟨g5,0,none⟩) N c5) g5 ((p.P.getD i []).map vi)/\gg [] w1 w2/\w1.heap.size<=g5:=by
  intro w' hc i s;rw[hn]at s;obtain⟨b,q,e,hb,D⟩:=h.at_ s;have Z:=(h.Y hc).X i s;rw[e,<-hW,<-hH,<-hN]at Z;refine⟨b,q,Z,λw1 hc1=>?_⟩;have t:=h.len s;have ab:=(h.Y hc1).cells i s;rw[e]at ab;have A:=DA w1 (some ⟨b,q,none⟩) (c i) _ ab (by rw[t];exact y.pos) (by rw[t];have:=y.area;omega);rw[t,<-hW,<-hH,<-hN]at A;refine A.mono ?_;rintro e w2 ⟨v,g5,rfl,u,ch,L⟩;have I:=u;obtain⟨c5,rfl,_⟩:=u.T;rw[t,<-hW,<-hH,<-hN]at I⊢;exact⟨g5,c5,rfl,I,ch,L⟩
 have⟨wA,am⟩:=zX (((w.alloc (.cells #[W,H,d,.slice (some ⟨g,o,none⟩) n C] 46)).alloc (.cells #[(0:Int),(0:Int),(0:Int),.slice none 0 0] 46)));have aI:gg [] w wA:=by rw[am];exact((zR [] w).alloc _).alloc _
 have⟨w1,al⟩:=zX (wA.alloc (.cells #[W,H,d,.slice none 0 0] 46));have⟨rb,ap⟩:=zX (w.heap.size+1);have⟨cb,ay⟩:=zX (rb+1);have T:wA.heap.size=cb:=by rw[am,jt,jt,ay,ap]
 have aL:ll [] wA W H d cb w1 (.slice none 0 0) [] [] [] []:=by
  refine⟨by rw[al,<-T];exact gn.new wA _ _,jj.nil _ _,jm.nil _,by simp,by simp,by simp,?_,by simp,by rw[al];exact(zR [] wA).alloc _⟩;intro x k;simp at k;omega
 have ak:gn wA rb 46 #[(0:Int),(0:Int),(0:Int),.slice none 0 0]:=by rw[am,ap];exact gn.new2 w _ _ _
 rw[am]at al;have J:gh (p.P.length=n):=gd hn.symm;have⟨aP,aT,ar,aH⟩:=gu y al ap ay;have⟨aQ,aS,aq,aR⟩:=gu ak aL aI T;have aN:=gd A;clear hW hH hd hn hN y al aI A h aL ak am ap ay T;go_enter func65,ntmps65;go_wp2_with fail;rw[<-aT.o,<-ar.o,<-aH.o]
 go_loopg [5,16] n (λj v5 v16 wr=>∃(i:Nat) (vP:Value) (F:List Nat) (xs:List Value) (gs:List Nat),v16=.int .i64 i/\i+j=n/\gh (ll [] wA W H d cb wr vP F xs (p.P.take i) gs))
 .exact⟨0,_,[],[],[],rfl,by omega,gd (by simpa using aS.o)⟩
 obtain⟨i,vP,F,xs,gs,rfl,aV,r⟩:=hrel;rcases gk with _|j
 .obtain rfl:i=n:=by omega
  have aJ:p.P.take i=p.P:=zT (by rw[J.o];exact zQ _);have m:=r.o;rw[aJ]at m;have z:xs.length=i:=by rw[m.pl.lx,J.o]
  rcases m.own.cases with⟨_,he,_⟩|⟨f,u,hF⟩
  .exfalso
   rw[he]at z;simp at z;omega
  have I:=u;obtain⟨a,rfl,aA,aB,-,-⟩:=u.open_;rw[z]at I m;have⟨b0,b1,b2,b3⟩:=my m.blk;simp at b0 b1 b2 b3;have R:=aQ.o.Z m.Z (by simp);have⟨z0,z1,z2,z3⟩:=RJ R 0 1 2 3;have⟨k0,k1,k2,k3⟩:=my R;simp at k0 k1 k2 k3;clear u aA aB aJ;go_wp2_with fail;have⟨w9,aG⟩:=zX ((((wr.setCell rb (.int .i64 W)).setCell ⟨rb,1,none⟩ (.int .i64 H)).setCell ⟨rb,2,none⟩ (.int .i64 d)).setCell ⟨rb,3,none⟩ (.slice f i a));have ao:gn w9 rb 46 #[W,H,d,.slice f i a]:=by
   rw[aG]
   have:=(((R.S 0 (.int .i64 W)).S 1 (.int .i64 H)).S 2 (.int .i64 d)).S 3 (.slice f i a)
   simpa using this
  have V:gg [rb] wr w9:=by
   rw[aG];exact((((zR [rb] wr).zs 0 _).zs 1 _).zs 2 _).zs 3 _
  have⟨g0,g1,g2,g3⟩:=my ao;simp at g0 g1 g2 g3;rw[<-aG];refine bodyPost_ret (v:=.agg #[W,H,d,.slice f i a]) (by simp[results,results65,go_sem,g0,g1,g2,g3]) rfl ?_;have S:∀x∈f::gs,rb<x:=by
   intro x k
   have:=aR.o
   have:=aH.o
   rcases zJ.1 k with rfl|k
   .have:=m.new x (by simp[hF]);omega
   .have:=m.new x (by simp[k]);omega
  refine⟨f,a,xs,gs,rfl,⟨aP.o,?_,m.pl.Z V ?_⟩,?_,?_⟩
  .rw[J.o]
   refine I.Z V ?_;intro hm
   have:=S f (by simp)
   simp at hm;omega
  .intro x k hm
   have:=S x (by simp[k])
   simp at hm;omega
  .refine(aq.o.tq m.Z).trans V ?_
   intro x k;simp at k
   have:=ar.o
   exact .inr (by omega)
  .intro x k
   have:=S x k
   have:=ar.o
   omega
 .have s:i<n:=by omega
  obtain⟨b,q,Z,D⟩:=aN.o wr (aq.o.tq r.o.Z) i s;have O:i<p.P.length:=by rw[J.o];exact s
  have aM:gh (p.P.take (i+1)=p.P.take i++[p.P.getD i []]):=gd (by
   rw[take_succ_eq_append_getElem O,zD,zF O];rfl)
  have z:gh (xs.length=i):=gd (by rw[r.o.pl.lx,zI];omega);have y0:=r.o.blk.X 3;simp at y0;have HK:=gd D;have⟨l,t⟩:=zX (p.P.getD i []);rw[<-t]at aM D;have HK:=gd D;clear D O t;go_wp2_with fail
  go_region_law (first|(refine rL (by rfl) (by rfl) rj (by rfl) (by rfl) (ad.alloc (.cells #[.slice (some ⟨g5,0,none⟩) N c5] 22)) (.slice (some ⟨g5,0,none⟩) N c5) (by rfl) (by simp[go_sem]) (by rfl) (by rw[z.o];omega) (by rw[z.o];omega) ?_;intro g2 aU w6 aK X;have Y:=(K.alloc (.cells #[.slice (some ⟨g5,0,none⟩) N c5] 22)).Z X.Z r.o.cF;have y6:=Y.X 3;have z6:=Y.U 3;simp at y6)|(go_simp;go_at_call 93;refine(HK.o _ ((aq.o.tq r.o.Z).drew)).mono ?_;rintro e w5 ⟨g5,c5,rfl,ae,U,L⟩;have Q:=(r.o.Y ((zR [] wr).drew)).Y U;have ad:=Q.own;have K:=Q.blk;have y5:=K.X 3;have n5:=(K.alloc (.cells #[.slice (some ⟨g5,0,none⟩) N c5] 22)).X 3;simp at y5 n5))
  all_goals
   have M:=ll.next r.o ((((zR [] wr).drew).tq U).alloc (.cells #[.slice (some ⟨g5,0,none⟩) N c5] 22)) (ae.alloc _) L aK X;rw[<-aM.o]at M;have aO:=gd M;clear M aK X Y y6 z6 y5 n5 K ad Q ae U;go_wp2_with fail
   go_roundg j
   .exact⟨i+1,_,_,_,_,by go_num,by omega,aO⟩
   .omega
section
variable {P:Program}
theorem yd{w:World}{ops:Array Oper}{o:Oper}{a:Act}{K:Act->World->Prop}{Q:Exit->Act->World->Prop}{E0:Prop}(l:o.guard=none){s x:Operand}{t:TypeId}(I:o.op=.call { callee:=.builtin .append,args:=#[s,x],argTypes:=#[t,t] }){e:TypeId}{z:Value}{b:Nat}(E:jx P t e z 1 b)(p:z.cells.size=1){v:Value}{F:List Nat}{xs:List Value}(J:a.eval s=v)(i:jj w e v F xs){A:Option Addr}{c:Nat}(news:List Value)(n:Nat)(L:a.eval x=.slice A n c)(m:n=news.length)(D:gz (λu=>u) w A news)(r:∀u∈news,u.oneCell'=true)(k:xs.length+news.length<=9223372036854775807)(f:(xs.length+news.length)*b<=140737488355328)(h:∀j F' w',jj w' e j F' (xs++news)->gE F F' w w'->K (a.put o.dst j) w'):if Region.wanted o (yielded ops a.tmps)=true then Oper.wp P o a w K Q else E0:=by
 subst m;rw[if_pos (by simp[Region.wanted,l])];obtain⟨j,F',w',q,y,C⟩:=EH (P:=P) (ty:=o.type) E p i (c:=c) news D r k f;unfold Oper.wp execOp;simp only[I,resolve,invoke,builtin,Sem.run_bind,Sem.run_pure,Result.andThen_ok,map_toArray,map_cons,map_nil,J,L,q];exact h j F' w' y C
end
theorem Qa{w:World}{p:qc}(r:Nat)(h:ip w p g o B c G):Calls prog 28 #[gW p g o r] w λe w'=>∃(s f:Nat) (xs:List Value) (gs:List Nat),e=.returned (gW p s 0 f)/\iL w' p s f xs gs/\gg [] w w'/\∀x∈s::gs,w.heap.size<=x:=by
 have A:=h.ok;unfold gW;have⟨W,hW⟩:=zX p.W;have⟨H,hH⟩:=zX p.H;have⟨d,hd⟩:=zX p.d;have⟨n,hn⟩:=zX p.P.length;have⟨N,hN⟩:=zX (W*H);rw[<-hW,<-hH,<-hd,<-hn];have bx:n<=4:=by rw[hn];exact A.n1
 have bw:1<=n:=by rw[hn];exact A.n0
 have a4:∀w',gg [] w w'->∀i,i<n->∃b q,w'.cell? ⟨g,o+i,none⟩=some (.slice (some ⟨b,q,none⟩) N (c i))/\∀w1,gg [] w w1->gz (λu=>u) w1 (some ⟨b,q,none⟩) ((p.P.getD i []).map vi):=by
  intro w' hc i t;rw[hn]at t;obtain⟨b,q,e,hb,Q⟩:=h.at_ t;have I:=(h.Y hc).X i t;rw[e,<-hW,<-hH,<-hN]at I;refine⟨b,q,I,λw1 hc1=>?_⟩;have ab:=(h.Y hc1).cells i t;rw[e]at ab;refine⟨λh0=>?_⟩;obtain⟨b,o,e1,e2,e3⟩:=ab.ex (by simpa using h0);refine⟨b,o,e1,e2,λi a ha=>?_⟩;rw[zW]at ha;obtain⟨x,m,rfl⟩:=Option.map_eq_some_iff.1 ha;exact e3 i x m
 have ar:∀i,i<n->(p.P.getD i []).length=N:=λi t=>by rw[hN,hW,hH];exact h.len (by rw[<-hn];exact t)
 have bk:0<N:=by rw[hN,hW,hH];exact A.pos
 have bu:N<=4096:=by rw[hN,hW,hH];exact A.area
 have a2:∀(cs:Array Value),gn ((w.alloc (.cells #[W,H,d,.slice (some ⟨g,o,none⟩) n r] 46)).alloc (.cells cs 46)) w.heap.size 46 #[W,H,d,.slice (some ⟨g,o,none⟩) n r]:=λcs=>(gn.new w _ _).alloc _;have⟨wA,an⟩:=zX (((w.alloc (.cells #[W,H,d,.slice (some ⟨g,o,none⟩) n r] 46)).alloc (.cells #[(0:Int),(0:Int),(0:Int),.slice none 0 0] 46)));have a0:gg [] w wA:=by rw[an];exact((zR [] w).alloc _).alloc _
 have⟨w1,av⟩:=zX (wA.alloc (.cells #[W,H,d,.slice none 0 0] 46));have⟨rb,aC⟩:=zX (w.heap.size+1);have⟨cb,aO⟩:=zX (rb+1);have al:wA.heap.size=cb:=by rw[an,jt,jt,aO,aC]
 have ba:ll [] wA W H d cb w1 (.slice none 0 0) [] [] [] []:=by
  refine⟨by rw[av,<-al];exact gn.new wA _ _,jj.nil _ _,jm.nil _,by simp,by simp,by simp,?_,by simp,by rw[av];exact(zR [] wA).alloc _⟩;intro x m;simp at m;omega
 have ap:gn wA w.heap.size 46 #[W,H,d,.slice (some ⟨g,o,none⟩) n r]:=by rw[an];exact a2 _
 have au:gn wA rb 46 #[(0:Int),(0:Int),(0:Int),.slice none 0 0]:=by rw[an,aC];exact gn.new2 w _ _ _
 rw[an]at av;have J:gh (p.P.length=n):=gd hn.symm;have⟨be,bi,aI,aX⟩:=gu A av aC aO;have⟨bf,bh,ah,bg⟩:=gu au ba a0 al;have⟨bc,aH,aF,aD⟩:=gu a4 ar (h.lt g h.gG) ap;clear hW hH hd hn hN A av a0 a4 h ba au an aC aO al ar a2 ap;go_enter func28,ntmps28;go_wp2_with fail;rw[<-bi.o,<-aI.o,<-aX.o]
 go_loopg [4] n (λj v16 wr=>∃(i:Nat) (vP:Value) (F:List Nat) (xs:List Value) (gs:List Nat),v16=.int .i64 i/\i+j=n/\gh (ll [] wA W H d cb wr vP F xs (p.P.take i) gs))
 .exact⟨0,_,[],[],[],rfl,by omega,gd (by simpa using bh.o)⟩
 obtain⟨i,vP,F,xs,gs,rfl,bv,k⟩:=hrel;rcases gk with _|j
 .obtain rfl:i=n:=by omega
  have t1:decide (i<i)=false:=by simp
  have a8:p.P.take i=p.P:=zT (by rw[J.o];exact zQ _);have y:=k.o;rw[a8]at y;have C:xs.length=i:=by rw[y.pl.lx,J.o]
  rcases y.own.cases with⟨_,he,_⟩|⟨s,ak,hF⟩
  .exfalso
   rw[he]at C;simp at C;omega
  have hr:=ak;obtain⟨f,rfl,aP,aQ,-,-⟩:=ak.open_;rw[C]at hr y;have⟨b0,b1,b2,b3⟩:=my y.blk;simp at b0 b1 b2 b3;have aj:=(aD.o.Z k.o.Z (by simp)).X 3;simp at aj;have ac:=bf.o.Z y.Z (by simp);have⟨z0,z1,z2,z3⟩:=RJ ac 0 1 2 3;have⟨k0,k1,k2,k3⟩:=my ac;simp at k0 k1 k2 k3;clear ak aP aQ a8;go_wp2_with fail;have⟨w9,aV⟩:=zX ((((wr.setCell rb (.int .i64 W)).setCell ⟨rb,1,none⟩ (.int .i64 H)).setCell ⟨rb,2,none⟩ (.int .i64 d)).setCell ⟨rb,3,none⟩ (.slice s i f));have aB:gn w9 rb 46 #[W,H,d,.slice s i f]:=by
   rw[aV]
   have:=(((ac.S 0 (.int .i64 W)).S 1 (.int .i64 H)).S 2 (.int .i64 d)).S 3 (.slice s i f)
   simpa using this
  have T:gg [rb] wr w9:=by
   rw[aV];exact((((zR [rb] wr).zs 0 _).zs 1 _).zs 2 _).zs 3 _
  have⟨g0,g1,O,g3⟩:=my aB;simp at g0 g1 O g3;rw[<-aV];refine bodyPost_ret (v:=.agg #[W,H,d,.slice s i f]) (by simp[results,results28,go_sem,g0,g1,O,g3]) rfl ?_;have ai:∀x∈s::gs,rb<x:=by
   intro x m
   have:=bg.o
   have:=aX.o
   rcases zJ.1 m with rfl|m
   .have:=y.new x (by simp[hF]);omega
   .have:=y.new x (by simp[m]);omega
  refine⟨s,f,xs,gs,rfl,⟨be.o,?_,y.pl.Z T ?_⟩,?_,?_⟩
  .rw[J.o]
   refine hr.Z T ?_;intro hm
   have:=ai s (by simp)
   simp at hm;omega
  .intro x m hm
   have:=ai x (by simp[m])
   simp at hm;omega
  .refine(ah.o.tq y.Z).trans T ?_
   intro x m;simp at m
   have:=aI.o
   exact .inr (by omega)
  .intro x m
   have:=ai x m
   have:=aI.o
   omega
 .have t:i<n:=by omega
  obtain⟨b,q,I,Q⟩:=bc.o wr (ah.o.tq k.o.Z) i t;have Z:i<p.P.length:=by rw[J.o];exact t
  have bb:gh (p.P.take (i+1)=p.P.take i++[p.P.getD i []]):=gd (by
   rw[take_succ_eq_append_getElem Z,zD,zF Z];rfl)
  have C:gh (xs.length=i):=gd (by rw[k.o.pl.lx,zI];omega);have y3:=k.o.blk.X 3;simp at y3;have aj:=(aD.o.Z k.o.Z (by simp)).X 3;simp at aj;have⟨l,hl⟩:=zX (p.P.getD i []);have X:=aH.o i t;rw[<-hl]at bb Q X;have⟨HK,ax⟩:=gy Q X;have⟨wB,aW⟩:=zX (wr.alloc (.cells #[] 3));have bj:=H4 aW;have z:jj wB.drew 3 (.slice (some ⟨wr.heap.size,0,none⟩) 0 0) [wr.heap.size] []:=by rw[aW];exact((gv.made wr 3 [] (by simp[maxLen])).drew).R
  have a3:gz (λu=>u) wB.drew (some ⟨b,q,none⟩) (l.map vi):=HK.o _ (((ah.o.tq k.o.Z).tq bj).drew);have yB:=(k.o.blk.alloc (.cells #[] 3)).X 3;simp at yB;have⟨HZ,aE,aZ⟩:=Q9 z a3 aW;have ae:∀wz,gg [] wA wz->wz.cell? ⟨w.heap.size,3,none⟩=some (.slice (some ⟨g,o,none⟩) n r):=λwz z=>by
   have h:=(aD.o.Z z (by simp)).X 3
   simpa using h
  have D:=gd ae;clear Q Z hl X z a3 ae;have a6:∀wz,gg [] wr wz->wz.cell? ⟨g,o+i,none⟩=some (.slice (some ⟨b,q,none⟩) N (c i)):=λwz z=>(World.cell?_of_block (w:=wr) (z.block g (Nat.lt_of_lt_of_le aF.o (ah.o.tq k.o.Z).size) (by simp))).trans I;have R:=gd a6;have a7:∀wz,gg [] w wz->wz.cell? ⟨g,o+i,none⟩=some (.slice (some ⟨b,q,none⟩) N (c i)):=λwz z=>by
   have h0:w.cell? ⟨g,o+i,none⟩=some (.slice (some ⟨b,q,none⟩) N (c i)):=by
    rw[<-I];exact(World.cell?_of_block (w:=w) ((ah.o.tq k.o.Z).block g aF.o (by simp))).symm
   exact(World.cell?_of_block (w:=w) (z.block g aF.o (by simp))).trans h0
  have aY:=gd a7;clear a6 a7;have za:=D.o _ (k.o.Z.alloc (.cells #[] 3));have zb:=R.o _ ((zR [] wr).alloc (.cells #[] 3));go_wp2_with fail
  go_region_law
   (first
    | (refine yd (by rfl) (by rfl) iO (by rfl) (by rfl) (by have h := HZ.o;rw[aZ.o]at h;exact h) (l.map vi) N (by rfl) (by rw[zE];exact ax.o.symm) (by have h := aE.o;rw[aZ.o]at h;exact h) (uW _) (by rw[zE,ax.o];simp;omega) (by rw[zE,ax.o];simp;omega) ?_;intro v5 F5 w5 aw U;obtain⟨g5,c5,rfl,ag,a1⟩ := Rn aw (by rw[zC,zE,ax.o];simp) bk;have ad:gg [] wr w5 := (((zR [] wr).alloc (.cells #[] 3)).drew).trans U.Z (λx m=>.inr (by simp at m;omega));have a5:wr.heap.size<=g5 := (by rcases U.new g5 (by rw[a1];simp)with hh | hh;simp at hh;omega;have := ((zR [] wr).alloc (.cells #[] 3)).size;simp at hh;omega);have aU := k.o.Y ad;have af := aU.own;have K := aU.blk;have y5 := K.X 3;have n5 := (K.alloc (.cells #[.slice g5 N c5] 22)).X 3;have bn := D.o w5 (k.o.Z.tq ad);have bo := R.o w5 ad;have bl := D.o _ ((k.o.Z.tq ad).alloc (.cells #[.slice g5 N c5] 22));have bm := R.o _ (ad.alloc (.cells #[.slice g5 N c5] 22));simp at y5 n5)
    | (refine rL (by rfl) (by rfl) rj (by rfl) (by rfl) (af.alloc (.cells #[.slice g5 N c5] 22)) (.slice g5 N c5) (by rfl) (by simp[go_sem]) (by rfl) (by rw[C.o];omega) (by rw[C.o];omega) ?_;intro O aJ w6 a9 M;have V := (K.alloc (.cells #[.slice g5 N c5] 22)).Z M.Z k.o.cF;have y6 := V.X 3;have z6 := V.U 3;simp at y6;have L:gg [] wA w6 := ((k.o.Z.tq ad).alloc (.cells #[.slice g5 N c5] 22)).trans M.Z (λx m=>.inr (k.o.new x (by simp[m])));have S:gg [] wA (w6.setCell ⟨cb,3,none⟩ (.slice O (xs.length+1) aJ)) := L.setCell (.inr (k.o.new cb (by simp))) _;have br := D.o w6 L;have bs := aY.o w6 (ah.o.tq L);have bp := D.o _ S;have bq := aY.o _ (ah.o.tq S)))
  all_goals
   have Y:=ll.next k.o (ad.alloc (.cells #[.slice g5 N c5] 22)) (ag.alloc _) a5 a9 M;rw[<-bb.o]at Y;have bd:=gd Y;clear Y a9 M V y6 z6 y5 n5 K af aU ag ad L S bn bo bl bm br bs bp bq aw U a1 a5;go_wp2_with fail
   go_roundg j
   .exact⟨i+1,_,_,_,_,by go_num,by omega,bd⟩
   .omega
end Go.Proofs.YtifdlkoepaepiaaGreatDoor
