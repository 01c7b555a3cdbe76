/- Lemmas. -/
import Derived.Test.YtnepiccbpokmiaaGreatDoorMg19
import Derived.Test.YtnepiccbpokmiaaGreatDoorMg30
set_option linter.all false
set_option maxHeartbeats 2000000
set_option maxRecDepth 100000
namespace Go.Proofs.YtnepiccbpokmiaaGreatDoor
open Tryz List Nat Go.RowKit
variable {G:List Nat}{g o:Nat}{c:Nat->Nat}{B:Nat->Option Addr}
structure lS (E:List Nat) (w0:World) (W H d:Nat) (cb:Nat) (w:World) (vP:Value) (F:List Nat) (xs:List Value) (P:List (List Int)) (gs:List Nat):Prop where
 blk:gn w cb 25 #[W,H,d,vP]
 own:gE w 22 vP F xs
 pl:ke w xs P gs
 cF:cb∉F
 cg:cb∉gs
 gF:∀x∈gs,x∉F
 new:∀x∈cb::(F++gs),w0.heap.size<=x
 old:∀x∈E,x<w0.heap.size
 Z:gf E w0 w
section
variable {E:List Nat} {w0 w w':World} {W H d cb:Nat} {vP:Value} {F:List Nat} {xs:List Value} {P:List (List Int)} {gs:List Nat}
theorem lS.turn(h:lS E w0 W H d cb w vP F xs P gs)(a:gf E w w'):lS E w0 W H d cb w' vP F xs P gs:=by
 have b:∀x∈cb::(F++gs),x∉E:=λx hx hm=>by have:=h.new x hx;have:=h.old x hm;omega
 exact { h with blk:=h.blk.Z a (b cb (by simp)),own:=h.own.Z a (λx hx=>b x (by simp[hx])),pl:=h.pl.Z a (λx hx=>b x (by simp[hx])),Z:=h.Z.tq a }
theorem lS.Y(h:lS E w0 W H d cb w vP F xs P gs)(a:gf [] w w'):lS E w0 W H d cb w' vP F xs P gs:=h.turn (a.mono (by simp))
theorem lS.next{q k:World}(h:lS E w0 W H d cb w vP F xs P gs){u:Value}{i:Nat}{l:List Int}(n:gf E w q)(r:gv q 3 u i (l.map vi))(J:w.heap.size<=i){b:Value}{g2:Nat}(K:gv k 22 b g2 (xs++[u]))(j:gB F [g2] q k):lS E w0 W H d cb (k.setCell ⟨cb,3,none⟩ b) b [g2] (xs++[u]) (P++[l]) (gs++[i]):=by
 have m:=h.turn n;have D:=m.blk.lt;have s:i∉F:=λf=>by have:=h.own.lt i f;omega
 have t:g2≠cb:=λe=>j.o D h.cF (by rw[<-e];simp);have I:∀x∈gs,x≠g2:=λx a e=>j.o (m.pl.lt x a) (h.gF x a) (by rw[e];simp);have ad:i≠g2:=λe=>j.o r.lt s (by rw[e];simp);have v:i≠cb:=λe=>by have:=h.blk.lt;omega
 have A:i∉gs:=λf=>by have:=h.pl.lt i f;omega
 have C:gf [cb] k (k.setCell ⟨cb,3,none⟩ b):=(zR [cb] k).zs 3 b;have z:∀x∈F,w0.heap.size<=x:=λx a=>h.new x (by simp[a]);refine⟨?_,?_,?_,by simpa using t.symm,?_,?_,?_,h.old,?_⟩
 .have:=(m.blk.Z j.Z h.cF).T 3 b
  simpa using this
 .exact(K.R (p:=⟨cb,3,none⟩) t b).S
 .refine((m.pl.Z j.Z h.gF).snoc (r.Z j.Z s) A).Z C ?_
  intro x a f;simp at f;subst f;rcases zP.1 a with a|a
  .exact h.cg a
  .simp at a;exact v a.symm
 .intro f
  rcases zP.1 f with a|a
  .exact h.cg a
  .simp at a;exact v a.symm
 .intro x a f
  simp at f;rcases zP.1 a with a|a
  .exact I x a f
  .simp at a;exact ad (a.symm.trans f)
 .intro x a
  have M:=h.Z.size;have L:=n.size;simp only[zJ,zP,not_mem_nil,or_false]at a;rcases a with rfl|rfl|a|rfl
  .exact h.new x (by simp)
  .rcases j.new x (by simp)with y|y
   .exact z x y
   .omega
  .exact h.new x (by simp[a])
  .omega
 .exact((h.Z.tq n).trans j.Z λx a=>.inr (z x a)).setCell (.inr (h.new cb (by simp))) b
end
theorem Nx{w:World}{p:gH}(cap:Nat)(h:gW w p g o B c G):Calls prog 54 #[gN p g o cap] w λe w'=>∃(f a:Nat) (xs:List Value) (gs:List Nat),e=.returned (gN p f 0 a)/\iL w' p f a xs gs/\gf [] w w'/\∀x∈f::gs,w.heap.size<=x:=by
 have u:=h.ok;unfold gN;have⟨W,hW⟩:=zX p.W;have⟨H,hH⟩:=zX p.H;have⟨d,hd⟩:=zX p.d;have⟨n,hn⟩:=zX p.P.length;have⟨N,hN⟩:=zX (W*H);rw[<-hW,<-hH,<-hd,<-hn];have aX:n<=4:=by rw[hn];exact u.n1
 have aW:1<=n:=by rw[hn];exact u.n0
 have z:∀w',gf [] w w'->∀i,i<n->∃b q,w'.cell? ⟨g,o+i,none⟩=some (.slice (some ⟨b,q,none⟩) N (c i))/\∀w1,gf [] w w1->Calls prog 86 #[.slice (some ⟨b,q,none⟩) N (c i)] w1 λe w2=>∃g5 c5,e=.returned (.slice (some ⟨g5,0,none⟩) N c5)/\gv w2 3 (.slice (some ⟨g5,0,none⟩) N c5) g5 ((p.P.getD i []).map vi)/\gf [] w1 w2/\w1.heap.size<=g5:=by
  intro w' hc i hi;rw[hn]at hi;obtain⟨b,q,e,hb,A⟩:=h.at_ hi;have X:=(h.Y hc).X i hi;rw[e,<-hW,<-hH,<-hN]at X;refine⟨b,q,X,λw1 hc1=>?_⟩;have s:=h.len hi;have ab:=(h.Y hc1).cells i hi;rw[e]at ab;have z:=IS w1 (some ⟨b,q,none⟩) (c i) _ ab (by rw[s];exact u.pos) (by rw[s];have:=u.area;omega);rw[s,<-hW,<-hH,<-hN]at z;refine z.mono ?_;rintro e w2 ⟨v,g5,rfl,t,ch,J⟩;have C:=t;obtain⟨c5,rfl,_⟩:=t.oq;rw[s,<-hW,<-hH,<-hN]at C⊢;exact⟨g5,c5,rfl,C,ch,J⟩
 have⟨wA,am⟩:=zX (((w.alloc (.cells #[W,H,d,.slice (some ⟨g,o,none⟩) n cap] 25)).alloc (.cells #[(0:Int),(0:Int),(0:Int),.slice none 0 0] 25)));have aI:gf [] w wA:=by rw[am];exact((zR [] w).alloc _).alloc _
 have⟨w1,al⟩:=zX (wA.alloc (.cells #[W,H,d,.slice none 0 0] 25));have⟨rb,ap⟩:=zX (w.heap.size+1);have⟨cb,ay⟩:=zX (rb+1);have R:wA.heap.size=cb:=by rw[am,iO,iO,ay,ap]
 have aL:lS [] wA W H d cb w1 (.slice none 0 0) [] [] [] []:=by
  refine⟨by rw[al,<-R];exact gn.new wA _ _,gE.nil _ _,ke.nil _,by simp,by simp,by simp,?_,by simp,by rw[al];exact(zR [] wA).alloc _⟩;intro x k;simp at k;omega
 have ak:gn wA rb 25 #[(0:Int),(0:Int),(0:Int),.slice none 0 0]:=by rw[am,ap];exact gn.new2 w _ _ _
 rw[am]at al;have D:gh (p.P.length=n):=gd hn.symm;have⟨aP,aT,ar,aH⟩:=gz u al ap ay;have⟨aQ,aS,aq,aR⟩:=gz ak aL aI R;have aN:=gd z;clear hW hH hd hn hN u al aI z h aL ak am ap ay R;go_enter func54,ntmps54;go_wp2_with fail;rw[<-aT.o,<-ar.o,<-aH.o]
 go_loopg [5,16] n (λj v5 v16 wr=>∃(i:Nat) (vP:Value) (F:List Nat) (xs:List Value) (gs:List Nat),v16=.int .i64 i/\i+j=n/\gh (lS [] wA W H d cb wr vP F xs (p.P.take i) gs))
 .exact⟨0,_,[],[],[],rfl,by omega,gd (by simpa using aS.o)⟩
 obtain⟨i,vP,F,xs,gs,rfl,aV,r⟩:=hrel;rcases gk with _|j
 .obtain rfl:i=n:=by omega
  have aJ:p.P.take i=p.P:=zT (by rw[D.o];exact zQ _);have m:=r.o;rw[aJ]at m;have y:xs.length=i:=by rw[m.pl.lx,D.o]
  rcases m.own.cases with⟨_,he,_⟩|⟨f,t,hF⟩
  .exfalso
   rw[he]at y;simp at y;omega
  have C:=t;obtain⟨a,rfl,aA,aB,-,-⟩:=t.open_;rw[y]at C m;have⟨b0,b1,b2,b3⟩:=jM m.blk;simp at b0 b1 b2 b3;have O:=aQ.o.Z m.Z (by simp);have⟨z0,z1,z2,z3⟩:=rU O 0 1 2 3;have⟨k0,k1,k2,k3⟩:=jM O;simp at k0 k1 k2 k3;clear t aA aB aJ;go_wp2_with fail;have⟨w9,aG⟩:=zX ((((wr.setCell rb (.int .i64 W)).setCell ⟨rb,1,none⟩ (.int .i64 H)).setCell ⟨rb,2,none⟩ (.int .i64 d)).setCell ⟨rb,3,none⟩ (.slice f i a));have ao:gn w9 rb 25 #[W,H,d,.slice f i a]:=by
   rw[aG]
   have:=(((O.T 0 (.int .i64 W)).T 1 (.int .i64 H)).T 2 (.int .i64 d)).T 3 (.slice f i a)
   simpa using this
  have T:gf [rb] wr w9:=by
   rw[aG];exact((((zR [rb] wr).zs 0 _).zs 1 _).zs 2 _).zs 3 _
  have⟨g0,g1,Y,g3⟩:=jM ao;simp at g0 g1 Y g3;rw[<-aG];refine bodyPost_ret (v:=.agg #[W,H,d,.slice f i a]) (by simp[results,results54,go_sem,g0,g1,Y,g3]) rfl ?_;have Q:∀x∈f::gs,rb<x:=by
   intro x k
   have:=aR.o
   have:=aH.o
   rcases zJ.1 k with rfl|k
   .have:=m.new x (by simp[hF]);omega
   .have:=m.new x (by simp[k]);omega
  refine⟨f,a,xs,gs,rfl,⟨aP.o,?_,m.pl.Z T ?_⟩,?_,?_⟩
  .rw[D.o]
   refine C.Z T ?_;intro Z
   have:=Q f (by simp)
   simp at Z;omega
  .intro x k Z
   have:=Q x (by simp[k])
   simp at Z;omega
  .refine(aq.o.tq m.Z).trans T ?_
   intro x k;simp at k
   have:=ar.o
   exact .inr (by omega)
  .intro x k
   have:=Q x k
   have:=ar.o
   omega
 .have hi:i<n:=by omega
  obtain⟨b,q,X,A⟩:=aN.o wr (aq.o.tq r.o.Z) i hi;have L:i<p.P.length:=by rw[D.o];exact hi
  have aM:gh (p.P.take (i+1)=p.P.take i++[p.P.getD i []]):=gd (by
   rw[take_succ_eq_append_getElem L,zD,zF L];rfl)
  have y:gh (xs.length=i):=gd (by rw[r.o.pl.lx,zI];omega);have y0:=r.o.blk.X 3;simp at y0;have HK:=gd A;have⟨l,s⟩:=zX (p.P.getD i []);rw[<-s]at aM A;have HK:=gd A;clear A L s;go_wp2_with fail
  go_region_law (first|(refine oT (by rfl) (by rfl) uW (by rfl) (by rfl) (ad.alloc (.cells #[.slice (some ⟨g5,0,none⟩) N c5] 22)) (.slice (some ⟨g5,0,none⟩) N c5) (by rfl) (by simp[go_sem]) (by rfl) (by rw[y.o];omega) (by rw[y.o];omega) ?_;intro Y aU w6 aK U;have V:=(I.alloc (.cells #[.slice (some ⟨g5,0,none⟩) N c5] 22)).Z U.Z r.o.cF;have y6:=V.X 3;have z6:=V.V 3;simp at y6)|(go_simp;go_at_call 86;refine(HK.o _ ((aq.o.tq r.o.Z).drew)).mono ?_;rintro e w5 ⟨g5,c5,rfl,ae,S,J⟩;have M:=(r.o.Y ((zR [] wr).drew)).Y S;have ad:=M.own;have I:=M.blk;have y5:=I.X 3;have n5:=(I.alloc (.cells #[.slice (some ⟨g5,0,none⟩) N c5] 22)).X 3;simp at y5 n5))
  all_goals
   have K:=lS.next r.o ((((zR [] wr).drew).tq S).alloc (.cells #[.slice (some ⟨g5,0,none⟩) N c5] 22)) (ae.alloc _) J aK U;rw[<-aM.o]at K;have aO:=gd K;clear K aK U V y6 z6 y5 n5 I ad M ae S;go_wp2_with fail
   go_roundg j
   .exact⟨i+1,_,_,_,_,by go_num,by omega,aO⟩
   .omega
theorem Kg{w:World}{p:gH}(cap:Nat)(h:gW w p g o B c G):Calls prog 28 #[gN p g o cap] w λe w'=>∃(r f:Nat) (xs:List Value) (gs:List Nat),e=.returned (gN p r 0 f)/\iL w' p r f xs gs/\gf [] w w'/\∀x∈r::gs,w.heap.size<=x:=by
 have y:=h.ok;unfold gN;have⟨W,hW⟩:=zX p.W;have⟨H,hH⟩:=zX p.H;have⟨d,hd⟩:=zX p.d;have⟨n,hn⟩:=zX p.P.length;have⟨N,hN⟩:=zX (W*H);rw[<-hW,<-hH,<-hd,<-hn];have bx:n<=4:=by rw[hn];exact y.n1
 have bw:1<=n:=by rw[hn];exact y.n0
 have a4:∀w',gf [] w w'->∀i,i<n->∃b q,w'.cell? ⟨g,o+i,none⟩=some (.slice (some ⟨b,q,none⟩) N (c i))/\∀w1,gf [] w w1->gu (λu=>u) w1 (some ⟨b,q,none⟩) ((p.P.getD i []).map vi):=by
  intro w' hc i hi;rw[hn]at hi;obtain⟨b,q,e,hb,M⟩:=h.at_ hi;have C:=(h.Y hc).X i hi;rw[e,<-hW,<-hH,<-hN]at C;refine⟨b,q,C,λw1 hc1=>?_⟩;have ab:=(h.Y hc1).cells i hi;rw[e]at ab;refine⟨λh0=>?_⟩;obtain⟨b,o,e1,e2,e3⟩:=ab.ex (by simpa using h0);refine⟨b,o,e1,e2,λi a ha=>?_⟩;rw[zW]at ha;obtain⟨x,m,rfl⟩:=Option.map_eq_some_iff.1 ha;exact e3 i x m
 have ar:∀i,i<n->(p.P.getD i []).length=N:=λi hi=>by rw[hN,hW,hH];exact h.len (by rw[<-hn];exact hi)
 have bk:0<N:=by rw[hN,hW,hH];exact y.pos
 have bu:N<=4096:=by rw[hN,hW,hH];exact y.area
 have a2:∀(cs:Array Value),gn ((w.alloc (.cells #[W,H,d,.slice (some ⟨g,o,none⟩) n cap] 25)).alloc (.cells cs 25)) w.heap.size 25 #[W,H,d,.slice (some ⟨g,o,none⟩) n cap]:=λcs=>(gn.new w _ _).alloc _;have⟨wA,an⟩:=zX (((w.alloc (.cells #[W,H,d,.slice (some ⟨g,o,none⟩) n cap] 25)).alloc (.cells #[(0:Int),(0:Int),(0:Int),.slice none 0 0] 25)));have a0:gf [] w wA:=by rw[an];exact((zR [] w).alloc _).alloc _
 have⟨w1,av⟩:=zX (wA.alloc (.cells #[W,H,d,.slice none 0 0] 25));have⟨rb,aC⟩:=zX (w.heap.size+1);have⟨cb,aO⟩:=zX (rb+1);have al:wA.heap.size=cb:=by rw[an,iO,iO,aO,aC]
 have ba:lS [] wA W H d cb w1 (.slice none 0 0) [] [] [] []:=by
  refine⟨by rw[av,<-al];exact gn.new wA _ _,gE.nil _ _,ke.nil _,by simp,by simp,by simp,?_,by simp,by rw[av];exact(zR [] wA).alloc _⟩;intro x m;simp at m;omega
 have ap:gn wA w.heap.size 25 #[W,H,d,.slice (some ⟨g,o,none⟩) n cap]:=by rw[an];exact a2 _
 have au:gn wA rb 25 #[(0:Int),(0:Int),(0:Int),.slice none 0 0]:=by rw[an,aC];exact gn.new2 w _ _ _
 rw[an]at av;have D:gh (p.P.length=n):=gd hn.symm;have⟨be,bi,aI,aX⟩:=gz y av aC aO;have⟨bf,bh,ah,bg⟩:=gz au ba a0 al;have⟨bc,aH,aF,aD⟩:=gz a4 ar (h.lt g h.gG) ap;clear hW hH hd hn hN y av a0 a4 h ba au an aC aO al ar a2 ap;go_enter func28,ntmps28;go_wp2_with fail;rw[<-bi.o,<-aI.o,<-aX.o]
 go_loopg [4] n (λj v16 wr=>∃(i:Nat) (vP:Value) (F:List Nat) (xs:List Value) (gs:List Nat),v16=.int .i64 i/\i+j=n/\gh (lS [] wA W H d cb wr vP F xs (p.P.take i) gs))
 .exact⟨0,_,[],[],[],rfl,by omega,gd (by simpa using bh.o)⟩
 obtain⟨i,vP,F,xs,gs,rfl,bv,k⟩:=hrel;rcases gk with _|j
 .obtain rfl:i=n:=by omega
  have t1:decide (i<i)=false:=by simp
  have a8:p.P.take i=p.P:=zT (by rw[D.o];exact zQ _);have s:=k.o;rw[a8]at s;have z:xs.length=i:=by rw[s.pl.lx,D.o]
  rcases s.own.cases with⟨_,he,_⟩|⟨r,ak,hF⟩
  .exfalso
   rw[he]at z;simp at z;omega
  have hr:=ak;obtain⟨f,rfl,aP,aQ,-,-⟩:=ak.open_;rw[z]at hr s;have⟨b0,b1,b2,b3⟩:=jM s.blk;simp at b0 b1 b2 b3;have aj:=(aD.o.Z k.o.Z (by simp)).X 3;simp at aj;have Z:=bf.o.Z s.Z (by simp);have⟨z0,z1,z2,z3⟩:=rU Z 0 1 2 3;have⟨k0,k1,k2,k3⟩:=jM Z;simp at k0 k1 k2 k3;clear ak aP aQ a8;go_wp2_with fail;have⟨w9,aV⟩:=zX ((((wr.setCell rb (.int .i64 W)).setCell ⟨rb,1,none⟩ (.int .i64 H)).setCell ⟨rb,2,none⟩ (.int .i64 d)).setCell ⟨rb,3,none⟩ (.slice r i f));have aB:gn w9 rb 25 #[W,H,d,.slice r i f]:=by
   rw[aV]
   have:=(((Z.T 0 (.int .i64 W)).T 1 (.int .i64 H)).T 2 (.int .i64 d)).T 3 (.slice r i f)
   simpa using this
  have R:gf [rb] wr w9:=by
   rw[aV];exact((((zR [rb] wr).zs 0 _).zs 1 _).zs 2 _).zs 3 _
  have⟨g0,g1,L,g3⟩:=jM aB;simp at g0 g1 L g3;rw[<-aV];refine bodyPost_ret (v:=.agg #[W,H,d,.slice r i f]) (by simp[results,results28,go_sem,g0,g1,L,g3]) rfl ?_;have ai:∀x∈r::gs,rb<x:=by
   intro x m
   have:=bg.o
   have:=aX.o
   rcases zJ.1 m with rfl|m
   .have:=s.new x (by simp[hF]);omega
   .have:=s.new x (by simp[m]);omega
  refine⟨r,f,xs,gs,rfl,⟨be.o,?_,s.pl.Z R ?_⟩,?_,?_⟩
  .rw[D.o]
   refine hr.Z R ?_;intro hm
   have:=ai r (by simp)
   simp at hm;omega
  .intro x m hm
   have:=ai x (by simp[m])
   simp at hm;omega
  .refine(ah.o.tq s.Z).trans R ?_
   intro x m;simp at m
   have:=aI.o
   exact .inr (by omega)
  .intro x m
   have:=ai x m
   have:=aI.o
   omega
 .have hi:i<n:=by omega
  obtain⟨b,q,C,M⟩:=bc.o wr (ah.o.tq k.o.Z) i hi;have X:i<p.P.length:=by rw[D.o];exact hi
  have bb:gh (p.P.take (i+1)=p.P.take i++[p.P.getD i []]):=gd (by
   rw[take_succ_eq_append_getElem X,zD,zF X];rfl)
  have z:gh (xs.length=i):=gd (by rw[k.o.pl.lx,zI];omega);have y3:=k.o.blk.X 3;simp at y3;have aj:=(aD.o.Z k.o.Z (by simp)).X 3;simp at aj;have⟨l,hl⟩:=zX (p.P.getD i []);have U:=aH.o i hi;rw[<-hl]at bb M U;have⟨HK,ax⟩:=gy M U;have⟨wB,aW⟩:=zX (wr.alloc (.cells #[] 3));have bj:=jD aW;have t:gE wB.drew 3 (.slice (some ⟨wr.heap.size,0,none⟩) 0 0) [wr.heap.size] []:=by rw[aW];exact((gv.made wr 3 [] (by simp[maxLen])).drew).S
  have a3:gu (λu=>u) wB.drew (some ⟨b,q,none⟩) (l.map vi):=HK.o _ (((ah.o.tq k.o.Z).tq bj).drew);have yB:=(k.o.blk.alloc (.cells #[] 3)).X 3;simp at yB;have⟨HZ,aE,aZ⟩:=gS t a3 aW;have ae:∀wz,gf [] wA wz->wz.cell? ⟨w.heap.size,3,none⟩=some (.slice (some ⟨g,o,none⟩) n cap):=λwz t=>by
   have h:=(aD.o.Z t (by simp)).X 3
   simpa using h
  have A:=gd ae;clear M X hl U t a3 ae;have a6:∀wz,gf [] wr wz->wz.cell? ⟨g,o+i,none⟩=some (.slice (some ⟨b,q,none⟩) N (c i)):=λwz t=>(World.cell?_of_block (w:=wr) (t.block g (Nat.lt_of_lt_of_le aF.o (ah.o.tq k.o.Z).size) (by simp))).trans C;have O:=gd a6;have a7:∀wz,gf [] w wz->wz.cell? ⟨g,o+i,none⟩=some (.slice (some ⟨b,q,none⟩) N (c i)):=λwz t=>by
   have h0:w.cell? ⟨g,o+i,none⟩=some (.slice (some ⟨b,q,none⟩) N (c i)):=by
    rw[<-C];exact(World.cell?_of_block (w:=w) ((ah.o.tq k.o.Z).block g aF.o (by simp))).symm
   exact(World.cell?_of_block (w:=w) (t.block g aF.o (by simp))).trans h0
  have aY:=gd a7;clear a6 a7;have za:=A.o _ (k.o.Z.alloc (.cells #[] 3));have zb:=O.o _ ((zR [] wr).alloc (.cells #[] 3));go_wp2_with fail
  go_region_law
   (first
    | (refine nQ (by rfl) (by rfl) iJ (by rfl) (by rfl) (by have h := HZ.o;rw[aZ.o]at h;exact h) (l.map vi) N (by rfl) (by rw[zE];exact ax.o.symm) (by have h := aE.o;rw[aZ.o]at h;exact h) (pX _) (by rw[zE,ax.o];simp;omega) (by rw[zE,ax.o];simp;omega) ?_;intro v5 F5 w5 aw S;obtain⟨g5,c5,rfl,ag,a1⟩ := y8 aw (by rw[zC,zE,ax.o];simp) bk;have ad:gf [] wr w5 := (((zR [] wr).alloc (.cells #[] 3)).drew).trans S.Z (λx m=>.inr (by simp at m;omega));have a5:wr.heap.size<=g5 := (by rcases S.new g5 (by rw[a1];simp)with hh | hh;simp at hh;omega;have := ((zR [] wr).alloc (.cells #[] 3)).size;simp at hh;omega);have Y := k.o.Y ad;have af := Y.own;have I := Y.blk;have y5 := I.X 3;have n5 := (I.alloc (.cells #[.slice g5 N c5] 22)).X 3;have bn := A.o w5 (k.o.Z.tq ad);have bo := O.o w5 ad;have bl := A.o _ ((k.o.Z.tq ad).alloc (.cells #[.slice g5 N c5] 22));have bm := O.o _ (ad.alloc (.cells #[.slice g5 N c5] 22));simp at y5 n5)
    | (refine oT (by rfl) (by rfl) uW (by rfl) (by rfl) (af.alloc (.cells #[.slice g5 N c5] 22)) (.slice g5 N c5) (by rfl) (by simp[go_sem]) (by rfl) (by rw[z.o];omega) (by rw[z.o];omega) ?_;intro L aJ w6 a9 K;have T := (I.alloc (.cells #[.slice g5 N c5] 22)).Z K.Z k.o.cF;have y6 := T.X 3;have z6 := T.V 3;simp at y6;have J:gf [] wA w6 := ((k.o.Z.tq ad).alloc (.cells #[.slice g5 N c5] 22)).trans K.Z (λx m=>.inr (k.o.new x (by simp[m])));have Q:gf [] wA (w6.setCell ⟨cb,3,none⟩ (.slice L (xs.length+1) aJ)) := J.setCell (.inr (k.o.new cb (by simp))) _;have br := A.o w6 J;have bs := aY.o w6 (ah.o.tq J);have bp := A.o _ Q;have bq := aY.o _ (ah.o.tq Q)))
  all_goals
   have V:=lS.next k.o (ad.alloc (.cells #[.slice g5 N c5] 22)) (ag.alloc _) a5 a9 K;rw[<-bb.o]at V;have bd:=gd V;clear V a9 K T y6 z6 y5 n5 I af Y ag ad J Q bn bo bl bm br bs bp bq aw S a1 a5;go_wp2_with fail
   go_roundg j
   .exact⟨i+1,_,_,_,_,by go_num,by omega,bd⟩
   .omega
end Go.Proofs.YtnepiccbpokmiaaGreatDoor
