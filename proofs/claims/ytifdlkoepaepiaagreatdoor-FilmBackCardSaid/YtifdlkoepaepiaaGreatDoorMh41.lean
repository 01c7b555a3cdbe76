/- Lemmas. -/
import Derived.Test.YtifdlkoepaepiaaGreatDoorMh38
import Derived.Test.YtifdlkoepaepiaaGreatDoorMh28
set_option linter.all false
set_option maxHeartbeats 4000000
set_option maxRecDepth 100000
namespace Go.Proofs.YtifdlkoepaepiaaGreatDoor
open Tryz List Nat Go.RowKit
variable {df now:List Int}{F G G' ds:List Nat}{b capP g g' gP k o o' pos:Nat}{c c':Nat->Nat}{B B':Nat->Option Addr}{u:Value}
theorem B6{p:qc}(a:p.Ok)(g o f:Nat)(w:World):Calls prog 32 #[gW p g o f] w λe d=>∃v F,e=.returned v/\ph d v F (iM p.W p.H 8)/\gg [] w d/\∀x∈F,w.heap.size<=x:=by
 have h:=λd=>By p.W p.H 8 d a.w0 a.w1 a.h0 a.h1 (by decide) (by decide);unfold gW;have j:=gd h;clear h;go_enter func32,ntmps32;go_wp2_with fail;refine(j.o _).mono ?_;rintro e t ⟨v,F,rfl,r,l,hF⟩;go_wp2;go_ret;refine⟨v,F,rfl,r,((zR [] w).alloc _).tq l,λx hx=>?_⟩
 have:=hF x hx
 rw[jt]at this;omega
def nI(p:qc)(body:List Nat):List Nat:=jP (mu (body++jP (pv p)))
theorem IA(p:qc)(a:List Nat):(nI p a).length=4:=rfl
theorem Ig{w:World}{p:qc}(y:Nat)(h:ip w p g o B c G)(A:Option Addr)(z:Nat)(a:List Nat)(hc:gz b8 w A a)(hd:∀d∈a,d<256)(h0:0<a.length)(hl:a.length<=1099511627000):Calls prog 54 #[gW p g o y,.slice A a.length z] w λe r=>∃g' cap',e=.returned (.slice (some ⟨g',0,none⟩) 4 cap')/\gv r 5 (.slice (some ⟨g',0,none⟩) 4 cap') g' ((nI p a).map b8)/\gg [] w r/\w.heap.size<=g':=by
 have Q:∀r,gg [] w r->_:=λr hc'=>Qz r A z a (hc.Y hc') h0 (by omega);have N:∀r,gg [] w r->_:=λr hc'=>QN y (h.Y hc');have P:=λr=>BM (pv p) (It h.ok) r;have U:∀d∈a++jP (pv p),d<256:=λd hd'=>by
  rcases zP.1 hd' with V|V
  .exact hd d V
  .exact EU _ d V
 have R:=xH U;have J:=λr=>BM (mu (a++jP (pv p))) R r;have D:=λr A' cap' hc'=>vS r A' cap' (a++jP (pv p)) hc' U (by rw[zC];simp[jP];omega);have aP:=It h.ok;have L:nI p a=jP (mu (a++jP (pv p))):=rfl;have⟨ds,an⟩:=zX (a++jP (pv p));have T:ds.length=a.length+4:=by rw[an,zC];rfl
 rw[<-an]at D L J R;have⟨S,hS⟩:=zX (pv p);have⟨S2,aB⟩:=zX (mu ds);rw[<-hS]at an N P aP;rw[<-aB]at D L J R;rw[L];have⟨n,hn⟩:=zX a.length;rw[<-hn]at Q hl T⊢;have⟨n4,aA⟩:=zX ds.length;rw[<-aA]at D T;unfold gW at N⊢;have aT:IntKind.u64.wrap (S:Int)=(S:Int):=IntWalk.u64_in _ (by omega);have aQ:IntKind.u64.wrap (S2:Int)=(S2:Int):=IntWalk.u64_in _ (by omega);have⟨aH,HN,aI,aG⟩:=gu an hn aA Q;have⟨aJ,aE,au,aD⟩:=gu N P J D;have C:gn (w.alloc (.cells #[p.W,p.H,p.d,.slice (some ⟨g,o,none⟩) p.P.length y] 46)) w.heap.size 46 #[p.W,p.H,p.d,.slice (some ⟨g,o,none⟩) p.P.length y]:=gn.new w _ _;have⟨w1,ar⟩:=zX (w.alloc (.cells #[p.W,p.H,p.d,.slice (some ⟨g,o,none⟩) p.P.length y] 46));rw[<-ar]at C;have X:=H4 ar;have v:gg [] w w1.drew:=X.drew;have aK:=gd ar
 have O:∀wz,gg [] w1 wz->wz.cell? ⟨w.heap.size,0,none⟩=some (.int .i64 p.W)/\wz.cell? ⟨w.heap.size,1,none⟩=some (.int .i64 p.H)/\wz.cell? ⟨w.heap.size,2,none⟩=some (.int .i64 p.d)/\wz.cell? ⟨w.heap.size,3,none⟩=some (.slice (some ⟨g,o,none⟩) p.P.length y):=λwz hz=>
  ⟨(C.Z hz (by simp)).X 0,(C.Z hz (by simp)).X 1,(C.Z hz (by simp)).X 2,(C.Z hz (by simp)).X 3⟩
 have t:gg [] w1 w1.drew:=(zR [] w1).drew;obtain⟨k0,k1,k2,k3⟩:=O w1 (zR _ _);have Z:=gd O;clear Q N P J D an hn aA T U L ar C O hS aB h hc hd h0;go_enter func54,ntmps54;go_wp2_with fail;rw[<-aK.o]
 go_region_held3 (λr=>r.cell? ⟨w.heap.size,0,none⟩=some (.int .i64 p.W)/\r.cell? ⟨w.heap.size,1,none⟩=some (.int .i64 p.H)/\r.cell? ⟨w.heap.size,2,none⟩=some (.int .i64 p.d)/\r.cell? ⟨w.heap.size,3,none⟩=some (.slice (some ⟨g,o,none⟩) p.P.length y))
  (first|(go_keep;done)|exact Z.o _ M|exact Z.o _ (by first|exact t.tq j|exact t.tq f|exact(t.tq j).tq f|exact(t.tq f).tq j|exact(t.tq f).tq l|exact((t.tq j).tq f).tq l|exact((t.tq f).tq j).tq l|exact((t.tq f).tq l).tq j)|trivial)
  (first
   | (go_at_call 83;refine(aG.o _ (by first | exact v | exact v.tq f | exact(v.tq f).tq l)).mono ?_;rintro e w5 ⟨v5,g5,rfl,H,j,aN⟩)
   | (go_at_call 84;refine(aJ.o _ (by first | exact v | exact v.tq j)).mono ?_;rintro e w6 ⟨rfl,f⟩)
   | (go_at_call 47;refine(aE.o _).mono ?_;rintro e w7 ⟨g7,c7,rfl,I,l,aO⟩)
   | (refine yd (by rfl) (by rfl) nT (by rfl) (by rfl) (((H.Z f (by simp)).Z l (by simp)).R) ((jP S).map b8) 4 (by rfl) (by rfl) (gv.cellsB I) (pj _) (by rw[zE,<-HN.o];simp[jP];omega) (by rw[zE,<-HN.o];simp[jP];omega) ?_;intro v8 Y w8 E ad;have M:gg [] w1 w8 := (((t.tq j).tq f).tq l).trans ad.Z (λx hx=>.inr (by simp at hx;have := t.size;have := v.size;have := f.size;have := l.size;have := j.size;omega));have K:gh (gg [] w w8) := gd ((((v.tq j).tq f).tq l).trans ad.Z (λx hx=>.inr (by simp at hx;have := t.size;have := v.size;have := f.size;have := l.size;have := j.size;omega))))
   | (refine yd (by rfl) (by rfl) nT (by rfl) (by rfl) ((H.Z l (by simp)).R) ((jP S).map b8) 4 (by rfl) (by rfl) (gv.cellsB I) (pj _) (by rw[zE,<-HN.o];simp[jP];omega) (by rw[zE,<-HN.o];simp[jP];omega) ?_;intro v8 Y w8 E ad;have M:gg [] w1 w8 := (((t.tq f).tq j).tq l).trans ad.Z (λx hx=>.inr (by simp at hx;have := t.size;have := v.size;have := f.size;have := l.size;have := j.size;omega));have K:gh (gg [] w w8) := gd ((((v.tq f).tq j).tq l).trans ad.Z (λx hx=>.inr (by simp at hx;have := t.size;have := v.size;have := f.size;have := l.size;have := j.size;omega))))
   | (refine yd (by rfl) (by rfl) nT (by rfl) (by rfl) (H.R) ((jP S).map b8) 4 (by rfl) (by rfl) (gv.cellsB (I.Z j (by simp))) (pj _) (by rw[zE,<-HN.o];simp[jP];omega) (by rw[zE,<-HN.o];simp[jP];omega) ?_;intro v8 Y w8 E ad;have M:gg [] w1 w8 := (((t.tq f).tq l).tq j).trans ad.Z (λx hx=>.inr (by simp at hx;have := t.size;have := v.size;have := f.size;have := l.size;have := j.size;omega));have K:gh (gg [] w w8) := gd ((((v.tq f).tq l).tq j).trans ad.Z (λx hx=>.inr (by simp at hx;have := t.size;have := v.size;have := f.size;have := l.size;have := j.size;omega)))))
 all_goals
  have W:=E;rw[<-zM,<-aH.o]at W;obtain⟨A8,c8,rfl,aM,aR,aC⟩:=W.T;rw[<-aI.o]at aM⊢;have aF:=gd aC;clear E W aC ad M H I j f l aN aO k0 k1 k2 k3 t v X;go_wp2_with fail;refine gB (aD.o _ A8 c8 aF.o) ?_;go_wp2_with fail;refine(au.o _).mono ?_;rintro e w9 ⟨g9,c9,rfl,ao,aL,aS⟩;go_wp2;go_ret;exact⟨g9,c9,rfl,ao,K.o.tq aL,by have:=K.o.size;omega⟩
def sr(p q:qc)(s:Sq)(m:Int × Int)(i:Nat):List (List Int):=(range i).map λk=>jq p q k s m
theorem P8(p q:qc)(s:Sq)(m:Int × Int)(i:Nat):sr p q s m (i+1)=sr p q s m i++[jq p q i s m]:=by simp[sr,range_succ]
def qV(p q:qc)(s:Sq)(m:Int × Int)(i:Nat):Bool:=(range i).all λk=>decide (it q k s (0,0)=it p k s m)
theorem Qx(p q:qc)(s:Sq)(m:Int × Int)(i:Nat):qV p q s m (i+1)=(qV p q s m i&&decide (it q i s (0,0)=it p i s m)):=by simp[qV,range_succ]
structure pu (w0:World) (p q:qc) (s:Sq) (m:Int × Int) (n gD:Nat) (w:World) (i:Nat) (xs:List Value) (gs:List Nat):Prop where
 row:gv w 22 (.slice gD n n) gD (xs++replicate (n-i) (.slice none 0 0))
 pl:jm w xs (sr p q s m i) gs
 dg:gD∉gs
 new:∀x∈gD::gs,w0.heap.size<=x
 Z:gg [] w0 w
section
variable {w0 w wa:World} {p q:qc} {s:Sq} {m:Int × Int} {n gD i:Nat} {xs:List Value} {gs:List Nat}
theorem pu.len(h:pu w0 p q s m n gD w i xs gs):xs.length=i:=by rw[h.pl.lx];simp[sr]
theorem pu.Y(h:pu w0 p q s m n gD w i xs gs)(a:gg [] w wa):pu w0 p q s m n gD wa i xs gs:=⟨h.row.Z a (by simp),h.pl.Y a,h.dg,h.new,h.Z.tq a⟩
theorem pu.next(h:pu w0 p q s m n gD w i xs gs)(C:i<n){f:Nat}(l:gg [f] w wa)(A:w.heap.size<=f)(r:gv wa 3 u f ((jq p q i s m).map vi)):pu w0 p q s m n gD (wa.setCell ⟨gD,i,none⟩ u) (i+1) (xs++[u]) (gs++[f]):=by
 have y:=h.len;have j:f≠gD:=λe=>by have:=h.row.lt;omega
 have t:f∉gs:=λd=>by have:=h.pl.lt f d;omega
 have z:gD∉[f]:=by simpa using j.symm
 have ad:gg [gD] wa (wa.setCell ⟨gD,i,none⟩ u):=(zR [gD] wa).zs i u;refine⟨?_,?_,?_,?_,?_⟩
 .have v:=(h.row.Z l z).S (i:=i) (by simp[y];omega) u
  have e:(xs++replicate (n-i) (Value.slice none 0 0)).set i u=(xs++[u])++replicate (n-(i+1)) (Value.slice none 0 0):=by
   rw[set_append_right _ _ (by omega),y,Nat.sub_self];rw[show n-i=(n-(i+1))+1 by omega,replicate_succ];simp
  rw[e]at v;exact v
 .rw[P8]
  refine((h.pl.Z l ?_).snoc r t).Z ad ?_
  .intro x a d
   simp at d;exact t (d ▸ a)
  .intro x a d
   simp at d;subst d;rcases zP.1 a with a|a
   .exact h.dg a
   .simp at a;exact j a.symm
 .intro d
  rcases zP.1 d with a|a
  .exact h.dg a
  .simp at a;exact j a.symm
 .intro x a
  have:=h.Z.size
  simp only[zJ,zP,not_mem_nil,or_false]at a;rcases a with rfl|a|rfl
  .exact h.new x (by simp)
  .exact h.new x (by simp[a])
  .omega
 .refine(h.Z.trans l λx a=>.inr ?_).setCell (.inr (h.new gD (by simp))) u
  have:=h.Z.size
  simp at a;omega
end
def lr(df now:List Int)(k:Nat):List Int:=df.take k++now.drop k
theorem Iy(h:df.length=now.length)(k:Nat):(lr df now k).length=now.length:=by simp[lr];omega
theorem Ix(h:df.length=now.length)(a:k<now.length):(lr df now k)[k]?=some (now.getD k 0):=by
 unfold lr;have d:(df.take k).length=k:=by rw[zI];omega
 rw[zS (by omega),d,Nat.sub_self,getElem?_drop,Nat.add_zero,zD,zF a];rfl
theorem Iz(h:df.length=now.length)(e:k<now.length)(v:Int)(a:df[k]?=some v):(lr df now k).set k v=lr df now (k+1):=by
 unfold lr;have f:(df.take k).length=k:=by rw[zI];omega
 have d:k<df.length:=by omega
 rw[set_append_right _ _ (by omega),f,Nat.sub_self,drop_eq_getElem_cons e,set_cons_zero,take_succ_eq_append_getElem d,zH];rw[zF d]at a;injection a with a;rw[a];rfl
theorem QI{p q:qc}{i:Nat}{s:Sq}{m:Int × Int}(e:k<s.h*s.w):(jq p q i s m)[k]?=some (gU ((it q i s (0,0)).getD k 0-(it p i s m).getD k 0) q.d):=by
 unfold jq rE;rw[List.getElem?_zipWith];have a:k<(it q i s (0,0)).length:=by rw[mE];exact e
 have d:k<(it p i s m).length:=by rw[mE];exact e
 rw[zF a,zF d,zD,zD,zF a,zF d];rfl
def Ie(w:World)(b:Nat)(F bs ts:List Nat)(e:Ending)(w':World):Prop:=e=.returned (.tuple #[])/\∃F',hJ w' b F' (bs++ts)/\gE F F' w w'
theorem Qw{w:World}{p q:qc}(I:Nat)(h:ip w p g o B c G)(r:Nat)(h':ip w q g' o' B' c' G')(ha:iY p q)(s:Sq)(m:Int × Int)(hs:pw p.W p.H s)(t:lO p.W p.H s m)(sw0:1<=s.w)(sw1:s.w<=8)(sh0:1<=s.h)(sh1:s.h<=8)(b:Nat)(F bs:List Nat)(hw:hJ w b F bs)(hp:iK w)(h0F:0∉F)(hbs:bs.length<17179869184):Calls prog 53 #[.pointer (some ⟨b,0,none⟩),gW p g o I,gW q g' o' r,kP s,m.1,m.2] w (Ie w b F bs (jN p q s m)):=by
 have bA:=h.ok;have ae:=h'.ok;have cy:s.x<=64:=by have:=hs.x;have:=bA.w1;omega
 have cz:s.y<=64:=by have:=hs.y;have:=bA.h1;omega
 have bx:=t.fit;have bW:∀w',gg [] w w'->∀i,i<q.P.length->_:=λw' hc i A=>tN I (h.Y hc) i (by rw[ha.n];exact A) s m bx.x0 bx.x1 bx.y0 bx.y1 cy cz;have bo:=hs.fit;have aV:∀w',gg [] w w'->∀i,i<q.P.length->_:=λw' hc i A=>tN r (h'.Y hc) i A s (0,0) bo.x0 (by rw[<-ha.W];exact bo.x1) bo.y0 (by rw[<-ha.H];exact bo.y1) cy cz;have⟨n,hn⟩:=zX q.P.length;have⟨M,hM⟩:=zX (s.h*s.w);have dR:M<=64:=by rw[hM];exact zL sh1 sw1
 have dB:0<M:=by rw[hM];exact Nat.mul_pos sh0 sw0
 have dY:n<=4:=by rw[hn];exact ae.n1
 have ax:∀i,(it q i s (0,0)).length=M:=λi=>by rw[mE,hM]
 have ay:∀i,(it p i s m).length=M:=λi=>by rw[mE,hM]
 have az:∀i,(jq p q i s m).length=M:=λi=>by rw[yp,hM,zY]
 have ao:∀i,i<q.P.length->ie q.d (it q i s (0,0)):=λi A=>tK h'.ok A s (0,0);have ap:∀i,i<q.P.length->ie q.d (it p i s m):=λi A=>by rw[<-ha.d];exact tK h.ok (by rw[ha.n];exact A) s m
 have aR:∀i,ie q.d (jq p q i s m):=λi=>Iq _ _ _;have X:∀i k,k<M->_:=λi k H=>QI (p:=p) (q:=q) (i:=i) (s:=s) (m:=m) (k:=k) (by rw[<-hM];exact H);have cx:∀v w,_:=λv w=>o7 v q.d w ae.d0 ae.d1;have bP:=ae.d0;have bQ:=ae.d1;have⟨d,hd⟩:=zX q.d;rw[<-hd]at ao ap aR cx bP bQ;rw[<-hn]at bW aV ao ap;unfold gW kP at bW aV⊢;rw[<-hd]at aV⊢;rw[<-hn]at aV⊢;have⟨w1,Q⟩:=zX ((((w.alloc (.cells #[p.W,p.H,p.d,.slice (some ⟨g,o,none⟩) p.P.length I] 46)).alloc (.cells #[q.W,q.H,d,.slice (some ⟨g',o',none⟩) n r] 46)).alloc (.cells #[s.x,s.y,s.w,s.h] 73)));have be:gn w1 w.heap.size 46 #[p.W,p.H,p.d,.slice (some ⟨g,o,none⟩) p.P.length I]:=by rw[Q];exact((gn.new w _ _).alloc _).alloc _
 have bf:gn w1 (w.heap.size+1) 46 #[q.W,q.H,d,.slice (some ⟨g',o',none⟩) n r]:=by rw[Q];exact(gn.new2 w _ _ _).alloc _
 have bg:gn w1 (w.heap.size+1+1) 73 #[s.x,s.y,s.w,s.h]:=by rw[Q];exact gn.new3 w _ _ _ _
 have bM:gh (gg [] w w1):=gd (by rw[Q];exact(((zR [] w).alloc _).alloc _).alloc _);have cV:w1.heap.size=w.heap.size+1+1+1:=by rw[Q,jt,jt,jt]
 have aL:∀(E:List Nat) wr,gg E w1 wr->w.heap.size∉E->w.heap.size+1∉E->w.heap.size+1+1∉E->(wr.cell? ⟨w.heap.size,0,none⟩=some (.int .i64 p.W)/\wr.cell? ⟨w.heap.size,1,none⟩=some (.int .i64 p.H)/\wr.cell? ⟨w.heap.size,2,none⟩=some (.int .i64 p.d)/\wr.cell? ⟨w.heap.size,3,none⟩=some (.slice (some ⟨g,o,none⟩) p.P.length I)) /\
   (wr.cell? ⟨w.heap.size+1,0,none⟩=some (.int .i64 q.W)/\wr.cell? ⟨w.heap.size+1,1,none⟩=some (.int .i64 q.H)/\wr.cell? ⟨w.heap.size+1,2,none⟩=some (.int .i64 d)/\wr.cell? ⟨w.heap.size+1,3,none⟩=some (.slice (some ⟨g',o',none⟩) n r)) /\
   (wr.cell? ⟨w.heap.size+1+1,0,none⟩=some (.int .i64 s.x)/\wr.cell? ⟨w.heap.size+1+1,1,none⟩=some (.int .i64 s.y)/\wr.cell? ⟨w.heap.size+1+1,2,none⟩=some (.int .i64 s.w)/\wr.cell? ⟨w.heap.size+1+1,3,none⟩=some (.int .i64 s.h)):=λE wr hc D e2 e3=>
  ⟨⟨(be.Z hc D).X 0,(be.Z hc D).X 1,(be.Z hc D).X 2,(be.Z hc D).X 3⟩,⟨(bf.Z hc e2).X 0,(bf.Z hc e2).X 1,(bf.Z hc e2).X 2,(bf.Z hc e2).X 3⟩,⟨(bg.Z hc e3).X 0,(bg.Z hc e3).X 1,(bg.Z hc e3).X 2,(bg.Z hc e3).X 3⟩⟩
 have dX:=kg (P:=prog) rj rfl .i64 .i64 n (by omega) (by omega);have cR:pu w1 p q s m n w1.heap.size (w1.alloc (.cells (replicate n (Value.slice none 0 0)).toArray 22)) 0 [] []:=by
  refine⟨?_,jm.nil _,by simp,by simp,(zR [] w1).alloc _⟩
  have:=gv.made w1 22 (replicate n (.slice none 0 0)) (by simp[maxLen];omega)
  simpa using this
 have bI:=hw.Y bM.o;have bV:=hw.lt;have⟨du,a6,HP,al⟩:=gu bI bV hp aL;have⟨dq,dr,HZ,dg⟩:=gu cR Q cV bW;have⟨de,cE,da,cc⟩:=gu aV ax ay az;have⟨dj,dk,dl,c0⟩:=gu ao ap aR X;have⟨dt,dc⟩:=gy cx t;have W:gh (n=q.P.length/\d=q.d/\M=s.h*s.w):=gd ⟨hn,hd,hM⟩;obtain⟨dH,dI⟩:=jX bP bQ;obtain⟨⟨a0,a1,a2,a3⟩,⟨b0,b1,b2,b3⟩,⟨s0,s1,s2,s3⟩⟩:=aL [] w1 (zR _ _) (by simp) (by simp) (by simp);clear bW aV ax ay az ao ap aR X cx hn hd hM Q be bf bg aL cR bI bV hp hw bA ae bx bo h h' ha hs t cy cz cV;go_enter func53,ntmps53;go_wp2_with fail;have⟨gD,cq⟩:=zX w1.heap.size;have⟨w2,cw⟩:=zX (w1.alloc (.cells (Array.replicate n (Value.slice none 0 0)) 22));have cD:gh (gD=w.heap.size+1+1+1):=gd (by rw[cq,HZ.o]);have bG:pu w1 p q s m n gD w2 0 [] []:=by
  have:=dq.o
  rw[toArray_replicate]at this;rw[cq,cw];exact this
 have cg:=gd bG;rw[<-dr.o,<-cw,<-cD.o];clear cq bG cw
 go_loopg [13,14,15,16,17,26] n (λj v13 v14 v15 v16 v17 v26 wr=>∃(i:Nat) (xs:List Value) (gs:List Nat),v26=.int .i64 i/\i+j=n/\v13=.bool (qV p q s m i)/\gh (pu w1 p q s m n gD wr i xs gs))
 .exact⟨0,[],[],rfl,by omega,rfl,cg⟩
 obtain⟨i,xs,gs,rfl,dU,rfl,f⟩:=hrel;rcases gk with _|j
 .obtain rfl:i=n:=by omega
  have t1:decide (i<i)=false:=by simp
  have ct:qV p q s m i=sA p q s m:=by rw[W.o.1];rfl
  have⟨z,hz⟩:=zX (qV p q s m i);rw[<-hz]at ct⊢;have bA:=dc.o;obtain⟨m1,m2,m3,m4,_⟩:=bA;obtain⟨D,cM⟩:∃D:Nat,m.1+4=(D:Int):=⟨(m.1+4).toNat,by omega⟩;obtain⟨e2,cN⟩:∃e2:Nat,m.2+4=(e2:Int):=⟨(m.2+4).toNat,by omega⟩;have dP:D<=8:=by omega
  have dQ:e2<=8:=by omega
  have bH:lp m=gx D 4++gx e2 4:=by
   unfold lp;rw[cM,cN];rfl
  have u1:IntKind.u64.wrap (D:Int)=(D:Int):=IntWalk.u64_in _ (by omega);have u2:IntKind.u64.wrap (e2:Int)=(e2:Int):=IntWalk.u64_in _ (by omega);have bl:gg [] w wr:=bM.o.tq f.o.Z;have aX:=du.o.Y f.o.Z;have bh:jN p q s m=if z=true then(if m=(0,0)then gx 0 2 else gx 1 2++lp m)else gx 2 2++(lp m++j4 p q s m q.P.length):=by rw[ct];rfl
  have T:=λk=>BX p q (s:=s) m sw0 sh0 sw1 sh1 (by rw[<-W.o.2.1];exact bP) (by rw[<-W.o.2.1];exact bQ) k;have⟨dO,a9,ag,b7⟩:=gu bh bH bl T;have aI:z=true->m.1=0->m.2=0->jN p q s m=gx 0 2:=λa b c=>by rw[bh,if_pos a,if_pos (Prod.ext b c)]
  have aF:z=true->¬(m.1=0/\m.2=0)->jN p q s m=gx 1 2++lp m:=λa b=>by rw[bh,if_pos a,if_neg (λe=>b (by rw[e];exact⟨rfl,rfl⟩))]
  have aw:z=false->jN p q s m=gx 2 2++(lp m++j4 p q s m q.P.length):=λa=>by rw[bh,if_neg (by rw[a];simp)]
  have⟨ba,a8,a5⟩:=Q9 aI aF aw;clear bh bH bl T aI aF aw hz ct m1 m2 m3 m4
  cases z with
  | true=>
   by_cases c1:m.1=0/\m.2=0
   .have S:=ba.o rfl c1.1 c1.2
    have cW:(m.1==0)=true:=(by simpa using c1.1);have dN:(m.2==0)=true:=(by simpa using c1.2);have C:=iG wr b F bs 0 2 aX (by decide) (by decide) (by omega);have aZ:=gd S;clear c1 aX S cM cN;go_wp2_with fail;refine C.mono ?_;rintro e w3 ⟨rfl,F3,aW,aU⟩;go_wp2_with fail;refine bodyPost_ret (results_none rfl _ _ _) rfl ?_;exact⟨rfl,F3,by rw[aZ.o];exact aW,gE.pre ag.o aU⟩
   .have S:=a8.o rfl c1
    have C:=iG wr b F bs 1 2 aX (by decide) (by decide) (by omega);have aZ:=gd S;have cC:(m.1==0)=false\/((m.1==0)=true/\(m.2==0)=false):=by
     by_cases q1:m.1=0
     .right
      exact⟨by simpa using q1,by simpa using λq2=>c1 ⟨q1,q2⟩⟩
     .left;simpa using q1
    clear c1 aX S;rcases cC with cW|⟨cW,dN⟩
    all_goals
     go_wp2_with fail;refine C.mono ?_;rintro e w3 ⟨rfl,F3,aW,aU⟩;have N:=iG w3 b F3 _ D 4 aW (by decide) (by omega) (by rw[zC,gH];omega);go_wp2_with fail;refine N.mono ?_;rintro e U ⟨rfl,F4,bX,bS⟩;have bB:=iG U b F4 _ e2 4 bX (by decide) (by omega) (by rw[zC,zC,gH,gH];omega);clear N C;go_wp2_with fail;refine bB.mono ?_;rintro e w5 ⟨rfl,F5,bY,Y⟩;clear bB;go_wp2_with fail;refine bodyPost_ret (results_none rfl _ _ _) rfl ?_;exact⟨rfl,F5,by rw[aZ.o,a9.o];simpa only[zH]using bY,gE.pre ag.o ((aU.trans bS).trans Y)⟩
  | false=>
   have S:=a5.o rfl;have C:=iG wr b F bs 2 2 aX (by decide) (by decide) (by omega);have aZ:=gd S;have br:gD∉F:=λt=>by have:=a6.o gD t;have:=cD.o;omega
   have aE:∀k,k<i->∃gk Z,wr.cell? ⟨gD,k,none⟩=some (.slice (some ⟨gk,0,none⟩) M Z)/\gv wr 3 (.slice (some ⟨gk,0,none⟩) M Z) gk ((jq p q k s m).map vi)/\gk∉F:=by
    intro k H;have hP:(sr p q s m i)[k]?=some (jq p q k s m):=(by unfold sr;rw[zW,getElem?_range H];rfl);obtain⟨u,gk,h1,h2,h3⟩:=f.o.pl.row k _ hP;obtain⟨Z,rfl,_⟩:=h3.T;rw[cc.o k]at h1 h3;obtain⟨_,-,-,-,J,-⟩:=f.o.row.open_;have dG:k<xs.length:=(by rw[f.o.len];exact H);refine⟨gk,Z,?_,h3,λt=>?_⟩
    .rw[J k (by rw[zC];omega),getElem?_append_left dG,h1]
    .have h4:=a6.o gk t
     have h5:=f.o.new gk (mem_cons_of_mem _ (mem_of_getElem? h2));have h6:=HZ.o;omega
   have⟨a7,ca⟩:=gy aE br;have bu:=f.o.row.lt;have cb:=gd bu;have cH:0<w.heap.size:=HP.o.lt;have⟨H0,dm⟩:=gy cH f.o.Z;obtain⟨cX,rfl⟩:=zX wr;clear aX S aE br bu cH;go_wp2_with fail;refine C.mono ?_;rintro e w3 ⟨rfl,F3,aW,aU⟩;have N:=iG w3 b F3 _ D 4 aW (by decide) (by omega) (by rw[zC,gH];omega);go_wp2_with fail;refine N.mono ?_;rintro e U ⟨rfl,F4,bX,bS⟩;have bB:=iG U b F4 _ e2 4 bX (by decide) (by omega) (by rw[zC,zC,gH,gH];omega);clear N C;go_wp2_with fail;refine bB.mono ?_;rintro e w5 ⟨rfl,F5,bY,Y⟩;have ds:gh (hJ w5 b F5 (bs++(gx 2 2++(lp m++j4 p q s m 0)))):=gd (by
    have e0:j4 p q s m 0=[]:=rfl;rw[a9.o,e0]
    simpa only[zH,append_nil]using bY)
   have V:=gd ((aU.trans bS).trans Y);clear bB aW bX bY aU bS Y;go_wp2_with fail
   go_loopg [19,102] i (λj2 v19 v102 wr3=>∃(k:Nat) (F6:List Nat),v102=.int .i64 k/\k+j2=i/\gh (hJ wr3 b F6 (bs++(gx 2 2++(lp m++j4 p q s m k))))/\gh (gE F F6 cX wr3))
   .exact⟨0,F5,rfl,by omega,ds,V⟩
   obtain⟨k,F6,rfl,dF,cF,R⟩:=hrel;rcases gk with _|j2
   .obtain rfl:k=i:=by omega
    have t2:decide (k<k)=false:=(by simp);go_wp2_with fail;refine bodyPost_ret (results_none rfl _ _ _) rfl ?_;refine⟨rfl,F6,?_,gE.pre ag.o R.o⟩;rw[aZ.o,<-W.o.1];exact cF.o
   .have H:k<i:=by omega
    have t2:decide (k<i)=true:=zB H;obtain⟨gk,Z,bj,aQ,aP⟩:=a7.o k H;have bw:=aQ.lt;have dD:wr.cell? ⟨gD,k,none⟩=some (.slice (some ⟨gk,0,none⟩) M Z):=(World.cell?_of_block (w:=cX) (R.o.Z.block gD cb.o ca.o)).trans bj;have O:=aQ.Z R.o.Z aP;have bv:gk∉F6:=R.o.o bw aP;have⟨l,hl⟩:=zX (jq p q k s m);have bU:=cc.o k;have cs:=dl.o k;rw[<-hl]at bU cs O;have ah:gz vi wr (some ⟨gk,0,none⟩) l:=by
     have bV:=O.lt;obtain⟨_,_,_,_,J,_⟩:=O.T;exact⟨λ_=>⟨gk,0,rfl,bV,λa x hx=>by rw[Nat.zero_add];exact J a x hx⟩⟩
    have aG:mf wr l (some ⟨gk,0,none⟩) s.w s.h d:=⟨sw0,by omega,sh0,by omega,bP,bQ,by rw[bU,W.o.2.2,zY],cs,ah⟩;have cQ:=(HP.o.Y ag.o).Z R.o.Z h0F;have cG:0∉F6:=R.o.o (Nat.lt_of_lt_of_le H0.o ag.o.size) h0F;have T:=b7.o k;have C:=Hk Z aG cQ b F6 _ cF.o (QD bv) cG (by rw[zC,zC,zC,gH,tJ];omega);rw[bU]at C;unfold kF at C;have bz:(bs++(gx 2 2++(lp m++j4 p q s m k)))++ik (m6 l s.w s.h d) l s.w s.h d=bs++(gx 2 2++(lp m++j4 p q s m (k+1))):=by
     rw[yn,hl,W.o.2.1];simp only[zH,pt]
    rw[bz]at C;have bm:gg F w1 wr:=(dm.o.mono (by simp)).trans R.o.Z (λx hx=>.inl hx);obtain⟨-,⟨-,-,b2,-⟩,⟨-,-,s2,s3⟩⟩:=al.o F wr bm (λt=>by have:=a6.o _ t;omega) (λt=>by have:=a6.o _ t;omega) (λt=>by have:=a6.o _ t;omega);have cd:=gd C;clear C bz bm cQ aG ah O aQ bj bU cs hl T bv aP bw cG;go_wp2_with fail;refine cd.o.mono ?_;rintro e w7 ⟨rfl,F7,dK,dE⟩;go_wp2_with fail
    go_roundg j2
    .exact⟨k+1,F7,by go_num,by omega,gd dK,gd (R.o.trans dE)⟩
    .omega
 .have A:i<n:=by omega
  have t1:decide (i<n)=true:=zB A;obtain⟨bL,rfl⟩:=zX wr;obtain⟨⟨a0,a1,a2,a3⟩,⟨b0,b1,b2,b3⟩,⟨s0,s1,s2,s3⟩⟩:=al.o [] bL f.o.Z (by simp) (by simp) (by simp);have cP:=dg.o bL (bM.o.tq f.o.Z) i A;have⟨z,hz⟩:=zX (qV p q s m i);rw[<-hz];have dw:=gd hz;clear hz;go_wp2_with fail;refine cP.mono ?_;rintro e U ⟨v4,F4,rfl,bJ,ch,dA⟩;have ab:=gd (f.o.Z.tq ch);have N:=de.o U (bM.o.tq ab.o) i A;clear cP a0 a1 a2 a3 b0 b1 b2 b3 s0 s1 s2 s3;obtain⟨⟨a0,a1,a2,a3⟩,⟨b0,b1,b2,b3⟩,⟨s0,s1,s2,s3⟩⟩:=al.o [] U ab.o (by simp) (by simp) (by simp);go_wp2_with fail;refine N.mono ?_;rintro e w5 ⟨v5,F5,rfl,bK,bb,cL⟩;have⟨b5,a4⟩:=gy (ab.o.tq bb) ((zR [] bL).tq ch);clear N a0 a1 a2 a3 b0 b1 b2 b3 s0 s1 s2 s3;obtain⟨A4,c4,rfl,cI,dx,bi⟩:=bJ.T;have⟨aY,af⟩:=zX (it p i s m);have⟨ak,ac⟩:=zX (it q i s (0,0));have L:=da.o i;have K:=cE.o i;rcases bK.cases with⟨_,he,_⟩|⟨g5,aj,bc⟩
  .exfalso
   have:=cE.o i
   rw[List.map_eq_nil_iff.1 he]at this;simp at this;omega
  have bC:=aj;obtain⟨c5,rfl,cJ,dy,bk,co⟩:=aj.T;have Y:U.heap.size<=g5:=cL g5 (by rw[bc];simp);have ci:gz vi w5 (some ⟨g5,0,none⟩) (it q i s (0,0)):=⟨λ_=>⟨g5,0,rfl,bC.lt,λk a H=>by rw[Nat.zero_add];exact bk k a H⟩⟩;rw[<-af]at L bi cI;rw[<-ac]at K ci cJ bC;rw[<-af,<-ac,L,K];rw[L]at cI;rw[K]at cJ bC;have cv:=dk.o i A;have cu:=dj.o i A;rw[<-af]at cv;rw[<-ac]at cu;have cp:=Qx p q s m i;rw[<-dw.o,<-ac,<-af]at cp;have bn:=QB w5 (some ⟨g5,0,none⟩) A4 c5 c4 ak aY ci (bi.Y bb) (by rw[L,K]) (by rw[K];omega);rw[K,L]at bn;have⟨c6,c3,db,bO⟩:=gu af ac L K;have⟨dp,dn,c7,di⟩:=gu cv cu (bi.Y bb) bC;have⟨V,c2⟩:=gy Y cp;have cK:∀ad,A4=some ad->ad.block<U.heap.size:=λad e=>by
   obtain⟨b0,o0,e0,dC,_⟩:=bi.ex (by rw[L];exact dB);rw[e]at e0;injection e0 with e0;subst e0;exact dC
  have⟨cY,bZ⟩:=gy cK bb;clear af ac L K cv cu bi ci aj bC dx dy bk co bc bJ bK ch bb dA cL cp cK Y;have⟨eq,aN⟩:=zX (decide (ak=aY));rw[<-aN]at bn;have ai:=c2.o;rw[<-aN]at ai;clear aN;rcases(show z=false\/z=true by cases z<;>simp)with rfl|rfl;have aq:gh (qV p q s m (i+1)=false):=gd (by rw[ai];rfl);obtain⟨w6,rfl⟩:=zX w5;have aT:gg [] w6 w6:=zR _ _;clear bn ai;go_wp2_with fail;rotate_left;have aq:gh (qV p q s m (i+1)=eq):=gd (by rw[ai];cases eq<;>rfl);clear ai;go_wp2_with fail;refine bn.mono ?_;rintro e w6 ⟨rfl,aT⟩;clear bn;rotate_left
  all_goals
   have b4:=gd (bZ.o.tq aT);have cn:(jq p q i s m).length=ak.length:=(by rw[cc.o,bO.o]);have⟨df,cm⟩:=zX (jq p q i s m);have X:=c0.o i;rw[<-cm]at cn X;rw[<-c3.o,<-c6.o,<-W.o.2.1]at X;have bE:gv w6 3 (.slice g5 M c5) g5 ((lr df ak 0).map vi):=by
    have h1:=di.o.Z aT (by simp)
    simpa[lr]using h1
   have⟨dh,b6,cZ,am⟩:=gu bE (b5.o.tq aT) cm cn;have⟨b9,c8⟩:=gy X (c7.o.Y aT);clear bE cm cn X aT;go_wp2_with fail
   go_loopg [17,47] M (λj2 v17 v47 wr2=>∃k:Nat,v47=.int .i64 k/\k+j2=M/\gh (gv wr2 3 (.slice g5 M c5) g5 ((lr df ak k).map vi))/\gh (gg [g5] w6 wr2))
   .exact⟨0,rfl,by omega,dh,gd (zR _ _)⟩
   obtain⟨k,rfl,dF,ce,bN⟩:=hrel;rcases gk with _|j2
   .obtain rfl:k=M:=by omega
    have t2:decide (k<k)=false:=(by simp);have O:=ce.o;rw[show lr df ak k=jq p q i s m by
     rw[<-cZ.o];unfold lr;rw[zT (by rw[am.o,bO.o];exact zQ _),drop_of_length_le (by rw[bO.o];exact zQ _),append_nil]]at O
    have cl:gg [g5] bL wr:=(((a4.o.tq b4.o).mono (by simp)).trans bN.o (λx hx=>.inl hx));have bq:bL.heap.size<=g5:=Nat.le_trans a4.o.size V.o;have hD:gD∉[g5]:=(by have:=f.o.row.lt;simp;omega);have bD:=f.o.row.Z cl hD;obtain⟨_,-,-,-,J,bp⟩:=bD.open_;have dD:wr.cell? ⟨gD,i,none⟩=some (.slice none 0 0):=by
     rw[J i (by rw[zC,f.o.len,zV];omega),zS (by rw[f.o.len];exact zQ _),f.o.len,Nat.sub_self,getElem?_replicate,if_pos (by omega)]
    have dS:=bp i;have bz:=f.o.next A cl bq O;have dd:=gd bz;clear O cl hD bD J bp bz bq;go_wp2_with fail
    go_roundg j
    .exact⟨i+1,_,_,by go_num,by omega,by rw[aq.o],dd⟩
    .omega
   .have H:k<M:=by omega
    have bT:k<ak.length:=(by rw[bO.o];exact H);have cr:k<aY.length:=(by rw[db.o];exact H);have cO:=Ix am.o bT;obtain⟨_,-,-,-,J,bp⟩:=ce.o.T;have T:=J k _ cO;have dT:=bp k;have bd:ib A4 aY [g5]:=λ_ ad e t=>by have:=cY.o ad e;have:=V.o;simp at t;omega
    obtain⟨ga,oa,dz,cj⟩:=(c8.o.N bd bN.o).at_ cr;subst dz;have⟨x,hx⟩:=zX (ak.getD k 0);have⟨y,hy⟩:=zX (aY.getD k 0);have cU:aY[k]=y:=(by rw[hy,zD,zF cr];rfl);rw[cU]at cj;rw[<-hx]at T;have cA:wr.cell? ⟨ga,oa+k,none⟩=some (.int .i64 y):=cj;have cB:wr.cell? ⟨g5,k,none⟩=some (.int .i64 x):=T;obtain⟨dL,cS⟩:=mK dn.o k;obtain⟨dM,cT⟩:=mK dp.o k;rw[<-hx]at dL cS;rw[<-hy]at dM cT;have dZ:x<65536:=(by omega);have d2:y<65536:=(by omega);have bR:=b9.o k H;rw[<-hx,<-hy]at bR;have aS:=dt.o (x-y);have⟨v,hv⟩:=zX (gU (x-y) d);rw[<-hv]at bR aS;have dv:gh (∀w,Calls prog 81 #[.int .i64 (x-y),d] w λe w'=>e=.returned (.int .i64 v)/\w'=w):=gd (λw=>(aS w).mono λe w' h=>⟨h.1,h.2.symm⟩);have Q:IntKind.i64.wrap (x-y)=x-y:=IntWalk.i64_in _ (by omega);have bm:gg [g5] w1 wr:=((b6.o.mono (F':=[g5]) (by simp))).trans bN.o (λx hx=>.inl hx);have b2:=(al.o [g5] wr bm (by have:=V.o;have:=ab.o.size;have:=HZ.o;simp;omega) (by have:=V.o;have:=ab.o.size;have:=HZ.o;simp;omega) (by have:=V.o;have:=ab.o.size;have:=HZ.o;simp;omega)).2.1.2.2.1;have bF:=Iz am.o bT v bR;have⟨cf,c9⟩:=gy bF bT;clear T cj hx hy cU bR aS hv bm bF J bp cO bd bT cr cS cT;go_wp2_with fail;refine i9 15 (by kernel_rfl) (by kernel_rfl) ?_;simp only[take_succ_cons,take_zero,drop_succ_cons,drop_zero]
    repeat(go_big_quiet_step ((go_at_call 81;exact Calls.quiet_of_same (dv.o _))))
    refine wpQuiet_nil ?_;intro _ dJ;obtain⟨nq,rfl⟩:=dJ;go_wp2_with fail
    go_roundg j2
    .refine⟨k+1,by go_num,by omega,gd ?_,gd ((bN.o.drewN nq).setCell (p:=⟨g5,k,none⟩) (.inl (by simp)) _)⟩
     have h1:=(ce.o.drewN nq).S (i:=k) (by rw[zE,Iy am.o];exact c9.o) (.int .i64 v);have e:((lr df ak k).map vi).set k (.int .i64 v)=(lr df ak (k+1)).map vi:=(by rw[<-cf.o,map_set];rfl);rw[e]at h1;exact h1
    .omega
theorem Is{p q:qc}(a:iY p q)(i:Nat)(s:Sq):it q i s (0,0)=jn (q.P.getD i []) p.W s.x s.y s.w s.h:=by
 unfold it;rw[a.W];simp
theorem QZ{p q:qc}{i:Nat}{s:Sq}{m:Int × Int}(l:ie q.d (it q i s (0,0)))(h:k<s.h*s.w):(it q i s (0,0))[k]?=some (gU ((it p i s m).getD k 0+(jq p q i s m).getD k 0) q.d):=by
 have r:=Io (d:=q.d) (now:=it q i s (0,0)) (old:=it p i s m) (by rw[mE,mE]) l;have e:k<(it p i s m).length:=by rw[mE];exact h
 have f:k<(jq p q i s m).length:=by rw[yp,zY];exact h
 have j:it q i s (0,0)=List.zipWith (λa b=>gU (a+b) q.d) (it p i s m) (jq p q i s m):=r.symm;rw[j,List.getElem?_zipWith,zF e,zF f,zD,zD,zF e,zF f];rfl
structure yl (w:World) (p q:qc) (g o:Nat) (B:Nat->Option Addr) (c:Nat->Nat) (G:List Nat) (bs:List Sq) (s:Sq) (m:Int × Int) (b:Nat) (F ds:List Nat) (pos gP capP:Nat) (xs:List Value) (gs:List Nat):Prop where
 was:ip w p g o B c G
 now:iL w (jw p q bs s 0) gP capP xs gs
 rd:gM w b F ds pos
 qok:q.Ok
 ha:iY p q
 hs:pw p.W p.H s
 hm:lO p.W p.H s m
 sw0:1<=s.w
 sw1:s.w<=8
 sh0:1<=s.h
 sh1:s.h<=8
 pts:iK w
 gG:∀x∈G,x∉b::gs
 fG:∀x∈F,x∉gP::gs
 f0:0∉F
 g0:0∉gs
def vF(w:World)(p q:qc)(bs:List Sq)(s:Sq)(b:Nat)(F ds:List Nat)(pos gP capP:Nat)(xs:List Value)(gs:List Nat)(e:Ending)(w':World):Prop:=
 e=.returned (.int .i64 0)/\gM w' b F ds pos/\iL w' (jw p q bs s p.P.length) gP capP xs gs/\gg (b::gs) w w'
theorem QX{p q:qc}{s:Sq}{m:Int × Int}(h:sA p q s m=true){i:Nat}(a:i<q.P.length):it p i s m=it q i s (0,0):=by
 unfold sA at h;rw[all_eq_true]at h
 have:=h i (List.mem_range.2 a)
 exact(of_decide_eq_true this).symm
structure rD (w1:World) (p q:qc) (bs:List Sq) (s:Sq) (b:Nat) (F ds:List Nat) (pos gP capP:Nat) (xs:List Value) (gs:List Nat) (wr:World) (i:Nat):Prop where
 rd:gM wr b F ds pos
 now:iL wr (jw p q bs s i) gP capP xs gs
 Z:gg (b::gs) w1 wr
theorem rD.next{D:World}{p q:qc}{bs:List Sq}{s:Sq}{d:Nat}{xs:List Value}{gs:List Nat}{wr wa w':World}{i j:Nat}(h:rD D p q bs s b F ds pos gP capP xs gs wr i)(I:p.Ok)(J:q.Ok)(H:iY p q)(z:i<p.P.length)(y:∀x∈F,x∉gP::gs)(a:xs[i]?=some u)(l:gs[i]?=some j)(C:gM wa b F ds d)(c1:gg [b] wr wa)(c2:gg [j] wa w')(r:gv w' 3 u j ((jd (q.P.getD i []) (p.P.getD i []) p.W (bs++[s])).map vi)):rD D p q bs s b F ds d gP capP xs gs w' (i+1):=by
 have v:j∈gs:=mem_of_getElem? l;have E:=C.mem;have t:=y b E;have ad:gg (b::gs) wr w':=(c1.mono (F':=b::gs) (by simp)).trans c2 λx a=>by
  simp at a;subst a;exact .inl (by simp[v])
 refine⟨C.Z c2 λx a f=>?_,?_,h.Z.tq ad⟩
 .simp at f
  subst f;exact y x a (by simp[v])
 .have A:=h.now.Z c1 (F:=[b]) (by simpa using λe=>t (by simp[e])) (by
   intro x a f;simp at f;subst f;exact t (by simp[a]))
  exact A.setPlane a l r c2 (A.neP (by rw[pn];exact z) l) (Qj I J H bs s (i+1)) (Qf bs s z).symm
def sB(m:Int × Int):List Value:=[.int .i64 m.1,.int .i64 m.2]
theorem Ik:∀(ms:List (Int × Int)) (i:Nat),i<ms.length->(ms.flatMap sB)[i*2]?=some (.int .i64 (ms.getD i (0,0)).1)/\(ms.flatMap sB)[i*2+1]?=some (.int .i64 (ms.getD i (0,0)).2)
 | [],i,h=>by simp at h
 | m::ms,0,_=>⟨rfl,rfl⟩
 | m::ms,i+1,h=>by
  obtain⟨a,b⟩:=Ik ms i (by simpa using h);have d:(sB m).length=2:=rfl;rw[flatMap_cons];refine⟨?_,?_⟩
  .rw[zS (by omega),d,show(i+1)*2-2=i*2 by omega,a];rfl
  .rw[zS (by omega),d,show(i+1)*2+1-2=i*2+1 by omega,b];rfl
theorem Q3(a:List (Int × Int)):(a.flatMap sB).length=a.length*2:=by
 induction a with
 | nil=>rfl
 | cons m a ih=>rw[flatMap_cons,zC,ih,zK];simp only[sB,zK,length_nil];omega
theorem Qp(p q:qc)(s:Sq)(m:Int × Int):2<=(jN p q s m).length:=by
 unfold jN;split
 .split
  .rw[gH];omega
  .rw[zC,gH];omega
 .rw[zC,gH];omega
theorem BZ(p q:qc)(ss:List Sq)(a:List (Int × Int)):∀n,2*n<=(ji p q ss a n).length
 | 0=>by simp
 | n+1=>by
  have d:=BZ p q ss a n;have e:=Qp p q (gJ ss n) (a.getD n (0,0));rw[tI,zC];omega
def yi(p q:qc)(ms:List (Int × Int)):List Nat:=iD (kV (ji p q (iM q.W q.H 8) ms (iM q.W q.H 8).length))
def mD(p q:qc)(ms:List (Int × Int)):List Nat:=yi p q ms++nI p (yi p q ms)
def tG(p q:qc)(ms:List (Int × Int)):Prop:=∀b∈ji p q (iM q.W q.H 8) ms (iM q.W q.H 8).length,b<2
theorem B3{W H:Nat}(a:W<=64)(hH:H<=64):(iM W H 8).length<=4096:=by
 have d:=Bx W H 8;have e:H*W<=64*64:=zL hH a;omega
theorem Q4{w:World}{p q:qc}(l:Nat)(h:ip w p g o B c G)(f:Nat)(h':ip w q g' o' B' c' G')(ha:iY p q)(hp:iK w)(AM:Option Addr)(capM:Nat)(ms:List (Int × Int))(hM:gz (λv=>v) w AM (ms.flatMap sB))(hml:ms.length=(iM q.W q.H 8).length)(L:∀i,i<ms.length->lO p.W p.H (gJ (iM q.W q.H 8) i) (ms.getD i (0,0))):Calls prog 34 #[gW p g o l,gW q g' o' f,.slice AM ms.length capM] w λe d=>∃v G9,e=.returned (.tuple #[v,(0:Int)])/\jj d 5 v G9 ((mD p q ms).map b8)/\gg [] w d/\(∀x∈G9,w.heap.size<=x)/\tG p q ms:=by
 have aN:=h.ok;have M:=h'.ok;have R:=λd (r:gg [] w d)=>yo l (h.Y r) f (h'.Y r) ha;have aQ:=λd=>B6 M g' o' f d;have⟨ss,ap⟩:=zX (iM q.W q.H 8);have aR:∀s∈ss,1<=s.w/\s.w<=8/\1<=s.h/\s.h<=8:=by rw[ap];exact uR (by decide)
 have aw:∀s∈ss,pw p.W p.H s:=λs hs=>by
  rw[ap]at hs;obtain⟨a,b⟩:=uT (by decide) s hs;exact⟨by rw[ha.W];exact a,by rw[ha.H];exact b⟩
 have cc:ss.length<=4096:=by rw[ap];exact B3 M.w1 M.h1
 rw[<-ap]at hml L aQ;have⟨n,hn⟩:=zX ss.length;have aI:=BY p q (ss:=ss) ms aR M.d0 M.d1 M.n1;have cj:0<n:=by
  rcases eq_zero_or_pos n with Z|Z
  .exfalso
   have h1:=Ht (w:=q.W) (h:=q.H) (s:=8) (by decide);rw[<-ap,eq_nil_of_length_eq_zero (show ss.length=0 by omega)]at h1;have h2:=M.pos;simp[area]at h1;omega
  .exact Z
 obtain⟨t,z,rfl,bf,bb⟩:=hM.ex (by rw[Q3];omega);have bH:∀i,i<n->w.cell? ⟨t,z+i*2,none⟩=some (.int .i64 (ms.getD i (0,0)).1)/\w.cell? ⟨t,z+i*2+1,none⟩=some (.int .i64 (ms.getD i (0,0)).2):=λi H=>by
  obtain⟨a,b⟩:=Ik ms i (by omega);exact⟨bb _ _ a,by have:=bb _ _ b;rwa [<-Nat.add_assoc]at this⟩
 have O:∀d,gg [] w d->∀i,i<n->∀b F bs,hJ d b F bs->0∉F->bs.length<17179869184->_:=λd r i H b F bs hw Z hb=>
  have aM:=aR _ (rG (i:=i) (ss:=ss) (by omega))
  Qw l (h.Y r) f (h'.Y r) ha (gJ ss i) (ms.getD i (0,0)) (aw _ (rG (by omega))) (L i (by omega)) aM.1 aM.2.1 aM.2.2.1 aM.2.2.2 b F bs hw (hp.Y r) Z hb
 have V:∀d i,i<n->Calls prog 51 #[.agg #[.int .i64 p.W,.int .i64 p.H,.int .i64 p.d,.slice (some ⟨g,o,none⟩) p.P.length l],kP (gJ ss i),.int .i64 (ms.getD i (0,0)).1,.int .i64 (ms.getD i (0,0)).2] d λe w''=>e=.returned (.bool true)/\gg [] d w'':=λd i H=>by
  have aM:=aR _ (rG (i:=i) (ss:=ss) (by omega));have bF:=aw _ (rG (i:=i) (ss:=ss) (by omega));have y:=L i (by omega);have h1:=yq p.W p.H p.d p.P.length g o l (gJ ss i) (ms.getD i (0,0)) d aN.w1 aN.h1 (by have:=bF.x;have:=aN.w1;omega) (by have:=bF.y;have:=aN.h1;omega) (by omega) (by omega) (by have:=y.1;omega) (by have:=y.2.1;omega) (by have:=y.2.2.1;omega) (by have:=y.2.2.2.1;omega);rw[(tM _ _ _ _).2 y]at h1;exact h1
 have N:=λd (r:gg [] w d)=>λA capb af=>Ig l (h.Y r) A capb af;have bG:(∀b∈ji p q ss ms n,b<2)->tG p q ms:=λh=>by unfold tG;rw[<-ap,<-hn];exact h
 have bU:=gd bG;clear bG;have D:mD p q ms=iD (kV (ji p q ss ms n))++nI p (iD (kV (ji p q ss ms n))):=by rw[hn,ap];rfl
 unfold gW kP at O V;unfold gW at R aQ N⊢;have bI:ms.length=n:=by omega
 rw[bI];have⟨w1,aB⟩:=zX (((w.alloc (.cells #[p.W,p.H,p.d,.slice (some ⟨g,o,none⟩) p.P.length l] 46)).alloc (.cells #[q.W,q.H,q.d,.slice (some ⟨g',o',none⟩) q.P.length f] 46)));have X:gn w1 w.heap.size 46 #[p.W,p.H,p.d,.slice (some ⟨g,o,none⟩) p.P.length l]:=by rw[aB];exact(gn.new w _ _).alloc _
 have Y:gn w1 (w.heap.size+1) 46 #[q.W,q.H,q.d,.slice (some ⟨g',o',none⟩) q.P.length f]:=by rw[aB];exact gn.new2 w _ _ _
 have ba:gg [] w w1:=by rw[aB];exact((zR [] w).alloc _).alloc _
 have ce:w1.heap.size=w.heap.size+1+1:=by rw[aB,jt,jt]
 have aK:∀(E:List Nat) (wr wz:World) (i:Nat),i<n->gg [] w1 wr->(∀x∈E,w1.heap.size<=x/\x<wr.heap.size)->gg E (wr.alloc (.cells #[.int .i64 ((gJ ss i).x:Int),.int .i64 ((gJ ss i).y:Int),.int .i64 ((gJ ss i).w:Int),.int .i64 ((gJ ss i).h:Int)] 73)) wz ->
   (wz.cell? ⟨w.heap.size,0,none⟩=some (.int .i64 p.W)/\wz.cell? ⟨w.heap.size,1,none⟩=some (.int .i64 p.H)/\wz.cell? ⟨w.heap.size,2,none⟩=some (.int .i64 p.d)/\wz.cell? ⟨w.heap.size,3,none⟩=some (.slice (some ⟨g,o,none⟩) p.P.length l)) /\
   (wz.cell? ⟨w.heap.size+1,0,none⟩=some (.int .i64 q.W)/\wz.cell? ⟨w.heap.size+1,1,none⟩=some (.int .i64 q.H)/\wz.cell? ⟨w.heap.size+1,2,none⟩=some (.int .i64 q.d)/\wz.cell? ⟨w.heap.size+1,3,none⟩=some (.slice (some ⟨g',o',none⟩) q.P.length f)) /\
   (wz.cell? ⟨wr.heap.size,0,none⟩=some (.int .i64 ((gJ ss i).x:Int))/\wz.cell? ⟨wr.heap.size,1,none⟩=some (.int .i64 ((gJ ss i).y:Int))/\wz.cell? ⟨wr.heap.size,2,none⟩=some (.int .i64 ((gJ ss i).w:Int))/\wz.cell? ⟨wr.heap.size,3,none⟩=some (.int .i64 ((gJ ss i).h:Int))) /\
   (wz.cell? ⟨t,z+i*2,none⟩=some (.int .i64 (ms.getD i (0,0)).1)/\wz.cell? ⟨t,z+i*2+1,none⟩=some (.int .i64 (ms.getD i (0,0)).2)):=by
  intro E wr wz i H r S P;have e1:w.heap.size∉E:=λy=>by have:=(S _ y).1;omega
  have e2:w.heap.size+1∉E:=λy=>by have:=(S _ y).1;omega
  have e3:wr.heap.size∉E:=λy=>by have:=(S _ y).2;omega
  have e4:t∉E:=λy=>by have:=(S _ y).1;omega
  have I:=((X.Z r (by simp)).alloc _).Z P e1;have J:=((Y.Z r (by simp)).alloc _).Z P e2;have K:=(gn.new wr 73 #[.int .i64 ((gJ ss i).x:Int),.int .i64 ((gJ ss i).y:Int),.int .i64 ((gJ ss i).w:Int),.int .i64 ((gJ ss i).h:Int)]).Z P e3;have bC:gg E w wz:=(((ba.tq r).alloc _).mono (by simp)).trans P (λx hx=>.inl hx);obtain⟨U,m2⟩:=bH i H;exact⟨⟨I.X 0,I.X 1,I.X 2,I.X 3⟩,⟨J.X 0,J.X 1,J.X 2,J.X 3⟩,⟨K.X 0,K.X 1,K.X 2,K.X 3⟩,⟨(World.cell?_of_block (w:=w) (bC.block t bf e4)).trans U,(World.cell?_of_block (w:=w) (bC.block t bf e4)).trans m2⟩⟩
 have aJ:=λwz (r:gg [] w1 wz)=>And.intro (And.intro ((X.Z r (by simp)).X 0) (And.intro ((X.Z r (by simp)).X 1) (And.intro ((X.Z r (by simp)).X 2) ((X.Z r (by simp)).X 3)))) (And.intro ((Y.Z r (by simp)).X 0) (And.intro ((Y.Z r (by simp)).X 1) (And.intro ((Y.Z r (by simp)).X 2) ((Y.Z r (by simp)).X 3))));have⟨bY,aE,ak,bV⟩:=gu aB ba aK O;have⟨bT,bQ,bP,bO⟩:=gu V N D R;have⟨bS,bk,HN,HP⟩:=gu aQ aI hn hp;have aD:=gd aJ;have cd:n<=4096:=by omega
 clear aK O V N D R aQ aI X Y aB ba ce bH bb hM L aR aw aN M h h' ha hp hn hml bI ap bf cc aJ;go_enter func34,ntmps34;go_wp2_with fail;rw[<-bY.o];refine(bO.o w1 aE.o).mono ?_;rintro e w2 ⟨rfl,a7⟩;obtain⟨⟨a0,a1,a2,a3⟩,⟨b0,b1,b2,b3⟩⟩:=aD.o w2 a7;have aV:=gd a7;clear a7;go_wp2_with fail;refine(bS.o w2).mono ?_;rintro e C ⟨v8,F8,rfl,bK,bo,ca⟩;obtain⟨A8,c8,rfl,cf,cg,bA,-⟩:=jy.open_ bK;have⟨aa,bm⟩:=gy (aV.o.tq bo) bA;rw[<-HN.o];clear bK bo ca bA a0 a1 a2 a3 b0 b1 b2 b3;have t0:((n:Int) != (n:Int))=false:=by simp
 go_wp2_with fail
 go_loopg [9,10,28] n (λj v9 v10 v28 wr=>∃i:Nat,v28=.int .i64 i/\i+j=n/\gh (gg [] C wr))
 .exact⟨0,rfl,by omega,gd (zR _ _)⟩
 obtain⟨i,rfl,ch,W⟩:=hrel;rcases gk with _|j
 .obtain rfl:i=n:=by omega
  have t1:decide (i<i)=false:=by simp
  obtain⟨wo,rfl⟩:=zX wr;have⟨w4,aS⟩:=zX (wo.alloc (.cells #[.slice none 0 0,(0:Int)] 90));have⟨b,hb⟩:=zX wo.heap.size;have bM:hJ w4 b [b] []:=by rw[aS,hb];exact hJ.new wo
  have bl:gh (gg [] C w4):=gd (by rw[aS];exact W.o.alloc _);have bw:C.heap.size<=b:=by rw[hb];exact W.o.size
  have⟨b5,bZ,HB,bj⟩:=gu bM aS hb bw;have a6:gh (w1.heap.size<=C.heap.size/\w.heap.size<=w1.heap.size/\0<w.heap.size):=gd ⟨aa.o.size,aE.o.size,HP.o.lt⟩;clear bM aS hb bw;go_wp2_with fail;rw[<-bZ.o,<-HB.o]
  go_loopg [12,13,52] i (λj2 v12 v13 v52 wr=>∃(k:Nat) (F:List Nat),v52=.int .i64 k/\k+j2=i/\gh (hJ wr b F (ji p q ss ms k))/\gh (gE [b] F w4 wr))
  .exact⟨0,[b],rfl,by omega,gd (by simpa[ji]using b5.o),gd (gE.refl _ _)⟩
  obtain⟨k,F,rfl,ci,aP,aZ⟩:=hrel;have bB:gg [] C wr:=bl.o.trans aZ.o.Z (λx hx=>.inr (by simp at hx;have:=bj.o;omega));have bq:∀x∈F,C.heap.size<=x:=λx hx=>by
   rcases aZ.o.new x hx with h|h
   .simp at h;have:=bj.o;omega
   .have:=bl.o.size;omega
  have⟨ag,aY⟩:=gy bB bq;clear bB bq;rcases gk with _|j2
  .obtain rfl:k=i:=by omega
   have t2:decide (k<k)=false:=(by simp);have bg:=gd (bU.o aP.o.bit);have bd:=bk.o k (by rw[<-HN.o];exact zQ _);have R:=GP wr b F _ aP.o (by omega);have⟨T,hT⟩:=zX (kV (ji p q ss ms k));have bv:T.length<=4000000000:=by
    have:=rW (ji p q ss ms k)
    rw[hT];omega
   have bu:0<T.length:=by
    have h1:=rW (ji p q ss ms k);have h2:=BZ p q ss ms k;rw[hT];omega
   have D:=bP.o;rw[<-hT]at R D;have⟨HT,bX,aT⟩:=Q9 bv bu D;clear hT D bd bv bu;go_wp2_with fail;refine R.mono ?_;rintro e w5 ⟨rfl,F5,bi,bD⟩;have av:gg [] C w5:=ag.o.trans bD.Z (λx hx=>.inr (aY.o x hx));have aH:=bi.bit;have bx:=xD w5 b F5 T bi (by have:=HT.o;omega);clear R;go_wp2_with fail;refine bx.mono ?_;rintro e w6 ⟨v6,G6,rfl,ai,Q,br⟩;obtain⟨A6,c6,rfl,b7,b9,bz⟩:=ai.T;have ad:gg [] C w6:=av.tq Q;obtain⟨⟨a0,a1,a2,a3⟩,-⟩:=aD.o w6 (aa.o.tq ad);have N:=bQ.o w6 ((aE.o.tq aa.o).tq ad) A6 c6 (iD T) bz (xd aH) (by rw[ox];have:=bX.o;omega) (by rw[ox];have:=HT.o;omega);have⟨af,ah⟩:=zX (iD T);have aI:af.length<=1000000000:=(by rw[ah,ox];have:=HT.o;omega);have D:=aT.o;rw[<-ah]at N ai D⊢;have⟨nb,bJ⟩:=zX af.length;rw[<-bJ]at N ai⊢;have⟨aC,aG,aX,aU⟩:=gu aI ai N D;have⟨aq,bn⟩:=gy ad (λx hx=>Nat.le_trans av.size (br x hx):∀x∈G6,C.heap.size<=x);clear bi bD aH bx ai Q br b7 b9 bz av ad N ah bJ aI D;go_wp2_with fail;refine aX.o.mono ?_;rintro e w7 ⟨g7,c7,rfl,ao,a8,cb⟩;have aO:=aG.o.Y a8;have⟨bW,aF⟩:=gy ao (aq.o.tq a8);have bh:(nI p af).length=4:=rfl;clear ao a8 cb a0 a1 a2 a3
   go_wp2_with(at_builtin;refine ns rfl rfl nT rfl rfl aO ((nI p af).map b8) 4 rfl ?c1 ?c2 ?c3 ?c4 ?c5 ?_)
   case c1=>rfl
   case c2=>exact gv.cellsB bW.o
   case c3=>exact pj _
   case c4=>rw[zE,zE,bh];have:=aC.o;omega
   case c5=>rw[zE,zE,bh];have:=aC.o;omega
   intro v8 bN w8 b6 bp;have bc:=aU.o;clear bh;go_wp2;refine bodyPost_ret (v:=.tuple #[v8,(0:Int)]) (by simp[results,results34,go_sem]) rfl ?_;have ck:w.heap.size<=C.heap.size:=(by have:=a6.o;omega);refine⟨v8,bN,rfl,by rw[bc,zM];exact b6,?_,λx hx=>?_,bg.o⟩
   .refine((aE.o.tq aa.o).tq aF.o).trans bp.Z (λx hx=>.inr ?_)
    have:=bn.o x hx
    omega
   .rcases bp.new x hx with h|h
    .have:=bn.o x h;omega
    .have:=aF.o.size;omega
  .have hk:k<i:=by omega
   have aL:k<ss.length:=(by rw[<-HN.o];exact hk);obtain⟨g8,o8,a9,x0,x1,x2,x3⟩:=tw (bm.o.Y ag.o) aL;subst a9;have S:∀x∈F,w1.heap.size<=x/\x<wr.heap.size:=λx hx=>⟨by have:=aY.o x hx;have:=a6.o;omega,aP.o.lt x hx⟩;obtain⟨⟨k0,I,J,K⟩,⟨q0,q1,q2,q3⟩,⟨s0,s1,s2,s3⟩,⟨m0,U⟩⟩:=ak.o [] wr _ k hk (aa.o.tq ag.o) (by simp) (zR _ _);have ab:∀wz,gg F (wr.alloc (.cells #[.int .i64 ((gJ ss k).x:Int),.int .i64 ((gJ ss k).y:Int),.int .i64 ((gJ ss k).w:Int),.int .i64 ((gJ ss k).h:Int)] 73)) wz->wz.cell? ⟨w.heap.size,0,none⟩=some (.int .i64 p.W)/\wz.cell? ⟨w.heap.size,1,none⟩=some (.int .i64 p.H)/\wz.cell? ⟨w.heap.size,2,none⟩=some (.int .i64 p.d)/\wz.cell? ⟨w.heap.size,3,none⟩=some (.slice (some ⟨g,o,none⟩) p.P.length l)/\wz.cell? ⟨w.heap.size+1,0,none⟩=some (.int .i64 q.W)/\wz.cell? ⟨w.heap.size+1,1,none⟩=some (.int .i64 q.H)/\wz.cell? ⟨w.heap.size+1,2,none⟩=some (.int .i64 q.d)/\wz.cell? ⟨w.heap.size+1,3,none⟩=some (.slice (some ⟨g',o',none⟩) q.P.length f)/\wz.cell? ⟨wr.heap.size,0,none⟩=some (.int .i64 ((gJ ss k).x:Int))/\wz.cell? ⟨wr.heap.size,1,none⟩=some (.int .i64 ((gJ ss k).y:Int))/\wz.cell? ⟨wr.heap.size,2,none⟩=some (.int .i64 ((gJ ss k).w:Int))/\wz.cell? ⟨wr.heap.size,3,none⟩=some (.int .i64 ((gJ ss k).h:Int))/\wz.cell? ⟨t,z+k*2,none⟩=some (.int .i64 (ms.getD k (0,0)).1)/\wz.cell? ⟨t,z+k*2+1,none⟩=some (.int .i64 (ms.getD k (0,0)).2):=λwz P=>by
    obtain⟨⟨k0,I,J,K⟩,⟨q0,q1,q2,q3⟩,⟨s0,s1,s2,s3⟩,⟨m0,U⟩⟩:=ak.o F wr wz k hk (aa.o.tq ag.o) S P;exact⟨k0,I,J,K,q0,q1,q2,q3,s0,s1,s2,s3,m0,U⟩
   have ae:=gd ab;have bd:=bk.o k (by omega);have al:gg [] wr (wr.alloc (.cells #[.int .i64 ((gJ ss k).x:Int),.int .i64 ((gJ ss k).y:Int),.int .i64 ((gJ ss k).w:Int),.int .i64 ((gJ ss k).h:Int)] 73)).drew:=((zR [] wr).alloc _).drew;have O:=bV.o _ (((aE.o.tq aa.o).tq ag.o).tq al) k hk b F _ (aP.o.Y al) (λZ=>by have:=aY.o 0 Z;have:=a6.o;omega) (by omega);unfold Ie at O;rw[<-tI]at O;have⟨a5,aW⟩:=gy O al;clear aL ab O bd S al;go_wp2_with fail
   go_region_held3 (λd=>d.cell? ⟨w.heap.size,0,none⟩=some (.int .i64 p.W)/\d.cell? ⟨w.heap.size,1,none⟩=some (.int .i64 p.H)/\d.cell? ⟨w.heap.size,2,none⟩=some (.int .i64 p.d)/\d.cell? ⟨w.heap.size,3,none⟩=some (.slice (some ⟨g,o,none⟩) p.P.length l)/\d.cell? ⟨w.heap.size+1,0,none⟩=some (.int .i64 q.W)/\d.cell? ⟨w.heap.size+1,1,none⟩=some (.int .i64 q.H)/\d.cell? ⟨w.heap.size+1,2,none⟩=some (.int .i64 q.d)/\d.cell? ⟨w.heap.size+1,3,none⟩=some (.slice (some ⟨g',o',none⟩) q.P.length f)/\d.cell? ⟨wr.heap.size,0,none⟩=some (.int .i64 ((gJ ss k).x:Int))/\d.cell? ⟨wr.heap.size,1,none⟩=some (.int .i64 ((gJ ss k).y:Int))/\d.cell? ⟨wr.heap.size,2,none⟩=some (.int .i64 ((gJ ss k).w:Int))/\d.cell? ⟨wr.heap.size,3,none⟩=some (.int .i64 ((gJ ss k).h:Int))/\d.cell? ⟨t,z+k*2,none⟩=some (.int .i64 (ms.getD k (0,0)).1)/\d.cell? ⟨t,z+k*2+1,none⟩=some (.int .i64 (ms.getD k (0,0)).2)) (first|(go_keep;done)|exact ae.o _ (((zR F _).drew).tq be.Z)) (first|(go_at_call 53;refine a5.o.mono ?_;rintro e w6 ⟨rfl,F6,bL,be⟩))
   have bE:=aZ.o.trans (gE.pre aW.o be);have⟨bR,b4⟩:=gy bE bL;clear bE be bL;go_wp2_with fail
   go_roundg j2
   .exact⟨k+1,F6,by go_num,by omega,b4,bR⟩
   .omega
 .have H:i<n:=by omega
  have t1:decide (i<n)=true:=zB H;have aL:i<ss.length:=by rw[<-HN.o];exact H
  obtain⟨g8,o8,a9,x0,x1,x2,x3⟩:=tw (bm.o.Y W.o) aL;subst a9;obtain⟨⟨k0,I,J,K⟩,-,⟨s0,s1,s2,s3⟩,⟨m0,U⟩⟩:=ak.o [] wr _ i H (aa.o.tq W.o) (by simp) (zR _ _);have ab:∀wz,gg [] (wr.alloc (.cells #[.int .i64 ((gJ ss i).x:Int),.int .i64 ((gJ ss i).y:Int),.int .i64 ((gJ ss i).w:Int),.int .i64 ((gJ ss i).h:Int)] 73)) wz->wz.cell? ⟨w.heap.size,0,none⟩=some (.int .i64 p.W)/\wz.cell? ⟨w.heap.size,1,none⟩=some (.int .i64 p.H)/\wz.cell? ⟨w.heap.size,2,none⟩=some (.int .i64 p.d)/\wz.cell? ⟨w.heap.size,3,none⟩=some (.slice (some ⟨g,o,none⟩) p.P.length l)/\wz.cell? ⟨wr.heap.size,0,none⟩=some (.int .i64 ((gJ ss i).x:Int))/\wz.cell? ⟨wr.heap.size,1,none⟩=some (.int .i64 ((gJ ss i).y:Int))/\wz.cell? ⟨wr.heap.size,2,none⟩=some (.int .i64 ((gJ ss i).w:Int))/\wz.cell? ⟨wr.heap.size,3,none⟩=some (.int .i64 ((gJ ss i).h:Int))/\wz.cell? ⟨t,z+i*2,none⟩=some (.int .i64 (ms.getD i (0,0)).1)/\wz.cell? ⟨t,z+i*2+1,none⟩=some (.int .i64 (ms.getD i (0,0)).2):=λwz P=>by
   obtain⟨⟨k0,I,J,K⟩,-,⟨s0,s1,s2,s3⟩,⟨m0,U⟩⟩:=ak.o [] wr wz i H (aa.o.tq W.o) (by simp) P;exact⟨k0,I,J,K,s0,s1,s2,s3,m0,U⟩
  have ae:=gd ab;have V:=λwz=>bT.o wz i H;have a4:=gd V;clear aL ab V;go_wp2_with fail
  go_region_held3 (λd=>d.cell? ⟨w.heap.size,0,none⟩=some (.int .i64 p.W)/\d.cell? ⟨w.heap.size,1,none⟩=some (.int .i64 p.H)/\d.cell? ⟨w.heap.size,2,none⟩=some (.int .i64 p.d)/\d.cell? ⟨w.heap.size,3,none⟩=some (.slice (some ⟨g,o,none⟩) p.P.length l)/\d.cell? ⟨wr.heap.size,0,none⟩=some (.int .i64 ((gJ ss i).x:Int))/\d.cell? ⟨wr.heap.size,1,none⟩=some (.int .i64 ((gJ ss i).y:Int))/\d.cell? ⟨wr.heap.size,2,none⟩=some (.int .i64 ((gJ ss i).w:Int))/\d.cell? ⟨wr.heap.size,3,none⟩=some (.int .i64 ((gJ ss i).h:Int))/\d.cell? ⟨t,z+i*2,none⟩=some (.int .i64 (ms.getD i (0,0)).1)/\d.cell? ⟨t,z+i*2+1,none⟩=some (.int .i64 (ms.getD i (0,0)).2)) (first|(go_keep;done)|exact ae.o _ (((zR [] _).drew).tq Q)|exact ae.o _ Q) (first|(go_at_call 51;refine(a4.o _).mono ?_;rintro e w6 ⟨rfl,Q⟩))
  have ad:gg [] C w6:=((W.o.alloc (.cells #[.int .i64 ((gJ ss i).x:Int),.int .i64 ((gJ ss i).y:Int),.int .i64 ((gJ ss i).w:Int),.int .i64 ((gJ ss i).h:Int)] 73)).drew).tq Q;have aq:=gd ad;clear ad Q;go_wp2_with fail
  go_roundg j
  .exact⟨i+1,by go_num,by omega,aq⟩
  .omega
theorem QU(p q:qc)(bs:List Sq)(s a:Sq):jw p q bs s 0=jw p q bs a 0:=by
 unfold jw
 congr 1
theorem If(p q:qc)(ss:List Sq)(a:List (Int × Int)):∀k n i,i+k=n->∃rest,ji p q ss a n=ji p q ss a i++rest
 | 0,n,i,h=>⟨[],by rw[append_nil,show i=n by omega]⟩
 | k+1,n,i,h=>by
  obtain⟨r,d⟩:=If p q ss a k n (i+1) (by omega);exact⟨_,by rw[d,tI,zH]⟩
theorem Qy{p q:qc}{a:List (Int × Int)}{ss:List Sq}{n:Nat}(h:∀b∈ji p q ss a n,b<2){i:Nat}(j:i<n):ig (iD (kV (ji p q ss a n))) (ji p q ss a i).length (jN p q (gJ ss i) (a.getD i (0,0))):=by
 have d:=ux h;obtain⟨r,f⟩:=If p q ss a (n-(i+1)) n (i+1) (by omega);have e:kV (ji p q ss a n)=ji p q ss a i++jN p q (gJ ss i) (a.getD i (0,0))++(r++replicate ((8-(ji p q ss a n).length%8)%8) 0):=by
  unfold kV;rw[f,tI];simp only[zH]
 rw[e]at d⊢;exact zw d
theorem Qr{w:World}{p q:qc}{bs:List Sq}{s:Sq}{m:Int × Int}{xs:List Value}{gs:List Nat}(A:Nat)(h:yl w p q g o B c G bs s m b F ds pos gP capP xs gs)(t:sA p q s m=true)(hah:ig ds pos (jN p q s m)):Calls prog 66 #[.pointer (some ⟨b,0,none⟩),gW p g o A,gW (jw p q bs s 0) gP 0 capP,kP s] w (vF w p q bs s b F ds (pos+(jN p q s m).length) gP capP xs gs):=by
 have C:=h.was.ok;have aq:=h.qok;have X:=h.ha;have hs:=h.hs;have I:=h.hm;obtain⟨cr,da,c8,c9⟩:(1<=s.w/\s.w<=8/\1<=s.h/\s.h<=8):=⟨h.sw0,h.sw1,h.sh0,h.sh1⟩;have cp:s.x<=64:=by have:=hs.x;have:=C.w1;omega
 have cq:s.y<=64:=by have:=hs.y;have:=C.h1;omega
 have cU:=C.w1;have cT:=C.h1;have aV:=I.fit;have b9:∀k,w.heap.size<=k->k∉b::gs:=λk f d=>by
  rcases zJ.1 d with rfl|D
  .have:=h.rd.lt _ h.rd.mem;omega
  .have:=h.now.pl.lt k D;omega
 have ce:=X.n;have⟨n,hn⟩:=zX p.P.length;rw[<-hn]at ce;have⟨N,hN⟩:=zX (p.W*p.H);have⟨M,hM⟩:=zX (s.h*s.w);have di:M<=64:=by rw[hM];exact zL c9 da
 have dh:0<M:=by rw[hM];exact Nat.mul_pos c8 cr
 have dj:N<=4096:=by rw[hN];exact C.area
 have dn:n<=4:=by rw[hn];exact C.n1
 have bd:∀w',gg (b::gs) w w'->∀i,i<n->_:=λw' hc i y=>tN A (h.was.Z hc h.gG) i (by rw[<-hn];exact y) s m aV.x0 aV.x1 aV.y0 aV.y1 cp cq;have ba:=λw'=>yq p.W p.H p.d n g o A s m w' cU cT cp cq (by omega) (by omega) (by have:=I.1;omega) (by have:=I.2.1;omega) (by have:=I.2.2.1;omega) (by have:=I.2.2.2.1;omega);rw[(tM p.W p.H s m).2 I]at ba;have cX:=C.d0;have cY:=C.d1;have c7:∀v w,_:=λv w=>o7 v p.d w cX cY;unfold vF;unfold gW kP at bd⊢;unfold kP at ba;rw[<-hn]at bd⊢;rw[pn,<-hn];show Calls _ _ #[_,_,.agg #[.int .i64 p.W,.int .i64 p.H,.int .i64 p.d,.slice gP n capP],_] _ _;have⟨w1,aA⟩:=zX ((((w.alloc (.cells #[p.W,p.H,p.d,.slice (some ⟨g,o,none⟩) n A] 46)).alloc (.cells #[p.W,p.H,p.d,.slice gP n capP] 46)).alloc (.cells #[s.x,s.y,s.w,s.h] 73)));have aH:gn w1 w.heap.size 46 #[p.W,p.H,p.d,.slice (some ⟨g,o,none⟩) n A]:=by rw[aA];exact((gn.new w _ _).alloc _).alloc _
 have bq:gn w1 (w.heap.size+1) 46 #[p.W,p.H,p.d,.slice gP n capP]:=by rw[aA];exact(gn.new2 w _ _ _).alloc _
 have aI:gn w1 (w.heap.size+1+1) 73 #[s.x,s.y,s.w,s.h]:=by rw[aA];exact gn.new3 w _ _ _ _
 have a8:gg [] w w1:=by rw[aA];exact(((zR [] w).alloc _).alloc _).alloc _
 have ao:∀(E:List Nat) wr,gg E w1 wr->(∀k,w.heap.size<=k->k∉E)->(wr.cell? ⟨w.heap.size,0,none⟩=some (.int .i64 p.W)/\wr.cell? ⟨w.heap.size,1,none⟩=some (.int .i64 p.H)/\wr.cell? ⟨w.heap.size,2,none⟩=some (.int .i64 p.d)/\wr.cell? ⟨w.heap.size,3,none⟩=some (.slice (some ⟨g,o,none⟩) n A)) /\
   (wr.cell? ⟨w.heap.size+1,0,none⟩=some (.int .i64 p.W)/\wr.cell? ⟨w.heap.size+1,3,none⟩=some (.slice gP n capP)) /\
   (wr.cell? ⟨w.heap.size+1+1,0,none⟩=some (.int .i64 s.x)/\wr.cell? ⟨w.heap.size+1+1,1,none⟩=some (.int .i64 s.y)/\wr.cell? ⟨w.heap.size+1+1,2,none⟩=some (.int .i64 s.w)/\wr.cell? ⟨w.heap.size+1+1,3,none⟩=some (.int .i64 s.h)):=λE wr hc e=>
  ⟨⟨(aH.Z hc (e _ (by omega))).X 0,(aH.Z hc (e _ (by omega))).X 1,(aH.Z hc (e _ (by omega))).X 2,(aH.Z hc (e _ (by omega))).X 3⟩,⟨(bq.Z hc (e _ (by omega))).X 0,(bq.Z hc (e _ (by omega))).X 3⟩,⟨(aI.Z hc (e _ (by omega))).X 0,(aI.Z hc (e _ (by omega))).X 1,(aI.Z hc (e _ (by omega))).X 2,(aI.Z hc (e _ (by omega))).X 3⟩⟩
 have bv:gP∉b::gs:=λd=>by
  rcases zJ.1 d with e|D
  .exact h.fG b h.rd.mem (by simp[e])
  .obtain⟨k,f,e⟩:=getElem_of_mem D
   have c1:k<(jw p q bs s 0).P.length:=(by rw[<-h.now.pl.lg];exact f);exact h.now.neP c1 (zF f) e.symm
 have aX:=h.rd.Z a8 (by simp)
 have aY:∀w2 pos',gM w2 b F ds pos'->gg [b] w1 w2->rD w1 p q bs s b F ds pos' gP capP xs gs w2 0:=λw2 pos' hr hc=>
  ⟨hr,(h.now.Y a8).Z hc (by simpa using λe=>bv (by simp[e])) (by
   intro x hx d;simp at d;subst d;exact h.fG _ h.rd.mem (by simp[hx])),hc.mono (by simp)⟩
 have cj:∀w2,gg (b::gs) w w2->iK w2:=λw2 hc=>h.pts.Z hc λd=>by
  rcases zJ.1 d with e|D
  .exact h.f0 (by rw[e];exact h.rd.mem)
  .exact h.g0 D
 have bW:=h.fG;have cS:=h.f0;have cg:=λi=>Is X i s;have aW:∀i,(it p i s m).length=M:=λi=>by rw[mE,hM]
 have aU:∀i,i<n->(p.P.getD i []).length=N/\(q.P.getD i []).length=N:=λi y=>⟨by rw[hN];exact C.len _ (oO (by omega)),by rw[hN,X.W,X.H];exact aq.len _ (oO (by omega))⟩;have ap:∀k,k<s.h->(s.y+k)*p.W+s.x+s.w<=N:=λk f=>by
  have D:=hs.x;have h2:s.y+k+1<=p.H:=by have:=hs.y;omega
  have h3:=mul_le_mul_right p.W h2;rw[succ_mul,zY p.H,<-hN]at h3;omega
 have aO:∀k,k<s.h->k*s.w+s.w<=M:=λk f=>by
  have h3:=mul_le_mul_right s.w (show k+1<=s.h by omega);rw[succ_mul,<-hM]at h3;exact h3
 have S:∀i k,i<n->k<s.h->_:=λi k y f=>Bk (q:=q.P.getD i []) (l:=p.P.getD i []) (W:=p.W) (H:=p.H) (bs:=bs) (sx:=s.x) (sy:=s.y) (sw:=s.w) (sh:=s.h) (k:=k) (by rw[(aU i y).1,(aU i y).2]) (by rw[(aU i y).1,hN]) hs.x hs.y f;have co:∀i,i<n->it p i s m=jn (q.P.getD i []) p.W s.x s.y s.w s.h:=λi y=>by rw[QX t (by omega),cg i]
 obtain⟨T,b5⟩:∃T:Nat,m.1+4=(T:Int):=⟨(m.1+4).toNat,by have:=I.1;omega⟩;obtain⟨e2,b6⟩:∃e2:Nat,m.2+4=(e2:Int):=⟨(m.2+4).toNat,by have:=I.2.2.1;omega⟩;have df:T<=8:=by have:=I.2.1;omega
 have dg:e2<=8:=by have:=I.2.2.2.1;omega
 have aZ:lp m=gx T 4++gx e2 4:=by
  unfold lp;rw[b5,b6];rfl
 have z1:(T:Int)-4=m.1:=by omega
 have z2:(e2:Int)-4=m.2:=by omega
 have y1:IntKind.i64.wrap (T:Int)=(T:Int):=IntWalk.i64_in _ (by omega);have y2:IntKind.i64.wrap (e2:Int)=(e2:Int):=IntWalk.i64_in _ (by omega);have⟨bQ,bk,cC,af⟩:=gu aA bd ba ao;have⟨bP,de,bJ,aD⟩:=gu aY cj bW aW;have⟨bL,cw,cv,cu⟩:=gu aU ap aO S;have⟨bm,cB,ax,bM⟩:=gu aZ bv b9 aX;have⟨bI,cH,cI,HA⟩:=gu a8 C aq X;have⟨bH,HN,cF,HM⟩:=gu hah hn hN hM;have⟨cP,am⟩:=gy co t;obtain⟨⟨K,L,O,Q⟩,⟨U,V⟩,⟨Y,Z,s2,s3⟩⟩:=ao [] w1 (zR _ _) (by simp);have H9:=gd (show m.1=0->m.2=0->m=(0,0)from λa b=>Prod.ext a b);clear aA aH bq aI bd ba c7 ao aY cj bW aW aU ap aO S aZ bv b9 aX a8 C aq X hah hn hN hM cS co cg hs I aV t ce b5 b6 h;have bG:m=(0,0)\/(¬m=(0,0)/\(m.1==0)=false)\/(¬m=(0,0)/\(m.1==0)=true/\(m.2==0)=false):=by
  by_cases z:m=(0,0)
  .exact .inl z
  .right
   by_cases q1:m.1=0
   .right
    exact⟨z,by simpa using q1,by simpa using λq2=>z (H9.o q1 q2)⟩
   .left
    exact⟨z,by simpa using q1⟩
 rcases bG with z|⟨z,db⟩|⟨z,db,dq⟩;have aa:jN p q s m=gx 0 2:=by unfold jN;rw[if_pos am.o,if_pos z]
 have⟨ad,ar⟩:=zX (pos+2);have aC:gh (pos+(jN p q s m).length=ad):=gd (by rw[aa,gH,ar]);have hh:=bH.o;rw[aa]at hh;have ay:=iU w1 b F ds pos 2 0 bM.o (by omega) (by decide) hh;rw[<-ar]at ay;have m1:m.1=0:=by rw[z]
 have m2:m.2=0:=by rw[z]
 have au:=bk.o;rw[m1,m2]at au;have bk:=gd au;clear aa ar hh au m1 m2 z z1 z2 y1 y2;go_enter func66,ntmps66;go_wp2_with fail;rw[<-bQ.o];refine ay.mono ?_;rintro e w2 ⟨rfl,av,aE⟩;have ab:=iS w2 b F ds ad av;have a7:=gd (bP.o w2 ad av aE);obtain⟨⟨K,L,O,Q⟩,⟨U,V⟩,⟨Y,Z,s2,s3⟩⟩:=af.o (b::gs) w2 a7.o.Z ax.o;clear ay av
 go_wp2_with(go_at_call 60;refine gB ab ?_)
 clear K L O Q U V Y Z s2 s3 ab aE;rotate_left
 iterate 2
  have aa:jN p q s m=gx 1 2++lp m:=by unfold jN;rw[if_pos am.o,if_neg z]
  clear z;have hh:=bH.o;rw[aa]at hh;have ay:=iU w1 b F ds pos 2 1 bM.o (by omega) (by decide) hh.left;have aT:=hh.right;rw[gH]at aT;rw[bm.o]at aT;have ca:=aT.left;have bx:=aT.right;rw[gH]at bx;have⟨ad,ar⟩:=zX (pos+2+4+4);have aC:gh (pos+(jN p q s m).length=ad):=gd (by rw[aa,zC,gH,tJ,ar]);have aP:=λw' hr=>iU w' b F ds (pos+2) 4 T hr (by omega) (by omega) ca;have az:=λw' hr=>iU w' b F ds (pos+2+4) 4 e2 hr (by omega) (by omega) bx;rw[<-ar]at az;have⟨cx,cy⟩:=gy aP az;clear aa ar hh aT ca bx aP az;go_enter func66,ntmps66;go_wp2_with fail;rw[<-bQ.o];refine ay.mono ?_;rintro e w2 ⟨rfl,av,aE⟩;have ab:=iS w2 b F ds _ av;have aP:=cx.o w2 av;have bf:=gd aE;clear ay av aE
  go_wp2_with(go_at_call 60;refine gB ab ?_)
  refine aP.mono ?_;rintro e w3 ⟨rfl,ck,bR⟩;have az:=cy.o w3 ck;have bg:=gd (bf.o.tq bR);clear aP ab ck bR;go_wp2_with fail;refine az.mono ?_;rintro e w4 ⟨rfl,bB,bS⟩;have ab:=iS w4 b F ds _ bB;have⟨aB,cJ⟩:=gy (bg.o.tq bS) bB;obtain⟨⟨K,L,O,Q⟩,⟨U,V⟩,⟨Y,Z,s2,s3⟩⟩:=af.o [b] w4 aB.o (λk f d=>ax.o k f (by simp at d;simp[d]));clear az bB bS
  go_wp2_with(go_at_call 60;refine gB ab ?_)
  refine(cC.o _).mono ?_;rintro e w5 ⟨rfl,an⟩;have aL:=aB.o.tq (an.mono (F':=[b]) (by simp));have a7:=gd (bP.o w5 ad (cJ.o.Z an (by simp)) aL);obtain⟨⟨K,L,O,Q⟩,⟨U,V⟩,⟨Y,Z,s2,s3⟩⟩:=af.o (b::gs) w5 a7.o.Z ax.o;clear an aL ab;go_wp2_with fail;clear K L O Q U V Y Z s2 s3;rotate_left
 all_goals
  go_loopg [14,15,16,17,18,19,67] n (λj v14 v15 v16 v17 v18 v19 v67 wr=>∃i:Nat,v67=.int .i64 i/\i+j=n/\gh (rD w1 p q bs s b F ds ad gP capP xs gs wr i))
  .exact⟨0,rfl,by omega,a7⟩
  obtain⟨i,rfl,dl,J⟩:=hrel;rcases gk with _|j
  .obtain rfl:i=n:=by omega
   have t1:decide (i<i)=false:=(by simp);go_wp2_with fail;go_ret;have bF:=J.o;refine⟨rfl,?_,?_,?_⟩
   .rw[aC.o]
    exact bF.rd
   .exact bF.now
   .exact(bI.o.mono (by simp)).tq bF.Z
  .have y:i<n:=by omega
   have bb:i<p.P.length:=(by rw[<-HN.o];exact y);obtain⟨wr0,rfl⟩:=zX wr;have br:gg (b::gs) w wr0:=(bI.o.mono (by simp)).tq J.o.Z;obtain⟨⟨K,L,O,Q⟩,⟨U,V⟩,⟨Y,Z,s2,s3⟩⟩:=af.o (b::gs) wr0 J.o.Z ax.o;have ch:=bk.o wr0 br i y;obtain⟨r,ci,be,bw,ah,ae⟩:=J.o.now.plane (i:=i) (by rw[pn];exact bb);have cd:(jw p q bs s i).P.getD i []=jd (q.P.getD i []) (p.P.getD i []) p.W bs:=by
    rw[zD,ye bs s i bb,if_neg (by omega)];rfl
   rw[cd]at ah
   change gv wr0 3 (.slice r (p.W*p.H) ci) r _ at ah
   change wr0.cell? ⟨gP,i,none⟩=some (.slice r (p.W*p.H) ci)at ae
   change xs[i]?=some (.slice r (p.W*p.H) ci)at be
   rw[<-cF.o]at ah ae be;have aG:=J.o.now.ltP;have aR:r∈gs:=mem_of_getElem? bw;have aK:∀wz,gg (b::gs) wr0 wz->wz.cell? ⟨gP,i,none⟩=some (.slice r N ci):=λwz hz=>(World.cell?_of_block (w:=wr0) (hz.block gP aG cB.o)).trans ae;have bn:N<=ci:=by
    obtain⟨_,e,D,_⟩:=ah.open_;injection e with _ e3 e4;subst e4;rw[zE,qa,(bL.o i y).1]at D;exact D
   have⟨cQ,cA,bO,ct⟩:=gu be bw ah aK;have⟨bK,dc,cD⟩:=Q9 aR br bb;clear be bw ah ae aK cd aG aR br bb;go_wp2_with fail;refine ch.mono ?_;rintro e w5 ⟨v5,F5,rfl,a4,an,bV⟩;clear ch;rcases a4.cases with⟨_,he,_⟩|⟨g5,aj,aF⟩
   .exfalso
    have:=aD.o i
    rw[List.map_eq_nil_iff.1 he]at this;simp at this;omega
   have aw:=aj;obtain⟨c5,rfl,bU,cR,al,bu⟩:=aj.T;have b7:wr0.heap.size<=g5:=bV g5 (by rw[aF];simp);rw[aD.o i]at bU aw⊢;have⟨cK,cz,dd⟩:=Q9 aw b7 an;have aS:r<wr0.heap.size:=bO.o.lt;have bj:=gd aS;clear a4 aj aw al bu aF bV b7 aS cR K L O Q U V Y Z s2 s3;obtain⟨w6,rfl⟩:=zX w5;have bl:=gd (J.o.rd.Z an (by simp));have a5:gh (gg [b] wr0 w6):=gd (an.mono (by simp));have bC:=cK.o;rw[cP.o i y]at bC;have cL:=gd bC;clear bC an;have aJ:gg (b::gs) w1 w6:=J.o.Z.tq (a5.o.mono (by simp));obtain⟨⟨K,L,O,Q⟩,⟨U,V⟩,⟨Y,Z,s2,s3⟩⟩:=af.o (b::gs) w6 aJ ax.o;clear aJ;have cl:gv w6 3 (.slice r N ci) r ((jd (q.P.getD i []) (p.P.getD i []) p.W (bs++[⟨s.x,s.y,s.w,0⟩])).map vi):=by
    rw[BH _ _ _ _ _ rfl];refine bO.o.Z a5.o ?_;intro d;simp at d;subst d;exact bJ.o _ J.o.rd.mem (by simp[bK.o])
   have cN:=gd cl;clear cl;go_wp2_with fail
   go_loopg [19,116] s.h (λj2 v19 v116 wr2=>∃k:Nat,v116=.int .i64 k/\k+j2=s.h/\gh (gv wr2 3 (.slice r N ci) r ((jd (q.P.getD i []) (p.P.getD i []) p.W (bs++[⟨s.x,s.y,s.w,k⟩])).map vi))/\gh (gg [r] w6 wr2))
   .exact⟨0,rfl,by omega,cN,gd (zR _ _)⟩
   obtain⟨k,rfl,dm,bN,a6⟩:=hrel;have a9:gg (b::gs) wr0 wr:=(a5.o.mono (F':=b::gs) (by simp)).trans a6.o (λx hx=>by
    simp at hx;subst hx;exact .inl (by simp[bK.o]))
   rcases gk with _|j2
   .have cc:k=s.h:=by omega
    have t2:decide (k<s.h)=false:=zA (by omega);have bE:=bN.o;rw[cc]at bE;have cf:=J.o.next cH.o cI.o HA.o cD.o bJ.o (by rw[cQ.o]) cA.o bl.o a5.o a6.o bE;have cG:=gd cf;clear bE cf cc a9;go_wp2_with fail
    go_roundg j
    .exact⟨i+1,by go_num,by omega,cG⟩
    .omega
   .have f:k<s.h:=by omega
    have t2:decide (k<s.h)=true:=zB f;have⟨Yk,bY⟩:=zX (s.y+k);have eY:(s.y:Int)+(k:Int)=(Yk:Int):=(by omega);have ap:=cw.o k f;have aO:=cv.o k f;have S:=cu.o i k y f;rw[<-bY]at ap S;have⟨P0,bo⟩:=zX (Yk*p.W);have eP:(Yk:Int)*(p.W:Int)=(P0:Int):=(by rw[bo];simp);rw[<-bo]at ap S;have⟨at_,bZ⟩:=zX (P0+s.x);have eQ:(P0:Int)+(s.x:Int)=(at_:Int):=(by omega);rw[<-bZ]at ap S;have⟨lo,bc⟩:=zX (k*s.w);have eL:(k:Int)*(s.w:Int)=(lo:Int):=(by rw[bc];simp);rw[<-bc]at aO S;have⟨k1,cb⟩:=zX (k+1);have eK:(k:Int)+1=(k1:Int):=(by omega);have⟨bA,bz⟩:=zX (lo+s.w);have eH:(k1:Int)*(s.w:Int)=(bA:Int):=(by rw[cb,bz,bc];simp[Int.add_mul]);have bp:at_<N:=(by omega);have c4:=BK (P:=prog) underlying22 nP r N ci at_ bp bn;obtain⟨A',dp,-,b4⟩:=s9 (P:=prog) underlying22 nP (some ⟨g5,0,none⟩) M c5 lo s.w bA bz (by omega) bU;have aQ:g5∉[r]:=λd=>by
     simp at d
     have:=cz.o
     have:=bj.o
     omega
    have aw:=cL.o.Z a6.o aQ;obtain⟨_,-,-,-,al,-⟩:=aw.T;have b1:gz vi wr (some ⟨g5,0,none⟩) (jn (q.P.getD i []) p.W s.x s.y s.w s.h):=⟨λ_=>⟨g5,0,rfl,aw.lt,λk a f=>by rw[Nat.zero_add];exact al k a f⟩⟩;have⟨R,hR⟩:=zX (((jn (q.P.getD i []) p.W s.x s.y s.w s.h).drop lo).take s.w);have b2:gz vi wr A' R:=(by rw[hR];exact b4 Int vi wr _ (by rw[o6,HM.o]) b1);have bX:R.length=s.w:=(by rw[hR,zI,zO,o6,<-HM.o];omega);rw[<-hR]at S;have cm:((jd (q.P.getD i []) (p.P.getD i []) p.W (bs++[⟨s.x,s.y,s.w,k⟩])).map vi).length=N:=(by rw[zE,qa,(bL.o i y).1]);have cZ:=ct.o wr a9;have aM:gg (b::gs) w1 wr:=J.o.Z.tq a9;obtain⟨⟨K,L,O,Q⟩,⟨U,V⟩,⟨Y,Z,s2,s3⟩⟩:=af.o (b::gs) wr aM ax.o;have⟨bi,bh,cO,cE⟩:=gu b2 S bX cm;have cV:Yk<=72:=(by omega);have dk:P0<=4096:=(by omega);have cW:at_<=4096:=(by omega);have c3:lo<=64:=(by omega);have c0:bA<=64:=(by omega);have c2:k1<=8:=(by omega);have aN:gh (at_+s.w<=N/\s.w<=N-at_):=gd ⟨by omega,by omega⟩;clear bY bo bZ bc cb bz ap aO S b4 aQ aw al b1 hR b2 bX cm aM a9 K L O Q;go_wp2_with fail;refine i9 27 (by kernel_rfl) (by kernel_rfl) ?_;simp only[take_succ_cons,take_zero,drop_succ_cons,drop_zero]
    repeat(go_big_quiet_step (fail))
    refine wpQuiet_nil ?_;intro _ c6;obtain⟨nq,rfl⟩:=c6;have cn:=bN.o.drewN nq
    go_wp2_with(refine Az rfl (.tmp 134) (.tmp 145) 22 22 rfl underlying22 (by kernel_rfl) cn at_ (N-at_) (ci-at_) s.w (c5-lo) rfl rfl (R.map vi) ?n1 ?n2 ?n3 ?n4 ?n5 ?n6 ?_)
    case n1=>rw[zE];exact cO.o
    case n2=>exact cr
    case n3=>exact aN.o.2
    case n4=>
     have D:=bi.o.drewN nq;refine⟨λh0=>?_⟩;obtain⟨b,o,T,e2,e3⟩:=D.ex (by simpa using h0);refine⟨b,o,T,e2,λi a X=>?_⟩;rw[zW]at X;obtain⟨x,hx,rfl⟩:=Option.map_eq_some_iff.1 X;exact e3 i x hx
    case n5=>rw[cE.o];exact aN.o.1
    case n6=>
     intro u hu;obtain⟨x,_,rfl⟩:=List.mem_map.1 hu;rfl
    intro w7 bD bT;rw[<-zD,<-zD,bh.o]at bD;have cM:=gd bD;have cs:gh (gg [r] w6 w7):=gd ((a6.o.drewN nq).tq bT);clear bD bT cn;go_wp2_with fail
    go_roundg j2
    .exact⟨k+1,by go_num,by omega,cM,cs⟩
    .omega
theorem Qq{w:World}{p q:qc}{bs:List Sq}{s:Sq}{m:Int × Int}{xs:List Value}{gs:List Nat}(J:Nat)(h:yl w p q g o B c G bs s m b F ds pos gP capP xs gs)(V:sA p q s m=false)(hah:ig ds pos (jN p q s m)):Calls prog 66 #[.pointer b,gW p g o J,gW (jw p q bs s 0) gP 0 capP,kP s] w (vF w p q bs s b F ds (pos+(jN p q s m).length) gP capP xs gs):=by
 have Q:=h.was.ok;have ar:=h.qok;have S:=h.ha;have hs:=h.hs;have T:=h.hm;obtain⟨cN,fQ,dL,fP⟩:(1<=s.w/\s.w<=8/\1<=s.h/\s.h<=8):=⟨h.sw0,h.sw1,h.sh0,h.sh1⟩;have dH:s.x<=64:=by have:=hs.x;have:=Q.w1;omega
 have dJ:s.y<=64:=by have:=hs.y;have:=Q.h1;omega
 have fB:=Q.w1;have fz:=Q.h1;have bc:=T.fit;have dl:∀k,w.heap.size<=k->k∉b::gs:=λk d f=>by
  rcases zJ.1 f with rfl|z
  .have:=h.rd.lt _ h.rd.mem;omega
  .have:=h.now.pl.lt k z;omega
 have cw:=S.n;have⟨n,hn⟩:=zX p.P.length;rw[<-hn]at cw;have⟨N,hN⟩:=zX (p.W*p.H);have⟨M,hM⟩:=zX (s.h*s.w);have fU:M<=64:=by rw[hM];exact zL fP fQ
 have fA:0<M:=by rw[hM];exact Nat.mul_pos dL cN
 have fV:N<=4096:=by rw[hN];exact Q.area
 have f1:n<=4:=by rw[hn];exact Q.n1
 have bH:∀w',gg (b::gs) w w'->∀i,i<n->_:=λw' hc i t=>tN J (h.was.Z hc h.gG) i (by rw[<-hn];exact t) s m bc.x0 bc.x1 bc.y0 bc.y1 dH dJ;have bD:=λw'=>yq p.W p.H p.d n g o J s m w' fB fz dH dJ (by omega) (by omega) (by have:=T.1;omega) (by have:=T.2.1;omega) (by have:=T.2.2.1;omega) (by have:=T.2.2.2.1;omega);rw[(tM p.W p.H s m).2 T]at bD;have cf:=Q.d0;have cg:=Q.d1;have dF:∀v w,_:=λv w=>o7 v p.d w cf cg;unfold vF;unfold gW kP at bH⊢;unfold kP at bD;rw[<-hn]at bH⊢;rw[pn,<-hn];show Calls _ _ #[_,_,.agg #[.int .i64 p.W,.int .i64 p.H,.int .i64 p.d,.slice gP n capP],_] _ _;have⟨w1,aE⟩:=zX ((((w.alloc (.cells #[p.W,p.H,p.d,.slice (some ⟨g,o,none⟩) n J] 46)).alloc (.cells #[p.W,p.H,p.d,.slice gP n capP] 46)).alloc (.cells #[s.x,s.y,s.w,s.h] 73)));have aS:gn w1 w.heap.size 46 #[p.W,p.H,p.d,.slice (some ⟨g,o,none⟩) n J]:=by rw[aE];exact((gn.new w _ _).alloc _).alloc _
 have ca:gn w1 (w.heap.size+1) 46 #[p.W,p.H,p.d,.slice gP n capP]:=by rw[aE];exact(gn.new2 w _ _ _).alloc _
 have aT:gn w1 (w.heap.size+1+1) 73 #[s.x,s.y,s.w,s.h]:=by rw[aE];exact gn.new3 w _ _ _ _
 have bw:gg [] w w1:=by rw[aE];exact(((zR [] w).alloc _).alloc _).alloc _
 have aA:∀(E:List Nat) wr,gg E w1 wr->(∀k,w.heap.size<=k->k∉E)->(wr.cell? ⟨w.heap.size,0,none⟩=some (.int .i64 p.W)/\wr.cell? ⟨w.heap.size,1,none⟩=some (.int .i64 p.H)/\wr.cell? ⟨w.heap.size,2,none⟩=some (.int .i64 p.d)/\wr.cell? ⟨w.heap.size,3,none⟩=some (.slice (some ⟨g,o,none⟩) n J)) /\
   (wr.cell? ⟨w.heap.size+1,0,none⟩=some (.int .i64 p.W)/\wr.cell? ⟨w.heap.size+1,3,none⟩=some (.slice gP n capP)) /\
   (wr.cell? ⟨w.heap.size+1+1,0,none⟩=some (.int .i64 s.x)/\wr.cell? ⟨w.heap.size+1+1,1,none⟩=some (.int .i64 s.y)/\wr.cell? ⟨w.heap.size+1+1,2,none⟩=some (.int .i64 s.w)/\wr.cell? ⟨w.heap.size+1+1,3,none⟩=some (.int .i64 s.h)):=λE wr hc e=>
  ⟨⟨(aS.Z hc (e _ (by omega))).X 0,(aS.Z hc (e _ (by omega))).X 1,(aS.Z hc (e _ (by omega))).X 2,(aS.Z hc (e _ (by omega))).X 3⟩,⟨(ca.Z hc (e _ (by omega))).X 0,(ca.Z hc (e _ (by omega))).X 3⟩,⟨(aT.Z hc (e _ (by omega))).X 0,(aT.Z hc (e _ (by omega))).X 1,(aT.Z hc (e _ (by omega))).X 2,(aT.Z hc (e _ (by omega))).X 3⟩⟩
 have cn:gP∉b::gs:=λf=>by
  rcases zJ.1 f with e|z
  .exact h.fG b h.rd.mem (by simp[e])
  .obtain⟨k,d,e⟩:=getElem_of_mem z
   have fH:k<(jw p q bs s 0).P.length:=(by rw[<-h.now.pl.lg];exact d);exact h.now.neP fH (zF d) e.symm
 have bh:=h.rd.Z bw (by simp)
 have bo:∀w2 pos',gM w2 b F ds pos'->gg [b] w1 w2->rD w1 p q bs s b F ds pos' gP capP xs gs w2 0:=λw2 pos' U hc=>
  ⟨U,(h.now.Y bw).Z hc (by simpa using λe=>cn (by simp[e])) (by
   intro x A f;simp at f;subst f;exact h.fG _ h.rd.mem (by simp[A])),hc.mono (by simp)⟩
 have cz:∀w2,gg (b::gs) w w2->iK w2:=λw2 hc=>h.pts.Z hc λf=>by
  rcases zJ.1 f with e|z
  .exact h.f0 (by rw[e];exact h.rd.mem)
  .exact h.g0 z
 have c8:=h.fG;have c3:=h.f0;have du:=λi=>Is S i s;have bd:∀i,(it p i s m).length=M:=λi=>by rw[mE,hM]
 have bb:∀i,i<n->(p.P.getD i []).length=N/\(q.P.getD i []).length=N:=λi t=>⟨by rw[hN];exact Q.len _ (oO (by omega)),by rw[hN,S.W,S.H];exact ar.len _ (oO (by omega))⟩;have aB:∀k,k<s.h->(s.y+k)*p.W+s.x+s.w<=N:=λk d=>by
  have z:=hs.x;have h2:s.y+k+1<=p.H:=by have:=hs.y;omega
  have h3:=mul_le_mul_right p.W h2;rw[succ_mul,zY p.H,<-hN]at h3;omega
 have a5:∀k,k<s.h->k*s.w+s.w<=M:=λk d=>by
  have h3:=mul_le_mul_right s.w (show k+1<=s.h by omega);rw[succ_mul,<-hM]at h3;exact h3
 have Y:∀i k,i<n->k<s.h->_:=λi k t d=>Bk (q:=q.P.getD i []) (l:=p.P.getD i []) (W:=p.W) (H:=p.H) (bs:=bs) (sx:=s.x) (sy:=s.y) (sw:=s.w) (sh:=s.h) (k:=k) (by rw[(bb i t).1,(bb i t).2]) (by rw[(bb i t).1,hN]) hs.x hs.y d;have ch:∀i,(jq p q i s m).length=M:=λi=>by rw[yp,hM,zY]
 have cj:∀i,ie p.d (jq p q i s m):=λi=>by rw[S.d];exact Iq _ _ _
 have dv:∀i,i<n->ie p.d (it p i s m):=λi t=>tK Q (by omega) s m;have dE:∀i k,i<n->k<M->(jn (q.P.getD i []) p.W s.x s.y s.w s.h)[k]?=some (gU ((it p i s m).getD k 0+(jq p q i s m).getD k 0) p.d):=λi k t d=>by
  rw[<-du i,S.d];exact QZ (tK ar (by omega) s (0,0)) (by rw[<-hM];exact d)
 have dw:∀i,(jn (q.P.getD i []) p.W s.x s.y s.w s.h).length=M:=λi=>by rw[o6,hM]
 have aj:∀i,i<n->m6 (jq p q i s m) s.w s.h p.d<=7/\iE (m6 (jq p q i s m) s.w s.h p.d) (jq p q i s m) s.w p.d=true:=λi t=>by
  have z:=sW (jq p q i s m) s.w s.h p.d;exact⟨z.1,z.2.1⟩
 have dD:∀w' i pos',i<n->gM w' b F ds pos'->gg (b::gs) w w'->ig ds pos' (pt (jq p q i s m) s.w s.h p.d)->Calls prog 94 #[.pointer b,s.w,s.h,p.d] w' (lE w' b F ds pos' (jq p q i s m) (pt (jq p q i s m) s.w s.h p.d).length):=λw' i pos' t U hc hah'=>
  GV U cN (by omega) dL (by omega) cf cg (by rw[ch i,hM,zY]) (cj i) (aj i t).1 (cz w' hc) c3 (aj i t).2 hah'
 have dc:jN p q s m=gx 2 2++(lp m++j4 p q s m n):=by
  unfold jN;rw[if_neg (by rw[V];simp),cw]
 obtain⟨e1,dg⟩:∃e1:Nat,m.1+4=(e1:Int):=⟨(m.1+4).toNat,by have:=T.1;omega⟩;obtain⟨e2,dh⟩:∃e2:Nat,m.2+4=(e2:Int):=⟨(m.2+4).toNat,by have:=T.2.2.1;omega⟩;have fS:e1<=8:=by have:=T.2.1;omega
 have fT:e2<=8:=by have:=T.2.2.2.1;omega
 have bp:lp m=gx e1 4++gx e2 4:=by
  unfold lp;rw[dg,dh];rfl
 have z1:(e1:Int)-4=m.1:=by omega
 have z2:(e2:Int)-4=m.2:=by omega
 have y1:IntKind.i64.wrap (e1:Int)=(e1:Int):=IntWalk.i64_in _ (by omega);have y2:IntKind.i64.wrap (e2:Int)=(e2:Int):=IntWalk.i64_in _ (by omega);have⟨bv,fd,d2,fs⟩:=gu aE bH bD dF;have⟨ab,fo,fR,cS⟩:=gu aA bo cz c8;have⟨ay,cU,dS,dR⟩:=gu bd bb aB a5;have⟨dP,b4,dY,au⟩:=gu Y bp cn dl;have⟨fi,cP,d9,fa⟩:=gu bh bw Q ar;have⟨HA,dM,HN,d7⟩:=gu S hah hn hN;have⟨HM,bS,dQ,fb⟩:=gu hM ch cj dv;have⟨fq,fc,fp,dN⟩:=gu dE dw dD dc;obtain⟨⟨K,L,I,O⟩,⟨Z,b3⟩,⟨s0,s1,s2,s3⟩⟩:=aA [] w1 (zR _ _) (by simp);clear aE aS ca aT bH bD dF aA bo cz c8 bd bb aB a5 Y bp cn dl bh bw Q ar S hah hn hN hM c3 ch cj dv dE dw dD dc du hs T bc V cw dg dh h aj;have ah:jN p q s m=gx 2 2++(lp m++j4 p q s m n):=dN.o;have hh:=dM.o;rw[ah]at hh;have dj:=iU w1 b F ds pos 2 2 fi.o (by omega) (by decide) hh.left;have bB:=hh.right;rw[gH]at bB;have ba:=bB.right;rw[tJ]at ba;have bC:=bB.left;rw[b4.o]at bC;have dm:=bC.left;have cq:=bC.right;rw[gH]at cq;have⟨posE,cy⟩:=zX (pos+2+4+4);have be:pos+2+8=posE:=by omega
 rw[be]at ba;have bT:gh (pos+(jN p q s m).length=posE+(j4 p q s m n).length):=gd (by rw[ah,zC,zC,gH,tJ,cy];omega);have dy:q.d=p.d:=HA.o.d.symm;have cR:gh (∀i,j4 p q s m (i+1)=j4 p q s m i++pt (jq p q i s m) s.w s.h p.d):=gd (λi=>by rw[<-dy];exact yn p q s m i);have bf:∀k i,i+k=n->∃rest,j4 p q s m n=j4 p q s m i++rest:=by
  intro k
  induction k with
  | zero=>intro i h;exact⟨[],by rw[append_nil,show i=n by omega]⟩
  | succ k ih=>
   intro i h;obtain⟨r,U⟩:=ih (i+1) (by omega);exact⟨_,by rw[U,yn,zH]⟩
 have bK:gh (∀i,i<n->ig ds (posE+(j4 p q s m i).length) (pt (jq p q i s m) s.w s.h p.d)):=gd (λi t=>by
  obtain⟨r,U⟩:=bf (n-(i+1)) (i+1) (by omega);rw[U,cR.o i,zH]at ba;exact ba.right.left)
 clear ba bC be dy bf;have a6:=λw' U=>iU w' b F ds (pos+2) 4 e1 U (by omega) (by omega) dm;have aK:=λw' U=>iU w' b F ds (pos+2+4) 4 e2 U (by omega) (by omega) cq;rw[<-cy]at aK;have⟨dT,dU⟩:=gy a6 aK;clear ah cy hh bB dm cq a6 aK;go_enter func66,ntmps66;go_wp2_with fail;rw[<-bv.o];refine dj.mono ?_;rintro e w2 ⟨rfl,cE,cY⟩;have ai:=iS w2 b F ds _ cE;have a6:=dT.o w2 cE;have bO:=gd cY;clear dj cE cY
 go_wp2_with(go_at_call 60;refine gB ai ?_)
 refine a6.mono ?_;rintro e w3 ⟨rfl,dz,cZ⟩;have aK:=dU.o w3 dz;have bP:=gd (bO.o.tq cZ);clear a6 ai dz cZ;go_wp2_with fail;refine aK.mono ?_;rintro e w4 ⟨rfl,cF,c0⟩;have ai:=iS w4 b F ds _ cF;have⟨aM,ff⟩:=gy (bP.o.tq c0) cF;obtain⟨⟨K,L,I,O⟩,⟨Z,b3⟩,⟨s0,s1,s2,s3⟩⟩:=ab.o [b] w4 aM.o (λk d f=>au.o k d (by simp at f;simp[f]));clear aK cF c0
 go_wp2_with(go_at_call 60;refine gB ai ?_)
 refine(d2.o _).mono ?_;rintro e w5 ⟨rfl,ao⟩;have aX:=aM.o.tq (ao.mono (F':=[b]) (by simp));have bu:=gd (fo.o w5 posE (ff.o.Z ao (by simp)) aX);obtain⟨⟨K,L,I,O⟩,⟨Z,b3⟩,⟨s0,s1,s2,s3⟩⟩:=ab.o (b::gs) w5 bu.o.Z au.o;clear ao aX ai;go_wp2_with fail;clear K L I O Z b3 s0 s1 s2 s3;have bm:=bu.o;have bu:gh (rD w1 p q bs s b F ds (posE+(j4 p q s m 0).length) gP capP xs gs w5 0):=gd (by simpa[j4]using bm);clear bm
 go_loopg [14,15,16,17,18,19,67] n (λj v14 v15 v16 v17 v18 v19 v67 wr=>∃i:Nat,v67=.int .i64 i/\i+j=n/\gh (rD w1 p q bs s b F ds (posE+(j4 p q s m i).length) gP capP xs gs wr i))
 .exact⟨0,rfl,by omega,bu⟩
 obtain⟨i,rfl,fZ,C⟩:=hrel;rcases gk with _|j
 .obtain rfl:i=n:=by omega
  have t1:decide (i<i)=false:=by simp
  go_wp2_with fail;go_ret;have cJ:=C.o;refine⟨rfl,?_,?_,?_⟩
  .rw[bT.o]
   exact cJ.rd
  .exact cJ.now
  .exact(cP.o.mono (by simp)).tq cJ.Z
 .have t:i<n:=by omega
  have bE:i<p.P.length:=by rw[<-HN.o];exact t
  obtain⟨wr0,rfl⟩:=zX wr;have cc:gg (b::gs) w wr0:=(cP.o.mono (by simp)).tq C.o.Z;obtain⟨⟨K,L,I,O⟩,⟨Z,b3⟩,⟨s0,s1,s2,s3⟩⟩:=ab.o (b::gs) wr0 C.o.Z au.o;have dx:=fd.o wr0 cc i t;obtain⟨D,ci,bJ,co,af,ac⟩:=C.o.now.plane (i:=i) (by rw[pn];exact bE);have dr:(jw p q bs s i).P.getD i []=jd (q.P.getD i []) (p.P.getD i []) p.W bs:=by
   rw[zD,ye bs s i bE,if_neg (by omega)];rfl
  rw[dr]at af
  change gv wr0 3 (.slice D (p.W*p.H) ci) D _ at af
  change wr0.cell? ⟨gP,i,none⟩=some (.slice D (p.W*p.H) ci)at ac
  change xs[i]?=some (.slice D (p.W*p.H) ci)at bJ
  rw[<-d7.o]at af ac bJ;have aO:=C.o.now.ltP;have a8:D∈gs:=mem_of_getElem? co;have aW:∀wz,gg (b::gs) wr0 wz->wz.cell? ⟨gP,i,none⟩=some (.slice D N ci):=λwz hz=>(World.cell?_of_block (w:=wr0) (hz.block gP aO dY.o)).trans ac;have b6:N<=ci:=by
   obtain⟨_,e,z,_⟩:=af.open_;injection e with _ e3 e4;subst e4;rw[zE,qa,(cU.o i t).1]at z;exact z
  have⟨fu,dX,cX,dO⟩:=gu bJ co af aW;have⟨cT,cO,d3⟩:=Q9 a8 cc bE;clear bJ co af ac aW dr aO a8 cc bE;go_wp2_with fail;refine dx.mono ?_;rintro e w5 ⟨v5,F5,rfl,br,ao,c4⟩;clear dx;rcases br.cases with⟨_,he,_⟩|⟨g5,ak,aN⟩
  .exfalso
   have:=ay.o i
   rw[List.map_eq_nil_iff.1 he]at this;simp at this;omega
  have aC:=ak;obtain⟨c5,rfl,c2,fv,ap,ck⟩:=ak.T;have dk:wr0.heap.size<=g5:=c4 g5 (by rw[aN];simp);rw[ay.o i]at c2 aC⊢;have⟨cW,aH⟩:=gy aC dk;have a9:D<wr0.heap.size:=cX.o.lt;have bU:=gd a9;clear br ak aC ap ck aN c4 dk a9 fv K L I O Z b3 s0 s1 s2 s3;have bi:=C.o.rd.Z ao (by simp);have aP:=bK.o i t;have aZ:gg (b::gs) w w5:=cO.o.tq (ao.mono (by simp));have aU:gg (b::gs) w1 w5:=C.o.Z.tq (ao.mono (by simp));have aD:=fp.o w5 i _ t bi aZ aP;unfold lE at aD;obtain⟨⟨K,L,I,O⟩,⟨Z,b3⟩,⟨s0,s1,s2,s3⟩⟩:=ab.o (b::gs) w5 aU au.o;clear bi aP aZ aU;go_wp2_with fail;refine aD.mono ?_;rintro e w6 ⟨v7,F7,rfl,aG,bj,b5,c6⟩;obtain⟨A7,c7,rfl,fw,fx,cd⟩:=aG.T;have cl:=cW.o.lt;have cb:g5≠b:=λe=>by have:=aH.o;have:=C.o.rd.lt b C.o.rd.mem;omega
  have bl:=cW.o.Z b5 (by simpa using cb);have aQ:∀ad,A7=some ad->ad.block≠g5:=λad e he=>by
   obtain⟨Z,o0,e0,fX,_⟩:=cd.ex (by rw[bS.o i];exact fA);rw[e]at e0;injection e0 with e0;have dt:=aG.apt (F':=[g5]) (l':=[()]) (by
    intro x A f;simp at f;subst f
    have:=c6 x A
    omega) (by simp) ad e
   simp at dt;exact dt he
  rw[bS.o i]at fw⊢;have⟨bY,bX,bM,bL⟩:=gu bj bl cd aQ;have cQ:gh (gg [b] wr0 w6):=gd ((ao.mono (by simp)).tq b5);clear aD aG bj cd bl aQ c6 b5 ao fx cl;have ae:gg (b::gs) w1 w6:=C.o.Z.tq (cQ.o.mono (by simp));obtain⟨⟨K,L,I,O⟩,⟨Z,b3⟩,⟨s0,s1,s2,s3⟩⟩:=ab.o (b::gs) w6 ae au.o;have aL:=gd ae;have⟨df,bz⟩:=zX (jq p q i s m);have⟨ax,bG⟩:=zX (it p i s m);have⟨un,bI⟩:=zX (jn (q.P.getD i []) p.W s.x s.y s.w s.h);have aw:=ay.o i;have cu:=bS.o i;have cv:=fc.o i;have cL:=dQ.o i;have cK:=fb.o i t;have cp:=λk d=>fq.o i k t d;rw[<-bG]at aw cK;rw[<-bz]at cu cL;rw[<-bI]at cv;rw[<-bI,<-bG,<-bz]at cp;have az:=bM.o;rw[<-bz]at az;have bg:gv w6 3 (.slice g5 M c5) g5 ((lr un ax 0).map vi):=by
   have z:=bX.o;rw[<-bG]at z
   simpa[lr]using z
  have⟨fe,bN,bV,d5⟩:=gu bg az aw cu;have⟨cV,fl,fm,dZ⟩:=gu cv cL cK cp;have fr:=gd bI;clear ae bz bG bI aw cu cv cL cK cp az bg;go_wp2_with fail
  go_loopg [18,95] M (λj2 v18 v95 wr2=>∃k:Nat,v95=.int .i64 k/\k+j2=M/\gh (gv wr2 3 (.slice g5 M c5) g5 ((lr un ax k).map vi))/\gh (gg [g5] w6 wr2))
  case atStart=>exact⟨0,rfl,by omega,fe,gd (zR _ _)⟩
  case round=>
  obtain⟨k,rfl,fJ,aI,X⟩:=hrel;rcases gk with _|j2
  case succ=>
   have d:k<M:=(by omega);have t2:decide (k<M)=true:=zB d;have bF:k<ax.length:=(by rw[bV.o];exact d);have ct:k<df.length:=(by rw[d5.o];exact d);have aq:un.length=ax.length:=(by rw[cV.o,bV.o]);have dq:=Ix aq bF;obtain⟨_,-,-,-,aV,di⟩:=aI.o.T;have aJ:=aV k _ dq;have fY:=di k;have aR:ib A7 df [g5]:=λ_ ad e f=>bL.o ad e (by simpa using f);obtain⟨ga,oa,fy,ce⟩:=(bN.o.N aR X.o).at_ ct;subst fy;have⟨x,A⟩:=zX (ax.getD k 0);have⟨y,hy⟩:=zX (df.getD k 0);have dK:df[k]=y:=(by rw[hy,zD,zF ct];rfl);rw[dK]at ce;rw[<-A]at aJ;have cA:wr.cell? ⟨ga,oa+k,none⟩=some (.int .i64 y):=ce;have cB:wr.cell? ⟨g5,k,none⟩=some (.int .i64 x):=aJ;obtain⟨fM,dG⟩:=mK fm.o k;obtain⟨fN,dI⟩:=mK fl.o k;rw[<-A]at fM dG;rw[<-hy]at fN dI;obtain⟨cC,cD⟩:=jX cf cg;have f3:x<65536:=(by omega);have f4:y<65536:=(by omega);have bA:=dZ.o k d;rw[<-A,<-hy]at bA;have aF:=fs.o (x+y);have⟨v,hv⟩:=zX (gU (x+y) p.d);rw[<-hv]at bA aF;have ft:gh (∀w,Calls prog 81 #[.int .i64 (x+y),p.d] w λe w'=>e=.returned (.int .i64 v)/\w'=w):=gd (λw=>(aF w).mono λe w' h=>⟨h.1,h.2.symm⟩);have aE:IntKind.i64.wrap (x+y)=x+y:=IntWalk.i64_in _ (by omega);have cm:∀k,k∈[g5]->w.heap.size<=k:=λk d=>by
    simp at d
    have:=aH.o
    have:=cO.o.size
    omega
   obtain⟨⟨K,L,I,O⟩,-,-⟩:=ab.o (b::gs) w6 aL.o au.o;have av:g5≠w.heap.size:=λe=>by
    have:=aH.o
    have:=C.o.Z.size
    have:=bv.o
    have hz:w1.heap.size=w.heap.size+1+1+1:=(by rw[bv.o,jt,jt,jt]);omega
   have fO:w1.heap.size=w.heap.size+1+1+1:=(by rw[bv.o,jt,jt,jt]);have bq:w.heap.size<w6.heap.size:=(by have:=aL.o.size;omega);have b2:wr.cell? ⟨w.heap.size,2,none⟩=some (.int .i64 p.d):=(World.cell?_of_block (w:=w6) (X.o.block w.heap.size bq (by simpa using av.symm))).trans I;have bn:=Iz aq bF v bA;have⟨b1,d4,bW⟩:=Q9 bn bF aq;clear aJ ce A hy dK bA aF hv bn aV di dq aR ct bF dG dI K L I O cm aq cC cD av fO bq;go_wp2_with fail;refine i9 15 (by kernel_rfl) (by kernel_rfl) ?_;simp only[take_succ_cons,take_zero,drop_succ_cons,drop_zero]
   repeat(go_big_quiet_step ((go_at_call 81;exact Calls.quiet_of_same (ft.o _))))
   refine wpQuiet_nil ?_;intro _ cM;obtain⟨nq,rfl⟩:=cM;go_wp2_with fail
   go_roundg j2
   .refine⟨k+1,by go_num,by omega,gd ?_,gd ((X.o.drewN nq).setCell (p:=⟨g5,k,none⟩) (.inl (by simp)) _)⟩
    have z:=(aI.o.drewN nq).S (i:=k) (by rw[zE,Iy bW.o];exact d4.o) (.int .i64 v);have e:((lr un ax k).map vi).set k (.int .i64 v)=(lr un ax (k+1)).map vi:=(by rw[<-b1.o,map_set];rfl);rw[e]at z;exact z
   .omega
  obtain rfl:k=M:=by omega
  have t2:decide (k<k)=false:=by simp
  have cG:=aI.o;rw[show lr un ax k=jn (q.P.getD i []) p.W s.x s.y s.w s.h by
   rw[<-fr.o];unfold lr;rw[zT (by rw[cV.o];exact zQ _),drop_of_length_le (by rw[bV.o];exact zQ _),append_nil]]at cG
  obtain⟨w6',rfl⟩:=zX wr;obtain⟨M,rfl⟩:=zX k;have bk:gM w6' b F ds (posE+(j4 p q s m i).length+(pt (jq p q i s m) s.w s.h p.d).length):=bY.o.Z X.o (λx A f=>by
   simp at f
   have:=aH.o
   have:=C.o.rd.lt x A
   omega)
  have bZ:=gd bk;have an:gh (gg [b] wr0 w6'):=gd (cQ.o.trans X.o (λx A=>by
   simp at A;subst A;exact .inr aH.o))
  have ae:gg (b::gs) w1 w6':=C.o.Z.tq (an.o.mono (by simp));obtain⟨⟨K,L,I,O⟩,⟨Z,b3⟩,⟨s0,s1,s2,s3⟩⟩:=ab.o (b::gs) w6' ae au.o;have fg:=gd cG;clear cG bk ae;have dA:gv w6' 3 (.slice D N ci) D ((jd (q.P.getD i []) (p.P.getD i []) p.W (bs++[⟨s.x,s.y,s.w,0⟩])).map vi):=by
   rw[BH _ _ _ _ _ rfl];refine cX.o.Z an.o ?_;intro f;simp at f;subst f;exact cS.o _ C.o.rd.mem (by simp[cT.o])
  have fj:=gd dA;clear dA;go_wp2_with fail
  go_loopg [19,116] s.h (λj2 v19 v116 wr2=>∃k:Nat,v116=.int .i64 k/\k+j2=s.h/\gh (gv wr2 3 (.slice D N ci) D ((jd (q.P.getD i []) (p.P.getD i []) p.W (bs++[⟨s.x,s.y,s.w,k⟩])).map vi))/\gh (gg [D] w6' wr2))
  .exact⟨0,rfl,by omega,fj,gd (zR _ _)⟩
  obtain⟨k,rfl,fJ,aI,X⟩:=hrel;have bx:gg (b::gs) wr0 wr:=(an.o.mono (F':=b::gs) (by simp)).trans X.o (λx A=>by
   simp at A;subst A;exact .inl (by simp[cT.o]))
  rcases gk with _|j2
  .have dp:k=s.h:=by omega
   have t2:decide (k<s.h)=false:=zA (by omega);have cI:=aI.o;rw[dp]at cI;have cx:=C.o.next d9.o fa.o HA.o d3.o cS.o (by rw[fu.o]) dX.o bZ.o an.o X.o cI;have aV:posE+(j4 p q s m i).length+(pt (jq p q i s m) s.w s.h p.d).length=posE+(j4 p q s m (i+1)).length:=(by rw[cR.o i,zC];omega);rw[aV]at cx;clear aV;have d8:=gd cx;clear cI cx dp bx;go_wp2_with fail
   go_roundg j
   .exact⟨i+1,by go_num,by omega,d8⟩
   .omega
  .have d:k<s.h:=by omega
   have t2:decide (k<s.h)=true:=zB d;have⟨Yk,da⟩:=zX (s.y+k);have eY:(s.y:Int)+(k:Int)=(Yk:Int):=(by omega);have aB:=dS.o k d;have a5:=dR.o k d;have Y:=dP.o i k t d;rw[<-da]at aB Y;have⟨P0,b7⟩:=zX (Yk*p.W);have eP:(Yk:Int)*(p.W:Int)=(P0:Int):=(by rw[b7];simp);rw[<-b7]at aB Y;have⟨at_,db⟩:=zX (P0+s.x);have eQ:(P0:Int)+(s.x:Int)=(at_:Int):=(by omega);rw[<-db]at aB Y;have⟨lo,aw⟩:=zX (k*s.w);have eL:(k:Int)*(s.w:Int)=(lo:Int):=(by rw[aw];simp);rw[<-aw]at a5 Y;have⟨k1,dn⟩:=zX (k+1);have eK:(k:Int)+1=(k1:Int):=(by omega);have⟨cs,cr⟩:=zX (lo+s.w);have eH:(k1:Int)*(s.w:Int)=(cs:Int):=(by rw[dn,cr,aw];simp[Int.add_mul]);have b9:at_<N:=(by omega);have fL:=BK (P:=prog) underlying22 nP D N ci at_ b9 b6;obtain⟨A',f2,-,aJ⟩:=s9 (P:=prog) underlying22 nP (some ⟨g5,0,none⟩) M c5 lo s.w cs cr (by omega) c2;have a7:g5∉[D]:=λf=>by
    simp at f
    have:=aH.o
    have:=bU.o
    omega
   have aC:=fg.o.Z X.o a7;obtain⟨_,-,-,-,ap,-⟩:=aC.T;have dd:gz vi wr (some ⟨g5,0,none⟩) (jn (q.P.getD i []) p.W s.x s.y s.w s.h):=⟨λ_=>⟨g5,0,rfl,aC.lt,λk a d=>by rw[Nat.zero_add];exact ap k a d⟩⟩;have⟨R,hR⟩:=zX (((jn (q.P.getD i []) p.W s.x s.y s.w s.h).drop lo).take s.w);have de:gz vi wr A' R:=(by rw[hR];exact aJ Int vi wr _ (by rw[o6,HM.o]) dd);have c9:R.length=s.w:=(by rw[hR,zI,zO,o6,<-HM.o];omega);rw[<-hR]at Y;have dB:((jd (q.P.getD i []) (p.P.getD i []) p.W (bs++[⟨s.x,s.y,s.w,k⟩])).map vi).length=N:=(by rw[zE,qa,(cU.o i t).1]);have fE:=dO.o wr bx;have aY:gg (b::gs) w1 wr:=C.o.Z.tq bx;obtain⟨⟨K,L,I,O⟩,⟨Z,b3⟩,⟨s0,s1,s2,s3⟩⟩:=ab.o (b::gs) wr aY au.o;have⟨bR,bQ,fk,d6⟩:=gu de Y c9 dB;have fC:Yk<=72:=(by omega);have fW:P0<=4096:=(by omega);have fD:at_<=4096:=(by omega);have fK:lo<=64:=(by omega);have fF:cs<=64:=(by omega);have fI:k1<=8:=(by omega);have a4:gh (at_+s.w<=N/\s.w<=N-at_):=gd ⟨by omega,by omega⟩;clear da b7 db aw dn cr aB a5 Y aJ a7 aC ap dd hR de c9 dB aY bx K L I O;go_wp2_with fail;refine i9 27 (by kernel_rfl) (by kernel_rfl) ?_;simp only[take_succ_cons,take_zero,drop_succ_cons,drop_zero]
   repeat(go_big_quiet_step (fail))
   refine wpQuiet_nil ?_;intro _ cM;obtain⟨nq,rfl⟩:=cM;have dC:=aI.o.drewN nq
   go_wp2_with(refine Az rfl (.tmp 134) (.tmp 145) 22 22 rfl underlying22 (by kernel_rfl) dC at_ (N-at_) (ci-at_) s.w (c5-lo) rfl rfl (R.map vi) ?n1 ?n2 ?n3 ?n4 ?n5 ?n6 ?_)
   case n1=>rw[zE];exact fk.o
   case n2=>exact cN
   case n3=>exact a4.o.2
   case n4=>
    have z:=bR.o.drewN nq;refine⟨λh0=>?_⟩;obtain⟨b,o,e1,e2,e3⟩:=z.ex (by simpa using h0);refine⟨b,o,e1,e2,λi a S=>?_⟩;rw[zW]at S;obtain⟨x,A,rfl⟩:=Option.map_eq_some_iff.1 S;exact e3 i x A
   case n5=>rw[d6.o];exact a4.o.1
   case n6=>
    intro u hu;obtain⟨x,_,rfl⟩:=List.mem_map.1 hu;rfl
   intro w7 cH c1;rw[<-zD,<-zD,bQ.o]at cH;have fh:=gd cH;have bM:gh (gg [D] w6' w7):=gd ((X.o.drewN nq).tq c1);clear cH c1 dC;go_wp2_with fail
   go_roundg j2
   .exact⟨k+1,by go_num,by omega,fh,bM⟩
   .omega
theorem Qv{w:World}{p q:qc}{bs:List Sq}{s:Sq}{m:Int × Int}{xs:List Value}{gs:List Nat}(a:Nat)(h:yl w p q g o B c G bs s m b F ds pos gP capP xs gs)(d:ig ds pos (jN p q s m)):Calls prog 66 #[.pointer b,gW p g o a,gW (jw p q bs s 0) gP 0 capP,kP s] w (vF w p q bs s b F ds (pos+(jN p q s m).length) gP capP xs gs):=by
 cases hs:sA p q s m with
 | true=>exact Qr a h hs d
 | false=>exact Qq a h hs d
def qt:Sq:=⟨0,0,0,0⟩
def IC(w:World)(q:qc)(e:Ending)(w':World):Prop:=
 ∃(gP capP:Nat) (xs:List Value) (gs:List Nat),e=.returned (.tuple #[gW q gP 0 capP,(0:Int)])/\iL w' q gP capP xs gs/\gg [] w w'/\∀x∈gP::gs,w.heap.size<=x
theorem QH{w:World}{p q:qc}(C:Nat)(h:ip w p g o B c G)(U:q.Ok)(I:iY p q)(hp:iK w)(A:Option Addr)(r:Nat)(t:List (Int × Int))(hml:t.length=(iM q.W q.H 8).length)(hmo:∀i,i<t.length->lO p.W p.H (gJ (iM q.W q.H 8) i) (t.getD i (0,0)))(X:tG p q t)(hc:gz b8 w A (mD p q t))(J:(mD p q t).length<=r)(hcm:r<=9223372036854775807):Calls prog 36 #[gW p g o C,.slice A (mD p q t).length r] w (IC w q):=by
 unfold IC;have bz:=h.ok;have⟨ss,an⟩:=zX (iM q.W q.H 8);have ay:iM p.W p.H 8=ss:=by rw[an,I.W,I.H]
 have a7:∀s∈ss,1<=s.w/\s.w<=8/\1<=s.h/\s.h<=8:=by rw[an];exact uR (by decide)
 have aU:∀s∈ss,pw p.W p.H s:=λs hs=>by
  rw[an]at hs;obtain⟨a,b⟩:=uT (by decide) s hs;exact⟨by rw[I.W];exact a,by rw[I.H];exact b⟩
 have cz:ss.length<=4096:=by rw[an];exact B3 U.w1 U.h1
 rw[<-an]at hml hmo;have ae:∀b∈ji p q ss t ss.length,b<2:=by rw[an];exact X
 have⟨n,hn⟩:=zX ss.length;rw[<-hn]at ae cz;have cu:=BY p q (ss:=ss) t a7 U.d0 U.d1 U.n1 n (by omega);have cy:0<n:=by
  rcases eq_zero_or_pos n with h0|h0
  .exfalso
   have z:=Ht (w:=q.W) (h:=q.H) (s:=8) (by decide);rw[<-an,eq_nil_of_length_eq_zero (show ss.length=0 by omega)]at z;have H:=U.pos;simp[area]at z;omega
  .exact h0
 have cv:=BZ p q ss t n;have⟨body,ab⟩:=zX (iD (kV (ji p q ss t n)));have a2:mD p q t=body++nI p body:=by
  unfold mD yi;rw[<-an,<-hn,ab]
 have aw:∀d∈body,d<256:=by rw[ab];exact xd (ux ae)
 have ai:body.length=(ji p q ss t n).length / 8+(if (ji p q ss t n).length%8=0 then 0 else 1):=by
  rw[ab,ox,rW];split<;>omega
 have⟨m,hm⟩:=zX body.length;have cI:0<m:=by rw[hm,ai];split<;>omega
 have cJ:m<=1000000000:=by rw[hm,ai];split<;>omega
 have⟨N,hN⟩:=zX ((mD p q t).length);have cs:N=m+4:=by rw[hN,a2,zC,IA,hm]
 rw[<-hN]at J⊢;rw[a2]at hc;have bv:gz b8 w A body:=by
  have z:=hc.take body.length;rw[take_left]at z;exact z
 have eN:(N:Int)-4=(m:Int):=by omega
 have cC:=λf=>Rm (P:=prog) underlying41 A N r m (by omega) J f (xC f);obtain⟨A',bA,-,aP⟩:=uh (P:=prog) underlying41 xC A N r m (by omega) J;have bN:N-m=4:=by omega
 rw[bN]at bA;have bQ:gz b8 w A' (nI p body):=by
  have z:=aP Nat b8 w _ (by rw[<-a2];exact hN.symm) hc;rw[hm,drop_left]at z;exact z
 have aO:∀f,gg [] w f->_:=λf (hc':gg [] w f)=>Ig C (h.Y hc') A r body (bv.Y hc') aw (by omega) (by omega);have bw:∀f T c6,gg [] w f->gz b8 f (some ⟨T,0,none⟩) (nI p body)->_:=λf T c6 hc' h6=>QA f A' (some ⟨T,0,none⟩) (r-m) c6 (nI p body) (nI p body) (bQ.Y hc') h6 rfl (by rw[IA];omega);have aD:∀f,gg [] w f->_:=λf (hc':gg [] w f)=>GI f A r body (bv.Y hc') aw (by omega) (by omega) hcm;have a3:∀f,gg [] w f->_:=λf (hc':gg [] w f)=>oJ C (h.Y hc');have av:∀f,gg [] w f->_:=λf (hc':gg [] w f)=>BB C (h.Y hc');have W:=λf=>B6 bz g o C f;rw[ay]at W;rw[<-hm]at aO aD;have b0:(nI p body).length=4:=rfl;rw[b0]at bw
 have V:∀f i b F gP D xs gs,i<n->gg (b::gs) w f->iL f (jw p q (ss.take i) qt 0) gP D xs gs->gM f b F body (ji p q ss t i).length->(∀x∈gP::gs,w.heap.size<=x)->(∀x∈F,w.heap.size<=x)->(∀x∈F,x∉gP::gs) ->
   Calls prog 66 #[.pointer (some ⟨b,0,none⟩),gW p g o C,.agg #[.int .i64 p.W,.int .i64 p.H,.int .i64 p.d,.slice (some ⟨gP,0,none⟩) p.P.length D],kP (gJ ss i)] f (λe w''=>e=.returned (.int .i64 0)/\gM w'' b F body (ji p q ss t (i+1)).length/\iL w'' (jw p q (ss.take (i+1)) qt 0) gP D xs gs/\gg (b::gs) f w''):=by
  intro f i b F gP D xs gs hi bR ag aC hg hF cr;have a5:=a7 _ (rG (i:=i) (ss:=ss) (by omega));have bu:=aC.mem;have cx:yl f p q g o B c G (ss.take i) (gJ ss i) (t.getD i (0,0)) b F body (ji p q ss t i).length gP D xs gs:=by
   have cD:=hp.lt;refine⟨h.Z bR ?_,by rw[QU p q _ _ qt];exact ag,aC,U,I,aU _ (rG (by omega)),hmo i (by omega),a5.1,a5.2.1,a5.2.2.1,a5.2.2.2,hp.Z bR ?_,?_,cr,?_,?_⟩
   .intro x l S
    have z:=h.lt x l;rcases zJ.1 S with rfl|H
    .have:=hF _ bu;omega
    .have:=hg x (by simp[H]);omega
   .intro S
    rcases zJ.1 S with e|H
    .have:=hF _ bu;omega
    .have:=hg 0 (by simp[H]);omega
   .intro x l S
    have z:=h.lt x l;rcases zJ.1 S with rfl|H
    .have:=hF _ bu;omega
    .have:=hg x (by simp[H]);omega
   .intro S
    have:=hF 0 S
    omega
   .intro S
    have:=hg 0 (by simp[S])
    omega
  have ct:ig body (ji p q ss t i).length (jN p q (gJ ss i) (t.getD i (0,0))):=by rw[ab];exact Qy ae hi
  have z:=Qv C cx ct;unfold gW at z;rw[pn]at z;refine z.mono ?_;rintro e w'' ⟨rfl,H,h3,h4⟩;rw[<-zC,<-tI]at H;rw[QV p q _ _ qt,<-Hj (by omega)]at h3;exact⟨rfl,H,h3,h4⟩
 have aR:jw p q (ss.take n) qt 0=q:=by
  rw[hn,zN,<-ay];exact QT bz U I qt
 have b2:jw p q (ss.take 0) qt 0=p:=by rw[take_zero];exact QE qt
 have aj:8*body.length-(ji p q ss t n).length=(8-(ji p q ss t n).length%8)%8:=by rw[ab];exact Gd _
 have⟨L,hL⟩:=zX ((8-(ji p q ss t n).length%8)%8);have cG:L<=7:=by omega
 have aT:ig body (ji p q ss t n).length (gx 0 L):=by rw[ab,hL];exact Ge ae
 rw[<-hL]at aj;have bY:gW q=λgP o' cap'=>.agg #[p.W,p.H,p.d,.slice (some ⟨gP,o',none⟩) p.P.length cap']:=by
  funext gP o' cap'
  unfold gW;rw[I.W,I.H,I.d,I.n]
 rw[bY];unfold gW at a3 aO av W V⊢;unfold kP at V;have⟨k,hk⟩:=zX p.P.length;rw[<-hk]at a3 aO av W V⊢;have⟨w1,aE⟩:=zX (((w.alloc (.cells #[p.W,p.H,p.d,.slice (some ⟨g,o,none⟩) k C] 46)).alloc (.cells #[(0:Int),(0:Int),(0:Int),.slice none 0 0] 46)));have aL:gn w1 w.heap.size 46 #[p.W,p.H,p.d,.slice (some ⟨g,o,none⟩) k C]:=by rw[aE];exact(gn.new w _ _).alloc _
 have bO:gn w1 (w.heap.size+1) 46 #[(0:Int),(0:Int),(0:Int),.slice none 0 0]:=by rw[aE];exact gn.new2 w _ _ _
 have bK:gg [] w w1:=by rw[aE];exact((zR [] w).alloc _).alloc _
 have b3:w1.heap.size=w.heap.size+1+1:=by rw[aE,jt,jt]
 have aq:∀(E:List Nat) wz,gg E w1 wz->w.heap.size∉E->wz.cell? ⟨w.heap.size,0,none⟩=some (.int .i64 p.W)/\wz.cell? ⟨w.heap.size,1,none⟩=some (.int .i64 p.H)/\wz.cell? ⟨w.heap.size,2,none⟩=some (.int .i64 p.d)/\wz.cell? ⟨w.heap.size,3,none⟩=some (.slice (some ⟨g,o,none⟩) k C):=λE wz hz hE=>
  ⟨(aL.Z hz hE).X 0,(aL.Z hz hE).X 1,(aL.Z hz hE).X 2,(aL.Z hz hE).X 3⟩
 have aQ:∀f T c6,gg [] w f->gz b8 f (some ⟨T,0,none⟩) (nI p body)->Calls prog 64 #[.slice A' 4 (r-m),.slice (some ⟨T,0,none⟩) 4 c6] f λe w''=>e=.returned (.bool true)/\gg [] f w'':=λf T c6 a b=>(bw f T c6 a b).mono λe w'' h=>⟨by rw[h.1];simp,h.2⟩;have⟨cp,ba,HZ,HK⟩:=gu aE bK b3 aq;have⟨b6,ch,cc,cn⟩:=gu bO aQ aO aD;have⟨ck,cd,cj,ci⟩:=gu a3 av W V;have⟨bd,co,aH,bp⟩:=gu aR b2 aj aT;have HN:=gd hn;have t0:=Ra N 4 (by omega);clear aE bK b3 aq bO bw aQ aO aD a3 av W V aR b2 aj aT hn hk hm bY hL aL ay an a7 aU hml hmo ae cu cy cv ab a2 aw ai hN cs bv aP bQ b0 bz h U I hp hc X bN;go_enter func36,ntmps36;go_wp2_with fail;rw[<-cp.o];obtain⟨M,O,Q,R⟩:=HK.o [] w1 (zR _ _) (by simp);go_wp2_with fail;refine(ck.o w1 ba.o).mono ?_;rintro e w2 ⟨rfl,aY⟩;obtain⟨M,O,Q,R⟩:=HK.o [] w2 aY (by simp);have E2:gg [] w1 w2.drew:=aY.drew;have D2:gg [] w w2.drew:=(ba.o.tq aY).drew;clear aY;go_wp2_with fail
 go_region_held3 (λf=>f.cell? ⟨w.heap.size,0,none⟩=some (.int .i64 p.W)/\f.cell? ⟨w.heap.size,1,none⟩=some (.int .i64 p.H)/\f.cell? ⟨w.heap.size,2,none⟩=some (.int .i64 p.d)/\f.cell? ⟨w.heap.size,3,none⟩=some (.slice (some ⟨g,o,none⟩) k C))
  (first|(go_keep;done)|exact HK.o [] _ (by first|exact E2.tq aA|exact(E2.tq aA).tq aZ) (by simp)|trivial)
  (first
   | (go_at_call 54;refine(cc.o _ D2).mono ?_;rintro e w6 ⟨T,c6,rfl,ar,aA,cw⟩)
   | (go_at_call 64;refine(ch.o _ _ _ (D2.tq aA) (by obtain⟨c',e',_,_,h6⟩ := gv.cells_b8 ar;exact h6)).mono ?_;rintro e w7 ⟨rfl,aZ⟩))
 have⟨bC,bE⟩:=gy ((D2.tq aA).tq aZ) ((E2.tq aA).tq aZ);have aD:=cn.o w7 bC.o;clear M O Q R D2 E2 aA aZ ar cw;go_wp2_with fail;refine aD.mono ?_;rintro e w8 ⟨b,F,rfl,aC,bs,hF⟩;have⟨aV,aW⟩:=gy (bC.o.tq bs) (bE.o.tq bs);have av:=cd.o w8 aV.o;obtain⟨M,O,Q,R⟩:=HK.o [] w8 aW.o (by simp);have bl:=gd aC;have aX:gh (∀x∈F,w1.heap.size<=x/\x<w8.heap.size):=gd (λx l=>⟨by have:=hF x l;have:=bE.o.size;omega,aC.lt x l⟩);clear aD aC bs hF;go_wp2_with fail;refine av.mono ?_;rintro e w9 ⟨gP,D,xs,gs,rfl,ag,aJ,bS⟩;have⟨ca,cf,aI,bm⟩:=gu (aV.o.tq aJ) (aW.o.tq aJ) aJ.size (bl.o.Z aJ (by simp));have bj:=gd ag;have aG:gh (∀x∈gP::gs,w8.heap.size<=x/\x<w9.heap.size):=gd (λx l=>⟨bS x l,by
  rcases zJ.1 l with rfl|z
  .exact ag.ltP
  .exact ag.pl.lt x z⟩)
 clear av ag aJ bS M O Q R;have⟨nb,a6⟩:=zX w9.heap.size;have⟨wA,a8⟩:=zX (w9.alloc (.cells #[p.W,p.H,p.d,.slice (some ⟨gP,0,none⟩) k D] 46));have aK:=H4 a8;have bP:=RD a8 a6;have⟨br,bf,b7,cb⟩:=gu a8 a6 bP (ca.o.tq aK);have⟨bF,bn⟩:=gy (cf.o.tq aK) (bm.o.Z aK (by simp));have bh:gh (iL wA (jw p q (ss.take 0) qt 0) gP D xs gs):=gd (by rw[co.o];exact bj.o.Y aK);obtain⟨M,O,Q,R⟩:=HK.o [] wA bF.o (by simp);rw[br.o]at M O Q R;have W:=cj.o wA;clear a8 a6 bP aK;go_wp2_with fail;rw[<-br.o,<-bf.o];refine W.mono ?_;rintro e wB ⟨v8,F8,rfl,b1,aB,bL⟩;obtain⟨A8,c8,rfl,cE,cF,aN,bJ⟩:=jy.open_ b1;have⟨bb,bD,cg,bo⟩:=gu aN (cb.o.tq aB) (bF.o.tq aB) (bn.o.Z aB (by simp));have bi:=gd (bh.o.Y aB);have bV:=b7.o.Z aB (by simp);have a9:=gd bV;have b4:gh (∀ad,A8=some ad->wA.heap.size<=ad.block):=gd (λad e=>by
  obtain⟨g8,rfl,hf,_⟩:=bJ ad e;exact bL g8 (by rw[hf];simp))
 rw[<-HN.o];clear W b1 aB bL aN bJ M O Q R bV;go_wp2_with fail;have aM:∀x∈b::(F++gs),w1.heap.size<=x/\x<nb:=by
  have a7:=aW.o.size;have a6:=bf.o;intro x l;have bM:∀y∈F,w1.heap.size<=y/\y<nb:=λy hy=>by
   have:=aX.o y hy
   have:=aI.o
   omega
  rcases zJ.1 l with rfl|l
  .exact bM _ bl.o.mem
  .rcases zP.1 l with l|l
   .exact bM x l
   .have:=aG.o x (by simp[l])
    have:=aI.o
    omega
 have K:=gd aM;clear aM
 go_loopg [10,11,43] n (λj v10 v11 v43 wr=>∃i:Nat,v43=.int .i64 i/\i+j=n/\gh (gM wr b F body (ji p q ss t i).length)/\gh (iL wr (jw p q (ss.take i) qt 0) gP D xs gs)/\gh (gg (b::gs) wB wr))
 .exact⟨0,rfl,by omega,gd (by simpa[ji]using bo.o),bi,gd (zR _ _)⟩
 obtain⟨i,rfl,cH,HR,HO,az⟩:=hrel;have ce:gh (gg (b::gs) w wr):=gd ((bD.o.mono (by simp)).tq az.o);have bc:gh (gg (b::gs) w1 wr):=gd ((cg.o.mono (by simp)).tq az.o);have al:∀y,y<w1.heap.size->y∉b::gs:=λy hy hm=>by
  rcases zJ.1 hm with e|z
  .have:=K.o b (by simp);omega
  .have:=K.o y (by simp[z]);omega
 obtain⟨M,O,Q,R⟩:=HK.o (b::gs) wr bc.o (al _ (by have:=HZ.o;omega));have ax:nb∉b::gs:=λhm=>by
  rcases zJ.1 hm with e|z
  .have:=K.o b (by simp);omega
  .have:=K.o nb (by simp[z]);omega
 have af:=a9.o.Z az.o ax;have⟨n0,n1,n2,n3⟩:=my af;simp at n0 n1 n2 n3;rcases gk with _|j
 .obtain rfl:i=n:=by omega
  have t1:decide (i<i)=false:=by simp
  have bx:=BF wr b F body _ HR.o;rw[aH.o]at bx;have bg:=gd af;have bk:=gd (b6.o.Z bc.o (al _ (by have:=HZ.o;omega)));clear af ax al;go_wp2_with fail;refine bx.mono ?_;rintro e wC ⟨rfl,nq,rfl⟩;have t5:=mF 8 L (by omega);have bT:=iU _ b F body _ L 0 (HR.o.Z ((zR [] wr).drewN nq) (by simp)) (by omega) (Nat.two_pow_pos L) bp.o;clear bx;go_wp2_with fail;refine bT.mono ?_;rintro e wD ⟨rfl,cA,bH⟩;have a0:gg [b] wr wD:=(((zR [] wr).drewN nq).mono (by simp)).tq bH;have aS:=bg.o.Z a0 (λhm=>by
   simp at hm
   have:=K.o b (by simp)
   omega)
  have⟨n0,n1,n2,n3⟩:=my aS;simp at n0 n1 n2 n3;have Y:=bk.o.Z a0 (λhm=>by
   simp at hm
   have:=K.o b (by simp)
   have:=HZ.o
   omega)
  have⟨z0,z1,z2,z3⟩:=RJ Y 0 1 2 3;have⟨r0,r1,r2,r3⟩:=my Y;simp at r0 r1 r2 r3;have⟨bq,aF⟩:=gy Y a0;clear bT cA bH aS Y M O Q R a0;go_wp2_with fail;have⟨rb,cB⟩:=zX (w.heap.size+1);have Y:=bq.o;rw[<-cB]at Y⊢;have⟨wE,bB⟩:=zX ((((wD.setCell rb (.int .i64 p.W)).setCell ⟨rb,1,none⟩ (.int .i64 p.H)).setCell ⟨rb,2,none⟩ (.int .i64 p.d)).setCell ⟨rb,3,none⟩ (.slice (some ⟨gP,0,none⟩) k D));have a4:gn wE rb 46 #[p.W,p.H,p.d,.slice (some ⟨gP,0,none⟩) k D]:=by
   rw[bB]
   have:=(((Y.S 0 (.int .i64 p.W)).S 1 (.int .i64 p.H)).S 2 (.int .i64 p.d)).S 3 (.slice (some ⟨gP,0,none⟩) k D)
   simpa using this
  have bI:gg [rb] wD wE:=by
   rw[bB];exact((((zR [rb] wD).zs 0 _).zs 1 _).zs 2 _).zs 3 _
  have⟨g0,g1,g2,g3⟩:=my a4;simp at g0 g1 g2 g3;rw[<-bB];refine bodyPost_ret (v:=.tuple #[.agg #[.int .i64 p.W,.int .i64 p.H,.int .i64 p.d,.slice (some ⟨gP,0,none⟩) k D],(0:Int)]) (by simp[results,results36,go_sem,g0,g1,g2,g3]) rfl ?_;have a1:∀x∈gP::gs,x∉[b]/\x∉[rb]:=λx l=>by
   have z:=aG.o x l;have H:=aX.o b bl.o.mem;have h3:=HZ.o;have h4:=aW.o.size;refine⟨?_,?_⟩
   .simp
    omega
   .simp
    omega
  have bX:=HO.o;rw[bd.o]at bX;refine⟨gP,D,xs,gs,rfl,?_,?_,λx l=>?_⟩
  .exact(bX.Z aF.o (a1 gP (by simp)).1 (λx l=>(a1 x (by simp[l])).1)).Z bI (a1 gP (by simp)).2 (λx l=>(a1 x (by simp[l])).2)
  .refine(bD.o.trans (az.o.tq (aF.o.mono (by simp))) ?_).trans bI ?_
   .intro x l
    right;have z:=HZ.o;rcases zJ.1 l with rfl|H
    .have:=K.o x (by simp);omega
    .have:=K.o x (by simp[H]);omega
   .intro x l
    simp at l;right;omega
  .have z:=aG.o x l
   have H:=aV.o.size;omega
 .have hi:i<n:=by omega
  have bU:i<ss.length:=by rw[<-HN.o];exact hi
  have aN:gz (λv=>v) wr A8 (ss.flatMap oC):=bb.o.Z az.o (λad e hm=>by
   have z:=b4.o ad e;have H:=bf.o;have h3:wA.heap.size=nb+1:=(by rw[br.o,jt,<-H]);rcases zJ.1 hm with e2|h4
   .have:=K.o b (by simp);omega
   .have:=K.o ad.block (by simp[h4]);omega)
  obtain⟨g8,o8,cq,x0,x1,x2,x3⟩:=tw aN bU;subst cq;have Z:gg [] wr (wr.alloc (.cells #[.int .i64 ((gJ ss i).x:Int),.int .i64 ((gJ ss i).y:Int),.int .i64 ((gJ ss i).w:Int),.int .i64 ((gJ ss i).h:Int)] 73)):=(zR [] wr).alloc _;obtain⟨c0,c1,c2,c3⟩:=HK.o (b::gs) _ (bc.o.tq (Z.mono (by simp))) (al _ (by have:=HZ.o;omega));have ak:=af.Z Z (by simp);have⟨d0,d1,d2,d3⟩:=my ak;simp at d0 d1 d2 d3;have V:=ci.o _ i b F gP D xs gs hi (ce.o.tq (Z.mono (by simp))) (HO.o.Y Z) (HR.o.Z Z (by simp)) (λx l=>by have:=aG.o x l;have:=aV.o.size;omega) (λx l=>by have:=aX.o x l;have:=ba.o.size;omega) (λx l hm=>by have:=aX.o x l;have:=aG.o x hm;omega);have⟨be,b5⟩:=gy V Z;clear V Z ak af ax al aN bU;go_wp2_with fail;refine be.o.mono ?_;rintro e w5 ⟨rfl,bZ,bW,bG⟩;have⟨cm,cl⟩:=gy bZ bW;have b9:gh (gg (b::gs) wB w5):=gd ((az.o.tq (b5.o.mono (by simp))).tq bG);clear bZ bW bG M O Q R n0 n1 n2 n3 c0 c1 c2 c3 d0 d1 d2 d3 x0 x1 x2 x3;go_wp2_with fail
  go_roundg j
  .exact⟨i+1,by go_num,by omega,cm,cl,b9⟩
  .omega
theorem QS:jx prog 70 76 (.agg #[(0:Int),(0:Int)]) 2 16:=.mk' underlying70 (by kernel_rfl)
def rC(p q:qc)(ss:List Sq)(ms:List (Int × Int))(i:Nat):Prop:=∀k,k<i->∃c,kD p q (gJ ss k) (λ_=>True) (ms.getD k (0,0)).1 (ms.getD k (0,0)).2 c
theorem rC.snoc{p q:qc}{ss:List Sq}{a:List (Int × Int)}{i:Nat}(h:rC p q ss a i)(t:a.length=i){d f:Int}{c:Nat}(r:kD p q (gJ ss i) (λ_=>True) d f c):rC p q ss (a++[(d,f)]) (i+1):=λk hk=>by
 rcases zZ k i with j|j
 .obtain⟨c',l⟩:=h k j
  refine⟨c',?_⟩;have e:(a++[(d,f)]).getD k (0,0)=a.getD k (0,0):=by
   rw[zD,zD,getElem?_append_left (by omega)]
  rw[e];exact l
 .obtain rfl:k=i:=by omega
  have e:(a++[(d,f)]).getD k (0,0)=(d,f):=by
   rw[zD,<-t];simp
  rw[e];exact⟨c,r⟩
def tL(w:World)(p q:qc)(e:Ending)(w':World):Prop:=
 ∃v G9 ms,e=.returned (.tuple #[v,(0:Int)])/\jj w' 5 v G9 ((mD p q ms).map b8)/\ms.length=(iM q.W q.H 8).length/\rC p q (iM q.W q.H 8) ms (iM q.W q.H 8).length/\gg [] w w'/\(∀x∈G9,w.heap.size<=x)/\tG p q ms
theorem Ir{w:World}{p q:qc}(f:Nat)(h:ip w p g o B c G)(d:Nat)(E:ip w q g' o' B' c' G')(A:iY p q)(hp:iK w):Calls prog 21 #[gW p g o f,gW q g' o' d] w (tL w p q):=by
 have I:=E.ok;have V:=λw' (hc:gg [] w w')=>yo f (h.Y hc) d (E.Y hc) A;have J:=λw'=>B6 I g' o' d w';unfold tL;have⟨ss,ar⟩:=zX (iM q.W q.H 8);have aq:∀s∈ss,pw p.W p.H s:=λs hs=>by
  rw[ar]at hs;obtain⟨a,b⟩:=uT (by decide) s hs;exact⟨by rw[A.W];exact a,by rw[A.H];exact b⟩
 have a5:ss.length<=4096:=by rw[ar];exact B3 I.w1 I.h1
 have r:=λw' (hc:gg [] w w') O capM l hM hml hmo=>Q4 f (h.Y hc) d (E.Y hc) A (hp.Y hc) O capM l hM hml hmo;rw[<-ar]at J⊢;simp only[<-ar]at r;have⟨n,hn⟩:=zX ss.length;have t:∀w',gg [] w w'->∀i,i<n->_:=λw' hc i hi=>QO f (h.Y hc) d (E.Y hc) A (gJ ss i) (aq _ (rG (by omega)));unfold gW kP at t;unfold gW at V J r⊢;have⟨w1,au⟩:=zX (((w.alloc (.cells #[p.W,p.H,p.d,.slice (some ⟨g,o,none⟩) p.P.length f] 46)).alloc (.cells #[q.W,q.H,q.d,.slice (some ⟨g',o',none⟩) q.P.length d] 46)));have C:gn w1 w.heap.size 46 #[p.W,p.H,p.d,.slice (some ⟨g,o,none⟩) p.P.length f]:=by rw[au];exact(gn.new w _ _).alloc _
 have D:gn w1 (w.heap.size+1) 46 #[q.W,q.H,q.d,.slice (some ⟨g',o',none⟩) q.P.length d]:=by rw[au];exact gn.new2 w _ _ _
 have aF:gg [] w w1:=by rw[au];exact((zR [] w).alloc _).alloc _
 have ao:=λwz (hc:gg [] w1 wz)=>And.intro (And.intro ((C.Z hc (by simp)).X 0) (And.intro ((C.Z hc (by simp)).X 1) (And.intro ((C.Z hc (by simp)).X 2) ((C.Z hc (by simp)).X 3)))) (And.intro ((D.Z hc (by simp)).X 0) (And.intro ((D.Z hc (by simp)).X 1) (And.intro ((D.Z hc (by simp)).X 2) ((D.Z hc (by simp)).X 3))));have⟨aS,ak,aK,aP⟩:=gu au aF V J;have⟨HN,af,aM,aR⟩:=gu hn ao r t;have a6:n<=4096:=by omega
 clear V J C D au aF aq I h E A hp hn ar a5 ao r t;go_enter func21,ntmps21;go_wp2_with fail;rw[<-aS.o];refine(aK.o w1 ak.o).mono ?_;rintro e w2 ⟨rfl,Y⟩;obtain⟨⟨Q,R,S,T⟩,⟨Z,b1,b2,b3⟩⟩:=af.o w2 Y;have ax:=gd Y;clear Y;go_wp2_with fail;refine(aP.o w2).mono ?_;rintro e N ⟨v8,F8,rfl,aJ,aE,aW⟩;obtain⟨A8,c8,rfl,a7,a8,aG,-⟩:=jy.open_ aJ;have⟨ab,aN⟩:=gy (ax.o.tq aE) aG;rw[<-HN.o];clear aJ aE aW aG Q R S T Z b1 b2 b3;go_wp2_with fail
 go_loopg [6,8,9,10,11,19] n (λj v6 v8 v9 v10 v11 v19 wr=>∃(i:Nat) (l:List (Int × Int)) (F:List Nat),v19=.int .i64 i/\i+j=n/\gh (jy wr 76 2 v6 F i (l.flatMap sB))/\gh (l.length=i)/\gh (rC p q ss l i)/\gh (gg [] N wr)/\gh (∀x∈F,N.heap.size<=x))
 .exact⟨0,[],[],rfl,by omega,gd (jy.nil _ _ _),gd rfl,gd (λk hk=>by omega),gd (zR _ _),gd (by simp)⟩
 obtain⟨i,l,F,rfl,a9,HO,z,P,ad,HF⟩:=hrel;obtain⟨⟨Q,R,S,T⟩,⟨Z,b1,b2,b3⟩⟩:=af.o wr (ab.o.tq ad.o);rcases gk with _|j
 .obtain rfl:i=n:=by omega
  have t1:decide (i<i)=false:=by simp
  obtain⟨O,cM,rfl,aZ,a4,aH,-⟩:=HO.o.open_;have r:=aM.o wr ((ak.o.tq ab.o).tq ad.o) O cM l aH (by rw[z.o];exact HN.o) (λk hk=>by
   obtain⟨c,M⟩:=P.o k (by rw[<-z.o];exact hk);exact M.ok)
  rw[z.o]at r;have aw:=gd r;clear r aZ a4 aH;go_wp2_with fail;refine aw.o.mono ?_;rintro e w9 ⟨v9,G9,rfl,H,aU,aX,aC⟩;go_wp2;refine bodyPost_ret (v:=.tuple #[v9,(0:Int)]) (by simp[results,results21,go_sem]) rfl ?_;refine⟨v9,G9,l,rfl,H,by rw[z.o];exact HN.o,by rw[<-HN.o];exact P.o,((ak.o.tq ab.o).tq ad.o).tq aU,λx hx=>?_,aC⟩;have h1:=aX x hx;have h2:=((ak.o.tq ab.o).tq ad.o).size;omega
 .have hi:i<n:=by omega
  have aI:i<ss.length:=by rw[<-HN.o];exact hi
  obtain⟨g8,o8,aV,x0,x1,x2,x3⟩:=tw (aN.o.Y ad.o) aI;subst aV;have aY:=af.o _ (((ab.o.tq ad.o)).alloc (.cells #[.int .i64 ((gJ ss i).x:Int),.int .i64 ((gJ ss i).y:Int),.int .i64 ((gJ ss i).w:Int),.int .i64 ((gJ ss i).h:Int)] 73));obtain⟨⟨c0,c1,c2,c3⟩,⟨d0,d1,d2,d3⟩⟩:=aY;have t:=aR.o _ ((((ak.o.tq ab.o).tq ad.o)).alloc (.cells #[.int .i64 ((gJ ss i).x:Int),.int .i64 ((gJ ss i).y:Int),.int .i64 ((gJ ss i).w:Int),.int .i64 ((gJ ss i).h:Int)] 73)) i hi;unfold Ip at t;have ay:=gd t;clear t aI;go_wp2_with fail;refine ay.o.mono ?_;rintro e w5 ⟨K,L,cc,rfl,M,U⟩;have al:=gd ((ad.o.alloc (.cells #[.int .i64 ((gJ ss i).x:Int),.int .i64 ((gJ ss i).y:Int),.int .i64 ((gJ ss i).w:Int),.int .i64 ((gJ ss i).h:Int)] 73)).tq U);have ap:=((HO.o.Y ((zR [] wr).alloc (.cells #[.int .i64 ((gJ ss i).x:Int),.int .i64 ((gJ ss i).y:Int),.int .i64 ((gJ ss i).w:Int),.int .i64 ((gJ ss i).h:Int)] 73))).Y U).Y ((zR [] w5).alloc (.cells #[K,L] 76));have W:=gn.new w5 76 #[K,L];have aL:=gd (P.o.snoc z.o M);clear M U Q R S T Z b1 b2 b3 c0 c1 c2 c3 d0 d1 d2 d3 x0 x1 x2 x3
  go_wp2_with(at_builtin;refine vR rfl rfl QS rfl (by decide) rfl ap [.int .i64 K,.int .i64 L] rfl rfl ?c1 ?c2 ?c3 ?c4 ?_)
  case c1=>
   intro q u y
   match q,y with
   | 0,y=>rw[<-y];exact W.X 0
   | 1,y=>rw[<-y];exact W.X 1
   | q+2,y=>simp at y
  case c2=>intro u hu;simp at hu;rcases hu with rfl|rfl<;>rfl
  case c3=>omega
  case c4=>omega
  intro g9 aT w9 H X;have aQ:=gd H;have aO:gh (gg [] N w9):=gd ((al.o.alloc _).trans X.Z (λx hx=>.inr (HF.o x hx)));have aD:gh (∀x∈[g9],N.heap.size<=x):=gd (λx hx=>by
   rcases X.new x hx with h|h
   .exact HF.o x h
   .have:=al.o.size;rw[jt]at h;omega)
  clear H X ap W;go_wp2_with fail
  go_roundg j
  .refine⟨i+1,l++[(K,L)],[g9],by go_num,by omega,gd ?_,gd (by rw[zC,z.o];rfl),aL,aO,aD⟩
   rw[flatMap_append];exact aQ.o
  .omega
theorem B8{p q:qc}{a:List (Int × Int)}(e:a.length=(iM q.W q.H 8).length)(d:rC p q (iM q.W q.H 8) a (iM q.W q.H 8).length):∀i,i<a.length->lO p.W p.H (gJ (iM q.W q.H 8) i) (a.getD i (0,0)):=λi hi=>by
 obtain⟨c,h⟩:=d i (by omega);exact h.ok
end Go.Proofs.YtifdlkoepaepiaaGreatDoor
