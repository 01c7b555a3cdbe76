/- Lemmas. -/
import Derived.Test.YtifdlkoepaepiaaGreatDoorMg52
import Derived.Test.YtifdlkoepaepiaaGreatDoorMg42
import Derived.Test.YtifdlkoepaepiaaGreatDoorMg43
set_option linter.all false
set_option maxHeartbeats 4000000
set_option maxRecDepth 100000
namespace Go.Proofs.YtifdlkoepaepiaaGreatDoor
open _root_.Go.Proofs.Tryz List Nat Go.RowKit
variable {t:Int}
theorem QL(w:World)(hp:iK w):Calls prog 12 #[] w λe w'=>e=.returned (.bool true)/\gg [] w w':=by
 have⟨u1,am⟩:=zX (w.alloc (.cells #[(1:Int)] 3));have⟨u2,an⟩:=zX (u1.alloc (.cells #[.slice (some ⟨w.heap.size,0,none⟩) 1 1] 22));have⟨u3,ap⟩:=zX (u2.alloc (.cells #[(1:Int),(1:Int),(1:Int),.slice (some ⟨w.heap.size+1,0,none⟩) 1 1] 46));have⟨u4,aq⟩:=zX (u3.alloc (.cells #[(0:Int),(1:Int),(1:Int),(1:Int),.slice (some ⟨w.heap.size+1,0,none⟩) 1 1,(5:Int),(1:Int),(1:Int),(1:Int),.slice (some ⟨w.heap.size+1,0,none⟩) 1 1] 48));have z1:u1.heap.size=w.heap.size+1:=by rw[am,jt]
 have z2:u2.heap.size=w.heap.size+1+1:=by rw[an,jt,z1]
 have z3:u3.heap.size=w.heap.size+1+1+1:=by rw[ap,jt,z2]
 have c1:gg [] w u1:=by rw[am];exact(zR [] w).alloc _
 have c2:gg [] u1 u2:=by rw[an];exact(zR [] u1).alloc _
 have c3:gg [] u2 u3:=by rw[ap];exact(zR [] u2).alloc _
 have c4:gg [] u3 u4:=by rw[aq];exact(zR [] u3).alloc _
 have b1:gn u4 w.heap.size 3 #[(1:Int)]:=((((show gn u1 w.heap.size 3 #[(1:Int)]from by rw[am];exact gn.new _ _ _).Z c2 (by simp)).Z c3 (by simp)).Z c4 (by simp));have b2:gn u4 (w.heap.size+1) 22 #[.slice (some ⟨w.heap.size,0,none⟩) 1 1]:=(((show gn u2 (w.heap.size+1) 22 _ from by rw[an,<-z1];exact gn.new _ _ _).Z c3 (by simp)).Z c4 (by simp));have b3:gn u4 (w.heap.size+1+1+1) 48 (rH 0 5 (w.heap.size+1)):=by rw[aq,<-z3];exact gn.new _ _ _
 have R:gg [] w u4:=((c1.tq c2).tq c3).tq c4;have K:=QC 2 (l:=lC) (B9 b1 b2 b3) IJ 9 (by decide) (by decide) (hp.Y R);rw[show lC.length=2 from rfl]at K;have aJ:gh (u4=(((w.alloc (.cells #[(1:Int)] 3)).alloc (.cells #[.slice (some ⟨w.heap.size,0,none⟩) 1 1] 22)).alloc (.cells #[(1:Int),(1:Int),(1:Int),.slice (some ⟨w.heap.size+1,0,none⟩) 1 1] 46)).alloc (.cells #[(0:Int),(1:Int),(1:Int),(1:Int),.slice (some ⟨w.heap.size+1,0,none⟩) 1 1,(5:Int),(1:Int),(1:Int),(1:Int),.slice (some ⟨w.heap.size+1,0,none⟩) 1 1] 48)):=gd (by rw[aq,ap,an,am]);have⟨aC,HB,HP,aE⟩:=gu R (And.intro b1 (And.intro b2 b3)) (hp.Y R) K;clear am an ap aq z1 z2 z3 c1 c2 c3 c4 b1 b2 b3 R K hp;go_enter func12,ntmps12;go_wp2_with fail
 try rw[<-aJ.o]
 refine aE.o.mono ?_;rintro e w5 ⟨cs,r,G5,rfl,W,K,Y,aK⟩;obtain⟨L,M,N,Q,P⟩:=Q7 K;have Z:=B5 2 W IJ P (HP.o.Y Y);rw[L]at Z;have⟨aD,ab,ag⟩:=gX Z W Y;have V:=gd (And.intro L (And.intro M (And.intro N (And.intro Q P))));clear K Z W Y L M N Q P aK;go_wp2_with fail;refine aD.o.mono ?_;rintro e d ⟨gS,G6,rfl,al,ax,aL⟩;have⟨aH,ad⟩:=gy al ax;clear al ax aL;have ai:∀wz,gg [] w5 wz->wz.cell? r=some (.bool true)/\wz.cell? ⟨r,3,none⟩=some (.bool false)/\∃A c,wz.cell? ⟨r,5,none⟩=some (.slice A 5 c):=λwz a=>by
  obtain⟨L,M,N,Q,P⟩:=V.o;obtain⟨A0,c0,-,-,h0⟩:=ab.o.stay (i:=0) (by omega);obtain⟨U,c1,-,-,T⟩:=ab.o.stay (i:=1) (by omega);obtain⟨⟨p,-,-⟩,-⟩:=h0 wz a;obtain⟨⟨q,-,e2⟩,-⟩:=T wz a;rw[M]at p;rw[N]at q;rw[Q]at e2;exact⟨p,q,U,c1,e2⟩
 obtain⟨p,q,U,cA,e2⟩:=ai d ad.o;have j:=(HB.o.2.2.Z (ag.o.tq ad.o) (by simp));have s:=j.X 0;have u:=j.X 1;have x:=j.X 2;have y:=j.X 3;have z:=j.X 4;have B:=j.X 5;have C:=j.X 6;have E:=j.X 7;have H:=j.X 8;have I:=j.X 9;simp[rH]at s u x y z B C E H I;clear j;have aA:=λwz (a:gg [] d wz)=>B7 2 2 (aH.o.Y a) ((B9 HB.o.1 HB.o.2.1 HB.o.2.2).Y ((ag.o.tq ad.o).tq a)) (by decide);have aI:=gd aA;clear aA;have ay:∀wz,gg [] w5 wz->Calls prog 14 #[.slice r 2 2,(1:Int)] wz λe w'=>e=.returned (.int .i64 0)/\w'=wz:=λwz a=>by
  obtain⟨L,M,N,Q,P⟩:=V.o;have T:=QQ 2 (ab.o.Y a) 1 (by omega) (by omega);have e:qU cs (1+1)=0:=by simp[qU,M,N]
  rw[L,e]at T;exact T
 have az:∀wz,Calls prog 14 #[.slice r 2 2,(2:Int)] wz λe w'=>e=.returned (.int .i64 (-1))/\w'=wz:=λwz=>QK (n:=2) (i:=2) 2 (by decide) (by decide);have⟨aF,aG⟩:=gy ay az;have D:gg [] d d.drew:=(zR [] d).drew;have O:gh (∀wz,gg [] d wz->wz.cell? r=some (.bool true)/\wz.cell? ⟨r,3,none⟩=some (.bool false)/\wz.cell? ⟨r,5,none⟩=some (.slice U 5 cA)/\wz.cell? ⟨w.heap.size+1+1+1,0,none⟩=some (.int .i64 0)/\wz.cell? ⟨w.heap.size+1+1+1,1,none⟩=some (.int .i64 1)/\wz.cell? ⟨w.heap.size+1+1+1,2,none⟩=some (.int .i64 1)/\wz.cell? ⟨w.heap.size+1+1+1,3,none⟩=some (.int .i64 1)/\wz.cell? ⟨w.heap.size+1+1+1,4,none⟩=some (.slice (some ⟨w.heap.size+1,0,none⟩) 1 1)/\wz.cell? ⟨w.heap.size+1+1+1,5,none⟩=some (.int .i64 5)/\wz.cell? ⟨w.heap.size+1+1+1,6,none⟩=some (.int .i64 1)/\wz.cell? ⟨w.heap.size+1+1+1,7,none⟩=some (.int .i64 1)/\wz.cell? ⟨w.heap.size+1+1+1,8,none⟩=some (.int .i64 1)/\wz.cell? ⟨w.heap.size+1+1+1,9,none⟩=some (.slice (some ⟨w.heap.size+1,0,none⟩) 1 1)):=gd (λwz a=>by
  have f:∀g k v,g<d.heap.size->d.cell? ⟨g,k,none⟩=some v->wz.cell? ⟨g,k,none⟩=some v:=λg k v hg h9=>(World.cell?_of_block (w:=d) (a.block g hg (by simp))).trans h9;have m:w.heap.size+1+1+1<d.heap.size:=(HB.o.2.2.Z (ag.o.tq ad.o) (by simp)).lt;have aw:r<d.heap.size:=by
   obtain⟨g',o',e,aM,-⟩:=ab.o.ex (by have:=V.o.1;omega);injection e with e;injection e with e3 e4;subst e3;have h9:=ab.o.lt _ aM;have aN:=ad.o.size;omega
  exact⟨f _ _ _ aw p,f _ _ _ aw q,f _ _ _ aw e2,f _ _ _ m s,f _ _ _ m u,f _ _ _ m x,f _ _ _ m y,f _ _ _ m z,f _ _ _ m B,f _ _ _ m C,f _ _ _ m E,f _ _ _ m H,f _ _ _ m I⟩)
 have aj:gh (∀wz,gg [] d wz->Calls prog 19 #[.slice (some ⟨wz.heap.size,0,none⟩) 2 2] (wz.alloc (.cells (rH 5 0 (w.heap.size+1)) 48)) λe w'=>e=.returned (.int .i64 12)/\gg [] (wz.alloc (.cells (rH 5 0 (w.heap.size+1)) 48)) w'):=gd λwz a=>by
  have aB:gg [] u4 (wz.alloc (.cells (rH 5 0 (w.heap.size+1)) 48)):=(ag.o.tq (ad.o.tq a)).alloc _;exact Qu 2 (HB.o.1.Z aB (by simp)) (HB.o.2.1.Z aB (by simp)) (gn.new _ _ _)
 have ar:=aj;clear ay az ai aj;go_wp2_with fail
 -- R5
 refine IP (S:=λw'=>gg [] d w') 58 (by kernel_rfl) (by decide +kernel) D ?_
 iterate 35 (refine hU (v:=?_) (by decide +kernel) rfl (λ_ _ _ h=>h) (by rfl) (by assumption) ?_ ?_;rotate_left;(focus (intro wz a;obtain⟨p,q,e2,s,u,x,y,z,B,C,E,H,I⟩:=O.o wz a;go_simp;try with_reducible rfl));try simp only[Act.put,getElem_toArray,List.getElem_cons_succ,List.getElem_cons_zero,setIfInBounds_toArray,set_cons_zero,set_cons_succ,Nat.reduceAdd])
 refine vG rfl (by decide) (by decide +kernel) ?_;intro o b;go_simp
 go_at_call 11
 refine(aI.o _ D).mono ?_;rintro e w7 ⟨rfl,c7⟩;have J:gg [] d w7:=D.tq c7;refine Shut.out b _ _ (J) ?_;clear b o
 try simp only[Act.put,getElem_toArray,List.getElem_cons_succ,List.getElem_cons_zero,setIfInBounds_toArray,set_cons_zero,set_cons_succ,Nat.reduceAdd]
 iterate 3 (refine hU (v:=?_) (by decide +kernel) rfl (λ_ _ _ h=>h) (by rfl) (by assumption) ?_ ?_;rotate_left;(focus (intro wz a;obtain⟨p,q,e2,s,u,x,y,z,B,C,E,H,I⟩:=O.o wz a;go_simp;try with_reducible rfl));try simp only[Act.put,getElem_toArray,List.getElem_cons_succ,List.getElem_cons_zero,setIfInBounds_toArray,set_cons_zero,set_cons_succ,Nat.reduceAdd])
 refine vG rfl (by decide) (by decide +kernel) ?_;intro o b;go_simp
 go_at_call 14
 refine gB (aF.o _ (ad.o.tq J)) ?_;refine Shut.out b _ _ (J) ?_;clear b o
 try simp only[Act.put,getElem_toArray,List.getElem_cons_succ,List.getElem_cons_zero,setIfInBounds_toArray,set_cons_zero,set_cons_succ,Nat.reduceAdd]
 iterate 4 (refine hU (v:=?_) (by decide +kernel) rfl (λ_ _ _ h=>h) (by rfl) (by assumption) ?_ ?_;rotate_left;(focus (intro wz a;obtain⟨p,q,e2,s,u,x,y,z,B,C,E,H,I⟩:=O.o wz a;go_simp;try with_reducible rfl));try simp only[Act.put,getElem_toArray,List.getElem_cons_succ,List.getElem_cons_zero,setIfInBounds_toArray,set_cons_zero,set_cons_succ,Nat.reduceAdd])
 refine vG rfl (by decide) (by decide +kernel) ?_;intro o b;go_simp
 go_at_call 14
 refine gB (aG.o _) ?_;refine Shut.out b _ _ (J) ?_;clear b o
 try simp only[Act.put,getElem_toArray,List.getElem_cons_succ,List.getElem_cons_zero,setIfInBounds_toArray,set_cons_zero,set_cons_succ,Nat.reduceAdd]
 iterate 9 (refine hU (v:=?_) (by decide +kernel) rfl (λ_ _ _ h=>h) (by rfl) (by assumption) ?_ ?_;rotate_left;(focus (intro wz a;obtain⟨p,q,e2,s,u,x,y,z,B,C,E,H,I⟩:=O.o wz a;go_simp;try with_reducible rfl));try simp only[Act.put,getElem_toArray,List.getElem_cons_succ,List.getElem_cons_zero,setIfInBounds_toArray,set_cons_zero,set_cons_succ,Nat.reduceAdd])
 refine vG rfl (by decide) (by decide +kernel) ?_;intro o b;go_simp;have D2:=J.alloc (.cells (rH 5 0 (w.heap.size+1)) 48);refine Shut.out b _ _ (D2) ?_;clear b o
 try simp only[Act.put,getElem_toArray,List.getElem_cons_succ,List.getElem_cons_zero,setIfInBounds_toArray,set_cons_zero,set_cons_succ,Nat.reduceAdd]
 refine vG rfl (by decide) (by decide +kernel) ?_;intro o b;go_simp
 go_at_call 19
 refine(ar.o _ J).mono ?_;rintro e w8 ⟨rfl,c8⟩;have D3:=D2.tq c8;refine Shut.out b _ _ (D3) ?_;clear b o
 try simp only[Act.put,getElem_toArray,List.getElem_cons_succ,List.getElem_cons_zero,setIfInBounds_toArray,set_cons_zero,set_cons_succ,Nat.reduceAdd]
 iterate 2 (refine hU (v:=?_) (by decide +kernel) rfl (λ_ _ _ h=>h) (by rfl) (by assumption) ?_ ?_;rotate_left;(focus (intro wz a;obtain⟨p,q,e2,s,u,x,y,z,B,C,E,H,I⟩:=O.o wz a;go_simp;try with_reducible rfl));try simp only[Act.put,getElem_toArray,List.getElem_cons_succ,List.getElem_cons_zero,setIfInBounds_toArray,set_cons_zero,set_cons_succ,Nat.reduceAdd])
 refine Q8 (by decide +kernel) ?_;simp only[drop_succ_cons,drop_zero,toList_toArray];go_wp2_with fail;go_ret;exact⟨rfl,aC.o.tq (ag.o.tq (ad.o.tq D3))⟩
 -- END
structure tF (ls:List iI) (p:gA) (t:Int):Prop where
 ok:∀i,i<ls.length->(gV ls i).p.Ok/\iY (gV ls i).p p/\(gV ls i).t<t
 times:BU (ls.map (·.t))
 t0:0<=t
 t1:t<=2+400*ls.length
theorem tF.snoc{ls:List iI}{p q:gA}{f:Int}(h:tF ls p t)(m:p.Ok)(d:iY p q)(l:t<f)(n:f<=t+400)(r:ls.length<=64):tF (ls++[⟨t,p⟩]) q f where
 ok:=λi hi=>by
  rw[zC,length_singleton]at hi
  by_cases h3:i<ls.length
  .rw[tE h3]
   obtain⟨a,b,c⟩:=h.ok i h3
   exact⟨a,b.tr d,by omega⟩
  .obtain rfl:i=ls.length:=by omega
   rw[ya]
   exact⟨m,d,l⟩
 times:=λi hi=>by
  rw[zE,zC,length_singleton]at hi
  have e:∀k,k<ls.length+1->((ls++[(⟨t,p⟩:iI)]).map (·.t)).getD k 0=(gV (ls++[(⟨t,p⟩:iI)]) k).t:=λk hk=>oh (by rw[zC,length_singleton];exact hk)
  have j:=h.t0
  have o:=h.t1
  by_cases h3:i<ls.length
  .obtain⟨a,b,c⟩:=h.times i (by rw[zE];exact h3)
   rw[oh h3]at a b c
   rw[e i hi,tE h3]
   refine⟨a,b,λh5 => ?_⟩
   have g:=c h5
   rw[oh (by omega)]at g
   rw[e (i-1) (by omega),tE (by omega)]
   exact g
  .obtain rfl:i=ls.length:=by omega
   rw[e _ hi,ya]
   refine⟨j,by show t<=_;omega,λh5 => ?_⟩
   rw[e _ (by omega),tE (by omega)]
   exact(h.ok (ls.length-1) (by omega)).2.2
 t0:=by have:=h.t0;omega
 t1:=by have:=h.t1;rw[zC,length_singleton];omega
theorem tF.done{ls:List iI}{p:gA}(h:tF ls p t)(a:1<=ls.length)(b:ls.length<=64):nF ls where
 n0:=a
 n1:=b
 ok:=λi hi=>(h.ok i hi).1
 al:=λi hi=>(h.ok 0 (by omega)).2.1.tr (h.ok i hi).2.1.sym
 times:=h.times
structure qm (w0:World) (X:Nat) (w:World) (v:Value) (F:List Nat) (ls:List iI) (vs:List (List Value)) (G:List Nat):Prop where
 own:jy w 48 5 v F ls.length vs.flatten
 lv:vs.length=ls.length
 v5:∀x∈vs,x.length=5
 pic:∀j,j<ls.length->∃(gp op cp:Nat) (B:Nat->Option Addr) (c:Nat->Nat) (Gp:List Nat),vs[j]?=some (og (gV ls j) gp op cp)/\ip w (gV ls j).p gp op B c Gp/\∀x∈Gp,x∈G
 new:∀x∈G,w0.heap.size<=x/\x≠X/\x∉F
 newF:∀x∈F,w0.heap.size<=x/\x≠X
 lt:∀x∈G,x<w.heap.size
section
variable {w0 w wa:World} {X:Nat} {v:Value} {F G:List Nat} {ls:List iI} {vs:List (List Value)}
theorem qm.Z{E:List Nat}(h:qm w0 X w v F ls vs G)(a:gg E w wa)(d:∀x∈E,x∉F/\x∉G):qm w0 X wa v F ls vs G where
 own:=h.own.Z a (λx hx hm=>(d x hm).1 hx)
 lv:=h.lv
 v5:=h.v5
 pic:=λj hj=>by
  obtain⟨f,k,cp,B,c,e,g,i,b⟩:=h.pic j hj
  exact⟨f,k,cp,B,c,e,g,i.Z a (λx hx hm=>(d x hm).2 (b x hx)),b⟩
 new:=h.new
 newF:=h.newF
 lt:=λx hx=>Nat.lt_of_lt_of_le (h.lt x hx) a.size
theorem qm.next(h:qm w0 X w v F ls vs G){wa w':World}(p:gg [] w wa)(s:iI){i l cp:Nat}{B:Nat->Option Addr}{c:Nat->Nat}{d:List Nat}(o:ip w s.p i l B c d)(k:∀x∈d,w0.heap.size<=x/\x≠X/\x∉F){g f:Nat}(J:jy w' 48 5 (.slice g (ls.length+1) f) [g] (ls.length+1) (vs.flatten++og s i l cp))(u:gE F [g] wa w')(K:w0.heap.size<=w.heap.size)(L:X<w.heap.size):qm w0 X w' (.slice g (ls.length+1) f) [g] (ls++[s]) (vs++[og s i l cp]) (G++d):=by
 have n:gg F w w':=(p.mono (F':=F) (by simp)).tq u.Z;have m:g∈F\/w.heap.size<=g:=by
  rcases u.new g (by simp)with a|a
  .exact .inl a
  .exact .inr (Nat.le_trans p.size a)
 have C:∀x∈G++d,x≠g:=λx hx e=>by
  subst e;rcases zP.1 hx with a|a
  .rcases m with b|b
   .exact(h.new _ a).2.2 b
   .have:=h.lt _ a;omega
  .rcases m with b|b
   .exact(k _ a).2.2 b
   .have:=o.lt _ a;omega
 refine⟨by rw[zC,length_singleton];simpa using J,by simp[h.lv],λx hx => ?_,λj hj => ?_,λx hx => ?_,λx hx => ?_,λx hx => ?_⟩
 .rcases zP.1 hx with a|a
  .exact h.v5 x a
  .rw[zU.1 a];rfl
 .rw[zC,length_singleton]at hj
  by_cases hjl:j<ls.length
  .obtain⟨ad,D,A,y,E,z,H,I,q⟩:=h.pic j hjl
   rw[tE hjl];exact⟨ad,D,A,y,E,z,by rw[getElem?_append_left (by rw[h.lv];exact hjl)];exact H,I.Z n (λx hx hm=>(h.new x (q x hx)).2.2 hm),λx hx=>mem_append_left _ (q x hx)⟩
  .obtain rfl:j=ls.length:=by omega
   rw[ya];exact⟨i,l,cp,B,c,d,by rw[zS (by rw[h.lv];exact zQ _),h.lv,Nat.sub_self];rfl,o.Z n (λx hx hm=>(k x hx).2.2 hm),λx hx=>List.mem_append_right _ hx⟩
 .have r:=C x hx
  rcases zP.1 hx with a|a
  .exact⟨(h.new x a).1,(h.new x a).2.1,by simpa using r⟩
  .exact⟨(k x a).1,(k x a).2.1,by simpa using r⟩
 .obtain rfl:=zU.1 hx
  rcases m with b|b
  .exact h.newF _ b
  .exact⟨by omega,by omega⟩
 .have:=n.size
  rcases zP.1 hx with a|a
  .have:=h.lt x a;omega
  .have:=o.lt x a;omega
theorem qm.done(h:qm w0 X w v F ls vs G)(E:1<=ls.length):∃(A:Option Addr) (a:Nat),v=.slice A ls.length a/\ls.length<=a/\jY w A ls (F++G):=by
 obtain⟨A,a,rfl,r,H,y,s⟩:=h.own.open_;have z:vs.flatten.length=ls.length*5:=by rw[BR vs h.v5,h.lv]
 obtain⟨g,o,rfl,ad,m⟩:=y.ex (by omega);obtain⟨D,e,hF,C⟩:=s _ rfl;refine⟨_,a,rfl,r,λ_=>⟨g,o,rfl,?_,λi hi => ?_⟩,λx hx => ?_⟩
 .injection e with e1 e2
  rw[hF,e1];simp
 .obtain⟨f,k,cp,B,c,l,n,p,q⟩:=h.pic i hi
  have d:∀j u,j<5->(og (gV ls i) f k cp)[j]?=some u->w.cell? ⟨g,o+i*5+j,none⟩=some u:=λj u hj hu=>by
   have:=yb vs i j h.v5 hj
   rw[n]at this;have b:=m (i*5+j) u (by rw[this];exact hu);rw[<-Nat.add_assoc]at b;exact b
  exact⟨f,k,cp,B,c,l,d 0 _ (by decide) rfl,d 1 _ (by decide) rfl,d 2 _ (by decide) rfl,d 3 _ (by decide) rfl,d 4 _ (by decide) rfl,p,λx hx=>List.mem_append_right _ (q x hx)⟩
 .rcases zP.1 hx with b|b
  .exact h.own.lt x b
  .exact h.lt x b
end
def Hw (w:World) (b cap:Nat) (A:Option Addr) (L:List Int) (most:Nat) (e:Ending) (w':World):Prop :=
 ∃(ls:List iI) (A':Option Addr) (c' at':Nat) (G:List Nat),e=.returned (.slice A' ls.length c')/\ls.length<=c'/\jY w' A' ls G/\nF ls/\ls.length<=most/\jv w' b A cap L at'/\gg [b] w w'/\∀x∈G,w.heap.size<=x
structure BV (w:World) (X b cap:Nat) (A:Option Addr) (L:List Int) (wr:World) (v:Value) (ls:List iI) (t:Int) (p:gA) (gp op cp at':Nat) (F:List Nat):Prop where
 tok:tF ls p t
 ex:∃vs G,qm w X wr v F ls vs G
 pic:∃B c Gp,ip wr p gp op B c Gp/\∀x∈Gp,w.heap.size<=x/\x≠X/\x∉F
 box:iF wr X (.int .i64 p.W) (.int .i64 p.H) (.int .i64 p.d) (.slice (some ⟨gp,op,none⟩) p.P.length cp)
 tp:jv wr b A cap L at'
 Z:gg [b] w wr
theorem Qd(w:World)(b f at_ most g:Nat)(A:Option Addr)(L:List Int)(h:jv w b A f L at_)(hm0:1<=most)(hm1:most<=64)(hs0:1<=g)(hs1:g<=64):Calls prog 6 #[.pointer b,most,g] w (Hw w b f A L most):=by
 unfold Hw;have Y:=PI w b f at_ g A L h hs0 hs1;unfold zx gW at Y;have bz:=h.blk.lt;have ab:=h.cells;have⟨bl,aZ⟩:=gy Y ab;clear h Y ab;go_enter func6,ntmps6;go_wp2_with fail;refine bl.o.mono ?_;rintro e Q ⟨p,P,T,xs,gs,a1,rfl,-,-,aF,bf,W,a9⟩;have⟨X,hX⟩:=zX Q.heap.size;have⟨w2,aI⟩:=zX (Q.alloc (.cells #[p.W,p.H,p.d,.slice P p.P.length T] 46));have R:gg [] Q w2:=by rw[aI];exact(zR [] Q).alloc _
 have m:iF w2 X (.int .i64 p.W) (.int .i64 p.H) (.int .i64 p.d) (.slice P p.P.length T):=⟨by rw[aI,hX];exact gn.new Q _ _⟩;have o:=aF.at_;have a7:w.heap.size<=X:=by have:=W.size;omega
 have bc:∀x∈P::gs,w.heap.size<=x/\x≠X:=λx a=>⟨a9 x a,by have:=o.lt x a;omega⟩;have I:=mN w2 b f a1 3 A L (bf.fresh R) (by omega) (by omega);have⟨bk,bh,aP⟩:=gX (o.Y R) m bc;have bi:=gd (W.tq (R.mono (F':=[b]) (by simp)));have⟨bo,HX,aS⟩:=gX aI hX a7;clear aF bf W a9 hX aI R m o bc a7;go_wp2_with fail;rw[<-bo.o,<-HX.o];refine I.mono ?_;rintro e w3 ⟨t0,a3,rfl,be,h3,a2⟩;have bb:=mN w3 b f a3 most A L h3 hm0 (by omega);have⟨bj,bn⟩:=gy a2 be;clear I h3 a2 be;go_wp2_with fail;refine bb.mono ?_;rintro e w4 ⟨n0,a4,rfl,bD,h4,a5⟩;have⟨n,hn⟩:=zX (n0+1);have en:(1:Int)+(n0:Int)=(n:Int):=by omega
 have bx:b<X:=by have:=aS.o;omega
 have S:=bj.o.tq a5;have K:BV w X b f A L w4 (.slice none 0 0) [] (t0:Int) p P 0 T a4 []:=by
  refine⟨⟨λi hi=>by simp at hi,λi hi=>by simp at hi,by omega,by have:=bn.o;simp;omega⟩,⟨[],[],⟨jy.nil _ _ _,rfl,by simp,λj hj=>by simp at hj,by simp,by simp,by simp⟩⟩,⟨_,_,_,bk.o.Z S (λx a d=>by have:=(aP.o x a).1;simp at d;omega),λx a=>⟨(aP.o x a).1,(aP.o x a).2,by simp⟩⟩,bh.o.Z S (by simp;omega),h4,bi.o.tq S⟩
 have aN:=gd K;clear bb h4 a5 S K hn;go_wp2_with fail
 try rw[en]
 go_loopg [8,9,10] n (λj v8 v9 v10 wr=>∃(ls:List iI) (t:Int) (p:gA) (z C cp M:Nat) (F:List Nat),v8=.int .i64 t/\v10=.int .i64 j/\ls.length+j=n/\gh (BV w X b f A L wr v9 ls t p z C cp M F))
 .exact⟨[],(t0:Int),p,P,0,T,a4,[],rfl,by first|rfl|rw[<-en],by simp,aN⟩
 obtain⟨ls,t,p,z,C,cp,M,F,rfl,rfl,bC,k⟩:=hrel;rcases gk with _|j
 .have t1:decide ((0:Int)<((0:Nat):Int))=false:=by simp
  have l:=k.o;obtain⟨vs,G,s⟩:=l.ex;obtain⟨V,c',rfl,a8,bd⟩:=s.done (by omega);have aL:gh (ls.length<=c'/\jY wr V ls (F++G)/\nF ls/\jv wr b A f L M/\gg [b] w wr/\∀x∈F++G,w.heap.size<=x):=gd ⟨a8,bd,l.tok.done (by omega) (by omega),l.tp,l.Z,λx a=>by
   rcases zP.1 a with h1|h1
   .exact(s.newF x h1).1
   .exact(s.new x h1).1⟩
  clear l s bd a8;go_wp2_with fail;refine bodyPost_ret (v:=.slice V ls.length c') (by simp[results,results6,go_sem]) rfl ?_;obtain⟨g0,g1,g2,g3,g4,g5⟩:=aL.o;exact⟨ls,V,c',M,F++G,rfl,g0,g1,g2,by omega,g3,g4,g5⟩
 .have t1:decide ((0:Int)<((j+1:Nat):Int))=true:=zB (by omega)
  have ej:(((j+1:Nat):Int))-1=(j:Int):=by omega
  obtain⟨U,ba⟩:∃U:Int,U=((j+1:Nat):Int):=⟨_,rfl⟩;rw[<-ba]at t1 ej⊢;obtain⟨bA,bB⟩:0<=U/\U<=64:=by omega
  have l:=k.o;obtain⟨vs,G,s⟩:=l.ex;obtain⟨x0,x1,x2,x3⟩:=l.box.cells;have bs:=l.tok.t0;have bu:t<=26000:=by have:=l.tok.t1;omega
  have ar:=s.own.Y ((zR [] wr).alloc (.cells (og ⟨t,p⟩ z C cp).toArray 48));have az:=gn.new wr 48 (og ⟨t,p⟩ z C cp).toArray;unfold og at ar az;have D:=gd s;clear l s ba
  go_wp2_with(at_builtin;refine vR rfl rfl Ia rfl (by decide) rfl ar [.int .i64 t,.int .i64 p.W,.int .i64 p.H,.int .i64 p.d,.slice (some ⟨z,C,none⟩) p.P.length cp] rfl rfl ?c1 ?c2 ?c3 ?c4 ?_)
  case c2=>exact⟨rfl,rfl,rfl,rfl,rfl⟩
  case c3=>omega
  case c4=>omega
  intro O ax w9 aj aq;have r:∃(G9:List Nat) (Z:List (List Value)),qm w X w9 (.slice O (ls.length+1) ax) [O] (ls++[⟨t,p⟩]) Z G9:=by
   obtain⟨B,c,Gp,o,H⟩:=k.o.pic;exact⟨_,_,D.o.next ((zR [] wr).alloc _) ⟨t,p⟩ o H aj aq k.o.Z.size k.o.box.blk.lt⟩
  obtain⟨G9,Z,a6⟩:=r;have E:gg F wr w9:=(((zR [] wr).alloc _).mono (by simp)).tq aq.Z;have ap:=k.o.box.Z E (λd=>(D.o.newF X d).2 rfl);have aE:=k.o.tp.Y E (λd=>by have:=(D.o.newF b d).1;omega) (ib.fresh aZ.o (λx a=>(D.o.newF x a).1));have r:Calls prog 18 #[.pointer b,gW p z C cp] w9 (x9 w9 p b f A L):=by
   obtain⟨B,c,Gp,o,H⟩:=k.o.pic;exact Qc cp (o.Z E (λx a d=>(H x a).2.2 d)) b f M A L aE (λd=>by have:=(H b d).1;omega)
  unfold x9 gW at r;obtain⟨x0,x1,x2,x3⟩:=ap.cells;have aY:gh (gg [b] w w9):=gd (k.o.Z.trans E (λx a => .inr (D.o.newF x a).1));have⟨aX,bm,bg⟩:=gX ap a6 r;clear aj aq a6 E ap aE r ar az;go_wp2_with fail;refine bg.o.mono ?_;rintro e aW ⟨q,y,N,ys,hs,bp,rfl,al,r,aG,an,aB⟩;have m:=aX.o.Z an (by simp;omega);obtain⟨y0,y1,y2,y3⟩:=m.cells;have z0:=m.blk.U 0;have z1:=m.blk.U 1;have z2:=m.blk.U 2;have z3:=m.blk.U 3;have⟨aR,aO,aJ,aQ⟩:=gu m al r aG;have⟨au,aM⟩:=gy an aB;clear m al r aG an aB x0 x1 x2 x3;go_wp2_with fail;have⟨w11,ah⟩:=zX ((((aW.setCell X (.int .i64 q.W)).setCell ⟨X,1,none⟩ (.int .i64 q.H)).setCell ⟨X,2,none⟩ (.int .i64 q.d)).setCell ⟨X,3,none⟩ (.slice y q.P.length N));have ay:iF w11 X (.int .i64 q.W) (.int .i64 q.H) (.int .i64 q.d) (.slice y q.P.length N):=⟨by
   rw[ah]
   have:=(((aR.o.blk.S 0 (.int .i64 q.W)).S 1 (.int .i64 q.H)).S 2 (.int .i64 q.d)).S 3 (.slice y q.P.length N)
   simpa using this⟩
  have ao:gg [X] aW w11:=by
   rw[ah];exact((((zR [X] aW).setCell (p:=⟨X,0,none⟩) (.inl (by simp)) _).setCell (p:=⟨X,1,none⟩) (.inl (by simp)) _).setCell (p:=⟨X,2,none⟩) (.inl (by simp)) _).setCell (p:=⟨X,3,none⟩) (.inl (by simp)) _
  have I:=mN w11 b f bp 400 A L (aQ.o.Y ao (by simp;omega) (ib.fresh aZ.o (λx a=>by simp at a;have:=aS.o;omega))) (by omega) (by omega);rw[<-ah];have⟨aK,am⟩:=gy ay ao;clear ah ay ao y0 y1 y2 y3 z0 z1 z2 z3;refine I.mono ?_;rintro e bv ⟨v,a0,rfl,hv,ak,J⟩;have K:BV w X b f A L bv (.slice O (ls.length+1) ax) (ls++[⟨t,p⟩]) (t+1+(v:Int)) q y 0 N a0 [O]:=by
   have u:=bm.o;have bw:=aX.o.blk.lt;have bq:b≠X:=(by omega);have ad:∀x∈y::hs,w9.heap.size<=x:=aM.o;have bE:=aY.o.size;have br:=u.own.lt;obtain⟨B,c,Gp,o,H⟩:=k.o.pic;refine⟨k.o.tok.snoc o.ok aJ.o (by omega) (by omega) (by omega),⟨Z,G9,((u.Z au.o ?_).Z am.o ?_).Z J ?_⟩,⟨_,_,y::hs,(aO.o.at_.Z am.o ?_).Z J ?_,λx a=>⟨?_,?_,?_⟩⟩,aK.o.Z J ?_,ak,((aY.o.tq au.o).trans am.o (λx a => .inr ?_)).tq J⟩
   .intro x a
    simp at a;subst a;exact⟨λd=>by have:=(u.newF _ d).1;omega,λd=>by have:=(u.new _ d).1;omega⟩
   .intro x a
    simp at a;subst a;exact⟨λd=>(u.newF _ d).2 rfl,λd=>(u.new _ d).2.1 rfl⟩
   .intro x a
    simp at a;subst a;exact⟨λd=>by have:=(u.newF _ d).1;omega,λd=>by have:=(u.new _ d).1;omega⟩
   .intro x a d
    have:=ad x a
    simp at d;omega
   .intro x a d
    have:=ad x a
    simp at d;omega
   .have:=ad x a
    omega
   .have:=ad x a
    omega
   .intro d
    have:=ad x a
    have:=br x d
    omega
   .simp
    omega
   .simp at a
    have:=aS.o
    omega
  have av:=gd K;have bF:v<400:=hv;clear I ak J K hv;go_wp2_with fail
  go_roundg j
  .refine⟨ls++[⟨t,p⟩],t+1+(v:Int),q,y,0,N,a0,[O],by go_num,by go_num,by rw[zC,length_singleton];omega,av⟩
  .omega
theorem Qm(ks:List Bool)(i:Nat):(ks.map vb).set i (.bool true)=(ks.set i true).map vb:=by simp[vb]
theorem Ib{ks:List Bool}(i:Nat)(h:ks.getD 0 false=true):(ks.set i true).getD 0 false=true:=by
 rcases ks with _|⟨k,ks⟩
 .simp at h
 .rcases i with _|i
  .rfl
  .exact h
theorem Ql{ks:List Bool}{i:Nat}(h:i<ks.length):(ks.set i true).getD i false=true:=by simp[h]
theorem Qk(w:World)(A:Option Addr)(c:Nat)(L:List Int)(hc:gz vi w A L)(a:∀x∈L,mw x)(d:L.length<=9223372036854775807)(z1:Int)(o:mw z1)(hp:iK w):Calls prog 3 #[.slice A L.length c,z1] w λe w'=>e=.returned (.bool true)/\gg [] w w':=by
 have al:=OK w A c L hc a d;have⟨HP,HZ⟩:=gy hp o;clear hc a d hp o;go_enter func3,ntmps3;go_wp2_with fail;refine al.mono ?_;rintro e w1 ⟨b,rfl,N,aQ,hb⟩;have g:=Qd w1 b c 0 6 10 A L N (by omega) (by omega) (by omega) (by omega);have bx:=N.blk.lt;clear al N;go_wp2_with fail;refine g.mono ?_;rintro e w2 ⟨ls,A2,c2,bn,G2,rfl,u,O,y,bs,an,aR,aW⟩;have a8:=y.n0;have a9:=y.n1;have⟨n,hn⟩:=zX ls.length;rw[<-hn]at bs a8 a9 u;obtain⟨gL,oL,rfl,bz,-⟩:=O.ex (by omega);have a3:=Qg w2 b c bn n A L an a8 a9;have aU:gg [] w w2:=aQ.trans aR λx hx => .inr (by simp at hx;omega);have aX:∀x∈G2,x∉[b]:=λx hx hm=>by have:=aW x hx;simp at hm;omega
 rw[<-hn];have⟨ai,av,HN,aL⟩:=gu O y hn aU;have bd:=gd aX;clear g an O y hn aU aW aR aQ aX;go_wp2_with fail;refine a3.mono ?_;rintro e w3 ⟨ks,l,cK,bw,rfl,J,I,S,aK,U,br⟩;have⟨i0,a0⟩:=zX (pV z1 0 ((n:Int)-1));have bc:=EQ z1 0 ((n:Int)-1) w3 HZ.o (by omega) (by omega) (by omega);have T:=EP z1 (show(0:Int)<=(n:Int)-1 by omega);rw[<-a0]at bc T;obtain⟨i,hi⟩:∃i:Nat,(i:Int)=i0:=⟨i0.toNat,Int.toNat_of_nonneg T.1⟩;subst hi;have a:i<n:=by omega
 have h3:=ai.o.Z U bd.o;have aV:gg [] w w3:=aL.o.trans U λx hx => .inr (by simp at hx;omega);obtain⟨c',e1,-,-,ak,bq⟩:=S.T;have f:=S.S (i:=i) (by simp;omega) (.bool true);have⟨w4,au⟩:=zX (w3.setCell ⟨l,i,none⟩ (.bool true));rw[<-au,Qm]at f;have ad:gg [l] w3 w4:=by rw[au];exact(zR [l] w3).setCell (p:=⟨l,i,none⟩) (.inl (by simp)) _
 have B:gg [] w w4:=aV.trans ad λx hx => .inr (by simp at hx;have:=aL.o.size;omega);have aZ:∀x∈G2,x∉[l]:=λx hx hm=>by have:=ai.o.lt x hx;simp at hm;omega
 have Y:=h3.Z ad aZ;have a1:=f.R.cells;have C:=Q1 (capK:=cK) c2 Y av.o a1 (by rw[length_set,J,HN.o]) (Ib i I) (HP.o.Y B);rw[length_set,J,<-HN.o]at C;have bj:gh ((ks.set i true).getD i false=true):=gd (Ql (by omega));have bi:gh ((ks.set i true).getD 0 false=true):=gd (Ib i I);have⟨be,H4,bf,bm⟩:=gu C Y B au;obtain⟨kv,a4⟩:∃kv,ks[i]?=some kv:=⟨_,zF (show i<ks.length by omega)⟩;have bp:=ak i _ a4;clear a4 a3 J I aK U br S a0 T aV e1 ak f au ad B aZ Y a1 C h3;have e1:IntKind.i64.wrap ((n:Int)-1)=(n:Int)-1:=IntWalk.i64_in _ (by omega);go_wp2_with fail;refine gB bc ?_;go_wp2_with fail;rw[<-bm.o];refine be.o.mono ?_;rintro e w5 ⟨cs,z,G5,rfl,Q,q,V,bo⟩;have aY:cs.length=n:=by rw[q.1,HN.o]
 have R:i<ls.length:=by rw[<-HN.o];exact a
 have h:gg [] w w5:=bf.o.tq V;have K:=H4.o.Y V;have bA:∀wz:World,(Instr.slice 30 (.slice z n n) (some (.int .i64 i)) none none).run prog wz=.ok (.slice (some ⟨z,i*3,none⟩) (n-i) (n-i)) wz:=λwz=>by
  have:=Im (P:=prog) underlying30 (k:=3) (λw=>by rfl) z 0 n n i a (zQ _) wz
  rwa [Nat.zero_add]at this
 have bu:=λ(wz:World)=>Im (P:=prog) underlying25 (k:=5) (λw=>by rfl) gL oL n c2 i a u wz;have bB:=λ(wz:World)=>IF (P:=prog) underlying30 (k:=3) (λw=>by rfl) z 0 n n i (by omega) (zQ _) wz;have bv:=λ(wz:World)=>IF (P:=prog) underlying25 (k:=5) (λw=>by rfl) gL oL n c2 i (by omega) u wz;have D:=Q.drop i;rw[Nat.zero_add]at D;have E:=B5 (n-i) D (av.o.drop R) (q.drop R bj.o) (HP.o.Y h);rw[zO,aY]at E;have H:=λwz (hz:gg [] w5 wz) (h0:0<i)=>B5 n ((Q.Y hz).take i) (av.o.take (k:=i) (by omega) h0) (q.take (k:=i) (by omega) h0 bi.o) (HP.o.Y (h.tq hz));have a7:(cs.take i).length=i:=by rw[zI];omega
 rw[a7]at H;have g:=λwz (hz:gg [] w5 wz) m G' (hg:jY wz (some ⟨m,0,none⟩) (ls.drop i) G')=>B7 (n-i) (c2-i) hg ((K.Y hz).drop i) (by rw[zO,<-HN.o];omega);have M:=λwz (hz:gg [] w5 wz) m G' (hg:jY wz (some ⟨m,0,none⟩) (ls.take i) G')=>B7 i c2 hg ((K.Y hz).take i) (by rw[zI,<-HN.o];omega);have a5:(ls.drop i).length=n-i:=by rw[zO,<-HN.o]
 have a6:(ls.take i).length=i:=by rw[zI,<-HN.o];omega
 rw[a5]at g;rw[a6]at M;have a2:=λwz (hz:gg [] w5 wz)=>QL wz (HP.o.Y (h.tq hz));have⟨bh,bk,bl,aP⟩:=gu H g M a2;have aM:=gd h;clear aY R h K D H a7 g M a5 a6 a2 Q q V bo bq bp u;go_wp2_with fail;refine E.mono ?_;rintro e w6 ⟨m,G6,rfl,ba,W,-⟩;have j:=bk.o w6 W m G6 ba;have bg:=gd W;clear E ba W;go_wp2_with fail;refine j.mono ?_;rintro e Z ⟨rfl,aS⟩;have r:gh (gg [] w5 Z):=gd (bg.o.tq aS);clear j aS;by_cases h0:i=0
 .have t4:((i:Int)==0)=true:=by simp[h0]
  have t5:decide ((i:Int)=0)=true:=by simp[h0]
  have t6:decide (i=0)=true:=by simp[h0]
  have f:=aP.o Z r.o;have H0:=gd h0;clear h0;go_wp2_with fail;refine f.mono ?_;rintro e w8 ⟨rfl,s⟩;go_wp2_with fail;go_ret;exact⟨rfl,aM.o.tq (r.o.tq s)⟩
 .have t4:((i:Int)==0)=false:=by simp[h0]
  have hd:=bh.o Z r.o (by omega);clear h0;go_wp2_with fail;refine hd.mono ?_;rintro e w8 ⟨gT,G8,rfl,bb,s,-⟩;have aN:gh (gg [] w5 w8):=gd (r.o.tq s);have j:=bl.o w8 aN.o gT G8 bb;clear hd bb s;go_wp2_with fail;refine j.mono ?_;rintro e w9 ⟨rfl,aT⟩;have aO:gh (gg [] w5 w9):=gd (aN.o.tq aT);have f:=aP.o w9 aO.o;clear j aT;go_wp2_with fail;refine f.mono ?_;rintro e bC ⟨rfl,aw⟩;go_wp2_with fail;go_ret;exact⟨rfl,aM.o.tq (aO.o.tq aw)⟩
end Go.Proofs.YtifdlkoepaepiaaGreatDoor
