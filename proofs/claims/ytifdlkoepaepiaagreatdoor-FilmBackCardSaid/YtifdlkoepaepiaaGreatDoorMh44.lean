/- Lemmas. -/
import Derived.Test.YtifdlkoepaepiaaGreatDoorMh43
import Derived.Test.YtifdlkoepaepiaaGreatDoorMh35
import Derived.Test.YtifdlkoepaepiaaGreatDoorMh37
set_option linter.all false
set_option maxHeartbeats 4000000
set_option maxRecDepth 100000
namespace Go.Proofs.YtifdlkoepaepiaaGreatDoor
open _root_.Go.Proofs.Tryz List Nat Go.RowKit
variable {a:Act}{t:Int}{Gp:List Nat}{i j:Nat}{B:Nat->Option Addr}{A:Option Addr}
theorem QL(w:World)(hp:iK w):Calls prog 12 #[] w λe w'=>e=.returned (.bool true)/\gg [] w w':=by
 have⟨u1,al⟩:=zX (w.alloc (.cells #[(1:Int)] 3));have⟨u2,am⟩:=zX (u1.alloc (.cells #[.slice (some ⟨w.heap.size,0,none⟩) 1 1] 22));have⟨u3,ap⟩:=zX (u2.alloc (.cells #[(1:Int),(1:Int),(1:Int),.slice (some ⟨w.heap.size+1,0,none⟩) 1 1] 46));have⟨u4,aq⟩:=zX (u3.alloc (.cells #[(0:Int),(1:Int),(1:Int),(1:Int),.slice (some ⟨w.heap.size+1,0,none⟩) 1 1,(5:Int),(1:Int),(1:Int),(1:Int),.slice (some ⟨w.heap.size+1,0,none⟩) 1 1] 48));have z1:u1.heap.size=w.heap.size+1:=by rw[al,jt]
 have z2:u2.heap.size=w.heap.size+1+1:=by rw[am,jt,z1]
 have z3:u3.heap.size=w.heap.size+1+1+1:=by rw[ap,jt,z2]
 have c1:=H4 al;have c2:=H4 am;have c3:=H4 ap;have c4:=H4 aq;have b1:gn u4 w.heap.size 3 #[(1:Int)]:=((((show gn u1 w.heap.size 3 #[(1:Int)]from by rw[al];exact gn.new _ _ _).Z c2 (by simp)).Z c3 (by simp)).Z c4 (by simp));have b2:gn u4 (w.heap.size+1) 22 #[.slice (some ⟨w.heap.size,0,none⟩) 1 1]:=(((show gn u2 (w.heap.size+1) 22 _ from by rw[am,<-z1];exact gn.new _ _ _).Z c3 (by simp)).Z c4 (by simp));have b3:gn u4 (w.heap.size+1+1+1) 48 (rH 0 5 (w.heap.size+1)):=by rw[aq,<-z3];exact gn.new _ _ _
 have V:gg [] w u4:=((c1.tq c2).tq c3).tq c4;have y:=QC 2 (l:=lC) (B9 b1 b2 b3) IJ 9 (by decide) (by decide) (hp.Y V);rw[show lC.length=2 from rfl]at y;have aJ:gh (u4=(((w.alloc (.cells #[(1:Int)] 3)).alloc (.cells #[.slice (some ⟨w.heap.size,0,none⟩) 1 1] 22)).alloc (.cells #[(1:Int),(1:Int),(1:Int),.slice (some ⟨w.heap.size+1,0,none⟩) 1 1] 46)).alloc (.cells #[(0:Int),(1:Int),(1:Int),(1:Int),.slice (some ⟨w.heap.size+1,0,none⟩) 1 1,(5:Int),(1:Int),(1:Int),(1:Int),.slice (some ⟨w.heap.size+1,0,none⟩) 1 1] 48)):=gd (by rw[aq,ap,am,al]);have⟨aC,HB,HP,aE⟩:=gu V (And.intro b1 (And.intro b2 b3)) (hp.Y V) y;clear al am ap aq z1 z2 z3 c1 c2 c3 c4 b1 b2 b3 V y hp;go_enter func12,ntmps12;go_wp2_with fail
 try rw[<-aJ.o]
 refine aE.o.mono ?_;rintro e w5 ⟨cs,q,G5,rfl,ae,y,au,aK⟩;obtain⟨z,C,E,T,R⟩:=Q7 y;have av:=B5 2 ae IJ R (HP.o.Y au);rw[z]at av;have⟨aD,ab,ag⟩:=Q9 av ae au;have Z:=gd (And.intro z (And.intro C (And.intro E (And.intro T R))));clear y av ae au z C E T R aK;go_wp2_with fail;refine aD.o.mono ?_;rintro e f ⟨gS,G6,rfl,ak,ax,aL⟩;have⟨aH,ad⟩:=gy ak ax;clear ak ax aL;have ah:∀wz,gg [] w5 wz->wz.cell? q=some (.bool true)/\wz.cell? ⟨q,3,none⟩=some (.bool false)/\∃A c,wz.cell? ⟨q,5,none⟩=some (.slice A 5 c):=λwz b=>by
  obtain⟨z,C,E,T,R⟩:=Z.o;obtain⟨A0,c0,-,-,h0⟩:=ab.o.stay (i:=0) (by omega);obtain⟨Y,c1,-,-,W⟩:=ab.o.stay (i:=1) (by omega);obtain⟨⟨r,-,-⟩,-⟩:=h0 wz b;obtain⟨⟨s,-,e2⟩,-⟩:=W wz b;rw[C]at r;rw[E]at s;rw[T]at e2;exact⟨r,s,Y,c1,e2⟩
 obtain⟨r,s,Y,cA,e2⟩:=ah f ad.o;have u:=(HB.o.2.2.Z (ag.o.tq ad.o) (by simp));have⟨H,I,J,K⟩:=my u;have L:=u.X 4;have M:=u.X 5;have N:=u.X 6;have O:=u.X 7;have P:=u.X 8;have Q:=u.X 9;simp[rH]at H I J K L M N O P Q;clear u;have aA:=λwz (b:gg [] f wz)=>B7 2 2 (aH.o.Y b) ((B9 HB.o.1 HB.o.2.1 HB.o.2.2).Y ((ag.o.tq ad.o).tq b)) (by decide);have aI:=gd aA;clear aA;have ay:∀wz,gg [] w5 wz->Calls prog 14 #[.slice q 2 2,(1:Int)] wz λe w'=>e=.returned (.int .i64 0)/\w'=wz:=λwz b=>by
  obtain⟨z,C,E,T,R⟩:=Z.o;have W:=QQ 2 (ab.o.Y b) 1 (by omega) (by omega);have e:qU cs (1+1)=0:=by simp[qU,C,E]
  rw[z,e]at W;exact W
 have az:∀wz,Calls prog 14 #[.slice q 2 2,(2:Int)] wz λe w'=>e=.returned (.int .i64 (-1))/\w'=wz:=λwz=>QK (n:=2) (i:=2) 2 (by decide) (by decide);have⟨aF,aG⟩:=gy ay az;have D:gg [] f f.drew:=(zR [] f).drew;have U:gh (∀wz,gg [] f wz->wz.cell? q=some (.bool true)/\wz.cell? ⟨q,3,none⟩=some (.bool false)/\wz.cell? ⟨q,5,none⟩=some (.slice Y 5 cA)/\wz.cell? ⟨w.heap.size+1+1+1,0,none⟩=some (.int .i64 0)/\wz.cell? ⟨w.heap.size+1+1+1,1,none⟩=some (.int .i64 1)/\wz.cell? ⟨w.heap.size+1+1+1,2,none⟩=some (.int .i64 1)/\wz.cell? ⟨w.heap.size+1+1+1,3,none⟩=some (.int .i64 1)/\wz.cell? ⟨w.heap.size+1+1+1,4,none⟩=some (.slice (some ⟨w.heap.size+1,0,none⟩) 1 1)/\wz.cell? ⟨w.heap.size+1+1+1,5,none⟩=some (.int .i64 5)/\wz.cell? ⟨w.heap.size+1+1+1,6,none⟩=some (.int .i64 1)/\wz.cell? ⟨w.heap.size+1+1+1,7,none⟩=some (.int .i64 1)/\wz.cell? ⟨w.heap.size+1+1+1,8,none⟩=some (.int .i64 1)/\wz.cell? ⟨w.heap.size+1+1+1,9,none⟩=some (.slice (some ⟨w.heap.size+1,0,none⟩) 1 1)):=gd (λwz b=>by
  have m:∀g k v,g<f.heap.size->f.cell? ⟨g,k,none⟩=some v->wz.cell? ⟨g,k,none⟩=some v:=λg k v hg h9=>(World.cell?_of_block (w:=f) (b.block g hg (by simp))).trans h9;have o:w.heap.size+1+1+1<f.heap.size:=(HB.o.2.2.Z (ag.o.tq ad.o) (by simp)).lt;have aw:q<f.heap.size:=by
   obtain⟨g',o',e,aM,-⟩:=ab.o.ex (by have:=Z.o.1;omega);injection e with e;injection e with e3 e4;subst e3;have h9:=ab.o.lt _ aM;have aN:=ad.o.size;omega
  exact⟨m _ _ _ aw r,m _ _ _ aw s,m _ _ _ aw e2,m _ _ _ o H,m _ _ _ o I,m _ _ _ o J,m _ _ _ o K,m _ _ _ o L,m _ _ _ o M,m _ _ _ o N,m _ _ _ o O,m _ _ _ o P,m _ _ _ o Q⟩)
 have ai:gh (∀wz,gg [] f wz->Calls prog 19 #[.slice (some ⟨wz.heap.size,0,none⟩) 2 2] (wz.alloc (.cells (rH 5 0 (w.heap.size+1)) 48)) λe w'=>e=.returned (.int .i64 12)/\gg [] (wz.alloc (.cells (rH 5 0 (w.heap.size+1)) 48)) w'):=gd λwz b=>by
  have aB:gg [] u4 (wz.alloc (.cells (rH 5 0 (w.heap.size+1)) 48)):=(ag.o.tq (ad.o.tq b)).alloc _;exact Qu 2 (HB.o.1.Z aB (by simp)) (HB.o.2.1.Z aB (by simp)) (gn.new _ _ _)
 have ar:=ai;clear ay az ah ai;go_wp2_with fail
 -- R5
 refine IP (S:=λw'=>gg [] f w') 56 (by kernel_rfl) (by decide +kernel) D ?_
 iterate 35 (refine hU (v:=?_) (by decide +kernel) rfl (λ_ _ _ h=>h) (by rfl) (by assumption) ?_ ?_;rotate_left;(focus (intro wz b;obtain⟨r,s,e2,H,I,J,K,L,M,N,O,P,Q⟩:=U.o wz b;go_simp;try with_reducible rfl));try simp only[Act.put,getElem_toArray,List.getElem_cons_succ,List.getElem_cons_zero,setIfInBounds_toArray,set_cons_zero,set_cons_succ,Nat.reduceAdd])
 refine vG rfl (by decide) (by decide +kernel) ?_;intro p d;go_simp
 go_at_call 11
 refine(aI.o _ D).mono ?_;rintro e w7 ⟨rfl,c7⟩;have x:gg [] f w7:=D.tq c7;refine Shut.out d _ _ (x) ?_;clear d p
 try simp only[Act.put,getElem_toArray,List.getElem_cons_succ,List.getElem_cons_zero,setIfInBounds_toArray,set_cons_zero,set_cons_succ,Nat.reduceAdd]
 iterate 3 (refine hU (v:=?_) (by decide +kernel) rfl (λ_ _ _ h=>h) (by rfl) (by assumption) ?_ ?_;rotate_left;(focus (intro wz b;obtain⟨r,s,e2,H,I,J,K,L,M,N,O,P,Q⟩:=U.o wz b;go_simp;try with_reducible rfl));try simp only[Act.put,getElem_toArray,List.getElem_cons_succ,List.getElem_cons_zero,setIfInBounds_toArray,set_cons_zero,set_cons_succ,Nat.reduceAdd])
 refine vG rfl (by decide) (by decide +kernel) ?_;intro p d;go_simp
 go_at_call 14
 refine gB (aF.o _ (ad.o.tq x)) ?_;refine Shut.out d _ _ (x) ?_;clear d p
 try simp only[Act.put,getElem_toArray,List.getElem_cons_succ,List.getElem_cons_zero,setIfInBounds_toArray,set_cons_zero,set_cons_succ,Nat.reduceAdd]
 iterate 4 (refine hU (v:=?_) (by decide +kernel) rfl (λ_ _ _ h=>h) (by rfl) (by assumption) ?_ ?_;rotate_left;(focus (intro wz b;obtain⟨r,s,e2,H,I,J,K,L,M,N,O,P,Q⟩:=U.o wz b;go_simp;try with_reducible rfl));try simp only[Act.put,getElem_toArray,List.getElem_cons_succ,List.getElem_cons_zero,setIfInBounds_toArray,set_cons_zero,set_cons_succ,Nat.reduceAdd])
 refine vG rfl (by decide) (by decide +kernel) ?_;intro p d;go_simp
 go_at_call 14
 refine gB (aG.o _) ?_;refine Shut.out d _ _ (x) ?_;clear d p
 try simp only[Act.put,getElem_toArray,List.getElem_cons_succ,List.getElem_cons_zero,setIfInBounds_toArray,set_cons_zero,set_cons_succ,Nat.reduceAdd]
 iterate 9 (refine hU (v:=?_) (by decide +kernel) rfl (λ_ _ _ h=>h) (by rfl) (by assumption) ?_ ?_;rotate_left;(focus (intro wz b;obtain⟨r,s,e2,H,I,J,K,L,M,N,O,P,Q⟩:=U.o wz b;go_simp;try with_reducible rfl));try simp only[Act.put,getElem_toArray,List.getElem_cons_succ,List.getElem_cons_zero,setIfInBounds_toArray,set_cons_zero,set_cons_succ,Nat.reduceAdd])
 refine vG rfl (by decide) (by decide +kernel) ?_;intro p d;go_simp;have D2:=x.alloc (.cells (rH 5 0 (w.heap.size+1)) 48);refine Shut.out d _ _ (D2) ?_;clear d p
 try simp only[Act.put,getElem_toArray,List.getElem_cons_succ,List.getElem_cons_zero,setIfInBounds_toArray,set_cons_zero,set_cons_succ,Nat.reduceAdd]
 refine vG rfl (by decide) (by decide +kernel) ?_;intro p d;go_simp
 go_at_call 19
 refine(ar.o _ x).mono ?_;rintro e w8 ⟨rfl,c8⟩;have D3:=D2.tq c8;refine Shut.out d _ _ (D3) ?_;clear d p
 try simp only[Act.put,getElem_toArray,List.getElem_cons_succ,List.getElem_cons_zero,setIfInBounds_toArray,set_cons_zero,set_cons_succ,Nat.reduceAdd]
 refine Q8 (by decide +kernel) ?_;simp only[drop_succ_cons,drop_zero,toList_toArray];go_wp2_with fail;go_ret;exact⟨rfl,aC.o.tq (ag.o.tq (ad.o.tq D3))⟩
 -- END
structure tF (ls:List iI) (p:qc) (t:Int):Prop where
 ok:∀i,i<ls.length->(gV ls i).p.Ok/\iY (gV ls i).p p/\(gV ls i).t<t
 times:BU (ls.map (·.t))
 t0:0<=t
 t1:t<=2+400*ls.length
theorem tF.snoc{ls:List iI}{p q:qc}{f:Int}(h:tF ls p t)(o:p.Ok)(d:iY p q)(n:t<f)(r:f<=t+400)(u:ls.length<=64):tF (ls++[⟨t,p⟩]) q f where
 ok:=λi hi=>by
  rw[zC,length_singleton]at hi
  by_cases h3:i<ls.length
  .rw[tE h3]
   obtain⟨a,b,c⟩:=h.ok i h3
   exact⟨a,b.tr d,by omega⟩
  .obtain rfl:i=ls.length:=by omega
   rw[ya]
   exact⟨o,d,n⟩
 times:=λi hi=>by
  rw[zE,zC,length_singleton]at hi
  have e:∀k,k<ls.length+1->((ls++[(⟨t,p⟩:iI)]).map (·.t)).getD k 0=(gV (ls++[(⟨t,p⟩:iI)]) k).t:=λk hk=>oh (by rw[zC,length_singleton];exact hk)
  have m:=h.t0
  have s:=h.t1
  by_cases h3:i<ls.length
  .obtain⟨a,b,c⟩:=h.times i (by rw[zE];exact h3)
   rw[oh h3]at a b c
   rw[e i hi,tE h3]
   refine⟨a,b,λh5=>?_⟩
   have l:=c h5
   rw[oh (by omega)]at l
   rw[e (i-1) (by omega),tE (by omega)]
   exact l
  .obtain rfl:i=ls.length:=by omega
   rw[e _ hi,ya]
   refine⟨m,by show t<=_;omega,λh5=>?_⟩
   rw[e _ (by omega),tE (by omega)]
   exact(h.ok (ls.length-1) (by omega)).2.2
 t0:=by have:=h.t0;omega
 t1:=by have:=h.t1;rw[zC,length_singleton];omega
theorem tF.done{ls:List iI}{p:qc}(h:tF ls p t)(b:1<=ls.length)(c:ls.length<=64):nF ls where
 n0:=b
 n1:=c
 ok:=λi hi=>(h.ok i hi).1
 al:=λi hi=>(h.ok 0 (by omega)).2.1.tr (h.ok i hi).2.1.sym
 times:=h.times
structure qm (w0:World) (X:Nat) (w:World) (v:Value) (F:List Nat) (ls:List iI) (vs:List (List Value)) (G:List Nat):Prop where
 own:jy w 48 5 v F ls.length vs.flatten
 lv:vs.length=ls.length
 v5:∀x∈vs,x.length=5
 pic:∀j,j<ls.length->∃(gp op cp:Nat) (B:Nat->Option Addr) (c:Nat->Nat) (Gp:List Nat),vs[j]?=some (og (gV ls j) gp op cp)/\ip w (gV ls j).p gp op B c Gp/\∀x∈Gp,x∈G
 new:∀x∈G,w0.heap.size<=x/\x≠X/\x∉F
 newF:∀x∈F,w0.heap.size<=x/\x≠X
 lt:∀x∈G,x<w.heap.size
section
variable {w0 w wa:World} {X:Nat} {v:Value} {F G:List Nat} {ls:List iI} {vs:List (List Value)}
theorem qm.Z{E:List Nat}(h:qm w0 X w v F ls vs G)(b:gg E w wa)(e:∀x∈E,x∉F/\x∉G):qm w0 X wa v F ls vs G where
 own:=h.own.Z b (λx hx hm=>(e x hm).1 hx)
 lv:=h.lv
 v5:=h.v5
 pic:=λj hj=>by
  obtain⟨f,m,cp,B,c,Gp,k,l,d⟩:=h.pic j hj
  exact⟨f,m,cp,B,c,Gp,k,l.Z b (λx hx hm=>(e x hm).2 (d x hx)),d⟩
 new:=h.new
 newF:=h.newF
 lt:=λx hx=>Nat.lt_of_lt_of_le (h.lt x hx) b.size
theorem qm.next(h:qm w0 X w v F ls vs G){wa w':World}(q:gg [] w wa)(s:iI){k m cp:Nat}{c:Nat->Nat}(p:ip w s.p k m B c Gp)(l:∀x∈Gp,w0.heap.size<=x/\x≠X/\x∉F){g f:Nat}(L:jy w' 48 5 (.slice g (ls.length+1) f) [g] (ls.length+1) (vs.flatten++og s k m cp))(y:gE F [g] wa w')(M:w0.heap.size<=w.heap.size)(N:X<w.heap.size):qm w0 X w' (.slice g (ls.length+1) f) [g] (ls++[s]) (vs++[og s k m cp]) (G++Gp):=by
 have o:gg F w w':=(q.mono (F':=F) (by simp)).tq y.Z;have n:g∈F\/w.heap.size<=g:=by
  rcases y.new g (by simp)with b|b
  .exact .inl b
  .exact .inr (Nat.le_trans q.size b)
 have E:∀x∈G++Gp,x≠g:=λx hx e=>by
  subst e;rcases zP.1 hx with b|b
  .rcases n with d|d
   .exact(h.new _ b).2.2 d
   .have:=h.lt _ b;omega
  .rcases n with d|d
   .exact(l _ b).2.2 d
   .have:=p.lt _ b;omega
 refine⟨by rw[zC,length_singleton];simpa using L,by simp[h.lv],λx hx=>?_,λj hj=>?_,λx hx=>?_,λx hx=>?_,λx hx=>?_⟩
 .rcases zP.1 hx with b|b
  .exact h.v5 x b
  .rw[zU.1 b];rfl
 .rw[zC,length_singleton]at hj
  by_cases hjl:j<ls.length
  .obtain⟨ad,H,D,z,I,C,J,K,r⟩:=h.pic j hjl
   rw[tE hjl];exact⟨ad,H,D,z,I,C,by rw[getElem?_append_left (by rw[h.lv];exact hjl)];exact J,K.Z o (λx hx hm=>(h.new x (r x hx)).2.2 hm),λx hx=>mem_append_left _ (r x hx)⟩
  .obtain rfl:j=ls.length:=by omega
   rw[ya];exact⟨k,m,cp,B,c,Gp,by rw[zS (by rw[h.lv];exact zQ _),h.lv,Nat.sub_self];rfl,p.Z o (λx hx hm=>(l x hx).2.2 hm),λx hx=>List.mem_append_right _ hx⟩
 .have u:=E x hx
  rcases zP.1 hx with b|b
  .exact⟨(h.new x b).1,(h.new x b).2.1,by simpa using u⟩
  .exact⟨(l x b).1,(l x b).2.1,by simpa using u⟩
 .obtain rfl:=zU.1 hx
  rcases n with d|d
  .exact h.newF _ d
  .exact⟨by omega,by omega⟩
 .have:=o.size
  rcases zP.1 hx with b|b
  .have:=h.lt x b;omega
  .have:=p.lt x b;omega
theorem qm.done(h:qm w0 X w v F ls vs G)(E:1<=ls.length):∃(A:Option Addr) (b:Nat),v=.slice A ls.length b/\ls.length<=b/\jY w A ls (F++G):=by
 obtain⟨A,b,rfl,r,H,y,s⟩:=h.own.open_;have z:vs.flatten.length=ls.length*5:=by rw[BR vs h.v5,h.lv]
 obtain⟨g,o,rfl,ad,m⟩:=y.ex (by omega);obtain⟨D,e,hF,C⟩:=s _ rfl;refine⟨_,b,rfl,r,λ_=>⟨g,o,rfl,?_,λi hi=>?_⟩,λx hx=>?_⟩
 .injection e with e1 e2
  rw[hF,e1];simp
 .obtain⟨k,l,cp,B,c,Gp,n,p,q⟩:=h.pic i hi
  have f:∀j u,j<5->(og (gV ls i) k l cp)[j]?=some u->w.cell? ⟨g,o+i*5+j,none⟩=some u:=λj u hj hu=>by
   have:=yb vs i j h.v5 hj
   rw[n]at this;have d:=m (i*5+j) u (by rw[this];exact hu);rw[<-Nat.add_assoc]at d;exact d
  exact⟨k,l,cp,B,c,Gp,f 0 _ (by decide) rfl,f 1 _ (by decide) rfl,f 2 _ (by decide) rfl,f 3 _ (by decide) rfl,f 4 _ (by decide) rfl,p,λx hx=>List.mem_append_right _ (q x hx)⟩
 .rcases zP.1 hx with d|d
  .exact h.own.lt x d
  .exact h.lt x d
end
def Hw(w:World)(b cap:Nat)(A:Option Addr)(L:List Int)(most:Nat)(e:Ending)(w':World):Prop:=
 ∃(ls:List iI) (A':Option Addr) (c' at':Nat) (G:List Nat),e=.returned (.slice A' ls.length c')/\ls.length<=c'/\jY w' A' ls G/\nF ls/\ls.length<=most/\jv w' b A cap L at'/\gg [b] w w'/\∀x∈G,w.heap.size<=x
structure BV (w:World) (X b cap:Nat) (A:Option Addr) (L:List Int) (wr:World) (v:Value) (ls:List iI) (t:Int) (p:qc) (gp op cp at':Nat) (F:List Nat):Prop where
 tok:tF ls p t
 ex:∃vs G,qm w X wr v F ls vs G
 pic:∃B c Gp,ip wr p gp op B c Gp/\∀x∈Gp,w.heap.size<=x/\x≠X/\x∉F
 box:iF wr X (.int .i64 p.W) (.int .i64 p.H) (.int .i64 p.d) (.slice (some ⟨gp,op,none⟩) p.P.length cp)
 tp:jv wr b A cap L at'
 Z:gg [b] w wr
theorem Qd(w:World)(b k at_ most l:Nat)(A:Option Addr)(L:List Int)(h:jv w b A k L at_)(hm0:1<=most)(hm1:most<=64)(hs0:1<=l)(hs1:l<=64):Calls prog 6 #[.pointer b,most,l] w (Hw w b k A L most):=by
 unfold Hw;have Z:=PI w b k at_ l A L h hs0 hs1;unfold zx gW at Z;have bz:=h.blk.lt;have ab:=h.cells;have⟨bl,aZ⟩:=gy Z ab;clear h Z ab;go_enter func6,ntmps6;go_wp2_with fail;refine bl.o.mono ?_;rintro e w1 ⟨p,R,U,xs,gs,a1,rfl,-,-,aF,bf,Y,a9⟩;have⟨X,hX⟩:=zX w1.heap.size;have⟨w2,aI⟩:=zX (w1.alloc (.cells #[p.W,p.H,p.d,.slice R p.P.length U] 46));have S:=H4 aI;have z:iF w2 X (.int .i64 p.W) (.int .i64 p.H) (.int .i64 p.d) (.slice R p.P.length U):=⟨RD aI hX⟩;have r:=aF.at_;have a7:w.heap.size<=X:=by have:=Y.size;omega
 have bc:∀x∈R::gs,w.heap.size<=x/\x≠X:=λx d=>⟨a9 x d,by have:=r.lt x d;omega⟩;have K:=mN w2 b k a1 3 A L (bf.fresh S) (by omega) (by omega);have⟨bk,bh,aP⟩:=Q9 (r.Y S) z bc;have bi:=gd (Y.tq (S.mono (F':=[b]) (by simp)));have⟨bo,HX,aS⟩:=Q9 aI hX a7;clear aF bf Y a9 hX aI S z r bc a7;go_wp2_with fail;rw[<-bo.o,<-HX.o];refine K.mono ?_;rintro e w3 ⟨t0,a3,rfl,be,h3,a2⟩;have bb:=mN w3 b k a3 most A L h3 hm0 (by omega);have⟨bj,bn⟩:=gy a2 be;clear K h3 a2 be;go_wp2_with fail;refine bb.mono ?_;rintro e w4 ⟨n0,a4,rfl,bD,h4,a5⟩;have⟨n,hn⟩:=zX (n0+1);have en:(1:Int)+(n0:Int)=(n:Int):=by omega
 have bx:b<X:=by have:=aS.o;omega
 have T:=bj.o.tq a5;have N:BV w X b k A L w4 (.slice none 0 0) [] (t0:Int) p R 0 U a4 []:=by
  refine⟨⟨λi hi=>by simp at hi,λi hi=>by simp at hi,by omega,by have:=bn.o;simp;omega⟩,⟨[],[],⟨jy.nil _ _ _,rfl,by simp,λj hj=>by simp at hj,by simp,by simp,by simp⟩⟩,⟨_,_,_,bk.o.Z T (λx d f=>by have:=(aP.o x d).1;simp at f;omega),λx d=>⟨(aP.o x d).1,(aP.o x d).2,by simp⟩⟩,bh.o.Z T (by simp;omega),h4,bi.o.tq T⟩
 have aN:=gd N;clear bb h4 a5 T N hn;go_wp2_with fail
 try rw[en]
 go_loopg [8,9,10] n (λj v8 v9 v10 wr=>∃(ls:List iI) (t:Int) (p:qc) (D E cp O:Nat) (F:List Nat),v8=.int .i64 t/\v10=.int .i64 j/\ls.length+j=n/\gh (BV w X b k A L wr v9 ls t p D E cp O F))
 .exact⟨[],(t0:Int),p,R,0,U,a4,[],rfl,by first|rfl|rw[<-en],by simp,aN⟩
 obtain⟨ls,t,p,D,E,cp,O,F,rfl,rfl,bC,m⟩:=hrel;rcases gk with _|j
 .have t1:decide ((0:Int)<((0:Nat):Int))=false:=by simp
  have o:=m.o;obtain⟨vs,G,u⟩:=o.ex;obtain⟨W,c',rfl,a8,bd⟩:=u.done (by omega);have aL:gh (ls.length<=c'/\jY wr W ls (F++G)/\nF ls/\jv wr b A k L O/\gg [b] w wr/\∀x∈F++G,w.heap.size<=x):=gd ⟨a8,bd,o.tok.done (by omega) (by omega),o.tp,o.Z,λx d=>by
   rcases zP.1 d with h1|h1
   .exact(u.newF x h1).1
   .exact(u.new x h1).1⟩
  clear o u bd a8;go_wp2_with fail;refine bodyPost_ret (v:=.slice W ls.length c') (by simp[results,results6,go_sem]) rfl ?_;obtain⟨g0,g1,g2,g3,g4,g5⟩:=aL.o;exact⟨ls,W,c',O,F++G,rfl,g0,g1,g2,by omega,g3,g4,g5⟩
 .have t1:decide ((0:Int)<((j+1:Nat):Int))=true:=zB (by omega)
  have ej:(((j+1:Nat):Int))-1=(j:Int):=by omega
  obtain⟨V,ba⟩:∃V:Int,V=((j+1:Nat):Int):=⟨_,rfl⟩;rw[<-ba]at t1 ej⊢;obtain⟨bA,bB⟩:0<=V/\V<=64:=by omega
  have o:=m.o;obtain⟨vs,G,u⟩:=o.ex;obtain⟨x0,x1,x2,x3⟩:=o.box.cells;have bs:=o.tok.t0;have bu:t<=26000:=by have:=o.tok.t1;omega
  have ar:=u.own.Y ((zR [] wr).alloc (.cells (og ⟨t,p⟩ D E cp).toArray 48));have az:=gn.new wr 48 (og ⟨t,p⟩ D E cp).toArray;unfold og at ar az;have H:=gd u;clear o u ba
  go_wp2_with(at_builtin;refine vR rfl rfl Ia rfl (by decide) rfl ar [.int .i64 t,.int .i64 p.W,.int .i64 p.H,.int .i64 p.d,.slice (some ⟨D,E,none⟩) p.P.length cp] rfl rfl ?c1 ?c2 ?c3 ?c4 ?_)
  case c2=>exact⟨rfl,rfl,rfl,rfl,rfl⟩
  case c3=>omega
  case c4=>omega
  intro Q ax w9 aj aq;have s:∃(G9:List Nat) (aV:List (List Value)),qm w X w9 (.slice Q (ls.length+1) ax) [Q] (ls++[⟨t,p⟩]) aV G9:=by
   obtain⟨B,c,Gp,r,J⟩:=m.o.pic;exact⟨_,_,H.o.next ((zR [] wr).alloc _) ⟨t,p⟩ r J aj aq m.o.Z.size m.o.box.blk.lt⟩
  obtain⟨G9,aV,a6⟩:=s;have I:gg F wr w9:=(((zR [] wr).alloc _).mono (by simp)).tq aq.Z;have ap:=m.o.box.Z I (λf=>(H.o.newF X f).2 rfl);have aE:=m.o.tp.Y I (λf=>by have:=(H.o.newF b f).1;omega) (ib.fresh aZ.o (λx d=>(H.o.newF x d).1));have s:Calls prog 18 #[.pointer b,gW p D E cp] w9 (x9 w9 p b k A L):=by
   obtain⟨B,c,Gp,r,J⟩:=m.o.pic;exact Qc cp (r.Z I (λx d f=>(J x d).2.2 f)) b k O A L aE (λf=>by have:=(J b f).1;omega)
  unfold x9 gW at s;obtain⟨x0,x1,x2,x3⟩:=ap.cells;have aY:gh (gg [b] w w9):=gd (m.o.Z.trans I (λx d=>.inr (H.o.newF x d).1));have⟨aX,bm,bg⟩:=Q9 ap a6 s;clear aj aq a6 I ap aE s ar az;go_wp2_with fail;refine bg.o.mono ?_;rintro e aW ⟨q,C,P,ys,hs,bp,rfl,al,s,aG,an,aB⟩;have z:=aX.o.Z an (by simp;omega);obtain⟨y0,y1,y2,y3⟩:=z.cells;have⟨z0,z1,z2,z3⟩:=RJ z.blk 0 1 2 3;have⟨aR,aO,aJ,aQ⟩:=gu z al s aG;have⟨au,aM⟩:=gy an aB;clear z al s aG an aB x0 x1 x2 x3;go_wp2_with fail;have⟨w11,ah⟩:=zX ((((aW.setCell X (.int .i64 q.W)).setCell ⟨X,1,none⟩ (.int .i64 q.H)).setCell ⟨X,2,none⟩ (.int .i64 q.d)).setCell ⟨X,3,none⟩ (.slice C q.P.length P));have ay:iF w11 X (.int .i64 q.W) (.int .i64 q.H) (.int .i64 q.d) (.slice C q.P.length P):=⟨by
   rw[ah]
   have:=(((aR.o.blk.S 0 (.int .i64 q.W)).S 1 (.int .i64 q.H)).S 2 (.int .i64 q.d)).S 3 (.slice C q.P.length P)
   simpa using this⟩
  have ao:gg [X] aW w11:=by
   rw[ah];exact((((zR [X] aW).zs 0 _).zs 1 _).zs 2 _).zs 3 _
  have K:=mN w11 b k bp 400 A L (aQ.o.Y ao (by simp;omega) (ib.fresh aZ.o (λx d=>by simp at d;have:=aS.o;omega))) (by omega) (by omega);rw[<-ah];have⟨aK,am⟩:=gy ay ao;clear ah ay ao y0 y1 y2 y3 z0 z1 z2 z3;refine K.mono ?_;rintro e bv ⟨v,a0,rfl,hv,ak,M⟩;have N:BV w X b k A L bv (.slice Q (ls.length+1) ax) (ls++[⟨t,p⟩]) (t+1+(v:Int)) q C 0 P a0 [Q]:=by
   have y:=bm.o;have bw:=aX.o.blk.lt;have bq:b≠X:=(by omega);have ad:∀x∈C::hs,w9.heap.size<=x:=aM.o;have bE:=aY.o.size;have br:=y.own.lt;obtain⟨B,c,Gp,r,J⟩:=m.o.pic;refine⟨m.o.tok.snoc r.ok aJ.o (by omega) (by omega) (by omega),⟨aV,G9,((y.Z au.o ?_).Z am.o ?_).Z M ?_⟩,⟨_,_,C::hs,(aO.o.at_.Z am.o ?_).Z M ?_,λx d=>⟨?_,?_,?_⟩⟩,aK.o.Z M ?_,ak,((aY.o.tq au.o).trans am.o (λx d=>.inr ?_)).tq M⟩
   .intro x d
    simp at d;subst d;exact⟨λf=>by have:=(y.newF _ f).1;omega,λf=>by have:=(y.new _ f).1;omega⟩
   .intro x d
    simp at d;subst d;exact⟨λf=>(y.newF _ f).2 rfl,λf=>(y.new _ f).2.1 rfl⟩
   .intro x d
    simp at d;subst d;exact⟨λf=>by have:=(y.newF _ f).1;omega,λf=>by have:=(y.new _ f).1;omega⟩
   .intro x d f
    have:=ad x d
    simp at f;omega
   .intro x d f
    have:=ad x d
    simp at f;omega
   .have:=ad x d
    omega
   .have:=ad x d
    omega
   .intro f
    have:=ad x d
    have:=br x f
    omega
   .simp
    omega
   .simp at d
    have:=aS.o
    omega
  have av:=gd N;have bF:v<400:=hv;clear K ak M N hv;go_wp2_with fail
  go_roundg j
  .refine⟨ls++[⟨t,p⟩],t+1+(v:Int),q,C,0,P,a0,[Q],by go_num,by go_num,by rw[zC,length_singleton];omega,av⟩
  .omega
theorem Rj(cs:List iW):∀j,-1<=qU cs j/\qU cs j<j
 | 0=>by simp[qU]
 | j+1=>by
  have:=Rj cs j
  unfold qU;split
  .omega
  .omega
theorem Rr(cs:List iW):∀(j f:Nat),qU cs j=(f:Int)->(iN cs f).k=true/\∀i,f<i->i<j->(iN cs i).k=false
 | 0,f,h=>by simp[qU]at h
 | j+1,f,h=>by
  unfold qU at h;split at h
  .rename_i hk
   obtain rfl:j=f:=by omega
   exact⟨hk,λi b c=>by omega⟩
  .rename_i hk
   obtain⟨b,c⟩:=Rr cs j f h;refine⟨b,λi h3 h4=>?_⟩;rcases zZ i j with d|d
   .exact c i h3 d
   .obtain rfl:i=j:=by omega
    simpa using hk
theorem Rv{cs:List iW}(b:(iN cs 0).k=true)(j:Nat):0<=qU cs (j+1):=by
 induction j with
 | zero=>simp[qU,b]
 | succ j ih=>
  unfold qU;split
  .omega
  .exact ih
theorem Rq{cs b:List iW}(h:∀i,(iN b i).k=(iN cs i).k):∀j,qU b j=qU cs j
 | 0=>rfl
 | j+1=>by unfold qU;rw[h j,Rq h j]
def Rk(w:World)(s:iI)(e:Ending)(w':World):Prop:=
 ∃(gP oP cP:Nat) (B:Nat->Option Addr) (cc:Nat->Nat) (Gp:List Nat),e=.returned (.tuple #[.agg #[.int .i64 s.t,.int .i64 s.p.W,.int .i64 s.p.H,.int .i64 s.p.d,.slice (some ⟨gP,oP,none⟩) s.p.P.length cP],(0:Int)])/\ip w' s.p gP oP B cc Gp/\gg [] w w'/\∀x∈Gp,w.heap.size<=x
theorem RA{F:Func}{Q:Ending->World->Prop}{Y:World}{C:Nat}{t:TypeId}{l m n o p b c d e f:Value}(k:gn Y C t #[l,m,n,o,p])(h:∀X,gn X C t #[b,c,d,e,f]->gg [C] Y X->bodyPost prog F Q .ret a X):bodyPost prog F Q .ret a (((((Y.setCell C b).setCell ⟨C,1,none⟩ c).setCell ⟨C,2,none⟩ d).setCell ⟨C,3,none⟩ e).setCell ⟨C,4,none⟩ f):=by
 refine h _ ?_ ?_
 .have:=((((k.S 0 b).S 1 c).S 2 d).S 3 e).S 4 f
  simpa using this
 .exact(((((zR [C] Y).zs 0 _).zs 1 _).zs 2 _).zs 3 _).zs 4 _
def RB(ls:List iI)(w wr:World)(f q:Nat)(z0 z1 z2:Int)(z3:Value):Prop:=
 0<q->∃(g o cp:Nat) (B:Nat->Option Addr) (cc:Nat->Nat) (Gp:List Nat),(z0=((gV ls (f+q-1)).p.W:Int)/\z1=((gV ls (f+q-1)).p.H:Int)/\z2=((gV ls (f+q-1)).p.d:Int)/\z3=.slice (some ⟨g,o,none⟩) (gV ls (f+q-1)).p.P.length cp)/\ip wr (gV ls (f+q-1)).p g o B cc Gp/\∀x∈Gp,w.heap.size<=x
theorem Ry{w:World}{cs:List iW}{G:List Nat}(b:Nat)(h:lZ w A cs G)(y:cs.length<=b){ls:List iI}(d:cs.length=ls.length)(C:nF ls)(i f:Nat)(hi:i<cs.length)(hf:qU cs (i+1)=(f:Int))(l:∀j,f<=j->j<=i->(iN cs j).t=(gV ls j).t/\nH (gV ls (j-1)).p (gV ls j).p (iN cs j))(hp:iK w):Calls prog 15 #[.slice A cs.length b,i] w (Rk w (gV ls i)):=by
 unfold Rk;have bE:=C.n1;obtain⟨g,o,rfl,bC,-⟩:=h.ex (by omega);have W:∀j,j<cs.length->∃(A:Option Addr) (b:Nat),(iN cs j).ds.length<=b/\b<=9223372036854775807/\∀wz,gg [] w wz->IM wz (iN cs j) g (o+j*3) A b/\gz b8 wz A (iN cs j).ds:=λj hj=>h.stay hj;have aW:f<=i:=by have:=(Rj cs (i+1)).2;omega
 obtain⟨ba,bb⟩:=Rr cs (i+1) f hf;have az:=λwz (p:gg [] w wz)=>QQ b (h.Y p) i hi (by omega);rw[hf]at az;have be:=(l i aW (zQ _)).1;obtain⟨Ai,ci,-,-,u⟩:=W i hi;rw[be.symm];have⟨ti,ai⟩:=zX ((iN cs i).t);have aU:∀wz,gg [] w wz->wz.cell? ⟨g,o+i*3+1,none⟩=some (.int .i64 ti):=λwz p=>by rw[ai];exact(u wz p).1.2.1
 rw[<-ai];have⟨n,hn⟩:=zX cs.length;rw[<-hn]at W d hi y az⊢;rw[<-d]at bE;have⟨i1,bD⟩:=zX (i+1);have e0:(i:Int)+1=(i1:Int):=by omega
 have⟨m,hm⟩:=zX (i1-f);have bF:=λwz=>Rs (P:=prog) underlying30 (k:=3) (λw=>by rfl) g o n b f i1 (by omega) (by omega) y wz;rw[<-hm]at bF;have t1:=Ra i 0 (by omega);have t3:decide (n<=i)=false:=zA (by omega);have t4:=Ra f 0 (by omega);have e1:IntKind.i64.wrap (i1:Int)=(i1:Int):=IntWalk.i64_in _ (by omega);have⟨w1,am⟩:=zX (w.alloc (.cells #[(0:Int),(0:Int),(0:Int),(0:Int),.slice none 0 0] 48));have⟨X4,ap⟩:=zX w.heap.size;have⟨w2,au⟩:=zX (w1.alloc (.cells #[(0:Int),(0:Int),(0:Int),.slice none 0 0] 46));have⟨X7,aO⟩:=zX (X4+1);have aK:=H4 am;have a1:gg [] w w2:=by rw[au];exact aK.alloc _
 have r:gn w2 X4 48 #[(0:Int),(0:Int),(0:Int),(0:Int),.slice none 0 0]:=by rw[au,am,ap];exact(gn.new w _ _).alloc _
 have aS:iF w2 X7 (.int .i64 0) (.int .i64 0) (.int .i64 0) (.slice none 0 0):=⟨by rw[au,am,aO,ap];exact gn.new2 w _ _ _⟩;have bB:=az w1 aK;have⟨bo,aE,aG,aF⟩:=gu W l C d;have⟨HP,bk⟩:=gy hp aU;have U:gh (m+f=i+1):=gd (by omega);have⟨bl,HK,aY,bg⟩:=gu aW (And.intro ba bb) a1 r;have bi:=gd aS;have L:gh (w.heap.size<=X4/\X4<X7/\X7<w2.heap.size):=gd ⟨by omega,by omega,aS.blk.lt⟩;have⟨bp,bq,bv⟩:=Q9 am au ap;have bd:w1.heap.size=X7:=by rw[am,jt,aO,ap]
 have bn:=gd bd;clear h l C d bC W az be u ai aU hn hm bD am ap au aO aK a1 r aS hp bd aW ba bb;go_enter func15,ntmps15;go_wp2_with fail;rw[<-bp.o,<-bv.o];refine gB bB ?_;go_wp2_with fail;rw[<-bq.o,bn.o]
 go_loopg [9,10,11,33] m (λj v9 v10 v11 v33 wr=>∃(q:Nat) (Q R S:Int) (T:Value),v33=.int .i64 q/\q+j=m/\gh (iF wr X7 (.int .i64 Q) (.int .i64 R) (.int .i64 S) T)/\gh (RB ls w2 wr f q Q R S T)/\gh (gg [X7] w2 wr))
 .exact⟨0,0,0,0,_,rfl,by omega,bi,gd (λh=>by omega),gd (zR _ _)⟩
 obtain⟨q,Q,R,S,T,rfl,bJ,HB,a0,M⟩:=hrel;have N:gh (gg [] w wr):=gd (aY.o.trans M.o (λx hx=>.inr (by simp at hx;have:=L.o;omega)));rcases gk with _|j
 .obtain rfl:q=m:=by omega
  have t5:decide ((q:Int)<(q:Int))=false:=by simp
  obtain⟨g',o',cp,B,O,Gp,p,H,a9⟩:=a0.o (by have:=U.o;have:=bl.o;omega);have a2:f+q-1=i:=by have:=U.o;omega
  rw[a2]at p H;have⟨s,ag⟩:=zX (gV ls i);rw[<-ag]at p H;obtain⟨rfl,rfl,rfl,rfl⟩:=p;have aU:=bk.o wr N.o;have r:=bg.o.Z M.o (by simp;have:=L.o;omega);have⟨f0,f1,f2,f3,f4⟩:=RM r 0 1 2 3 4;have⟨r0,r1,r2,r3⟩:=my r;have r4:=r.X 4;simp at r0 r1 r2 r3 r4;obtain⟨y0,y1,y2,y3⟩:=HB.o.cells;have⟨aH,aD,aJ⟩:=Q9 (And.intro H a9) r ag;have b1:(0:Int)<=(i:Int):=by omega
  have b2:(i:Int)<(n:Int):=by omega
  clear H a9 a2 ag r;go_wp2_with fail;refine i9 7 (by kernel_rfl) (by kernel_rfl) ?_;simp only[take_succ_cons,take_zero,drop_succ_cons,drop_zero]
  repeat(go_big_quiet_step (fail))
  refine wpQuiet_nil ?_;intro _ bG;obtain⟨nq,rfl⟩:=bG;go_wp2_with fail;refine RA (aD.o.drewN nq) ?_;intro X hX bA;have⟨I,J,K,x3⟩:=my hX;have x4:=hX.X 4;simp at I J K x3 x4;refine bodyPost_ret (v:=.tuple #[.agg #[.int .i64 ti,.int .i64 s.p.W,.int .i64 s.p.H,.int .i64 s.p.d,.slice (some ⟨g',o',none⟩) s.p.P.length cp],(0:Int)]) (by simp[results,results15,go_sem,I,J,K,x3,x4]) rfl ?_;have aq:gg [X4] wr X:=((zR [X4] wr).drewN nq).tq bA;rw[<-aJ.o];refine⟨g',o',cp,B,O,Gp,rfl,aH.o.1.Z aq (λx hx hm=>by have:=aH.o.2 x hx;simp at hm;have:=L.o;omega),N.o.trans aq (λx hx=>.inr (by simp at hx;have:=L.o;omega)),λx hx=>by have:=aH.o.2 x hx;have:=aY.o.size;omega⟩
 .have hq:q<m:=by omega
  have aX:f+q<n:=by have:=U.o;omega
  have b1:(0:Int)<=(q:Int):=by omega
  have b2:(q:Int)<(m:Int):=by omega
  obtain⟨Aq,cq,aT,a7,u⟩:=bo.o (f+q) aX;rw[show o+(f+q)*3=o+f*3+q*3 by omega]at u;obtain⟨-,Z⟩:=aE.o (f+q) (by omega) (by have:=U.o;omega);obtain⟨⟨c0,c1,c2⟩,-⟩:=u wr N.o;have ah:=aG.o.ok (f+q) (by rw[<-aF.o];exact aX);have aQ:0<q->iY (gV ls (f+q-1)).p (gV ls (f+q)).p:=λh0=>(aG.o.al (f+q-1) (by rw[<-aF.o];omega)).sym.tr (aG.o.al (f+q) (by rw[<-aF.o];exact aX));have⟨s,ag⟩:=zX ((gV ls (f+q)).p);rw[<-ag]at Z ah aQ;have V:(iN cs (f+q)).k=false->0<q:=λhk=>by
   rcases eq_zero_or_pos q with h0|h0
   .rw[h0,Nat.add_zero,HK.o.1]at hk;cases hk
   .exact h0
  have⟨c,a8⟩:=zX (iN cs (f+q));rw[<-a8]at c0 c1 c2 Z aT u V;have⟨w5,av⟩:=zX (wr.alloc (.cells #[.bool c.k,c.t,.slice Aq c.ds.length cq] 43));have⟨X5,ax⟩:=zX wr.heap.size;have E:=H4 av;have a4:=RD av ax;have aR:=HB.o.Y E;obtain⟨y0,y1,y2,y3⟩:=aR.cells;obtain⟨I,J,K⟩:=yr a4;have bc:c.k=false->∃(g o cp:Nat) (B:Nat->Option Addr) (O:Nat->Nat) (G:List Nat),(Q=((gV ls (f+q-1)).p.W:Int)/\R=((gV ls (f+q-1)).p.H:Int)/\S=((gV ls (f+q-1)).p.d:Int)/\T=.slice (some ⟨g,o,none⟩) (gV ls (f+q-1)).p.P.length cp)/\ip w5 (gV ls (f+q-1)).p g o B O G/\iY (gV ls (f+q-1)).p s:=λhk=>by
   obtain⟨g',o',cp,B,O,Gp,p,H,-⟩:=a0.o (V hk);exact⟨g',o',cp,B,O,Gp,p,H.Y E,aQ (V hk)⟩
  have aV:=QW (w:=w5) (prev:=(gV ls (f+q-1)).p) (s:=s) (c:=c) ah Z ((u w5 (N.o.tq E)).2) aT a7 (HP.o.Y (N.o.tq E)) Q R S T bc;unfold lA gW at aV;have a3:X7<wr.heap.size:=Nat.lt_of_lt_of_le L.o.2.2 M.o.size;have⟨br,bI,aZ,aJ⟩:=gu av ax E ag;have⟨bw,bh⟩:=gy a3 aR;rw[av]at y0 y1 y2 y3 I J K;rw[ax]at I J K;clear av ax E ag a3 bc V aQ ah Z u a4 aR a8 aT a7;have⟨wo,bH⟩:=zX wr;subst bH;go_wp2_with fail;rw[<-br.o];refine aV.mono ?_;rintro e w7 ⟨z,D,ys,hs,rfl,ho,aL,ad⟩;have⟨w8,aw⟩:=zX (w7.alloc (.cells #[s.W,s.H,s.d,.slice z s.P.length D] 46));have⟨X8,aP⟩:=zX w7.heap.size;have aM:=H4 aw;have a5:iF w8 X8 (.int .i64 s.W) (.int .i64 s.H) (.int .i64 s.d) (.slice z s.P.length D):=⟨RD aw aP⟩;have af:gg [] w5 w8:=aL.tq aM;have Y:=bh.o.Y af;have⟨f0,f1,f2,f3⟩:=RJ Y.blk 0 1 2 3;obtain⟨u0,u1,u2,u3⟩:=a5.cells;obtain⟨y0,y1,y2,y3⟩:=Y.cells;have bx:w5.heap.size<=w7.heap.size:=aL.size;have bz:wo.heap.size<=w5.heap.size:=aZ.o.size;have⟨w9,aC⟩:=zX ((((w8.setCell X7 (.int .i64 s.W)).setCell ⟨X7,1,none⟩ (.int .i64 s.H)).setCell ⟨X7,2,none⟩ (.int .i64 s.d)).setCell ⟨X7,3,none⟩ (.slice z s.P.length D));have a6:iF w9 X7 (.int .i64 s.W) (.int .i64 s.H) (.int .i64 s.d) (.slice z s.P.length D):=⟨by
   rw[aC]
   have:=(((Y.blk.S 0 (.int .i64 s.W)).S 1 (.int .i64 s.H)).S 2 (.int .i64 s.d)).S 3 (.slice z s.P.length D)
   simpa using this⟩
  have aN:gg [X7] w8 w9:=by
   rw[aC];exact((((zR [X7] w8).zs 0 _).zs 1 _).zs 2 _).zs 3 _
  have ar:=(ho.Y aM).at_.Z aN (λx hx hm=>by have:=ad x hx;simp at hm;have:=bw.o;omega);have⟨bf,aI⟩:=gy a6 ar;have bj:gh (gg [X7] w2 w9):=gd ((M.o.tq ((aZ.o.tq af).mono (F':=[X7]) (by simp))).tq aN);have bm:gh (∀x∈z::hs,w2.heap.size<=x):=gd (λx hx=>by have:=ad x hx;have:=M.o.size;omega);have⟨bs,bu⟩:=gy aw aC;rw[aw]at f0 f1 f2 f3 u0 u1 u2 u3 y0 y1 y2 y3;rw[aP]at u0 u1 u2 u3;clear aw aP aM a5 af Y bx bz aC a6 aN ar aV ho aL ad c0 c1 c2 I J K;go_wp2_with fail;rw[<-bs.o,<-bu.o]
  go_roundg j
  .refine⟨q+1,_,_,_,_,by go_num,by omega,bf,gd (λ_=>?_),bj⟩
   rw[show f+(q+1)-1=f+q by omega,<-aJ.o];exact⟨z,0,D,_,_,_,⟨rfl,rfl,rfl,rfl⟩,aI.o,bm.o⟩
  .omega
theorem Rt{cs:List iW}{c:iW}(b:j<cs.length):iN (cs.set j c) i=if i=j then c else iN cs i:=by
 unfold iN;rw[zD,zD,getElem?_set];by_cases h:j=i
 .subst h;simp[b]
 .rw[if_neg h,if_neg (Ne.symm h)]
def Rf(cs cs':List iW)(j:Nat):Prop:=cs'.length=cs.length/\∀i,(iN cs' i).k=(iN cs i).k/\(iN cs' i).t=(iN cs i).t/\(j<=i->(iN cs' i).ds=(iN cs i).ds)
theorem Rf.start(cs:List iW):Rf cs cs 0:=⟨rfl,λi=>⟨rfl,rfl,λ_=>rfl⟩⟩
theorem Rf.next{cs b:List iW}(h:Rf cs b j)(k:j<cs.length):Rf cs (b.set j ⟨(iN b j).k,(iN b j).t,[]⟩) (j+1):=by
 refine⟨by rw[length_set,h.1],λi=>?_⟩;rw[Rt (by rw[h.1];exact k)];obtain⟨c,d,f⟩:=h.2 i;by_cases e:i=j
 .subst e;rw[if_pos rfl];exact⟨c,d,λh9=>by omega⟩
 .rw[if_neg e];exact⟨c,d,λh9=>f (by omega)⟩
structure Re (w:World) (g:Nat) (cs:List iW) (G:List Nat):Prop where
 cur:∃cs,gn w g 43 cs
 cel:∀i,i<cs.length->∃(A:Option Addr) (cap:Nat),w.cell? ⟨g,i*3,none⟩=some (.bool (iN cs i).k)/\w.cell? ⟨g,i*3+1,none⟩=some (.int .i64 (iN cs i).t)/\w.cell? ⟨g,i*3+2,none⟩=some (.slice A (iN cs i).ds.length cap)/\gz b8 w A (iN cs i).ds/\(iN cs i).ds.length<=cap/\cap<=9223372036854775807/\∀ad,A=some ad->ad.block∈G
 new:g∉G
 lt:∀x∈G,x<w.heap.size
section
variable {w w':World} {g:Nat} {cs:List iW} {G F:List Nat}
theorem Re.cels(h:Re w g cs G):lZ w (some ⟨g,0,none⟩) cs (g::G) where
 ex:=λ_=>⟨g,0,rfl,by simp,λi hi=>by
  obtain⟨A,b,d,c,f,k,l,m,n⟩:=h.cel i hi
  rw[Nat.zero_add]
  exact⟨A,b,d,c,f,k,l,m,λad e=>mem_cons_of_mem _ (n ad e)⟩⟩
 lt:=λx hx=>by
  obtain⟨p,o⟩:=h.cur
  rcases zJ.1 hx with rfl|c
  .exact o.lt
  .exact h.lt x c
theorem Re.Y(h:Re w g cs G)(b:gg [] w w'):Re w' g cs G where
 cur:=by obtain⟨d,c⟩:=h.cur;exact⟨d,c.Z b (by simp)⟩
 cel:=λi hi=>by
  obtain⟨d,c⟩:=h.cur
  obtain⟨A,f,l,m,n,o,p,q,r⟩:=h.cel i hi
  have e:∀k,w'.cell? ⟨g,k,none⟩=w.cell? ⟨g,k,none⟩:=λk=>World.cell?_of_block (w:=w) (b.block g c.lt (by simp))
  exact⟨A,f,(e _).trans l,(e _).trans m,(e _).trans n,o.Y b,p,q,r⟩
 new:=h.new
 lt:=λx hx=>Nat.lt_of_lt_of_le (h.lt x hx) b.size
theorem Re.cut(h:Re w g cs G)(z:j<cs.length):Re (w.setCell ⟨g,j*3+2,none⟩ (.slice none 0 0)) g (cs.set j ⟨(iN cs j).k,(iN cs j).t,[]⟩) G where
 cur:=by obtain⟨q,b⟩:=h.cur;exact⟨_,b.S _ _⟩
 cel:=λi hi=>by
  rw[length_set]at hi
  obtain⟨q,b⟩:=h.cur
  have m:=b.S (j*3+2) (.slice none 0 0)
  have e:∀k,k≠j*3+2->(w.setCell ⟨g,j*3+2,none⟩ (.slice none 0 0)).cell? ⟨g,k,none⟩=w.cell? ⟨g,k,none⟩:=λk hk=>by
   rw[m.X,b.X,Array.getElem?_setIfInBounds_ne (Ne.symm hk)]
  obtain⟨A,n,d,f,r,s,u,y,l⟩:=h.cel i hi
  have o:gg [g] w (w.setCell ⟨g,j*3+2,none⟩ (.slice none 0 0)):=(zR [g] w).zs (j*3+2) _
  rw[Rt z]
  by_cases hij:i=j
  .subst hij
   rw[if_pos rfl]
   obtain⟨C,D,-,-,c,-⟩:=h.cel i hi
   refine⟨none,0,(e _ (by omega)).trans d,(e _ (by omega)).trans f,?_,⟨λh9=>by simp at h9⟩,zQ _,by decide,λad h9=>by cases h9⟩
   rw[m.X]
   rw[b.X]at c
   have p:=(Array.getElem?_eq_some_iff.1 c).1
   simp[p]
  .rw[if_neg hij]
   refine⟨A,n,(e _ (by omega)).trans d,(e _ (by omega)).trans f,(e _ (by omega)).trans r,s.Z o (λad h9 hm=>?_),u,y,l⟩
   simp at hm
   exact h.new (hm ▸ l ad h9)
 new:=h.new
 lt:=λx hx=>by
  have:=((zR [g] w).zs (j*3+2) (.slice none 0 0)).size
  exact Nat.lt_of_lt_of_le (h.lt x hx) this
theorem lZ.one(h:lZ w (some ⟨g,0,none⟩) cs G)(m:j<cs.length*3):∃u,w.cell? ⟨g,j,none⟩=some u/\u.oneCell'=true:=by
 obtain⟨l,n,e,-,f⟩:=h.ex (by omega);injection e with e;injection e with e1 e2;subst e1 e2;obtain⟨A,k,b,c,d,-⟩:=f (j / 3) (by omega);rw[Nat.zero_add]at b c d;rcases(by omega:j=j / 3*3\/j=j / 3*3+1\/j=j / 3*3+2)with e|e|e
 .rw[<-e]at b;exact⟨_,b,rfl⟩
 .rw[<-e]at c;exact⟨_,c,rfl⟩
 .rw[<-e]at d;exact⟨_,d,rfl⟩
end
theorem Ru{w:World}{ops:Array Oper}{rest:List Oper}{o:Oper}{Q:Exit->Act->World->Prop}(E:o.guard=none){s x:Operand}(ho:o.op=.call { callee:=.builtin .append,args:=#[s,x],argTypes:=#[30,30] }){X:Nat}(hX:gn w X 43 #[]){g:Nat}{cs:List iW}{G:List Nat}(h:lZ w (some ⟨g,0,none⟩) cs G)(n:Nat)(H:cs.length=n)(I:0<n)(hn1:n<=64){c:Nat}(hs:a.eval s=.slice X 0 0)(J:a.eval x=.slice g n c)(z:X∉G)(k:∀g' l w',Re w' g' cs G->n<=l->gg [X] w w'->(g'=X\/w.heap.size<=g')->wpList prog ops Q rest (a.put o.dst (.slice (some ⟨g',0,none⟩) n l)) w'):wpList prog ops Q (o::rest) a w:=by
 have⟨news,ac⟩:=zX ((range (n*3)).map λj=>(w.cell? ⟨g,j,none⟩).getD (.bool false));have K:∀j u,news[j]?=some u->w.cell? ⟨g,j,none⟩=some u/\u.oneCell'=true:=λj u d=>by
  rw[ac,zW]at d;have N:j<n*3:=by
   rcases zZ j (n*3)with m|m
   .exact m
   .rw[getElem?_eq_none (by simpa using m)]at d;cases d
  obtain⟨u',m,p⟩:=h.one (j:=j) (by rw[H];exact N);rw[getElem?_range N]at d;simp only[Option.map_some,m,Option.getD_some,Option.some.injEq]at d;subst d;exact⟨m,p⟩
 have S:∀j,j<n*3->news[j]?=w.cell? ⟨g,j,none⟩:=λj d=>by
  obtain⟨u',m,p⟩:=h.one (j:=j) (by rw[H];exact d);rw[ac,zW,getElem?_range d];simp[m]
 have T:w.ownsRow 0 43 3 (.slice X 0 0) 0 []:=⟨by simp,.inr ⟨X,0,#[],rfl,zero_le _,hX,zQ _,by decide,by simp,by simp⟩⟩;have P:∀j,(⟨g,0,none⟩:Addr).add j=⟨g,j,none⟩:=λj=>by
  unfold Addr.add;split
  .rename_i C;rw[C]
  .simp
 refine tP E ho Iu rfl (by decide) hs T J (news:=news) (by rw[ac];simp) I (λj u d=>by rw[P];exact(K j u d).1) (λu hu=>by obtain⟨j,d⟩:=List.mem_iff_getElem?.1 hu;exact(K j u d).2) (by omega) (by omega) ?_;intro g' l w' p r y;rw[Nat.zero_add]at p⊢;have r:gg [X] w w':=r;have ay:jy w' 43 3 (.slice (some ⟨g',0,none⟩) n l) [g'] n news:=⟨p,rfl⟩;have M:g'=X\/w.heap.size<=g':=by
  rcases y with y|y
  .left;injection y
  .exact .inr y
 obtain⟨A,am,e,Z,-,av,az⟩:=ay.open_;injection e with e1 e2 e3;subst e1 e3;obtain⟨b,oo,e,hb,O⟩:=av.ex (by rw[ac];simp;omega);injection e with e;injection e with e1 e2;subst e1 e2;have D:∀j,j<n*3->w'.cell? ⟨g',j,none⟩=w.cell? ⟨g,j,none⟩:=λj d=>by
  obtain⟨u,q,-⟩:=h.one (j:=j) (by rw[H];exact d);have f:=O j u (by rw[S j d];exact q);rw[Nat.zero_add]at f;rw[f,q]
 have R:∃cs,gn w' g' 43 cs:=by
  obtain⟨-,q⟩:=p;rcases q with⟨f,-⟩|⟨g6,an,U,f,-,h7,-⟩
  .cases f
  .injection f with f
   injection f with f;injection f with f;subst f;exact⟨U,h7⟩
 have aw:g'∉G:=λhm=>by
  rcases M with q|q
  .exact z (q ▸ hm)
  .have:=h.lt _ hm;omega
 refine k g' l w' ⟨R,λi hi=>?_,aw,λx J=>Nat.lt_of_lt_of_le (h.lt x J) r.size⟩ Z r M;obtain⟨g9,o9,e,-,ax⟩:=h.ex (by omega);injection e with e;injection e with e1 e2;subst e1 e2;obtain⟨A,cp,C,m,p,V,W,Y,L⟩:=ax i hi;rw[Nat.zero_add]at C m p;refine⟨A,cp,(D _ (by omega)).trans C,(D _ (by omega)).trans m,(D _ (by omega)).trans p,V.Z r (λad ea hm=>?_),W,Y,L⟩;simp at hm;exact z (hm ▸ L ad ea)
theorem Rf.eq{cs k:List iW}(h:Rf cs k j)(p:j<=i):iN k i=iN cs i:=by
 obtain⟨l,m,o⟩:=h.2 i;have n:=o p;generalize iN k i=x at *;generalize iN cs i=y at *;obtain⟨a,b,c⟩:=x;obtain⟨d,e,f⟩:=y;simp only at l m n;subst l m n;rfl
theorem Ic.of{l:List iI}{b:Nat}{cs:List iW}(h:Ic l b cs):yh cs l:=⟨h.len,h.key,h.cel⟩
theorem vA.of{l:List iI}{ks:List Bool}{cs:List iW}(h:vA l ks cs)(c:0<l.length)(b:ks.getD 0 false=true):yh cs l:=⟨h.1,by rw[(h.2 0 c).1];exact b,λi hi=>(h.2 i hi).2⟩
theorem Rz{ls:List iI}(h:i<ls.length):(ls.drop i).take 1=[gV ls i]:=by
 rw[drop_eq_getElem_cons h,take_succ_cons,take_zero];unfold gV;rw[zD,zF h];rfl
theorem RC{w:World}{X:Nat}{s:iI}{c d e:Nat}{f:Nat->Nat}(b:gn w X 48 #[s.t,s.p.W,s.p.H,s.p.d,.slice (some ⟨c,d,none⟩) s.p.P.length e])(h:ip w s.p c d B f Gp):jY w (some ⟨X,0,none⟩) [s] (X::Gp) where
 ex:=λ_=>⟨X,0,rfl,by simp,λi hi=>by
  obtain rfl:i=0:=by simpa using hi
  exact⟨c,d,e,B,f,Gp,b.X 0,b.X 1,b.X 2,b.X 3,b.X 4,h,λx hx=>mem_cons_of_mem _ hx⟩⟩
 lt:=λx hx=>by
  rcases zJ.1 hx with rfl|k
  .exact b.lt
  .exact h.lt x k
theorem Rw{w:World}{B:Option Addr}{s:iI}{G d:List Nat}(f:jY w A [s] G)(h:jY w B [s] d)(b c:Nat):Calls prog 11 #[.slice A 1 b,.slice B 1 c] w λe w'=>e=.returned (.bool true)/\gg [] w w':=B7 (l:=[s]) b c f h (by simp)
theorem Rx(w:World)(A:Option Addr)(l:Nat)(L:List Int)(hc:gz vi w A L)(O:∀x∈L,mw x)(o:L.length<=9223372036854775807)(D:Int)(Q:mw D)(hp:iK w):Calls prog 4 #[.slice A L.length l,D] w λe w'=>e=.returned (.bool true)/\gg [] w w':=by
 have az:=OK w A l L hc O o;have bo:=λw=>EQ D 1 64 w Q (by omega) (by omega) (by omega);have aD:=EP D (show(1:Int)<=64 by omega);obtain⟨ev,bQ⟩:∃ev:Nat,(ev:Int)=pV D 1 64:=⟨(pV D 1 64).toNat,Int.toNat_of_nonneg (by omega)⟩;rw[<-bQ]at bo aD;have cN:1<=ev:=by omega
 have cO:ev<=64:=by omega
 have⟨HP,cB⟩:=gy hp bo;clear hc O o hp Q bQ aD bo;go_enter func4,ntmps4;go_wp2_with fail;refine az.mono ?_;rintro e w1 ⟨b,rfl,bl,bz,m⟩;have bZ:=Qd w1 b l 0 6 14 A L bl (by omega) (by omega) (by omega) (by omega);have cM:=bl.blk.lt;clear az bl;go_wp2_with fail;refine bZ.mono ?_;rintro e w2 ⟨ls,A2,c2,cH,G2,rfl,bM,Y,E,cR,aC,bA,bD⟩;have bg:=E.n0;have V:=E.n1;have⟨n,hn⟩:=zX ls.length;rw[<-hn]at cR bg V bM;obtain⟨gL,oL,rfl,cW,-⟩:=Y.ex (by omega);have aZ:gg [] w w2:=bz.trans bA λx hx=>.inr (by simp at hx;omega);have bI:∀x∈G2,x∉[b]:=λx hx hm=>by have:=bD x hx;simp at hm;omega
 have bK:w.heap.size<=b:=m;have a9:=QC c2 Y E ev cN cO (HP.o.Y aZ);rw[<-hn]at a9⊢;have b5:=cB.o w2;have⟨aM,aG,HN,cd⟩:=gu Y E hn aZ;have⟨b9,ao⟩:=gy bI aC;have cb:gh (w.heap.size<=b):=gd bK;clear bZ aC Y E hn aZ bD bA bz bI bK m cM;go_wp2_with fail;refine gB b5 ?_;go_wp2_with fail;refine a9.mono ?_;rintro e w3 ⟨ca,gA,GA,rfl,aw,ay,aU,bE⟩;have bW:=Qg w3 b l cH n A L (ao.o.fresh aU) bg V;have⟨aP,an,bp,cq⟩:=gu aw ay aU bE;clear a9 b5 aw ay aU bE;go_wp2_with fail;refine bW.mono ?_;rintro e w4 ⟨ks,gK,cK,cT,rfl,bf,be,aB,bm,U,cQ⟩;have a0:gg [] w w4:=(cd.o.tq bp.o).trans U λx hx=>.inr (by simp at hx;have:=cb.o;omega);have bi:=(aM.o.Y bp.o).Z U b9.o;have av:=aP.o.Z U (λx hx hm=>by
  have y:=cq.o x hx;have Z:=ao.o.blk.lt;simp at hm;omega)
 have a4:=Q1 (capK:=cK) c2 bi aG.o aB.R.cells (by rw[bf,HN.o]) be (HP.o.Y a0);rw[bf,<-HN.o]at a4;have⟨bw,aO,ce,ct⟩:=gu bi av a0 be;clear bW bf aB bm U cQ a0 bi av be;go_wp2_with fail;refine a4.mono ?_;rintro e w5 ⟨cs,gC,G5,rfl,ah,ad,J,cJ⟩;have bG:ca.length=n:=by rw[an.o.len,HN.o]
 have C:cs.length=n:=by rw[ad.1,HN.o]
 have bh:=ad.of (by rw[<-HN.o];exact bg) ct.o;have M:gg [] w w5:=ce.o.tq J;have a6:=λc (d:gg [] w5 c)=>B5 n (aO.o.Y (J.tq d)) aG.o an.o.of (HP.o.Y (M.tq d));have a7:=λc (d:gg [] w5 c)=>B5 n (ah.Y d) aG.o bh (HP.o.Y (M.tq d));rw[bG]at a6;rw[C]at a7;have bk:=λc (d:gg [] w5 c) gS G' (hg:jY c (some ⟨gS,0,none⟩) ls G')=>B7 n c2 hg (bw.o.Y (J.tq d)) (by rw[<-HN.o];exact V);rw[<-HN.o]at bk;have bV:=λc (d:gg [] w5 c)=>QL c (HP.o.Y (M.tq d));have bY:=bw.o.Y J;have⟨co,bx,cv,bq⟩:=gu a7 bk bV M;have⟨am,aN,af,cw⟩:=gu ah ad C bh;have cy:=gd bY;have bO:=a6 w5 (zR _ _);clear a4 ah ad J cJ bG C bh M a6 a7 bk bV bY;go_wp2_with fail;refine bO.mono ?_;rintro e w6 ⟨gX,GX,rfl,b6,aV,-⟩;have bP:=co.o w6 aV;have⟨cC,cf⟩:=gy b6 aV;clear bO b6 aV;go_wp2_with fail;refine bP.mono ?_;rintro e w7 ⟨gY,GY,rfl,b7,aW,-⟩;have a1:gg [] w5 w7:=cf.o.tq aW;have b3:=bx.o w7 a1 gX GX (cC.o.Y aW);have⟨cG,cg⟩:=gy b7 a1;clear bP b7 aW a1;go_wp2_with fail;refine b3.mono ?_;rintro e w8 ⟨rfl,aX⟩;have a2:gg [] w5 w8:=cg.o.tq aX;have b4:=bx.o w8 a2 gY GY (cG.o.Y aX);have ch:=gd a2;clear b3 aX a2;go_wp2_with fail;refine b4.mono ?_;rintro e w9 ⟨rfl,bB⟩;have ci:gh (gg [] w5 w9):=gd (ch.o.tq bB);clear b4 bB;go_wp2_with fail
 go_loopg [15,16,17,18,19] n (λk v15 v16 v17 v18 v19 wr=>∃i:Nat,v15=.int .i64 i/\i+k=n/\gh (gg [] w5 wr))
 .exact⟨0,rfl,by omega,ci⟩
 obtain⟨i,rfl,cX,R⟩:=hrel;rcases gk with _|k
 .obtain rfl:i=n:=by omega
  have t1:decide ((i:Int)<(i:Int))=false:=by simp
  have hk:=cv.o wr R.o;go_wp2_with fail;refine hk.mono ?_;rintro e wE ⟨rfl,cI⟩;go_wp2_with fail;go_ret;exact⟨rfl,bq.o.tq (R.o.tq cI)⟩
 .have hi:i<n:=by omega
  have⟨f0,ba⟩:=zX (qU cs (i+1));have bR:=(Rj cs (i+1)).2;have bb:=Rv cw.o.key i;rw[<-ba]at bR bb;obtain⟨f,hf⟩:∃f:Nat,(f:Int)=f0:=⟨f0.toNat,Int.toNat_of_nonneg bb⟩;subst hf;have cV:f<=i:=by omega
  have a5:=am.o.Y R.o;have⟨wo,aL⟩:=zX (wr.alloc (.cells #[] 43));have⟨X,hX⟩:=zX wr.heap.size;have aj:=H4 aL;have bJ:=RD aL hX;have bF:X∉G5:=λhm=>by have:=a5.lt X hm;omega
  have ax:=a5.Y aj;have C:=af.o;have⟨wR,cS⟩:=zX wr;subst cS;have⟨bv,aS,HX,cn⟩:=gu ba aL hX aj;have cF:=gd bF;clear ba bR bb a5 aL hX aj bF
  go_wp2_with(at_builtin;refine Ru rfl rfl (X:=X) ?c1 ?c2 n C ?c3 ?c4 ?c5 rfl cF.o ?_)
  case c1=>rw[<-aS.o];exact bJ
  case c2=>rw[<-aS.o];exact ax
  case c3=>omega
  case c4=>omega
  case c5=>rw[HX.o];rfl
  intro g' aT wA hcut ae ai bS;rw[<-aS.o]at ai;have bL:gg [] wR wA:=cn.o.trans ai (λx hx=>.inr (by simp at hx;have:=HX.o;omega));have bT:wR.heap.size<=g':=by
   rcases bS with y|y
   .rw[y,HX.o];exact zQ _
   .omega
  have⟨aR,al,ck,cr⟩:=gu hcut ae bL bT;clear hcut ae ai bS bJ ax C bL bT;go_wp2_with fail
  go_loopg [17] f (λj2 v17 wr=>∃(j:Nat) (K:List iW),v17=.int .i64 j/\j+j2=f/\gh (Rf cs K j)/\gh (Re wr g' K G5)/\gh (gg [g'] wA wr))
  .exact⟨0,cs,rfl,by omega,gd (Rf.start cs),aR,gd (zR _ _)⟩
  obtain⟨j,K,rfl,cY,H,T,bs⟩:=hrel;have ag:gh (gg [] w5 wr):=gd (R.o.tq (ck.o.trans bs.o (λx hx=>.inr (by simp at hx;have:=cr.o;omega))));have bc:=QQ n (am.o.Y ag.o) i (by rw[af.o];exact hi) (by rw[af.o];exact V);rw[af.o,<-bv.o]at bc;rcases gk with _|j2
  .obtain rfl:j=f:=by omega
   have t2:decide ((j:Int)<(j:Int))=false:=(by simp);have I:K.length=n:=(by rw[H.o.1,af.o]);have⟨s,bj⟩:=zX (gV ls i);have W:=Ry aT T.o.cels (by rw[I];exact al.o) (by rw[I,HN.o]) aG.o i j (by rw[I];exact hi) (by rw[Rq (λi=>(H.o.2 i).1),<-bv.o]) (λq y Z=>by
    rw[H.o.eq y];exact(aN.o.2 q (by rw[<-HN.o];omega)).2) (HP.o.Y (bq.o.tq ag.o))
   rw[I,<-bj]at W;unfold Rk at W;have a8:=Rz (ls:=ls) (i:=i) (by rw[<-HN.o];exact hi);rw[<-bj]at a8;have cp:=gd a8;clear I bj a8;have⟨wB,bn⟩:=zX wr;subst bn;go_wp2_with fail;refine bc.mono ?_;rintro e wq ⟨rfl,rfl⟩;go_wp2_with fail;refine W.mono ?_;rintro e wC ⟨u,z,r,B,cc,Gp,rfl,bX,bC,cL⟩;have⟨wD,aK⟩:=zX (wC.alloc (.cells #[s.t,s.p.W,s.p.H,s.p.d,.slice (some ⟨u,z,none⟩) s.p.P.length r] 48));have⟨XD,a3⟩:=zX wC.heap.size;have aY:=H4 aK;have bH:=RD aK a3;have bu:gh (∀c,gg [] wD c->c.cell? XD=some (.int .i64 s.t)/\c.cell? ⟨XD,1,none⟩=some (.int .i64 s.p.W)/\c.cell? ⟨XD,2,none⟩=some (.int .i64 s.p.H)/\c.cell? ⟨XD,3,none⟩=some (.int .i64 s.p.d)/\c.cell? ⟨XD,4,none⟩=some (.slice (some ⟨u,z,none⟩) s.p.P.length r)):=gd λc d=>by
    have m:=bH.Z d (by simp);exact⟨m.X 0,m.X 1,m.X 2,m.X 3,m.X 4⟩
   have br:gh (gg [] w5 wD):=gd (ag.o.tq (bC.tq aY));have cx:=gd (bX.Y aY);have b0:∀c:World,_:=λc=>Rs (P:=prog) underlying25 (k:=5) (λw=>by rfl) gL oL n c2 i (i+1) (by omega) (by omega) bM c;rw[show i+1-i=1 by omega]at b0;have⟨i1,bU⟩:=zX (i+1);have e0:(i:Int)+1=(i1:Int):=(by omega);have e1:IntKind.i64.wrap (i1:Int)=(i1:Int):=IntWalk.i64_in _ (by omega);rw[<-bU]at b0;have cz:gh (∀c,gg [] wD c->Calls prog 11 #[.slice (some ⟨c.heap.size,0,none⟩) 1 1,.slice (some ⟨gL,oL+i*5,none⟩) 1 (c2-i)] (c.alloc (.cells #[s.t,s.p.W,s.p.H,s.p.d,.slice (some ⟨u,z,none⟩) s.p.P.length r] 48)) λe w'=>e=.returned (.bool true)/\gg [] (c.alloc (.cells #[s.t,s.p.W,s.p.H,s.p.d,.slice (some ⟨u,z,none⟩) s.p.P.length r] 48)) w'):=gd λc d=>by
    have d:=d.alloc (.cells #[s.t,s.p.W,s.p.H,s.p.d,.slice (some ⟨u,z,none⟩) s.p.P.length r] 48);have Z:=((cy.o.Y (br.o.tq d)).drop i).take 1;rw[cp.o]at Z;have y:jY (c.alloc (.cells #[s.t,s.p.W,s.p.H,s.p.d,.slice (some ⟨u,z,none⟩) s.p.P.length r] 48)) (some ⟨c.heap.size,0,none⟩) [s] (c.heap.size::Gp):=RC (gn.new c _ _) (cx.o.Y d);exact Rw y Z 1 (c2-i)
   have⟨cA,cD⟩:=gy aK a3;have D0:gg [] wD wD.drew:=(zR [] wD).drew;clear aK a3 bH bX bC aY cL W bU;go_wp2_with fail;rw[<-cA.o,<-cD.o];refine IP (S:=λw'=>gg [] wD w') 11 (by kernel_rfl) (by decide +kernel) D0 ?_
   iterate 4 (refine hU (v:=?_) (by decide +kernel) rfl (λ_ _ _ h=>h) (by rfl) (by assumption) ?_ ?_;rotate_left;(focus (intro c d;obtain⟨d0,d1,d2,d3,d4⟩:=bu.o c d;go_simp;try with_reducible rfl));try simp only[Act.put,getElem_toArray,List.getElem_cons_succ,List.getElem_cons_zero,setIfInBounds_toArray,set_cons_zero,set_cons_succ,Nat.reduceAdd])
   refine Rl 5 ?_
   iterate 5 (refine hU (v:=?_) (by decide +kernel) rfl (λ_ _ _ h=>h) (by rfl) (by assumption) ?_ ?_;rotate_left;(focus (intro c d;obtain⟨d0,d1,d2,d3,d4⟩:=bu.o c d;go_simp;try with_reducible rfl));try simp only[Act.put,getElem_toArray,List.getElem_cons_succ,List.getElem_cons_zero,setIfInBounds_toArray,set_cons_zero,set_cons_succ,Nat.reduceAdd])
   refine Rl 4 ?_;refine vG rfl (by decide) (by decide +kernel) ?_;intro K' N;go_simp;have D1:=D0.alloc (.cells #[s.t,s.p.W,s.p.H,s.p.d,.slice (some ⟨u,z,none⟩) s.p.P.length r] 48);refine Shut.out N _ _ D1 ?_;clear N K'
   try simp only[Act.put,getElem_toArray,List.getElem_cons_succ,List.getElem_cons_zero,setIfInBounds_toArray,set_cons_zero,set_cons_succ,Nat.reduceAdd]
   refine Rl 10 ?_;refine vG rfl (by decide) (by decide +kernel) ?_;intro K' N;go_simp
   go_at_call 11
   refine(cz.o _ D0).mono ?_;rintro e wE ⟨rfl,cE⟩;have D2:=D1.tq cE;refine Shut.out N _ _ D2 ?_;clear N K'
   try simp only[Act.put,getElem_toArray,List.getElem_cons_succ,List.getElem_cons_zero,setIfInBounds_toArray,set_cons_zero,set_cons_succ,Nat.reduceAdd]
   refine Q8 (by decide +kernel) ?_;simp only[drop_succ_cons,drop_zero,toList_toArray];go_wp2_with fail
   go_roundg k
   .exact⟨i+1,by go_num,by omega,gd (br.o.tq D2)⟩
   .omega
  .have hj:j<f:=by omega
   have bd:j<K.length:=(by rw[H.o.1,af.o];omega);obtain⟨Aj,cj,-,-,cU,-⟩:=T.o.cel j bd;obtain⟨cu,bN⟩:=T.o.cur;have f2:=bN.U (j*3+2);have b1:(0:Int)<=(j:Int):=(by omega);have b2:(j:Int)<(n:Int):=(by omega);have cm:=gd (T.o.cut bd);have aQ:gh (gg [g'] wA (wr.setCell ⟨g',j*3+2,none⟩ (.slice none 0 0))):=gd (bs.o.setCell (p:=⟨g',j*3+2,none⟩) (.inl (by simp)) _);have cl:=gd (H.o.next (by rw[af.o];omega));have⟨wB,bn⟩:=zX wr;subst bn;clear bd bN;go_wp2_with fail;refine gB bc ?_;go_wp2_with fail
   go_roundg j2
   .exact⟨j+1,_,by go_num,by omega,cl,cm,aQ⟩
   .omega
end Go.Proofs.YtifdlkoepaepiaaGreatDoor
