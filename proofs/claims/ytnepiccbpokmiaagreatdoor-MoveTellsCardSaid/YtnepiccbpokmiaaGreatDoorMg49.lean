/- Lemmas. -/
import Derived.Test.YtnepiccbpokmiaaGreatDoorMg46
import Derived.Test.YtnepiccbpokmiaaGreatDoorMg41
set_option linter.all false
set_option maxHeartbeats 4000000
set_option maxRecDepth 100000
namespace Go.Proofs.YtnepiccbpokmiaaGreatDoor
open Tryz List Nat Go.RowKit
theorem IQ{α:Type}{f:α->Value}{w:World}{A:Option Addr}{l:List α}{c lo:Nat}(e:gu f w A l)(h:lo<=l.length)(a:l.length<=c):gu f w (if c=lo then A else Option.map (λx=>x.add lo) A) (l.drop lo):=by
 have:=BZ (lo:=lo) (hi:=l.length) (m:=l.length-lo) e (by omega) (zQ _) a
 rwa [zT (by rw[zO];exact zQ _)]at this
theorem uq{α:Type}{f:α->Value}{w:World}{A:Option Addr}{l:List α}(h:gu f w A l):gu (λu=>u) w A (l.map f):=
 ⟨λh0=>by
  obtain⟨b,o,e,c,g⟩:=h.ex (by simpa using h0);refine⟨b,o,e,c,λi a ha=>?_⟩;rw[zW]at ha
  cases hx:l[i]? with
  | none=>rw[hx]at ha;cases ha
  | some x=>
   rw[hx]at ha;injection ha with ha;subst ha;exact g i x hx⟩
theorem gv.made0b(w:World)(o:Obj)(e:TypeId):gv ((w.alloc o).alloc (.cells #[] e)) e (.slice (some ⟨w.heap.size+1,0,none⟩) 0 0) (w.heap.size+1) []:=by
 have h:=gv.made (w.alloc o) e [] (by simp[maxLen]);rw[show(w.alloc o).heap.size=w.heap.size+1 from Array.size_push _]at h;exact h
theorem IL(w:World)(o:Obj)(t:TypeId)(cs:Array Value):gn ((w.alloc o).alloc (.cells cs t)).drew (w.heap.size+1) t cs:=by
 have h:=gn.new (w.alloc o) t cs;rw[show(w.alloc o).heap.size=w.heap.size+1 from Array.size_push _]at h;exact h.drew
theorem xG(l:List Int)(A:Option Addr)(cap:Nat)(w:World)(hl:l.length<=4096)(hc:gu vi w A l):Calls prog 111 #[.slice A l.length cap] w λe w'=>∃v F,e=.returned v/\gE w' 3 v F ((ig l).map vi)/\gf [] w w'/\∀x∈F,w.heap.size<=x:=by
 have⟨n,hn⟩:=zX l.length;rw[<-hn]at hl⊢;have HN:=gd hn;clear hn;go_enter func111,ntmps111;go_wp2_with fail
 go_loopg [3,4,5] n (λj vo iv v5 wr=>∃(i:Nat) (F:List Nat),iv=.int .i64 i/\i+j=n/\gE wr 3 vo F ((ig (l.take i)).map vi)/\(∀x∈F,w.heap.size<=x)/\gf [] w wr)
 .exact⟨0,[],rfl,by omega,by rw[take_zero,show ig []=[]from List.eq_nil_iff_forall_not_mem.2 λx E=>by have:=(ng [] x).1 E;cases this];exact gE.nil _ _,by simp,zR _ _⟩
 obtain⟨i,F,rfl,bs,ad,hF,aF⟩:=hrel;rcases gk with _|j
 .obtain rfl:i=n:=by omega
  have t1:decide (i<i)=false:=by simp
  rw[HN.o,zN]at ad;go_wp2;go_ret;exact⟨_,F,rfl,ad,aF,hF⟩
 .have hi:i<n:=by omega
  have aZ:i<l.length:=by rw[<-HN.o];exact hi
  have a2:=jd l aZ;have⟨x,a3⟩:=zX (l[i]);rw[<-a3]at a2;have aR:gh (∀h:i<l.length,l[i]=x):=gd λ_=>a3.symm;have⟨ap,aK⟩:=gy aZ (hc.Y aF);have N:=oy (l.take i);have aI:=λh=>Md (l:=l.take i) (x:=x) h;have S:=λh=>Kk (l:=l.take i) (x:=x) h;have al:=ng (l.take i);have aG:=CP (l.take i);rw[<-a2]at aI S;rw[zI]at aG;have⟨D,hD⟩:=zX (ig (l.take i));rw[<-hD]at ad N aI S al aG;have aj:=λq (a:q<D.length)=>yl N x a;have⟨p,hp⟩:=zX (D.countP (· < x));rw[<-hp]at aj S;have bb:p<=D.length:=by rw[hp];exact List.countP_le_length
  obtain⟨A3,c3,rfl,u,bu,a7⟩:=ad.oq;have⟨m,hm⟩:=zX D.length;rw[<-hm]at u bb aG⊢;have bv:m<=4096:=by omega
  have⟨HM,HB,bf,aO⟩:=gz hm aj aI S;have⟨av,HF,aJ,aQ⟩:=gz al hF aF ad;have⟨HD,aD⟩:=gy hD a7;have bo:(0:Int)<=(i:Int):=by omega
  have bp:(i:Int)<(n:Int):=by omega
  clear hm aj aI S al hF aF ad hD a7 a2 a3 N hp aZ aG;obtain⟨w0,rfl⟩:=zX wr
  go_upto_block 2 with fail
  go_cut [5]from 12 to 28 (λs5 wx=>s5=.int .i64 p/\gh (gf [] w0 wx))
  case first=>
   go_wp2_with fail
   go_loopg [5] p (λk kv wz=>∃q:Nat,kv=.int .i64 q/\q+k=p/\gh (gf [] w0 wz))
   .exact⟨0,rfl,by omega,gd (zR _ _)⟩
   obtain⟨q,rfl,bw,c⟩:=hrel;have R:=aK.o.Y c.o;have C:=aD.o.Y c.o;obtain⟨g,o,hA,B⟩:=R.at_ ap.o;rw[aR.o ap.o]at B;have aX:wr.cell? ⟨g,o+i,none⟩=some (.int .i64 x):=B;subst hA;clear B R;rcases gk with _|k
   .obtain rfl:q=p:=by omega
    by_cases s:q<m
    .have O:decide (q<m)=true:=zB s
     have I:q<D.length:=(by rw[<-HM.o];exact s);obtain⟨f,r,rfl,c4⟩:=C.at_ I;have Z:wr.cell? ⟨f,r+q,none⟩=some (.int .i64 D[q]):=c4;have U:¬D[q]<x:=λh=>by have:=(HB.o q I).1 h;omega
     have t3:decide (D[q]<x)=false:=zA U;have aU:(0:Int)<=(q:Int):=(by omega);have aV:(q:Int)<(m:Int):=(by omega);generalize D[q]=y at *;clear U c4 I C;go_wp2_with fail
     go_quiet (fail)
     go_wp2_with fail;go_meet
     case rel=>exact⟨rfl,gd (c.o.drewN _)⟩
    .have O:decide (q<m)=false:=zA s
     clear C;go_wp2_with fail
     go_quiet (fail)
     go_wp2_with fail;go_meet
     case rel=>exact⟨rfl,gd (c.o.drewN _)⟩
   .have bm:q<p:=by omega
    have s:q<m:=(by omega);have O:decide (q<m)=true:=zB s;have I:q<D.length:=(by rw[<-HM.o];exact s);obtain⟨f,r,rfl,c4⟩:=C.at_ I;have Z:wr.cell? ⟨f,r+q,none⟩=some (.int .i64 D[q]):=c4;have U:D[q]<x:=(HB.o q I).2 bm;have t3:decide (D[q]<x)=true:=zB U;have aU:(0:Int)<=(q:Int):=(by omega);have aV:(q:Int)<(m:Int):=(by omega);generalize D[q]=y at *;clear U c4 I C;go_wp2_with fail
    go_quiet (fail)
    go_wp2_with fail
    go_roundg k
    .exact⟨q+1,by go_num,by omega,gd (c.o.drewN _)⟩
    .omega
  case rest=>
   obtain⟨rfl,c⟩:=hcut;have R:=aK.o.Y c.o;have C:=aD.o.Y c.o;obtain⟨g,o,hA,B⟩:=R.at_ ap.o;rw[aR.o ap.o]at B;have aX:wc.cell? ⟨g,o+i,none⟩=some (.int .i64 x):=B;subst hA;clear B R;have a5:=gd (aJ.o.tq c.o);by_cases E:∃a:p<D.length,D[p]=x
   .obtain⟨a,Q⟩:=E
    have s:p<m:=(by rw[HM.o];exact a);have O:decide (p<m)=true:=zB s;obtain⟨f,r,rfl,c4⟩:=C.at_ a;have Z:wc.cell? ⟨f,r+p,none⟩=some (.int .i64 x):=(by rw[<-Q];exact c4);have t3:(x==x)=true:=(by simp);have V:=bf.o ((av.o x).1 (by rw[<-Q];exact zG a));have aU:(0:Int)<=(p:Int):=(by omega);have aV:(p:Int)<(m:Int):=(by omega);have aP:=gd V;clear c4 Q a V C;go_wp2_with fail
    go_quiet (fail)
    go_wp2_with fail
    go_roundg j
    .exact⟨i+1,F,by go_num,by omega,by rw[aP.o];have h:=aQ.o.Y (c.o.drewN nq);rw[<-HM.o]at h;exact h,HF.o,a5.o.drewN _⟩
    .omega
   .have ay:x∉l.take i:=λh=>by
     have h1:=(av.o x).2 h;obtain⟨q,a,Q⟩:=List.mem_iff_getElem.1 h1;have h2:=HB.o q a;rcases Nat.lt_trichotomy q p with X|X|X
     .have:=h2.2 X;omega
     .subst X;exact E ⟨a,Q⟩
     .have h4:p<D.length:=by omega
      have h5:=HB.o p h4;have h6:¬D[p]<x:=λh=>by have:=h5.1 h;omega
      have h8:D[p]<D[q]:=by
       have N:=oy (l.take i);rw[<-HD.o]at N;exact List.pairwise_iff_getElem.1 N p q h4 a X
      omega
    have V:=aO.o ay;have aP:=gd V;obtain⟨A4,aS⟩:∃A4,(if c3=p then A3 else Option.map (λx=>x.add p) A3)=A4:=⟨_,rfl⟩;have a8:gu vi w0 A4 (D.drop p):=(by rw[<-aS];exact IQ aD.o (by rw[<-HM.o];exact bb) (by rw[<-HM.o];exact u));have⟨aL,bd⟩:=gy (aD.o.take p) a8;have aU:(0:Int)<=(p:Int):=(by omega);have aV:(p:Int)<=(c3:Int):=(by omega);have bq:(p:Int)<=(m:Int):=(by omega);have T:p=((D.take p).map vi).length:=(by rw[zE,zI,<-HM.o];omega);have a0:m-p=((D.drop p).map vi).length:=(by rw[zE,zO,<-HM.o]);have⟨aN,bg⟩:=gy T a0;have J:gh (([]:List Value).length+((D.take p).map vi).length<=8192):=gd (by rw[<-T,length_nil];omega);have Y:gh ((([]:List Value)++(D.take p).map vi).length+1<=8193):=gd (by rw[zC,<-T,length_nil];omega);have a4:gh (((([]:List Value)++(D.take p).map vi)++[Value.int .i64 x]).length+((D.drop p).map vi).length<=16384):=gd (by rw[zC,zC,<-T,<-a0,length_nil,length_singleton];omega);have a6:gh (∀wy,gf [] wc wy->wy.cell? ⟨g,o+i,none⟩=some (.int .i64 x)):=gd λwy hy=>by
     obtain⟨g',o',e,B⟩:=(aK.o.Y (c.o.tq hy)).at_ ap.o;injection e with e;injection e with e1 e2 _;subst e1;subst e2;rw[aR.o ap.o]at B;exact B
    have bn:decide (p<m)=false\/decide (p<m)=true/\∃f r y,A3=some ⟨f,r,none⟩/\wc.cell? ⟨f,r+p,none⟩=some (.int .i64 y)/\(y==x)=false:=by
     by_cases s:p<m
     .have a:p<D.length:=by rw[<-HM.o];exact s
      obtain⟨f,r,e,c4⟩:=C.at_ a;exact .inr ⟨zB s,f,r,D[p],e,c4,by rw[beq_eq_false_iff_ne];exact λh=>E ⟨a,h⟩⟩
     .exact .inl (zA s)
    clear E C ay V a8 T a0;rcases bn with O|⟨O,f,r,y,bk,Z,t3⟩
    focus skip
    rotate_left
    focus
     have br:(p:Int)<(m:Int):=(by have:=of_decide_eq_true O;omega);subst bk;have e4:(if c3=p then(some ⟨f,r,none⟩:Option Addr)else some ⟨f,r+p,none⟩)=A4:=by
      rw[<-aS,if_neg (by omega),if_neg (by omega)];simp only[Option.map_some,Addr.add];split
      .rename_i h;rw[h];rfl
      .rfl
     clear aS
    all_goals
     go_wp2_with fail
     go_quiet (fail)
     go_wp2_with fail;have K:gh (gf [] w0 (wc.drewN nq)):=gd (c.o.drewN nq);have aM:gh (∀wy,gf [] (wc.drewN nq) wy->wy.cell? ⟨g,o+i,none⟩=some (.int .i64 x)):=gd λwy hy=>a6.o wy (((zR [] wc).drewN nq).tq hy);have bl:(wc.drewN nq).cell? ⟨g,o+i,none⟩=some (.int .i64 x):=aX;clear aX a6 c a5
     try clear Z
     generalize wc.drewN nq=wd at *
     go_region_held3 (λw'=>w'.cell? ⟨g,o+i,none⟩=some (.int .i64 x))
      (first|(go_keep;done)|exact aM.o _ aW|exact aM.o _ L|exact aM.o _ u)
      (first
       | (refine nQ (by rfl) (by rfl) iJ (by rfl) (by rfl) a1.S ((D.drop p).map vi) (m-p) (by rfl) bg.o (uq (bd.o.Y (K.o.tq L))) (pX _) (by have := a4.o;omega) (by have := a4.o;omega) ?_;intro v5 F5 w5 ba aY;have aW:gf [] wd w5 := aY.fresh aH L;have a9 := aY.freshF aH L)
       | (refine oT (by rfl) (by rfl) iJ (by rfl) (by rfl) (P.alloc _) (.int .i64 x) (by rfl) ((gn.new w3 _ _).X 0) (by rfl) (by have := Y.o;omega) (by have := Y.o;omega) ?_;intro bj bi w4 a1 M;have L:gf [] wd w4 := M.fresh G (u.alloc _);have aH := M.freshF G (u.alloc _))
       | (refine oT (by rfl) (by rfl) iJ (by rfl) (by rfl) P (.int .i64 x) (by rfl) (aT.X 0) (by rfl) (by have := Y.o;omega) (by have := Y.o;omega) ?_;intro bj bi w4 a1 M;have L:gf [] wd w4 := M.fresh G u;have aH := M.freshF G u)
       | (refine nQ (by rfl) (by rfl) iJ (by rfl) (by rfl) ((gv.made wd _ [] (by simp[maxLen])).S.drew) ((D.take p).map vi) p (by rfl) aN.o (uq ((aL.o.Y K.o).Y (((zR [] wd).alloc _).drew))) (pX _) (by have := J.o;omega) (by have := J.o;omega) ?_;intro v3 F3 w3 P z;have u:gf [] wd w3 := z.fresh (by simp) (((zR [] wd).alloc _).drew);have G := z.freshF (w := wd) (by simp) (((zR [] wd).alloc _).drew))
       | (refine nQ (by rfl) (by rfl) iJ (by rfl) (by rfl) (((gv.made wd _ [] (by simp[maxLen])).S.alloc _).drew) ((D.take p).map vi) p (by rfl) aN.o (uq ((aL.o.Y K.o).Y ((((zR [] wd).alloc _).alloc _).drew))) (pX _) (by have := J.o;omega) (by have := J.o;omega) ?_;intro v3 F3 w3 P z;have u:gf [] wd w3 := z.fresh (by simp) ((((zR [] wd).alloc _).alloc _).drew);have G := z.freshF (w := wd) (by simp) ((((zR [] wd).alloc _).alloc _).drew);have aT := (IL wd _ _ _).Z z.Z (by simp))
       | (refine nQ (by rfl) (by rfl) iJ (by rfl) (by rfl) ((gv.made0b wd _ _).S.drew) ((D.take p).map vi) p (by rfl) aN.o (uq ((aL.o.Y K.o).Y ((((zR [] wd).alloc _).alloc _).drew))) (pX _) (by have := J.o;omega) (by have := J.o;omega) ?_;intro v3 F3 w3 P z;have u:gf [] wd w3 := z.fresh (by intro x E;rw[zU.1 E];omega) ((((zR [] wd).alloc _).alloc _).drew);have G := z.freshF (w := wd) (by intro x E;rw[zU.1 E];omega) ((((zR [] wd).alloc _).alloc _).drew);have aT := ((((gn.new wd _ _).alloc _).drew).Z z.Z (by simp))))
     all_goals
      have bc:=gd ((aJ.o.tq K.o).tq aW);have be:gh (∀y∈F5,w.heap.size<=y):=gd λy hy=>Nat.le_trans (aJ.o.tq K.o).size (a9 y hy);have bh:gh (gE w5 3 v5 F5 ((ig (l.take (i+1))).map vi)):=gd (by
       rw[aP.o,zM,map_cons];have h9:=ba;simp only[nil_append,zH,cons_append]at h9;exact h9)
      clear P z u G a1 M L aH ba aY aW a9 bl
      try clear aT
      go_wp2_with fail
      go_roundg j
      .exact⟨i+1,F5,by go_num,by omega,bh.o,be.o,bc.o⟩
      .omega
section
variable {w:World} {l:List Int} {A:Option Addr} {W H d:Nat} (cap:Nat) (t:ir w l A W H d)
include t
theorem ir.qyes:Calls prog 79 #[.slice A l.length cap,W,H,d] w λe w'=>e=.returned (.bool true)/\w=w':=
 Lr l A cap W H d w t.w0 t.w1 t.h0 t.h1 t.d0 t.d1 t.len t.smp t.cells
theorem Jw(k:Nat)(f:1<=k)(e:k<=5):Calls prog 170 #[k,.slice A l.length cap,W,H,d] w (jU k w l W d):=by
 have c:=t.qyes cap;have a:ik k l W d=true:=by unfold ik;rw[if_neg (by omega),if_pos e]
 unfold jU;rw[a];rcases(by omega:k=1\/k=2\/k=3\/k=4\/k=5)with rfl|rfl|rfl|rfl|rfl
 all_goals
  clear t a;go_enter func170,ntmps170
  go_wp2_with(go_at_call 79;refine gx c ?_)
  go_ret;exact⟨rfl,zR _ _⟩
theorem La:Calls prog 170 #[.int .i64 (0:Nat),.slice A l.length cap,W,H,d] w (jU 0 w l W d):=by
 have g:=t.qyes cap;have c:=xG l A cap w (by have:=t.le;omega) t.cells;have f:ik 0 l W d=decide ((ig l).length=1):=by unfold ik;rw[if_pos rfl]
 unfold jU;rw[f];have⟨D,hD⟩:=zX (ig l);rw[<-hD]at c⊢;have i:((D.length:Int)==1)=decide (D.length=1):=by
  by_cases h:D.length=1
  .rw[h];rfl
  .rw[zA h,beq_eq_false_iff_ne];omega
 have⟨bb,ab⟩:=zX (decide (D.length=1));rw[<-ab]at i⊢;clear t f hD ab;go_enter func170,ntmps170
 go_wp2_with(go_at_call 79;refine gx g ?_)
 refine c.mono ?_;rintro e k ⟨v,F,rfl,a,ad,hF⟩;obtain⟨j,c2,rfl,_,_,_⟩:=a.oq;clear a;go_wp2_with fail;go_ret;exact⟨rfl,ad⟩
theorem GH:Calls prog 170 #[.int .i64 (6:Nat),.slice A l.length cap,W,H,d] w (jU 6 w l W d):=by
 have i:=t.qyes cap;have c:=xG l A cap w (by have:=t.le;omega) t.cells;have f:ik 6 l W d=decide ((ig l).length<=16):=by unfold ik;rw[if_neg (by omega),if_neg (by omega),if_pos rfl]
 unfold jU;rw[f];have⟨D,hD⟩:=zX (ig l);rw[<-hD]at c⊢;have j:decide ((D.length:Int)<=16)=decide (D.length<=16):=by
  by_cases h:D.length<=16
  .rw[zB h];exact zB (by omega)
  .rw[zA h];exact zA (by omega)
 obtain⟨bb,ad⟩:∃bb,decide (D.length<=16)=bb:=⟨_,rfl⟩;rw[ad]at j⊢;clear t f hD;go_enter func170,ntmps170
 go_wp2_with(go_at_call 79;refine gx i ?_)
 refine c.mono ?_;rintro e m ⟨v,F,rfl,a,g,hF⟩;obtain⟨k,c2,rfl,_,_,_⟩:=a.oq;clear a;go_wp2_with fail;go_ret;exact⟨rfl,g⟩
theorem GI:Calls prog 170 #[.int .i64 (7:Nat),.slice A l.length cap,W,H,d] w (jU 7 w l W d):=by
 have n:=t.qyes cap;have i:=xH l A cap W H d w t.w0 (by have:=t.w1;omega) t.h0 (by have:=t.h1;omega) t.d0 t.d1 t.len t.smp t.cells;have c:=xd l W d;have u:=t.le;have j:ik 7 l W d=decide (ju (jN l W d)<256):=by unfold ik;rw[if_neg (by omega),if_neg (by omega),if_neg (by omega),if_pos rfl]
 have k:decide (gU 8 (k8 l W d))=decide (ju (jN l W d)<256):=by
  by_cases h:ju (jN l W d)<256
  .rw[zB h]
   refine zB λs hs=>?_;obtain⟨x,f,rfl⟩:=List.mem_map.1 hs
   have:=qy f
   show(0:Int)<=(x:Int)/\(x:Int)<2^8;have e:(2:Int)^8=256:=(by decide);omega
  .rw[zA h]
   refine zA λhs=>h ?_;have q:∀x∈jN l W d,x<=255:=λx f=>by
    have:=hs (x:Int) (List.mem_map.2 ⟨x,f,rfl⟩)
    have e:(2:Int)^8=256:=(by decide);omega
   have:=yY q
   omega
 unfold jU;rw[j,<-k];have a:=λA2 c2 w hc=>BI (k8 l W d) A2 c2 8 w (by omega) (by omega) (by rw[c];omega) hc;rw[c]at a;have⟨bb,ad⟩:=zX (decide (gU 8 (k8 l W d)));rw[<-ad]at a⊢;generalize k8 l W d=E at *;clear t j k c ad;go_enter func170,ntmps170
 go_wp2_with(go_at_call 79;refine gx n ?_)
 refine i.mono ?_;rintro e r ⟨p,c1,rfl,g,_,_,m,_⟩;have o:=a (some ⟨p,0,none⟩) c1 r g.S.cells;clear i a g;go_wp2_with fail;refine gx o ?_;go_wp2_with fail;go_ret;exact⟨rfl,m⟩
theorem MW(k:Nat)(a:k<=7):Calls prog 170 #[k,.slice A l.length cap,W,H,d] w (jU k w l W d):=by
 rcases(by omega:k=0\/(1<=k/\k<=5)\/k=6\/k=7)with rfl|h|rfl|rfl
 .exact La cap t
 .exact Jw cap t k h.1 h.2
 .exact GH cap t
 .exact GI cap t
end
def lr(w:World)(b:Nat)(F bs ts:List Nat)(e:Ending)(w':World):Prop:=e=.returned (.tuple #[])/\∃F',hO w' b F' (bs++ts)/\gB F F' w w'
section
variable {w:World} {l:List Int} {A:Option Addr} {W H d:Nat} (cap:Nat) (t:ir w l A W H d) (b:Nat) (F bs:List Nat) (h:hO w b F bs) (hA:gM A l F) (hbs:bs.length<34359738368)
include t h hA hbs
theorem Lo(C:ik 0 l W d=true):Calls prog 80 #[.pointer b,.int .i64 (0:Nat),.slice A l.length cap,W,H,d] w (lr w b F bs (iz 0 l W H d)):=by
 unfold lr;have q:∀X:List Nat,bs++(gA 0 3++X)=bs++gA 0 3++X:=λX=>(zH _ _ _).symm;have m:iz 0 l W H d=gA 0 3++gA (l.getD 0 0).toNat d:=rfl;rw[m,q];have⟨HT,HA⟩:=gy t hA;have f:=nS t.smp 0;have p:=t.pos;have⟨x,hx⟩:=zX (l.getD 0 0);rw[<-hx]at f⊢;have i:x=((x.toNat:Nat):Int):=(Int.toNat_of_nonneg f.1).symm;have a:x.toNat<2^d:=by
  have L:((2^d:Nat):Int)=(2:Int)^d:=by simp
  omega
 have⟨k,hk⟩:=zX x.toNat;rw[<-hk]at i a⊢;have E:k<65536:=Nat.lt_of_lt_of_le a (by have:=Nat.pow_le_pow_right (n:=2) (by decide) t.d1;exact this);have⟨HX,al⟩:=gy (And.intro hx i) a;have D:=t.d1;have K:IntKind.u64.wrap (k:Int)=(k:Int):=IntWalk.u64_in _ (by omega);clear hx f i a hk;clear t hA C q m;go_enter func80,ntmps80;go_wp2_with fail;refine(jh w b F bs 0 3 h (by omega) (by omega) (by omega)).mono ?_;rintro e s ⟨rfl,u,y,c⟩;have B:=HT.o.Z HA.o c.Z;have I:=HA.o.grow HT.o.cells c;have J:(bs++gA 0 3).length<68719476736:=by rw[zC,gJ];omega
 clear h;obtain⟨g,o,rfl,j⟩:=B.cells.at_ p;have r:l[0]=(k:Int):=by
  rw[<-HX.o.2,HX.o.1,zD,zF p];rfl
 rw[r]at j;have G:s.cell? ⟨g,o,none⟩=some (.int .i64 k):=j;clear j r;go_wp2_with fail;refine(jh s b u _ k d y (by omega) al.o (by omega)).mono ?_;rintro e M ⟨rfl,v,z,ad⟩;go_wp2_with fail
 go_end0
 exact⟨rfl,v,z,c.trans ad⟩
theorem JG(p:ik 1 l W d=true):Calls prog 80 #[.pointer b,.int .i64 (1:Nat),.slice A l.length cap,W,H,d] w (lr w b F bs (iz 1 l W H d)):=by
 unfold lr;have g:∀X:List Nat,bs++(gA 1 3++X)=bs++gA 1 3++X:=λX=>(zH _ _ _).symm;have f:iz 1 l W H d=gA 1 3++iF l d:=rfl;rw[f,g];have⟨HT,HA⟩:=gy t hA;clear t hA p g f;go_enter func80,ntmps80;go_wp2_with fail;refine(jh w b F bs 1 3 h (by omega) (by omega) (by omega)).mono ?_;rintro e q ⟨rfl,i,k,c⟩;have a:=HT.o.Z HA.o c.Z;have n:=HA.o.grow HT.o.cells c;have r:(bs++gA 1 3).length<68719476736:=by rw[zC,gJ];omega
 clear h;have o:=y9 q b i _ l A cap d k a.d1 (by have:=a.le;omega) a.smp a.cells n (by omega);go_wp2_with fail;refine o.mono ?_;rintro e s ⟨rfl,j,m,ad⟩;go_wp2_with fail
 go_end0
 exact⟨rfl,j,m,c.trans ad⟩
theorem Hf(i:ik 2 l W d=true):Calls prog 80 #[.pointer b,.int .i64 (2:Nat),.slice A l.length cap,W,H,d] w (lr w b F bs (iz 2 l W H d)):=by
 unfold lr;have bl:∀X:List Nat,bs++(gA 2 3++X)=bs++gA 2 3++X:=λX=>(zH _ _ _).symm;have am:iz 2 l W H d=gA 2 3++qR l W H d:=rfl;rw[am,bl];have⟨HT,HA⟩:=gy t hA;have aK:=t.le;have E:=t.pos;have r:=CU l W H d;have B:=B7 l W H d t.d0 t.d1;have s:qR l W H d=iF (nG l W H d) 4++sV (oL l W H d) (W*H):=rfl;rw[<-t.len]at r s;have bh:=C6 l W H d;have C:=Cf l W H d;have D:=C5 l W H d;have bg:oL l W H d=(kN l W H d (lm l W H d)).map λv=>ii v d:=rfl;have c:=λw t=>K7 l A cap W H d w (ir.w0 t) (by have:=ir.w1 t;omega) (ir.h0 t) (by have:=ir.h1 t;omega) (ir.d0 t) (ir.d1 t) (ir.len t) (ir.smp t) (ir.cells t);have g:=λAk capk w t hck=>Di l A cap W H d (lm l W H d) Ak capk w (ir.w0 t) (by have:=ir.w1 t;omega) (ir.h0 t) (by have:=ir.h1 t;omega) (ir.d0 t) (ir.d1 t) (ir.len t) (ir.smp t) (ir.cells t) (tN l W H d) (vK l W H d) hck;rw[<-bg]at g;rw[bh]at c;have P:∀Ak w,gu vi w Ak (nG l W H d)->gu i64 w Ak (lm l W H d):=λAk w h=>gu.map (f:=vi) (k:=Int.ofNat) h;have⟨EF,bd⟩:=zX (oL l W H d);rw[<-bd]at r B s g;have⟨K,hK⟩:=zX (nG l W H d);rw[<-hK]at c C D s P;rw[s];have⟨m,bi⟩:=zX l.length;rw[<-bi]at c g r aK E⊢;have p:=C7 (n:=m) EF;have j:=By (n:=m) EF;have a:=tV (n:=m) (warm:=0) (most:=4) (by omega) EF;have bj:sV EF m=mU (jF m 0 4 EF).order (jF m 0 4 EF).ks (ie (io (jF m 0 4 EF).order m 0) EF):=rfl;rw[bj];have q:=a.1.1;have a7:=a.2.1;have⟨ab,ba,bo,bn⟩:=gz C c g P;have⟨a9,bp,aQ,aO⟩:=gz B D p j;have⟨br,ac⟩:=gy q r;have bw:=t.h1;clear c g P B bg D p j q bi s bd hK bh a bj C r;clear t hA i bl am;go_enter func80,ntmps80;go_wp2_with fail;refine(jh w b F bs 2 3 h (by omega) (by omega) (by omega)).mono ?_;rintro e w2 ⟨rfl,F2,S,R⟩;have bk:=HT.o.Z HA.o R.Z;have bx:=HA.o.grow HT.o.cells R;have bC:(bs++gA 2 3).length<68719476736:=by rw[zC,gJ];omega
 clear h;have c:=ba.o w2 bk;clear ba;go_wp2_with fail;refine c.mono ?_;rintro e w3 ⟨v1,G1,rfl,V,bb,bv⟩;obtain⟨z,c1,rfl,aZ,bz,J⟩:=V.oq;have aH:=S.lt;have O:gM z K F2:=V.apt (λx hx i=>by have:=aH x i;have:=bv x hx;omega);clear c V aH;rw[ab.o]at aZ⊢;have I:=y9 w3 b F2 _ K z c1 4 (S.Y bb) (by omega) (by have:=ab.o;omega) bp.o J O (by omega);rw[ab.o]at I;go_wp2_with fail;refine I.mono ?_;rintro e w4 ⟨rfl,F4,T,Q⟩;have N:=gB.pre bb Q;have bB:=bk.Z bx N.Z;have aB:=J.Q O Q.Z;have g:=bo.o z c1 w4 bB (bn.o _ _ aB);clear Q O J S aB I;go_wp2_with fail;refine g.mono ?_;rintro e w5 ⟨u,az,rfl,aN,aD,aC,bc,bD⟩;have aI:=T.lt;have L:gu vi w5 (some ⟨u,0,none⟩) EF:=aN.S.cells;have aV:gM (some ⟨u,0,none⟩) EF F4:=λ_ ad e i=>by
  injection e with e;subst e
  have:=aI _ i
  simp at this;omega
 have U:=T.Y bc;have al:=N.Y bc;have M:=Lk m 0 4 EF (some ⟨u,0,none⟩) az w5 E (by omega) (by omega) (by omega) (by have:=ac.o;omega) a9.o L (by rw[ac.o];exact aD) aC;rw[ac.o]at M;clear g aN T N aI;go_wp2_with fail;refine M.mono ?_;rintro e y ⟨v6,G6,rfl,Y,G,be⟩;obtain⟨Z,c6,rfl,a0,bA,bf⟩:=Y.oq;have aJ:=U.lt;have aA:gM Z (jF m 0 4 EF).ks F4:=Y.apt (λx hx i=>by have:=aJ x i;have:=be x hx;omega);have a8:=U.Y G;have aY:=L.Y G;have aF:=al.Y G;clear M Y U L al aJ be;have bm:=gd (um K 4);have⟨ks,aG⟩:=zX ((jF m 0 4 EF).ks);have⟨po,a⟩:=zX ((jF m 0 4 EF).order);have j:=aO.o;have q:=br.o;have p:=aQ.o;rw[<-aG,<-a]at j;rw[<-a]at q a7;rw[<-aG]at p bf aA a0;rw[<-aG,<-a];have⟨bq,bu,aP,aS⟩:=gz aG a j q;have aR:=gd p;clear aG a j q p;have aL:=λo=>M2 _ b F4 _ po m 0 ks Z c6 EF (some ⟨u,0,none⟩) az (a8.Y ((zR [] y).alloc o)) (by omega) E (by omega) (by omega) aS.o aP.o aR.o (bf.Y ((zR [] y).alloc _)) (by have:=ac.o;omega) a9.o (aY.Y ((zR [] y).alloc _)) (by rw[ac.o];exact aD) aC aA aV (by rw[zC,bm.o];have:=ab.o;omega);rw[ac.o]at aL;go_wp2_with fail;refine(aL _).mono ?_;rintro e w7 ⟨rfl,F3,aM,a3⟩;have a2:gB F2 F3 w2 w7:=aF.trans (gB.pre ((zR [] y).alloc _) a3);rw[bq.o,bu.o,zH]at aM;go_wp2_with fail
 go_end0
 exact⟨rfl,F3,aM,R.trans a2⟩
theorem GK(p:ik 3 l W d=true):Calls prog 80 #[.pointer b,.int .i64 (3:Nat),.slice A l.length cap,W,H,d] w (lr w b F bs (iz 3 l W H d)):=by
 unfold lr;have g:∀X:List Nat,bs++(gA 3 3++X)=bs++gA 3 3++X:=λX=>(zH _ _ _).symm;have f:iz 3 l W H d=gA 3 3++l4 l W d (W*H):=rfl;rw[f,g];have⟨HT,HA⟩:=gy t hA;clear t hA p g f;go_enter func80,ntmps80;go_wp2_with fail;refine(jh w b F bs 3 3 h (by omega) (by omega) (by omega)).mono ?_;rintro e q ⟨rfl,i,k,c⟩;have a:=HT.o.Z HA.o c.Z;have n:=HA.o.grow HT.o.cells c;have r:(bs++gA 3 3).length<68719476736:=by rw[zC,gJ];omega
 clear h;have o:=MZ q b i _ l A cap W H d k a.w0 (by have:=a.w1;omega) a.h0 (by have:=a.h1;omega) a.d0 a.d1 a.len a.smp a.cells n (by omega);go_wp2_with fail;refine o.mono ?_;rintro e s ⟨rfl,j,m,ad⟩;go_wp2_with fail
 go_end0
 exact⟨rfl,j,m,c.trans ad⟩
theorem Iu(g:ik 4 l W d=true):Calls prog 80 #[.pointer b,.int .i64 (4:Nat),.slice A l.length cap,W,H,d] w (lr w b F bs (iz 4 l W H d)):=by
 unfold lr;have p:∀X:List Nat,bs++(gA 4 3++X)=bs++gA 4 3++X:=λX=>(zH _ _ _).symm;have i:iz 4 l W H d=gA 4 3++sQ l W d:=rfl;rw[i,p];have⟨HT,HA⟩:=gy t hA;have o:sQ l W d=qs (lf l (d+1) 12) W d:=rfl;rw[o];have I:=t.d1;clear o;clear t hA g p i;go_enter func80,ntmps80;go_wp2_with fail;refine(jh w b F bs 4 3 h (by omega) (by omega) (by omega)).mono ?_;rintro e E ⟨rfl,s,k,j⟩;have a:=HT.o.Z HA.o j.Z;have J:(bs++gA 4 3).length<68719476736:=by rw[zC,gJ];omega
 clear h;have c:=Jx l A cap (d+1) 12 E (by have:=a.le;omega) a.cells (by omega) (by omega) (by omega) (by omega);have C:=xB l (d+1) 12;have f:=Cj a.smp (d+1) 12;have q:((d+1:Nat):Int)=(d:Int)+1:=by simp
 rw[q]at c;have⟨T,hT⟩:=zX (lf l (d+1) 12);rw[<-hT]at c C f;have⟨ar,aq,ai⟩:=gS hT f k.lt;clear hT f q;go_wp2_with fail;refine c.mono ?_;rintro e G ⟨r,x,rfl,D,n,z⟩;have B:=JA G b s _ T r x W d (k.Y n) a.w0 (by have:=a.w1;omega) a.d0 a.d1 (by have:=a.le;omega) aq.o D (λad e g=>by have:=z ad e;have:=ai.o _ g;omega) (by omega);clear c;go_wp2_with fail;refine B.mono ?_;rintro e K ⟨rfl,u,m,v⟩;have y:=gB.pre n v;rw[ar.o]at m;go_wp2_with fail
 go_end0
 exact⟨rfl,u,m,j.trans y⟩
theorem Iv(E:ik 5 l W d=true):Calls prog 80 #[.pointer b,.int .i64 (5:Nat),.slice A l.length cap,W,H,d] w (lr w b F bs (iz 5 l W H d)):=by
 unfold lr;have M:∀X:List Nat,bs++(gA 5 3++X)=bs++gA 5 3++X:=λX=>(zH _ _ _).symm;have O:iz 5 l W H d=gA 5 3++qX l W d:=rfl;rw[O,M];have⟨HT,HA⟩:=gy t hA;have K:qX l W d=gA (mn l W d).length 16++(mn l W d).flatMap λx=>gA x 8:=rfl;have L:=xk l W t.d0 t.d1;have B:=Cu l W t.d0 t.d1;have c:=λw t=>K5 l A cap W H d w (ir.w0 t) (ir.w1 t) (ir.h0 t) (ir.h1 t) (ir.d0 t) (ir.d1 t) (ir.len t) (ir.smp t) (ir.cells t);rw[K];have⟨R,hR⟩:=zX (mn l W d);rw[<-hR]at L B c⊢;have z:R.length<2^16:=by have:=t.le;omega
 have⟨r,hr⟩:=zX R.length;rw[<-hr]at c z⊢;have⟨aI,HR,az⟩:=gS B hr c;clear B L hr hR K c;clear t hA E M O;go_enter func80,ntmps80;go_wp2_with fail;refine(jh w b F bs 5 3 h (by omega) (by omega) (by omega)).mono ?_;rintro e Z ⟨rfl,F2,y,S⟩;have aM:=HT.o.Z HA.o S.Z;have aQ:(bs++gA 5 3).length<68719476736:=by rw[zC,gJ];omega
 clear h;have c:=az.o Z aM;clear az;go_wp2_with fail;refine c.mono ?_;rintro e w3 ⟨n,c3,rfl,N,G,aS⟩;have U:=y.Y G;have T:=y.lt;have a:gu b8 w3 (some ⟨n,0,none⟩) R:=N.S.cells;have f:gM (some ⟨n,0,none⟩) R F2:=λ_ ad e E=>by
  injection e with e;subst e
  have:=T _ E
  simp at this;omega
 have aV:IntKind.u64.wrap (r:Int)=(r:Int):=IntWalk.u64_in _ (by omega);have aU:r<65536:=z;clear c N T;go_wp2_with fail;refine(jh w3 b F2 _ r 16 U (by omega) z (by omega)).mono ?_;rintro e w4 ⟨rfl,F4,V,o⟩;have Q:=a.Q f o.Z;have P:=f.grow a o;have i:=gB.pre G o;clear U y a f o;go_wp2_with fail
 go_loopg [17] r (λj iv wr=>∃(q:Nat) (F' g:List Nat),iv=.int .i64 q/\q+j=r/\hO wr b F' g/\gh (g=bs++gA 5 3++gA r 16++(R.take q).flatMap λx=>gA x 8)/\g.length<=bs.length+19+8*q/\gu b8 wr (some ⟨n,0,none⟩) R/\gM (some ⟨n,0,none⟩) R F'/\gB F2 F' Z wr)
 .exact⟨0,F4,_,rfl,by omega,V,gd (by simp),by rw[zC,zC,gJ,gJ];omega,Q,P,i⟩
 clear V Q P i;obtain⟨q,F',g,rfl,aT,k,u,aR,a,f,i⟩:=hrel;rcases gk with _|j
 .obtain rfl:q=r:=by omega
  have t1:decide (q<q)=false:=by simp
  have D:=u.o;rw[show R.take q=R by rw[HR.o,zN],zH]at D;rw[D]at k;have aK:=gd k;clear k D u;go_wp2
  go_end0
  exact⟨rfl,F',aK.o,S.trans i⟩
 .have aL:q<r:=by omega
  have p:q<R.length:=by rw[<-HR.o];exact aL
  obtain⟨g5,o5,m,_,I⟩:=a.ex (by omega);injection m with m;injection m with m e6 _;subst m;subst e6;have s:=I q _ (zF p);rw[Nat.zero_add]at s;have Y:=aI.o R[q] (zG p);have C:(R.take (q+1)).flatMap (λx=>gA x 8)=(R.take q).flatMap (λx=>gA x 8)++gA R[q] 8:=by rw[jd R p,flatMap_append];simp
  have⟨x,aG⟩:=zX (R[q]);rw[<-aG]at s Y C;have aN:wr.cell? ⟨n,q,none⟩=some (.int .u8 x):=s;have aW:IntKind.u64.wrap (x:Int)=(x:Int):=IntWalk.u64_in _ (by omega);have aJ:=gd C;have aO:(0:Int)<=(q:Int):=by omega
  have aP:(q:Int)<(r:Int):=by omega
  have J:=jh wr b F' g x 8 k (by omega) (show x<2^8 from Y) (by omega);have aH:=gd J;clear C aG p s I J k;go_wp2_with fail;refine aH.o.mono ?_;rintro e w5 ⟨rfl,F5,ay,v⟩;go_wp2_with fail
  go_roundg j
  .refine⟨q+1,F5,_,by go_num,by omega,ay,gd ?_,?_,a.Q f v.Z,f.grow a v,i.trans v⟩
   .rw[aJ.o,u.o];simp only[zH]
   .rw[zC,gJ];omega
  .omega
theorem GJ(g:ik 6 l W d=true):Calls prog 80 #[.pointer b,.int .i64 (6:Nat),.slice A l.length cap,W,H,d] w (lr w b F bs (iz 6 l W H d)):=by
 unfold lr;have a9:∀X:List Nat,bs++(gA 6 3++X)=bs++gA 6 3++X:=λX=>(zH _ _ _).symm;have aj:iz 6 l W H d=gA 6 3++pC l d:=rfl;rw[aj,a9];have⟨HT,HA⟩:=gy t hA;have r:(ig l).length<=16:=by
  unfold ik at g;rw[if_neg (by omega),if_neg (by omega),if_pos rfl]at g;exact of_decide_eq_true g
 have c:=λw t=>xG l A cap w (by have:=ir.le t;omega) (ir.cells (W:=W) (H:=H) (d:=d) t);have aT:=CQ t.pos;have Z:=DP t.smp;have an:=oy l;have a:=λx (hx:x∈l)=>AN (ig l) (oy l) ((ng l x).2 hx);have a4:pC l d=gA ((ig l).length-1) 4++iF (ig l) d++iF (qM l) (j7 (ig l).length):=rfl;have M:qM l=l.map λs=>((ig l).countP (· < s):Int):=rfl;rw[a4];have⟨D,hD⟩:=zX (ig l);rw[<-hD]at c aT Z an a M r⊢;have⟨k,aV⟩:=zX D.length;have K:=BW r;have a3:=DM r;have aW:=λw=>It D.length w aT (by omega);rw[<-aV]at aT r K a3 aW⊢;have⟨q,hq⟩:=zX (j7 k);rw[<-hq]at K a3 aW⊢;have⟨I,hI⟩:=zX (qM l);rw[<-hI]at M⊢;have⟨n,hn⟩:=zX l.length;have hl:=t.le;rw[<-hn]at c hl⊢;have⟨HN,ar,aO,be⟩:=gz hn aV M Z;have⟨aN,bd,bc,aY⟩:=gz an a K c;have ay:=t.d1;clear hn aV M Z an a K a4 hD hI hq c;have k1:(k:Int)-1=((k-1:Nat):Int):=by omega
 have k2:IntKind.u64.wrap (((k-1:Nat):Int))=((k-1:Nat):Int):=IntWalk.u64_in _ (by omega);clear t hA g a9 aj;go_enter func80,ntmps80;go_wp2_with fail;refine(jh w b F bs 6 3 h (by omega) (by omega) (by omega)).mono ?_;rintro e w2 ⟨rfl,F2,aq,f⟩;have bu:=HT.o.Z HA.o f.Z;have bv:=HA.o.grow HT.o.cells f;have bl:(bs++gA 6 3).length<68719476736:=by rw[zC,gJ];omega
 clear h;have c:=aY.o w2 bu;clear aY;go_wp2_with fail;refine c.mono ?_;rintro e w3 ⟨v3,F3,rfl,ap,aZ,bk⟩;obtain⟨E,c3,rfl,_,_,V⟩:=ap.oq;have aA:=aq.lt;have U:gM E D F2:=ap.apt (λx hx g=>by have:=aA x g;have:=bk x hx;omega);have aC:=aq.Y aZ;rw[<-ar.o];clear c ap aA aq;go_wp2_with fail;refine(jh w3 b F2 _ (k-1) 4 aC (by omega) (by omega) (by omega)).mono ?_;rintro e w4 ⟨rfl,F4,aD,R⟩;have Q:=V.Q U R.Z;have P:=U.grow V R;have ah:=gB.pre aZ R;clear aC V U R;have ak:=y9 w4 b F4 _ D E c3 d aD ay (by have:=ar.o;omega) be.o Q P (by rw[zC,gJ];omega);rw[<-ar.o]at ak;go_wp2_with fail;refine ak.mono ?_;rintro e w5 ⟨rfl,F5,aE,S⟩;have ax:=Q.Q P S.Z;have av:=P.grow Q S;have ai:=ah.trans S;clear aD ak Q P S ah;have ba:=gd (um D d);go_wp2_with fail
 go_loopg [19,20] n (λj iv v20 wr=>∃(i:Nat) (F' u:List Nat),iv=.int .i64 i/\i+j=n/\hO wr b F' u/\gh (u=bs++gA 6 3++gA (k-1) 4++iF D d++iF (I.take i) q)/\u.length<=bs.length+7+d*k+4*i/\gu vi wr E D/\gM E D F'/\gB F2 F' w2 wr)
 .exact⟨0,F5,_,rfl,by omega,aE,gd (by simp[iF]),by rw[zC,zC,zC,gJ,gJ,ba.o,ar.o];omega,ax,av,ai⟩
 clear aE ax av ai;obtain⟨i,F',u,rfl,bA,O,T,bm,Y,aw,v⟩:=hrel;rcases gk with _|j
 .obtain rfl:i=n:=by omega
  have t1:decide (i<i)=false:=by simp
  have e:I.take i=I:=by rw[HN.o,aO.o,zT (by simp)]
  have h5:=T.o;rw[e,zH,zH]at h5;rw[h5]at O;have bi:=gd O;clear h5 e O T;go_wp2
  go_end0
  refine⟨rfl,F',?_,f.trans v⟩;rw[zH (gA (k-1) 4)];exact bi.o
 .have aU:i<n:=by omega
  have L:i<l.length:=by rw[<-HN.o];exact aU
  have N:=(HT.o.Z HA.o (f.trans v).Z).cells;obtain⟨g2,o2,e2,cl⟩:=N.at_ L;have a:=bd.o l[i] (zG L);have a2:i<I.length:=by rw[aO.o,zE];exact L
  have a1:I[i]=(D.countP (· < l[i]):Int):=by simp[aO.o]
  have m:=uc (I.take i) I[i] q;rw[<-jd I a2,a1,Int.toNat_natCast]at m;have ad:=λz (hz:z<D.length)=>yl aN.o l[i] hz;have⟨x,hx⟩:=zX (l[i]);rw[<-hx]at cl a ad m;have⟨p,hp⟩:=zX (D.countP (· < x));rw[<-hp]at a ad m;obtain⟨a6,a8⟩:=a;have br:p<k:=by rw[ar.o];exact a6
  have a7:p<2^q:=by have:=bc.o;omega
  have bp:wr.cell? ⟨g2,o2+i,none⟩=some (.int .i64 x):=cl;have⟨bb,bg,bh,bf⟩:=gz ad a8 m a7;have bw:(0:Int)<=(i:Int):=by omega
  have bx:(i:Int)<(n:Int):=by omega
  subst e2;clear ad m a7 hp hx cl L a2 a1 a8 N a6;go_wp2_with fail;obtain⟨wk,rfl⟩:=zX wr
  go_loopg [20] p (λz kv wz=>∃y:Nat,kv=.int .i64 y/\y+z=p/\gh (gf [] wk wz))
  .exact⟨0,rfl,by omega,gd (zR _ _)⟩
  obtain⟨y,rfl,bC,J⟩:=hrel;have o:y<D.length:=by rw[<-ar.o];omega
  obtain⟨g4,o4,rfl,c4⟩:=(Y.Y J.o).at_ o;have bj:wr.cell? ⟨g4,o4+y,none⟩=some (.int .i64 D[y]):=c4;have bq:wr.cell? ⟨g2,o2+i,none⟩=some (.int .i64 x):=by
   have N:=((HT.o.Z HA.o (f.trans v).Z).cells).Y J.o;obtain⟨g9,o9,C,_,bo⟩:=N.ex (by rw[<-HN.o];omega);obtain⟨g8,o8,B,_,bn⟩:=((HT.o.Z HA.o (f.trans v).Z).cells).ex (by rw[<-HN.o];omega);have h7:=bo i _ (zF (by rw[<-HN.o];exact aU));have h6:=bn i _ (zF (by rw[<-HN.o];exact aU));injection C with C;injection C with C e10 _;injection B with B;injection B with B e11 _;rw[C,e10,h7,<-h6,<-B,<-e11];exact bp
  have bl:(0:Int)<=(y:Int):=by omega
  have bz:(y:Int)<(k:Int):=by omega
  rcases gk with _|z
  .obtain rfl:y=p:=by omega
   have a0:D[y]=x:=by
    have h9:=bg.o;rw[zF o]at h9;injection h9
   rw[a0]at bj;have t2:(x != x)=false:=(by simp);clear c4 a0 o;go_wp2_with fail
   go_quiet (fail)
   have G:=gd (J.o.drewN nq);have bB:IntKind.u64.wrap (y:Int)=(y:Int):=IntWalk.u64_in _ (by omega)
   go_wp2_with(go_at_call 112;refine gx (aW _) ?_)
   refine(jh _ b F' u y q (O.Y G.o) (by omega) bf.o (by have:=zL ay r;omega)).mono ?_;rintro e w6 ⟨rfl,F6,aX,ao⟩;go_wp2_with fail
   go_roundg j
   .refine⟨i+1,F6,_,by go_num,by omega,aX,gd ?_,?_,(Y.Y G.o).Q aw ao.Z,aw.grow (Y.Y G.o) ao,(v.Y G.o).trans ao⟩
    .rw[bh.o,T.o];simp only[zH]
    .rw[zC,gJ];omega
   .omega
  .have a5:D[y]≠x:=λe=>by
    have:=(bb.o y o).2 (by omega)
    omega
   have t2:(D[y] != x)=true:=(by simpa using a5);generalize D[y]=dy at *;clear c4 a5 o;go_wp2_with fail
   go_quiet (fail)
   go_wp2_with fail
   go_roundg z
   .exact⟨y+1,by go_num,by omega,gd (J.o.drewN nq)⟩
   .omega
theorem GL(c:ik 7 l W d=true):Calls prog 80 #[.pointer b,.int .i64 (7:Nat),.slice A l.length cap,W,H,d] w (lr w b F bs (iz 7 l W H d)):=by
 unfold lr;have K:∀X:List Nat,bs++(gA 7 3++X)=bs++gA 7 3++X:=λX=>(zH _ _ _).symm;have aj:iz 7 l W H d=gA 7 3++pN l W d:=rfl;rw[aj,K];have⟨HT,HA⟩:=gy t hA;have v:ju (jN l W d)<256:=by
  unfold ik at c;rw[if_neg (by omega),if_neg (by omega),if_neg (by omega),if_pos rfl]at c;exact of_decide_eq_true c
 have a:=λw t=>xH l A cap W H d w (ir.w0 t) (by have:=ir.w1 t;omega) (ir.h0 t) (by have:=ir.h1 t;omega) (ir.d0 t) (ir.d1 t) (ir.len t) (ir.smp t) (ir.cells t);have g:=xe l W d;rw[xz]at a;have aY:pN l W d=oX (kn (je (jN l W d)))++nC (kn (je (jN l W d))) (jN l W d):=rfl;rw[aY];have⟨f,hf⟩:=zX (jN l W d);rw[<-hf]at a g v⊢;have a9:=t.pos;have hl:=t.le;have⟨n,hn⟩:=zX l.length;rw[<-hn]at a g a9 hl⊢;have y:f≠[]:=by intro e;rw[e]at g;simp at g;omega
 have V:∀x∈f,x<256:=λx hx=>by have:=qy hx;omega
 have Y:=Ku y;have I:(je f).length=ju f+1:=sI f;have G:=Bt y;have M:=DX f;have ai:∀s∈f,s<=ju f:=λs hs=>qy hs;have⟨ar,aR,a5,a6⟩:=gz g a V Y;have⟨aG,a7,aH,a8⟩:=gz I G M ai;have au:=gd v;clear g a V Y I G M ai y hf hn v aY;clear t hA c K aj;go_enter func80,ntmps80;go_wp2_with fail;refine(jh w b F bs 7 3 h (by omega) (by omega) (by omega)).mono ?_;rintro e w2 ⟨rfl,F2,B,L⟩;have be:=HT.o.Z HA.o L.Z;have bh:(bs++gA 7 3).length<68719476736:=by rw[zC,gJ];omega
 clear h;have a:=aR.o w2 be;clear aR;go_wp2_with fail;refine a.mono ?_;rintro e w3 ⟨o,fc,rfl,N,_,_,S,bi⟩;have r:gu i64 w3 (some ⟨o,0,none⟩) f:=N.S.cells;have z:=B.lt;have ay:gM (some ⟨o,0,none⟩) f F2:=λ_ ad e c=>by
  injection e with e;subst e
  have:=z _ c
  simp at this;omega
 have u:=Li f (some ⟨o,0,none⟩) fc w3 (by rw[ar.o];omega) (λx hx=>by have:=a5.o x hx;omega) r;rw[ar.o,<-a6.o]at u;clear a N;go_wp2_with fail;refine u.mono ?_;rintro e w4 ⟨v4,F4,rfl,ah,q,bg⟩;obtain⟨A4,c4,rfl,_,_,U⟩:=ah.oq;have Z:=Iq w4 (je f) A4 c4 (by rw[aG.o];omega) (by rw[aG.o];have:=au.o;omega) (λx hx=>by have:=aH.o x hx;rw[ar.o]at this;omega) a7.o U;have R:=gd Z;clear u ah U Z;go_wp2_with fail;refine R.o.mono ?_;rintro e w5 ⟨lv,p,rfl,C,i,T,bj⟩;obtain⟨lc,rfl,ba,bb,_,_⟩:=C.oq;have ax:=(S.tq q).tq T;have aN:=B.Y ax;have az:=r.Y (q.tq T);have m:gu i64 w5 (some ⟨p,0,none⟩) (kn (je f)):=C.S.cells;have bc:=(S.tq q).size;have k:gM (some ⟨p,0,none⟩) (kn (je f)) F2:=λ_ ad e c=>by
  injection e with e;subst e
  have:=z _ c
  simp at this;omega
 have O:∀s∈f,s<(kn (je f)).length/\0<gI (kn (je f)) s:=λs hs=>by
  have bd:=a8.o s hs;have J:s<(je f).length:=by rw[aG.o];omega
  refine⟨by rw[i.len];exact J,(i.used s J).2 ?_⟩;rw[xA bd];exact List.count_pos_iff.2 hs
 have⟨aw,aa⟩:=gy O i.full;have Q:gh ((kn (je f)).length<=1024):=gd i.full.n2;have⟨ao,ae⟩:=zX (kn (je f));have av:=gd ae;rw[<-ae]at m aw aa k ba Q⊢;have E:=He w5 b F2 _ ao (some ⟨p,0,none⟩) lc aN aa.o m k (by omega);clear C i O ae R B r z;go_wp2_with fail;refine E.mono ?_;rintro e w6 ⟨rfl,F6,aO,j⟩;have bf:=AA ao;have aZ:=Ll w6 b F6 _ ao f (some ⟨p,0,none⟩) (some ⟨o,0,none⟩) lc fc aO aa.o (m.Q k j.Z) (k.grow m j) (by rw[ar.o];omega) (az.Q ay j.Z) (ay.grow az j) aw.o (by rw[zC];have:=Q.o;omega);rw[ar.o]at aZ;clear E bf;go_wp2_with fail;refine aZ.mono ?_;rintro e w7 ⟨rfl,D,P,aL⟩;have aK:gB F2 D w2 w7:=(gB.pre ax j).trans aL;rw[av.o,zH]at P;go_wp2_with fail
 go_end0
 exact⟨rfl,D,P,L.trans aK⟩
theorem Ez(k:Nat)(c:k<=7)(a:ik k l W d=true):Calls prog 80 #[.pointer b,k,.slice A l.length cap,W,H,d] w (lr w b F bs (iz k l W H d)):=by
 rcases(by omega:k=0\/k=1\/k=2\/k=3\/k=4\/k=5\/k=6\/k=7)with rfl|rfl|rfl|rfl|rfl|rfl|rfl|rfl
 .exact Lo cap t b F bs h hA hbs a
 .exact JG cap t b F bs h hA hbs a
 .exact Hf cap t b F bs h hA hbs a
 .exact GK cap t b F bs h hA hbs a
 .exact Iu cap t b F bs h hA hbs a
 .exact Iv cap t b F bs h hA hbs a
 .exact GJ cap t b F bs h hA hbs a
 .exact GL cap t b F bs h hA hbs a
end
section
variable {w:World} {l:List Int} {A:Option Addr} {W H d:Nat} (cap:Nat) (t:ir w l A W H d)
include t
theorem MS(k:Nat)(n:k<=7):Calls prog 118 #[k,.slice A l.length cap,W,H,d] w λe w'=>e=.returned (.int .i64 (mF k l W H d:Nat))/\gf [] w w':=by
 have f:=MW cap t k n;unfold jU at f;have a:mF k l W H d=if ik k l W d=true then ja k l W H d else 0:=rfl
 cases hmb:ik k l W d with
 | false=>
  rw[hmb]at f a;have a:mF k l W H d=0:=a;rw[a];clear t hmb a;go_enter func118,ntmps118;go_wp2_with fail;refine f.mono ?_;rintro e c ⟨rfl,g⟩;go_wp2_with fail;go_ret;exact⟨rfl,g⟩
 | true=>
  rw[hmb,if_pos rfl]at a;rw[hmb]at f;have i:=λc (hc:gf [] w c)=>Ez cap (t.Y (hc.alloc (.cells #[.slice none 0 0] 69))) c.heap.size [c.heap.size] [] (hO.new c) (gM.fresh (t.Y hc).cells (by simp)) (by simp) k n hmb;have m:ja k l W H d=(iz k l W H d).length:=rfl;rw[a,m];unfold lr at i;generalize iz k l W H d=ts at *;have ad:=gd i;clear t hmb a m i;go_enter func118,ntmps118;go_wp2_with fail;refine f.mono ?_;rintro e c ⟨rfl,g⟩;have s:=ad.o c g;clear f ad;go_wp2_with fail;refine s.mono ?_;rintro e w2 ⟨rfl,o,j,p⟩;rw[nil_append]at j;have r:=Ls w2 _ o ts j;have q:gf [] w w2:=p.fresh (w:=w) (λx hx=>by rw[zU.1 hx];exact g.size) (g.alloc _);go_wp2_with fail;refine gx r ?_;go_wp2;go_ret;exact⟨rfl,q⟩
theorem MR:Calls prog 81 #[.slice A l.length cap,W,H,d] w λe w'=>e=.returned (.int .i64 (kh l W H d:Nat))/\gf [] w w':=by
 have q:=λk (hk:k<=7) w' (hc:gf [] w w')=>MS cap (t.Y hc) k hk;have p:=q 1 (by omega) w (zR _ _);have z:mF 1 l W H d=ja 1 l W H d:=by unfold mF;rw[if_pos (rh l W d)]
 rw[z]at p;have B:=l8.start l W H d;have⟨ao,HC⟩:=gy B q;have⟨c1,ad⟩:=zX (ja 1 l W H d);rw[<-ad]at p;have G:=gd ad;clear t B q z ad;go_enter func81,ntmps81;go_wp2_with fail;refine p.mono ?_;rintro e Q ⟨rfl,x⟩;clear p;go_wp2_with fail
 go_loopg [9,10,11,12] 8 (λj vb vc iv v12 wr=>∃(m a c:Nat),iv=.int .i64 m/\vb=.int .i64 a/\vc=.int .i64 c/\m+j=8/\gh (l8 l W H d m a c)/\gf [] w wr)
 .exact⟨0,1,c1,rfl,rfl,rfl,rfl,by rw[G.o];exact ao,x⟩
 clear x;obtain⟨m,a,c,rfl,rfl,rfl,M,i,r⟩:=hrel;rcases gk with _|j
 .obtain rfl:m=8:=by omega
  have C:=i.o.best;have E:=gd C;clear C;go_wp2;go_ret;exact⟨by rw[<-E.o];rfl,r⟩
 .have v:m<=7:=by omega
  have s:=HC.o m v wr r;have⟨n,hn⟩:=zX (mF m l W H d);rw[<-hn]at s;have f:=gd hn;have O:=iI m 7 (by omega);clear hn;go_wp2_with fail;refine s.mono ?_;rintro e R ⟨rfl,I⟩;have o:=r.tq I;clear s;by_cases hn0:n=0
  .have g:gh (l8 l W H d (m+1) a c):=gd (i.o.skip (.inl (by rw[<-f.o];exact hn0)))
   subst hn0;go_wp2_with fail
   go_roundg j
   .exact⟨m+1,a,c,by go_num,rfl,rfl,by omega,g,o⟩
   .omega
  .have P:=i6 0 n (by omega)
   have N:decide (0<n)=true:=zB (by omega);rcases Nat.lt_trichotomy n c with u|J|y
   .have D:decide (n<c)=true:=zB u
    have g:gh (l8 l W H d (m+1) m n):=gd (by rw[f.o];exact i.o.take v (by rw[<-f.o];omega) (.inl (by rw[<-f.o];exact u)));clear hn0 u;go_wp2_with fail
    go_roundg j
    .exact⟨m+1,m,n,by go_num,rfl,rfl,by omega,g,o⟩
    .omega
   .subst J
    have D:decide (n<n)=false:=(by simp);have K:((n:Int)==(n:Int))=true:=(by simp);by_cases hmb:m<a
    .have L:decide (m<a)=true:=zB hmb
     have g:gh (l8 l W H d (m+1) m n):=gd (by rw[f.o];exact i.o.take v (by rw[<-f.o];omega) (.inr ⟨f.o.symm,hmb⟩));clear hn0 hmb;go_wp2_with fail
     go_roundg j
     .exact⟨m+1,m,n,by go_num,rfl,rfl,by omega,g,o⟩
     .omega
    .have L:decide (m<a)=false:=zA hmb
     have g:gh (l8 l W H d (m+1) a n):=gd (i.o.skip (.inr (.inr ⟨f.o.symm,by omega⟩)));clear hn0 hmb;go_wp2_with fail
     go_roundg j
     .exact⟨m+1,a,n,by go_num,rfl,rfl,by omega,g,o⟩
     .omega
   .have D:decide (n<c)=false:=zA (by omega)
    have K:((n:Int)==(c:Int))=false:=(by rw[beq_eq_false_iff_ne];omega);have g:gh (l8 l W H d (m+1) a c):=gd (i.o.skip (.inr (.inl (by rw[<-f.o];exact y))));clear hn0 y;go_wp2_with fail
    go_roundg j
    .exact⟨m+1,a,c,by go_num,rfl,rfl,by omega,g,o⟩
    .omega
variable (b:Nat) (F bs:List Nat) (h:hO w b F bs) (hA:gM A l F) (hbs:bs.length<34359738368)
include h hA hbs
theorem M5:Calls prog 45 #[.pointer b,.slice A l.length cap,W,H,d] w λe w'=>e=.returned (.int .i64 0)/\∃F',hO w' b F' (bs++iz (kh l W H d) l W H d)/\gB F F' w w':=by
 have n:=t.qyes cap;have i:=MR cap t;have c:=si l W H d;have a:=λw' (hc:gf [] w w')=>Ez cap (t.Y hc) b F bs (h.Y hc) hA hbs (kh l W H d) c.1 c.2.1;unfold lr at a;generalize iz (kh l W H d) l W H d=ts at *;generalize kh l W H d=bk at *;have f:=gd a;clear a c t h hA;go_enter func45,ntmps45
 go_wp2_with(go_at_call 79;refine gx n ?_)
 refine i.mono ?_;rintro e o ⟨rfl,g⟩;have m:=f.o o g;clear i f;go_wp2_with fail;refine m.mono ?_;rintro e p ⟨rfl,j,ad,k⟩;go_wp2_with fail;go_ret;exact⟨rfl,j,ad,gB.pre g k⟩
end
end Go.Proofs.YtnepiccbpokmiaaGreatDoor
