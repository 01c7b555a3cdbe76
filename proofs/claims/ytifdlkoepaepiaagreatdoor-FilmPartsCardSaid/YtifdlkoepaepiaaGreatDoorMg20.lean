/- Lemmas. -/
import Derived.Test.YtifdlkoepaepiaaGreatDoorMg17
import Derived.Deep.Cut
set_option linter.all false
set_option maxHeartbeats 1000000
set_option maxRecDepth 100000
namespace Go.Proofs.YtifdlkoepaepiaaGreatDoor
open Tryz List Nat Go.RowKit
theorem uL(n k:Nat)(w:World)(b:1<=n)(n1:n<=4)(c:k<=4):Calls prog 41 #[n,k] w λe w'=>e=.returned (.bool (kC n k))/\w=w':=by
 have d:=gY n 1 (by omega);have f:=gY 4 n (by omega);have g:decide ((3:Int)<=(n:Int))=decide (3<=n):=by rw[decide_eq_decide];omega
 have h:decide ((2:Int)<=(n:Int))=decide (2<=n):=by rw[decide_eq_decide];omega
 have a:kC n k=(decide (k=0)||(decide (k=1\/k=2\/k=3)&&decide (3<=n))||(decide (k=4)&&decide (2<=n))):=by unfold kC;rw[zB b,zB n1];rfl
 rw[a];clear a;rcases(by omega:k=0\/k=1\/k=2\/k=3\/k=4)with rfl|rfl|rfl|rfl|rfl
 all_goals
  generalize decide (3<=n)=x3 at *;generalize decide (2<=n)=x2 at *;go_enter func41,ntmps41;go_wp2_with fail;go_ret;exact⟨by cases x2<;>cases x3<;>rfl,rfl⟩
theorem EW(w:World)(o:Obj):(w.alloc o).heap.size=w.heap.size+1:=by
 show(w.heap.push o).size=_;exact Array.size_push _
theorem qJ(v:Int){d:Nat}(a:1<=d)(b:d<=16):-32768<=ii v d/\ii v d<=32767:=by
 obtain⟨e,f⟩:=om v a;have c:(2:Int)^(d-1)<=2^15:=by
  have:=Nat.pow_le_pow_right (n:=2) (by decide) (show d-1<=15 by omega)
  exact_mod_cast this
 omega
def x7 (a b c e:Int):Value:=.agg #[a,b,c,e]
def jO (l:List Int):Value:=.agg (l.map vi).toArray
theorem nR{F:Func}{Q:Ending->World->Prop}{a:Act}{Y:World}{C:Nat}{t:TypeId}{z0 z1 z2 z3 b c d e:Value}(f:gn Y C t #[z0,z1,z2,z3])(h:∀X,gn X C t #[b,c,d,e]->gg [C] Y X->bodyPost prog F Q .ret a X):bodyPost prog F Q .ret a ((((Y.setCell C b).setCell ⟨C,1,none⟩ c).setCell ⟨C,2,none⟩ d).setCell ⟨C,3,none⟩ e):=by
 refine h _ ?_ ?_
 .have:=(((f.S 0 b).S 1 c).S 2 d).S 3 e
  simpa using this
 .exact((((zR [C] Y).setCell (p:=⟨C,0,none⟩) (.inl (by simp)) _).setCell (p:=⟨C,1,none⟩) (.inl (by simp)) _).setCell (p:=⟨C,2,none⟩) (.inl (by simp)) _).setCell (p:=⟨C,3,none⟩) (.inl (by simp)) _
theorem Lk(k d:Nat)(a b c e:Int)(w:World)(K:1<=d)(L:d<=16)(k4:k<=4)(ha:jj d a)(hb:jj d b)(hc:jj d c)(he:jj d e):Calls prog 104 #[x7 a b c e,k,d] w λen w'=>en=.returned (jO (lf k d a b c e))/\gg [] w w':=by
 obtain⟨a3,a4⟩:=jX K L;have hw:∀v w,_:=λv w=>o7 v d w K L;have hf:∀v w,_:=λv w=>oB v d w K L;obtain⟨a0,a1⟩:=ha;obtain⟨b0,b1⟩:=hb;obtain⟨c0,c1⟩:=hc;obtain⟨e0,e1⟩:=he;unfold x7;have⟨w1,ao⟩:=zX ((w.alloc (.cells #[a,b,c,e] 73)).alloc (.cells #[(0:Int),(0:Int),(0:Int),(0:Int)] 73));have⟨B,hB⟩:=zX w.heap.size;have⟨C,hC⟩:=zX (B+1);have r:gn w1 B 73 #[a,b,c,e]:=by rw[ao,hB];exact(gn.new w _ _).alloc _
 have A:gn w1 C 73 #[(0:Int),(0:Int),(0:Int),(0:Int)]:=by
  rw[ao,hC,hB]
  have:=gn.new (w.alloc (.cells #[a,b,c,e] 73)) 73 #[(0:Int),(0:Int),(0:Int),(0:Int)]
  rwa [EW]at this
 have aK:gg [] w w1:=by rw[ao];exact((zR [] w).alloc _).alloc _
 have J:C≠B:=by omega
 have D:=r.X 0;have E:=r.X 1;have F:=r.X 2;have G:=r.X 3;have z0:=A.X 0;have z1:=A.X 1;have z2:=A.X 2;have z3:=A.X 3;have Q:=r.U 0;have R:=r.U 1;have S:=r.U 2;have T:=r.U 3;have U:=A.U 0;have V:=A.U 1;have W:=A.U 2;have Y:=A.U 3;simp at D E F G z0 z1 z2 z3;have⟨HW,HF,am,al⟩:=gu hw hf ao aK;have⟨HB,HC,aO,ak⟩:=gu hB hC r A;clear hw hf ao aK r A hB hC;rcases(by omega:k=0\/k=1\/k=2\/k=3\/k=4)with rfl|rfl|rfl|rfl|rfl
 .have l:lf 0 d a b c e=[a,b,c,e]:=by rfl
  rw[l];clear l;go_enter func104,ntmps104;go_wp2_with fail;rw[<-am.o,<-HB.o,<-HC.o]
  go_quiet (fail)
  go_wp2_with fail;refine nR (z0:=.int .i64 0) (z1:=.int .i64 0) (z2:=.int .i64 0) (z3:=.int .i64 0) (t:=73) (by repeat(first|exact ak.o.drewN nq|refine gn.Q ?_ J _)) ?_
  intro X f H;have m:=f.X 0;have n:=f.X 1;have o:=f.X 2;have p:=f.X 3;simp at m n o p;refine bodyPost_ret (v:=jO [a,b,c,e]) (by simp[results,results104,go_sem,m,n,o,p,jO,vi]) rfl ?_;refine⟨rfl,gg.trans (F':=[C]) ?_ H (λx hx => .inr (by simp at hx;have:=HB.o;have:=HC.o;omega))⟩
  repeat(first|exact al.o.drewN nq|refine gg.setCell ?_ (.inr (by show _<=B;have:=HB.o;omega)) _)
 .have⟨x,hx⟩:=zX (gU (a-b) d)
  have⟨z,hz⟩:=zX (gU (c-b) d);have l:lf 1 d a b c e=[x,b,z,e]:=by rw[hz,hx];rfl
  rw[l];have mx:=λw=>HW.o (a-b) w;have aX:=jK (a-b) d;have aS:=jJ (a-b) d;rw[<-hx]at mx aX aS;have mz:=λw=>HW.o (c-b) w;have aY:=jK (c-b) d;have aT:=jJ (c-b) d;rw[<-hz]at mz aY aT;clear l hx hz;go_enter func104,ntmps104;go_wp2_with fail;rw[<-am.o,<-HB.o,<-HC.o]
  go_quiet (fail)
  go_wp2_with fail;refine gB (mx _) ?_;go_wp2_with fail;refine gB (mz _) ?_;go_wp2_with fail;refine nR (z0:=.int .i64 0) (z1:=.int .i64 0) (z2:=.int .i64 0) (z3:=.int .i64 0) (t:=73) (by repeat(first|exact ak.o.drewN nq|refine gn.Q ?_ J _)) ?_
  intro X f H;have m:=f.X 0;have n:=f.X 1;have o:=f.X 2;have p:=f.X 3;simp at m n o p;refine bodyPost_ret (v:=jO [x,b,z,e]) (by simp[results,results104,go_sem,m,n,o,p,jO,vi]) rfl ?_;refine⟨rfl,gg.trans (F':=[C]) ?_ H (λx hx => .inr (by simp at hx;have:=HB.o;have:=HC.o;omega))⟩
  repeat(first|exact al.o.drewN nq|refine gg.setCell ?_ (.inr (by show _<=B;have:=HB.o;omega)) _)
 .have⟨u,hu⟩:=zX (gU (a-c) d)
  have⟨fu,ad⟩:=zX (ii u d);have⟨su,aC⟩:=zX (kt fu 1);have⟨t,ht⟩:=zX (gU (c+su) d);have⟨v,hv⟩:=zX (gU (b-t) d);have⟨fv,ae⟩:=zX (ii v d);have⟨sv,aD⟩:=zX (kt fv 1);have⟨y,hy⟩:=zX (gU (t+sv) d);have l:lf 2 d a b c e=[y,u,v,e]:=by rw[hy,aD,ae,hv,ht,aC,ad,hu];rfl
  rw[l];have Z:=λw=>HW.o (a-c) w;have aH:=jK (a-c) d;have az:=jJ (a-c) d;rw[<-hu]at Z aH az;have O:=λw=>HF.o u w;obtain⟨ah,af⟩:=qJ u K L;rw[<-ad]at O ah af;have a6:fu / 2=su:=aC.symm;have aU : -32768<=su:=by omega
  have aP:su<=32768:=by omega
  have mt:=λw=>HW.o (c+su) w;have aW:=jK (c+su) d;have aR:=jJ (c+su) d;rw[<-ht]at mt aW aR;have mv:=λw=>HW.o (b-t) w;have aI:=jK (b-t) d;have aA:=jJ (b-t) d;rw[<-hv]at mv aI aA;have P:=λw=>HF.o v w;obtain⟨ai,ag⟩:=qJ v K L;rw[<-ae]at P ai ag;have a7:fv / 2=sv:=aD.symm;have aV : -32768<=sv:=by omega
  have aQ:sv<=32768:=by omega
  have my:=λw=>HW.o (t+sv) w;have aJ:=jK (t+sv) d;have aB:=jJ (t+sv) d;rw[<-hy]at my aJ aB;clear l hu ad aC ht hv ae aD hy;go_enter func104,ntmps104;go_wp2_with fail;rw[<-am.o,<-HB.o,<-HC.o]
  go_quiet (fail)
  go_wp2_with fail;refine gB (Z _) ?_;go_wp2_with fail;refine gB (O _) ?_;go_wp2_with fail;refine gB (mt _) ?_;go_wp2_with fail;refine gB (mv _) ?_;go_wp2_with fail;refine gB (P _) ?_;go_wp2_with fail;refine gB (my _) ?_;go_wp2_with fail;refine nR (z0:=.int .i64 0) (z1:=.int .i64 0) (z2:=.int .i64 0) (z3:=.int .i64 0) (t:=73) (by repeat(first|exact ak.o.drewN nq|refine gn.Q ?_ J _)) ?_
  intro X f H;have m:=f.X 0;have n:=f.X 1;have o:=f.X 2;have p:=f.X 3;simp at m n o p;refine bodyPost_ret (v:=jO [y,u,v,e]) (by simp[results,results104,go_sem,m,n,o,p,jO,vi]) rfl ?_;refine⟨rfl,gg.trans (F':=[C]) ?_ H (λx hx => .inr (by simp at hx;have:=HB.o;have:=HC.o;omega))⟩
  repeat(first|exact al.o.drewN nq|refine gg.setCell ?_ (.inr (by show _<=B;have:=HB.o;omega)) _)
 .have⟨u,hu⟩:=zX (gU (c-b) d)
  have⟨v,hv⟩:=zX (gU (a-b) d);have⟨fu,ad⟩:=zX (ii u d);have⟨fv,ae⟩:=zX (ii v d);have⟨s,I⟩:=zX (kt (fu+fv) 2);have⟨y,hy⟩:=zX (gU (b+s) d);have l:lf 3 d a b c e=[y,u,v,e]:=by rw[hy,I,ae,ad,hv,hu];rfl
  rw[l];have Z:=λw=>HW.o (c-b) w;have aH:=jK (c-b) d;have az:=jJ (c-b) d;rw[<-hu]at Z aH az;have mv:=λw=>HW.o (a-b) w;have aI:=jK (a-b) d;have aA:=jJ (a-b) d;rw[<-hv]at mv aI aA;have O:=λw=>HF.o u w;obtain⟨ah,af⟩:=qJ u K L;rw[<-ad]at O ah af;have P:=λw=>HF.o v w;obtain⟨ai,ag⟩:=qJ v K L;rw[<-ae]at P ai ag;have ms:(fu+fv) / 4=s:=I.symm;have a5 : -32768<=s:=by omega
  have a2:s<=32768:=by omega
  have my:=λw=>HW.o (b+s) w;have aJ:=jK (b+s) d;have aB:=jJ (b+s) d;rw[<-hy]at my aJ aB;clear l hu hv ad ae I hy;go_enter func104,ntmps104;go_wp2_with fail;rw[<-am.o,<-HB.o,<-HC.o]
  go_quiet (fail)
  go_wp2_with fail;refine gB (Z _) ?_;go_wp2_with fail;refine gB (mv _) ?_;go_wp2_with fail;refine gB (O _) ?_;go_wp2_with fail;refine gB (P _) ?_;go_wp2_with fail;refine gB (my _) ?_;go_wp2_with fail;refine nR (z0:=.int .i64 0) (z1:=.int .i64 0) (z2:=.int .i64 0) (z3:=.int .i64 0) (t:=73) (by repeat(first|exact ak.o.drewN nq|refine gn.Q ?_ J _)) ?_
  intro X f H;have m:=f.X 0;have n:=f.X 1;have o:=f.X 2;have p:=f.X 3;simp at m n o p;refine bodyPost_ret (v:=jO [y,u,v,e]) (by simp[results,results104,go_sem,m,n,o,p,jO,vi]) rfl ?_;refine⟨rfl,gg.trans (F':=[C]) ?_ H (λx hx => .inr (by simp at hx;have:=HB.o;have:=HC.o;omega))⟩
  repeat(first|exact al.o.drewN nq|refine gg.setCell ?_ (.inr (by show _<=B;have:=HB.o;omega)) _)
 .have⟨e',av⟩:=zX (gU (e-c) d)
  have⟨c',au⟩:=zX (gU (c-b) d);have⟨b',ar⟩:=zX (gU (b-a) d);have l:lf 4 d a b c e=[a,b',c',e']:=by rw[ar,au,av];rfl
  rw[l];have aN:=λw=>HW.o (e-c) w;have aG:=jK (e-c) d;have ay:=jJ (e-c) d;rw[<-av]at aN aG ay;have aM:=λw=>HW.o (c-b) w;have aF:=jK (c-b) d;have ax:=jJ (c-b) d;rw[<-au]at aM aF ax;have aL:=λw=>HW.o (b-a) w;have aE:=jK (b-a) d;have aw:=jJ (b-a) d;rw[<-ar]at aL aE aw;clear l av au ar;go_enter func104,ntmps104;go_wp2_with fail;rw[<-am.o,<-HB.o,<-HC.o]
  go_quiet (fail)
  go_wp2_with fail
  go_loopg [15] 3 (λj s15 wr=>∃i:Nat,s15=.int .i64 (3-i:Int)/\i+j=3/\gh (gn wr B 73 ((if i=0 then[a,b,c,e]else if i=1 then[a,b,c,e']else if i=2 then[a,b,c',e']else[a,b',c',e']).map vi).toArray)/\gh (gn wr C 73 #[(0:Int),(0:Int),(0:Int),(0:Int)])/\gh (gg [] w wr))
  .exact⟨0,by simp,rfl,gd (aO.o.drewN nq),gd (ak.o.drewN nq),gd (al.o.drewN nq)⟩
  clear D E F G z0 z1 z2 z3 Q R S T U V W Y;obtain⟨i,rfl,aZ,HX,g,HZ⟩:=hrel;rcases(by omega:i=0\/i=1\/i=2\/i=3)with rfl|rfl|rfl|rfl
  .have f:gn wr B 73 #[a,b,c,e]:=HX.o
   have D:=f.X 0;have Q:=f.U 0;have z0:=g.o.X 0;have U:=g.o.U 0;have E:=f.X 1;have R:=f.U 1;have z1:=g.o.X 1;have V:=g.o.U 1;have F:=f.X 2;have S:=f.U 2;have z2:=g.o.X 2;have W:=g.o.U 2;have G:=f.X 3;have T:=f.U 3;have z3:=g.o.X 3;have Y:=g.o.U 3;simp at D E F G z0 z1 z2 z3;have M:=gd f;clear f;go_wp2_with fail;refine i9 12 (by kernel_rfl) (by kernel_rfl) ?_;simp only[take_succ_cons,take_zero,drop_succ_cons,drop_zero]
   repeat(go_big_quiet_step ((go_at_call 81;exact Calls.quiet_of_same ((aN _).mono (λ_ _ h=>⟨h.1,h.2.symm⟩)))))
   refine wpQuiet_nil ?_;intro _ N;obtain⟨q,rfl⟩:=N;go_wp2_with fail
   go_roundg 2
   .have I:=(M.o.drewN q).S 3 (.int .i64 e')
    exact⟨1,by simp,rfl,gd (by simpa[vi]using I),gd ((g.o.drewN q).Q J _),gd ((HZ.o.drewN q).setCell (.inr (by show _<=B;have:=HB.o;omega)) _)⟩
   .omega
  .have f:gn wr B 73 #[a,b,c,e']:=HX.o
   have D:=f.X 0;have Q:=f.U 0;have z0:=g.o.X 0;have U:=g.o.U 0;have E:=f.X 1;have R:=f.U 1;have z1:=g.o.X 1;have V:=g.o.U 1;have F:=f.X 2;have S:=f.U 2;have z2:=g.o.X 2;have W:=g.o.U 2;have G:=f.X 3;have T:=f.U 3;have z3:=g.o.X 3;have Y:=g.o.U 3;simp at D E F G z0 z1 z2 z3;have M:=gd f;clear f;go_wp2_with fail;refine i9 12 (by kernel_rfl) (by kernel_rfl) ?_;simp only[take_succ_cons,take_zero,drop_succ_cons,drop_zero]
   repeat(go_big_quiet_step ((go_at_call 81;exact Calls.quiet_of_same ((aM _).mono (λ_ _ h=>⟨h.1,h.2.symm⟩)))))
   refine wpQuiet_nil ?_;intro _ N;obtain⟨q,rfl⟩:=N;go_wp2_with fail
   go_roundg 1
   .have I:=(M.o.drewN q).S 2 (.int .i64 c')
    exact⟨2,by simp,rfl,gd (by simpa[vi]using I),gd ((g.o.drewN q).Q J _),gd ((HZ.o.drewN q).setCell (.inr (by show _<=B;have:=HB.o;omega)) _)⟩
   .omega
  .have f:gn wr B 73 #[a,b,c',e']:=HX.o
   have D:=f.X 0;have Q:=f.U 0;have z0:=g.o.X 0;have U:=g.o.U 0;have E:=f.X 1;have R:=f.U 1;have z1:=g.o.X 1;have V:=g.o.U 1;have F:=f.X 2;have S:=f.U 2;have z2:=g.o.X 2;have W:=g.o.U 2;have G:=f.X 3;have T:=f.U 3;have z3:=g.o.X 3;have Y:=g.o.U 3;simp at D E F G z0 z1 z2 z3;have M:=gd f;clear f;go_wp2_with fail;refine i9 12 (by kernel_rfl) (by kernel_rfl) ?_;simp only[take_succ_cons,take_zero,drop_succ_cons,drop_zero]
   repeat(go_big_quiet_step ((go_at_call 81;exact Calls.quiet_of_same ((aL _).mono (λ_ _ h=>⟨h.1,h.2.symm⟩)))))
   refine wpQuiet_nil ?_;intro _ N;obtain⟨q,rfl⟩:=N;go_wp2_with fail
   go_roundg 0
   .have I:=(M.o.drewN q).S 1 (.int .i64 b')
    exact⟨3,by simp,rfl,gd (by simpa[vi]using I),gd ((g.o.drewN q).Q J _),gd ((HZ.o.drewN q).setCell (.inr (by show _<=B;have:=HB.o;omega)) _)⟩
   .omega
  .have f:gn wr B 73 #[a,b',c',e']:=HX.o
   have D:=f.X 0;have Q:=f.U 0;have z0:=g.o.X 0;have U:=g.o.U 0;have E:=f.X 1;have R:=f.U 1;have z1:=g.o.X 1;have V:=g.o.U 1;have F:=f.X 2;have S:=f.U 2;have z2:=g.o.X 2;have W:=g.o.U 2;have G:=f.X 3;have T:=f.U 3;have z3:=g.o.X 3;have Y:=g.o.U 3;simp at D E F G z0 z1 z2 z3;have M:=gd f;clear f;go_wp2_with fail;refine nR (z0:=.int .i64 0) (z1:=.int .i64 0) (z2:=.int .i64 0) (z3:=.int .i64 0) (t:=73) (by repeat(first|exact g.o|refine gn.Q ?_ J _)) ?_
   intro X f H;have m:=f.X 0;have n:=f.X 1;have o:=f.X 2;have p:=f.X 3;simp at m n o p;refine bodyPost_ret (v:=jO [a,b',c',e']) (by simp[results,results104,go_sem,m,n,o,p,jO,vi]) rfl ?_;refine⟨rfl,gg.trans (F':=[C]) ?_ H (λx hx => .inr (by simp at hx;have:=HB.o;have:=HC.o;omega))⟩
   repeat(first|exact HZ.o|refine gg.setCell ?_ (.inr (by show _<=B;have:=HB.o;omega)) _)
theorem K4(k d:Nat)(a b c e:Int)(w:World)(L:1<=d)(M:d<=16)(k4:k<=4)(ha:jj d a)(hb:jj d b)(hc:jj d c)(he:jj d e):Calls prog 109 #[x7 a b c e,k,d] w λen w'=>en=.returned (jO (jM k d a b c e))/\gg [] w w':=by
 obtain⟨aX,aY⟩:=jX L M;have hw:∀v w,_:=λv w=>o7 v d w L M;have hf:∀v w,_:=λv w=>oB v d w L M;obtain⟨a0,a1⟩:=ha;obtain⟨b0,b1⟩:=hb;obtain⟨c0,c1⟩:=hc;obtain⟨e0,e1⟩:=he;unfold x7;have⟨w1,aq⟩:=zX ((w.alloc (.cells #[a,b,c,e] 73)).alloc (.cells #[(0:Int),(0:Int),(0:Int),(0:Int)] 73));have⟨B,hB⟩:=zX w.heap.size;have⟨C,hC⟩:=zX (B+1);have r:gn w1 B 73 #[a,b,c,e]:=by rw[aq,hB];exact(gn.new w _ _).alloc _
 have u:gn w1 C 73 #[(0:Int),(0:Int),(0:Int),(0:Int)]:=by
  rw[aq,hC,hB]
  have:=gn.new (w.alloc (.cells #[a,b,c,e] 73)) 73 #[(0:Int),(0:Int),(0:Int),(0:Int)]
  rwa [EW]at this
 have aK:gg [] w w1:=by rw[aq];exact((zR [] w).alloc _).alloc _
 have I:C≠B:=by omega
 have A:=r.X 0;have D:=r.X 1;have E:=r.X 2;have F:=r.X 3;have z0:=u.X 0;have z1:=u.X 1;have z2:=u.X 2;have z3:=u.X 3;have V:=r.U 0;have W:=r.U 1;have Y:=r.U 2;have Z:=r.U 3;have g0:=u.U 0;have g1:=u.U 1;have g2:=u.U 2;have g3:=u.U 3;simp at A D E F z0 z1 z2 z3;have⟨HW,HF,am,al⟩:=gu hw hf aq aK;have⟨HB,HC,aO,ak⟩:=gu hB hC r u;clear hw hf aq aK r u hB hC;rcases(by omega:k=0\/k=1\/k=2\/k=3\/k=4)with rfl|rfl|rfl|rfl|rfl
 .have l:jM 0 d a b c e=[a,b,c,e]:=by rfl
  rw[l];clear l;go_enter func109,ntmps109
  go_upto_region 1 with(fail)
  rw[<-am.o,<-HB.o,<-HC.o];go_wp2_with fail;refine nR (z0:=.int .i64 0) (z1:=.int .i64 0) (z2:=.int .i64 0) (z3:=.int .i64 0) (t:=73) (by repeat(first|exact ak.o|refine gn.Q ?_ I _)) ?_
  intro X f G;have m:=f.X 0;have n:=f.X 1;have o:=f.X 2;have p:=f.X 3;simp at m n o p;refine bodyPost_ret (v:=jO [a,b,c,e]) (by simp[results,results109,go_sem,m,n,o,p,jO,vi]) rfl ?_;refine⟨rfl,gg.trans (F':=[C]) ?_ G (λx hx => .inr (by simp at hx;have:=HB.o;have:=HC.o;omega))⟩
  repeat(first|exact al.o|refine gg.setCell ?_ (.inr (by show _<=B;have:=HB.o;omega)) _)
 .have⟨x,hx⟩:=zX (gU (a+b) d)
  have⟨z,hz⟩:=zX (gU (c+b) d);have l:jM 1 d a b c e=[x,b,z,e]:=by rw[hz,hx];rfl
  rw[l];have J:=λw=>HW.o (a+b) w;have R:=jK (a+b) d;have O:=jJ (a+b) d;rw[<-hx]at J R O;have K:=λw=>HW.o (c+b) w;have S:=jK (c+b) d;have P:=jJ (c+b) d;rw[<-hz]at K S P;clear l hx hz;go_enter func109,ntmps109;go_wp2_with fail;rw[<-am.o,<-HB.o,<-HC.o];refine gB (J _) ?_;go_wp2_with fail;refine gB (K _) ?_;go_wp2_with fail;refine nR (z0:=.int .i64 0) (z1:=.int .i64 0) (z2:=.int .i64 0) (z3:=.int .i64 0) (t:=73) (by repeat(first|exact ak.o|refine gn.Q ?_ I _)) ?_
  intro X f G;have m:=f.X 0;have n:=f.X 1;have o:=f.X 2;have p:=f.X 3;simp at m n o p;refine bodyPost_ret (v:=jO [x,b,z,e]) (by simp[results,results109,go_sem,m,n,o,p,jO,vi]) rfl ?_;refine⟨rfl,gg.trans (F':=[C]) ?_ G (λx hx => .inr (by simp at hx;have:=HB.o;have:=HC.o;omega))⟩
  repeat(first|exact al.o|refine gg.setCell ?_ (.inr (by show _<=B;have:=HB.o;omega)) _)
 .have⟨fc,ae⟩:=zX (ii c d)
  have⟨sc,aF⟩:=zX (kt fc 1);have⟨t,ht⟩:=zX (gU (a-sc) d);have⟨fb,ad⟩:=zX (ii b d);have⟨sb,aE⟩:=zX (kt fb 1);have⟨y,hy⟩:=zX (gU (t-sb) d);have⟨x,hx⟩:=zX (gU (b+y) d);have⟨z,hz⟩:=zX (gU (c+t) d);have l:jM 2 d a b c e=[x,z,y,e]:=by rw[hz,hx,hy,aE,ad,ht,aF,ae];rfl
  rw[l];have U:=λw=>HF.o c w;obtain⟨ai,ag⟩:=qJ c L M;rw[<-ae]at U ai ag;have a3:fc / 2=sc:=aF.symm;have aT : -32768<=sc:=by omega
  have aQ:sc<=32768:=by omega
  have mt:=λw=>HW.o (a-sc) w;have aU:=jK (a-sc) d;have aR:=jJ (a-sc) d;rw[<-ht]at mt aU aR;have T:=λw=>HF.o b w;obtain⟨ah,af⟩:=qJ b L M;rw[<-ad]at T ah af;have a2:fb / 2=sb:=aE.symm;have aS : -32768<=sb:=by omega
  have aP:sb<=32768:=by omega
  have my:=λw=>HW.o (t-sb) w;have aJ:=jK (t-sb) d;have aD:=jJ (t-sb) d;rw[<-hy]at my aJ aD;have J:=λw=>HW.o (b+y) w;have R:=jK (b+y) d;have O:=jJ (b+y) d;rw[<-hx]at J R O;have K:=λw=>HW.o (c+t) w;have S:=jK (c+t) d;have P:=jJ (c+t) d;rw[<-hz]at K S P;clear l ae aF ht ad aE hy hx hz;go_enter func109,ntmps109;go_wp2_with fail;rw[<-am.o,<-HB.o,<-HC.o]
  go_quiet (fail)
  go_wp2_with fail;refine gB (U _) ?_;go_wp2_with fail;refine gB (mt _) ?_;go_wp2_with fail;refine gB (T _) ?_;go_wp2_with fail;refine gB (my _) ?_;go_wp2_with fail;refine gB (J _) ?_;go_wp2_with fail;refine gB (K _) ?_;go_wp2_with fail;refine nR (z0:=.int .i64 0) (z1:=.int .i64 0) (z2:=.int .i64 0) (z3:=.int .i64 0) (t:=73) (by repeat(first|exact ak.o.drewN nq|refine gn.Q ?_ I _)) ?_
  intro X f G;have m:=f.X 0;have n:=f.X 1;have o:=f.X 2;have p:=f.X 3;simp at m n o p;refine bodyPost_ret (v:=jO [x,z,y,e]) (by simp[results,results109,go_sem,m,n,o,p,jO,vi]) rfl ?_;refine⟨rfl,gg.trans (F':=[C]) ?_ G (λx hx => .inr (by simp at hx;have:=HB.o;have:=HC.o;omega))⟩
  repeat(first|exact al.o.drewN nq|refine gg.setCell ?_ (.inr (by show _<=B;have:=HB.o;omega)) _)
 .have⟨fb,ad⟩:=zX (ii b d)
  have⟨fc,ae⟩:=zX (ii c d);have⟨s,H⟩:=zX (kt (fb+fc) 2);have⟨y,hy⟩:=zX (gU (a-s) d);have⟨x,hx⟩:=zX (gU (c+y) d);have⟨z,hz⟩:=zX (gU (b+y) d);have l:jM 3 d a b c e=[x,y,z,e]:=by rw[hz,hx,hy,H,ae,ad];rfl
  rw[l];have T:=λw=>HF.o b w;obtain⟨ah,af⟩:=qJ b L M;rw[<-ad]at T ah af;have U:=λw=>HF.o c w;obtain⟨ai,ag⟩:=qJ c L M;rw[<-ae]at U ai ag;have ms:(fb+fc) / 4=s:=H.symm;have aZ : -32768<=s:=by omega
  have aW:s<=32768:=by omega
  have my:=λw=>HW.o (a-s) w;have aJ:=jK (a-s) d;have aD:=jJ (a-s) d;rw[<-hy]at my aJ aD;have J:=λw=>HW.o (c+y) w;have R:=jK (c+y) d;have O:=jJ (c+y) d;rw[<-hx]at J R O;have K:=λw=>HW.o (b+y) w;have S:=jK (b+y) d;have P:=jJ (b+y) d;rw[<-hz]at K S P;clear l ad ae H hy hx hz;go_enter func109,ntmps109;go_wp2_with fail;rw[<-am.o,<-HB.o,<-HC.o]
  go_quiet (fail)
  go_wp2_with fail;refine gB (T _) ?_;go_wp2_with fail;refine gB (U _) ?_;go_wp2_with fail;refine gB (my _) ?_;go_wp2_with fail;refine gB (J _) ?_;go_wp2_with fail;refine gB (K _) ?_;go_wp2_with fail;refine nR (z0:=.int .i64 0) (z1:=.int .i64 0) (z2:=.int .i64 0) (z3:=.int .i64 0) (t:=73) (by repeat(first|exact ak.o.drewN nq|refine gn.Q ?_ I _)) ?_
  intro X f G;have m:=f.X 0;have n:=f.X 1;have o:=f.X 2;have p:=f.X 3;simp at m n o p;refine bodyPost_ret (v:=jO [x,y,z,e]) (by simp[results,results109,go_sem,m,n,o,p,jO,vi]) rfl ?_;refine⟨rfl,gg.trans (F':=[C]) ?_ G (λx hx => .inr (by simp at hx;have:=HB.o;have:=HC.o;omega))⟩
  repeat(first|exact al.o.drewN nq|refine gg.setCell ?_ (.inr (by show _<=B;have:=HB.o;omega)) _)
 .have⟨b',ax⟩:=zX (gU (b+a) d)
  have⟨c',ay⟩:=zX (gU (c+b') d);have⟨e',az⟩:=zX (gU (e+c') d);have l:jM 4 d a b c e=[a,b',c',e']:=by rw[az,ay,ax];rfl
  rw[l];have aL:=λw=>HW.o (b+a) w;have aG:=jK (b+a) d;have aA:=jJ (b+a) d;rw[<-ax]at aL aG aA;have aM:=λw=>HW.o (c+b') w;have aH:=jK (c+b') d;have aB:=jJ (c+b') d;rw[<-ay]at aM aH aB;have aN:=λw=>HW.o (e+c') w;have aI:=jK (e+c') d;have aC:=jJ (e+c') d;rw[<-az]at aN aI aC;clear l ax ay az;go_enter func109,ntmps109;go_wp2_with fail;rw[<-am.o,<-HB.o,<-HC.o]
  go_loopg [16] 3 (λj s16 wr=>∃i:Nat,s16=.int .i64 (1+i:Int)/\i+j=3/\gh (gn wr B 73 ((if i=0 then[a,b,c,e]else if i=1 then[a,b',c,e]else if i=2 then[a,b',c',e]else[a,b',c',e']).map vi).toArray)/\gh (gn wr C 73 #[(0:Int),(0:Int),(0:Int),(0:Int)])/\gh (gg [] w wr))
  .exact⟨0,by simp,rfl,aO,ak,al⟩
  clear A D E F z0 z1 z2 z3 V W Y Z g0 g1 g2 g3;obtain⟨i,rfl,aV,HX,g,HZ⟩:=hrel;rcases(by omega:i=0\/i=1\/i=2\/i=3)with rfl|rfl|rfl|rfl
  .have f:gn wr B 73 #[a,b,c,e]:=HX.o
   have A:=f.X 0;have V:=f.U 0;have z0:=g.o.X 0;have g0:=g.o.U 0;have D:=f.X 1;have W:=f.U 1;have z1:=g.o.X 1;have g1:=g.o.U 1;have E:=f.X 2;have Y:=f.U 2;have z2:=g.o.X 2;have g2:=g.o.U 2;have F:=f.X 3;have Z:=f.U 3;have z3:=g.o.X 3;have g3:=g.o.U 3;simp at A D E F z0 z1 z2 z3;have N:=gd f;clear f;go_wp2_with fail;refine i9 12 (by kernel_rfl) (by kernel_rfl) ?_;simp only[take_succ_cons,take_zero,drop_succ_cons,drop_zero]
   repeat(go_big_quiet_step ((go_at_call 81;exact Calls.quiet_of_same ((aL _).mono (λ_ _ h=>⟨h.1,h.2.symm⟩)))))
   refine wpQuiet_nil ?_;intro _ Q;obtain⟨q,rfl⟩:=Q;go_wp2_with fail
   go_roundg 2
   .have H:=(N.o.drewN q).S 1 (.int .i64 b')
    exact⟨1,by simp,rfl,gd (by simpa[vi]using H),gd ((g.o.drewN q).Q I _),gd ((HZ.o.drewN q).setCell (.inr (by show _<=B;have:=HB.o;omega)) _)⟩
   .omega
  .have f:gn wr B 73 #[a,b',c,e]:=HX.o
   have A:=f.X 0;have V:=f.U 0;have z0:=g.o.X 0;have g0:=g.o.U 0;have D:=f.X 1;have W:=f.U 1;have z1:=g.o.X 1;have g1:=g.o.U 1;have E:=f.X 2;have Y:=f.U 2;have z2:=g.o.X 2;have g2:=g.o.U 2;have F:=f.X 3;have Z:=f.U 3;have z3:=g.o.X 3;have g3:=g.o.U 3;simp at A D E F z0 z1 z2 z3;have N:=gd f;clear f;go_wp2_with fail;refine i9 12 (by kernel_rfl) (by kernel_rfl) ?_;simp only[take_succ_cons,take_zero,drop_succ_cons,drop_zero]
   repeat(go_big_quiet_step ((go_at_call 81;exact Calls.quiet_of_same ((aM _).mono (λ_ _ h=>⟨h.1,h.2.symm⟩)))))
   refine wpQuiet_nil ?_;intro _ Q;obtain⟨q,rfl⟩:=Q;go_wp2_with fail
   go_roundg 1
   .have H:=(N.o.drewN q).S 2 (.int .i64 c')
    exact⟨2,by simp,rfl,gd (by simpa[vi]using H),gd ((g.o.drewN q).Q I _),gd ((HZ.o.drewN q).setCell (.inr (by show _<=B;have:=HB.o;omega)) _)⟩
   .omega
  .have f:gn wr B 73 #[a,b',c',e]:=HX.o
   have A:=f.X 0;have V:=f.U 0;have z0:=g.o.X 0;have g0:=g.o.U 0;have D:=f.X 1;have W:=f.U 1;have z1:=g.o.X 1;have g1:=g.o.U 1;have E:=f.X 2;have Y:=f.U 2;have z2:=g.o.X 2;have g2:=g.o.U 2;have F:=f.X 3;have Z:=f.U 3;have z3:=g.o.X 3;have g3:=g.o.U 3;simp at A D E F z0 z1 z2 z3;have N:=gd f;clear f;go_wp2_with fail;refine i9 12 (by kernel_rfl) (by kernel_rfl) ?_;simp only[take_succ_cons,take_zero,drop_succ_cons,drop_zero]
   repeat(go_big_quiet_step ((go_at_call 81;exact Calls.quiet_of_same ((aN _).mono (λ_ _ h=>⟨h.1,h.2.symm⟩)))))
   refine wpQuiet_nil ?_;intro _ Q;obtain⟨q,rfl⟩:=Q;go_wp2_with fail
   go_roundg 0
   .have H:=(N.o.drewN q).S 3 (.int .i64 e')
    exact⟨3,by simp,rfl,gd (by simpa[vi]using H),gd ((g.o.drewN q).Q I _),gd ((HZ.o.drewN q).setCell (.inr (by show _<=B;have:=HB.o;omega)) _)⟩
   .omega
  .have f:gn wr B 73 #[a,b',c',e']:=HX.o
   have A:=f.X 0;have V:=f.U 0;have z0:=g.o.X 0;have g0:=g.o.U 0;have D:=f.X 1;have W:=f.U 1;have z1:=g.o.X 1;have g1:=g.o.U 1;have E:=f.X 2;have Y:=f.U 2;have z2:=g.o.X 2;have g2:=g.o.U 2;have F:=f.X 3;have Z:=f.U 3;have z3:=g.o.X 3;have g3:=g.o.U 3;simp at A D E F z0 z1 z2 z3;have N:=gd f;clear f;go_wp2_with fail;refine nR (z0:=.int .i64 0) (z1:=.int .i64 0) (z2:=.int .i64 0) (z3:=.int .i64 0) (t:=73) (by repeat(first|exact g.o|refine gn.Q ?_ I _)) ?_
   intro X f G;have m:=f.X 0;have n:=f.X 1;have o:=f.X 2;have p:=f.X 3;simp at m n o p;refine bodyPost_ret (v:=jO [a,b',c',e']) (by simp[results,results109,go_sem,m,n,o,p,jO,vi]) rfl ?_;refine⟨rfl,gg.trans (F':=[C]) ?_ G (λx hx => .inr (by simp at hx;have:=HB.o;have:=HC.o;omega))⟩
   repeat(first|exact HZ.o|refine gg.setCell ?_ (.inr (by show _<=B;have:=HB.o;omega)) _)
end Go.Proofs.YtifdlkoepaepiaaGreatDoor
