/- Lemmas. -/
import Derived.Test.YtifdlkoepaepiaaGreatDoorMh15
import Derived.Deep.Cut
set_option linter.all false
set_option maxHeartbeats 1000000
set_option maxRecDepth 100000
namespace Go.Proofs.YtifdlkoepaepiaaGreatDoor
open Tryz List Nat Go.RowKit
variable {a:Act}{C:Nat}{v0 v1 v2 v3 z0 z1 z2 z3:Value}{Y:World}
theorem uL(n k:Nat)(w:World)(c:1<=n)(n1:n<=4)(d:k<=4):Calls prog 41 #[n,k] w λe w'=>e=.returned (.bool (kC n k))/\w=w':=by
 have f:=Ra n 1 (by omega);have g:=Ra 4 n (by omega);have h:decide ((3:Int)<=(n:Int))=decide (3<=n):=by rw[decide_eq_decide];omega
 have i:decide ((2:Int)<=(n:Int))=decide (2<=n):=by rw[decide_eq_decide];omega
 have b:kC n k=(decide (k=0)||(decide (k=1\/k=2\/k=3)&&decide (3<=n))||(decide (k=4)&&decide (2<=n))):=by unfold kC;rw[zB c,zB n1];rfl
 rw[b];clear b;rcases(by omega:k=0\/k=1\/k=2\/k=3\/k=4)with rfl|rfl|rfl|rfl|rfl
 all_goals
  generalize decide (3<=n)=x3 at *;generalize decide (2<=n)=x2 at *;go_enter func41,ntmps41;go_wp2_with fail;go_ret;exact⟨by cases x2<;>cases x3<;>rfl,rfl⟩
theorem EW(w:World)(o:Obj):(w.alloc o).heap.size=w.heap.size+1:=by
 show(w.heap.push o).size=_;exact Array.size_push _
theorem qJ(v:Int){d:Nat}(b:1<=d)(c:d<=16):-32768<=ii v d/\ii v d<=32767:=by
 obtain⟨f,g⟩:=om v b;have e:(2:Int)^(d-1)<=2^15:=by
  have:=Nat.pow_le_pow_right (n:=2) (by decide) (show d-1<=15 by omega)
  exact_mod_cast this
 omega
def x7(a b c e:Int):Value:=.agg #[a,b,c,e]
def jO(l:List Int):Value:=.agg (l.map vi).toArray
theorem nR{F:Func}{Q:Ending->World->Prop}{t:TypeId}(b:gn Y C t #[z0,z1,z2,z3])(h:∀X,gn X C t #[v0,v1,v2,v3]->gg [C] Y X->bodyPost prog F Q .ret a X):bodyPost prog F Q .ret a ((((Y.setCell C v0).setCell ⟨C,1,none⟩ v1).setCell ⟨C,2,none⟩ v2).setCell ⟨C,3,none⟩ v3):=by
 refine h _ ?_ ?_
 .have:=(((b.S 0 v0).S 1 v1).S 2 v2).S 3 v3
  simpa using this
 .exact((((zR [C] Y).zs 0 _).zs 1 _).zs 2 _).zs 3 _
theorem RN{w:World}{F:Func}{B:Nat}{l:List Int}(h:B=w.heap.size)(i:C=B+1)(f:gn Y C 73 #[z0,z1,z2,z3])(b:gg [] w Y)(d:∀X:World,X.cell? C=some v0->X.cell? ⟨C,1,none⟩=some v1->X.cell? ⟨C,2,none⟩=some v2->X.cell? ⟨C,3,none⟩=some v3->(results F a.tmps).run prog X=.ok (jO l) X)(c:a.defers=[]):bodyPost prog F (λe g=>e=.returned (jO l)/\gg [] w g) .ret a ((((Y.setCell C v0).setCell ⟨C,1,none⟩ v1).setCell ⟨C,2,none⟩ v2).setCell ⟨C,3,none⟩ v3):=by
 refine nR f λX hX hY=>bodyPost_ret (d X (hX.X 0) (hX.X 1) (hX.X 2) (hX.X 3)) c ⟨rfl,gg.trans (F':=[C]) b hY (λx hx=>.inr (by simp at hx;omega))⟩
theorem Lk(k d:Nat)(a b c e:Int)(w:World)(D:1<=d)(E:d<=16)(k4:k<=4)(ha:Rb d a)(hb:Rb d b)(hc:Rb d c)(he:Rb d e):Calls prog 104 #[x7 a b c e,k,d] w λen w'=>en=.returned (jO (lf k d a b c e))/\gg [] w w':=by
 obtain⟨a3,a4⟩:=jX D E;have hw:∀v w,_:=λv w=>o7 v d w D E;have hf:∀v w,_:=λv w=>oB v d w D E;obtain⟨a0,a1⟩:=ha;obtain⟨b0,b1⟩:=hb;obtain⟨c0,c1⟩:=hc;obtain⟨e0,e1⟩:=he;unfold x7;have⟨w1,ao⟩:=zX ((w.alloc (.cells #[a,b,c,e] 73)).alloc (.cells #[(0:Int),(0:Int),(0:Int),(0:Int)] 73));have⟨B,hB⟩:=zX w.heap.size;have⟨C,hC⟩:=zX (B+1);have W:=RG ao hB;have Z:gn w1 C 73 #[(0:Int),(0:Int),(0:Int),(0:Int)]:=by
  rw[ao,hC,hB]
  have:=gn.new (w.alloc (.cells #[a,b,c,e] 73)) 73 #[(0:Int),(0:Int),(0:Int),(0:Int)]
  rwa [EW]at this
 have aK:=RF ao;have A:C≠B:=by omega
 have⟨n,o,p,q⟩:=my W;have⟨z0,z1,z2,z3⟩:=my Z;have⟨J,K,L,M⟩:=RJ W 0 1 2 3;have⟨N,O,P,Q⟩:=RJ Z 0 1 2 3;simp at n o p q z0 z1 z2 z3;have⟨HW,HF,am,al⟩:=gu hw hf ao aK;have⟨HB,HC,aO,ak⟩:=gu hB hC W Z;clear hw hf ao aK W Z hB hC;rcases(by omega:k=0\/k=1\/k=2\/k=3\/k=4)with rfl|rfl|rfl|rfl|rfl
 .have l:lf 0 d a b c e=[a,b,c,e]:=by rfl
  rw[l];clear l;go_enter func104,ntmps104;go_wp2_with fail;rw[<-am.o,<-HB.o,<-HC.o]
  go_quiet (fail)
  go_wp2_with fail;refine RN HB.o HC.o (by repeat(first|exact ak.o.drewN nq|refine gn.Q ?_ A _)) ?_ (λX x0 x1 x2 x3=>by simp[results,results104,go_sem,x0,x1,x2,x3,jO,vi]) rfl
  repeat(first|exact al.o.drewN nq|refine gg.setCell ?_ (.inr (by show _<=B;have:=HB.o;omega)) _)
 .have⟨x,hx⟩:=zX (gU (a-b) d)
  have⟨z,hz⟩:=zX (gU (c-b) d);have l:lf 1 d a b c e=[x,b,z,e]:=by rw[hz,hx];rfl
  rw[l];have mx:=λw=>HW.o (a-b) w;have aX:=jK (a-b) d;have aS:=jJ (a-b) d;rw[<-hx]at mx aX aS;have mz:=λw=>HW.o (c-b) w;have aY:=jK (c-b) d;have aT:=jJ (c-b) d;rw[<-hz]at mz aY aT;clear l hx hz;go_enter func104,ntmps104;go_wp2_with fail;rw[<-am.o,<-HB.o,<-HC.o]
  go_quiet (fail)
  go_wp2_with fail;refine gB (mx _) ?_;go_wp2_with fail;refine gB (mz _) ?_;go_wp2_with fail;refine RN HB.o HC.o (by repeat(first|exact ak.o.drewN nq|refine gn.Q ?_ A _)) ?_ (λX x0 x1 x2 x3=>by simp[results,results104,go_sem,x0,x1,x2,x3,jO,vi]) rfl
  repeat(first|exact al.o.drewN nq|refine gg.setCell ?_ (.inr (by show _<=B;have:=HB.o;omega)) _)
 .have⟨u,hu⟩:=zX (gU (a-c) d)
  have⟨fu,ad⟩:=zX (ii u d);have⟨su,aC⟩:=zX (kt fu 1);have⟨t,ht⟩:=zX (gU (c+su) d);have⟨v,hv⟩:=zX (gU (b-t) d);have⟨fv,ae⟩:=zX (ii v d);have⟨sv,aD⟩:=zX (kt fv 1);have⟨y,hy⟩:=zX (gU (t+sv) d);have l:lf 2 d a b c e=[y,u,v,e]:=by rw[hy,aD,ae,hv,ht,aC,ad,hu];rfl
  rw[l];have R:=λw=>HW.o (a-c) w;have aH:=jK (a-c) d;have az:=jJ (a-c) d;rw[<-hu]at R aH az;have H:=λw=>HF.o u w;obtain⟨ah,af⟩:=qJ u D E;rw[<-ad]at H ah af;have a6:fu / 2=su:=aC.symm;have aU : -32768<=su:=by omega
  have aP:su<=32768:=by omega
  have mt:=λw=>HW.o (c+su) w;have aW:=jK (c+su) d;have aR:=jJ (c+su) d;rw[<-ht]at mt aW aR;have S:=λw=>HW.o (b-t) w;have aI:=jK (b-t) d;have aA:=jJ (b-t) d;rw[<-hv]at S aI aA;have I:=λw=>HF.o v w;obtain⟨ai,ag⟩:=qJ v D E;rw[<-ae]at I ai ag;have a7:fv / 2=sv:=aD.symm;have aV : -32768<=sv:=by omega
  have aQ:sv<=32768:=by omega
  have T:=λw=>HW.o (t+sv) w;have aJ:=jK (t+sv) d;have aB:=jJ (t+sv) d;rw[<-hy]at T aJ aB;clear l hu ad aC ht hv ae aD hy;go_enter func104,ntmps104;go_wp2_with fail;rw[<-am.o,<-HB.o,<-HC.o]
  go_quiet (fail)
  go_wp2_with fail;refine gB (R _) ?_;go_wp2_with fail;refine gB (H _) ?_;go_wp2_with fail;refine gB (mt _) ?_;go_wp2_with fail;refine gB (S _) ?_;go_wp2_with fail;refine gB (I _) ?_;go_wp2_with fail;refine gB (T _) ?_;go_wp2_with fail;refine RN HB.o HC.o (by repeat(first|exact ak.o.drewN nq|refine gn.Q ?_ A _)) ?_ (λX x0 x1 x2 x3=>by simp[results,results104,go_sem,x0,x1,x2,x3,jO,vi]) rfl
  repeat(first|exact al.o.drewN nq|refine gg.setCell ?_ (.inr (by show _<=B;have:=HB.o;omega)) _)
 .have⟨u,hu⟩:=zX (gU (c-b) d)
  have⟨v,hv⟩:=zX (gU (a-b) d);have⟨fu,ad⟩:=zX (ii u d);have⟨fv,ae⟩:=zX (ii v d);have⟨s,r⟩:=zX (kt (fu+fv) 2);have⟨y,hy⟩:=zX (gU (b+s) d);have l:lf 3 d a b c e=[y,u,v,e]:=by rw[hy,r,ae,ad,hv,hu];rfl
  rw[l];have R:=λw=>HW.o (c-b) w;have aH:=jK (c-b) d;have az:=jJ (c-b) d;rw[<-hu]at R aH az;have S:=λw=>HW.o (a-b) w;have aI:=jK (a-b) d;have aA:=jJ (a-b) d;rw[<-hv]at S aI aA;have H:=λw=>HF.o u w;obtain⟨ah,af⟩:=qJ u D E;rw[<-ad]at H ah af;have I:=λw=>HF.o v w;obtain⟨ai,ag⟩:=qJ v D E;rw[<-ae]at I ai ag;have ms:(fu+fv) / 4=s:=r.symm;have a5 : -32768<=s:=by omega
  have a2:s<=32768:=by omega
  have T:=λw=>HW.o (b+s) w;have aJ:=jK (b+s) d;have aB:=jJ (b+s) d;rw[<-hy]at T aJ aB;clear l hu hv ad ae r hy;go_enter func104,ntmps104;go_wp2_with fail;rw[<-am.o,<-HB.o,<-HC.o]
  go_quiet (fail)
  go_wp2_with fail;refine gB (R _) ?_;go_wp2_with fail;refine gB (S _) ?_;go_wp2_with fail;refine gB (H _) ?_;go_wp2_with fail;refine gB (I _) ?_;go_wp2_with fail;refine gB (T _) ?_;go_wp2_with fail;refine RN HB.o HC.o (by repeat(first|exact ak.o.drewN nq|refine gn.Q ?_ A _)) ?_ (λX x0 x1 x2 x3=>by simp[results,results104,go_sem,x0,x1,x2,x3,jO,vi]) rfl
  repeat(first|exact al.o.drewN nq|refine gg.setCell ?_ (.inr (by show _<=B;have:=HB.o;omega)) _)
 .have⟨e',av⟩:=zX (gU (e-c) d)
  have⟨c',au⟩:=zX (gU (c-b) d);have⟨b',ar⟩:=zX (gU (b-a) d);have l:lf 4 d a b c e=[a,b',c',e']:=by rw[ar,au,av];rfl
  rw[l];have aN:=λw=>HW.o (e-c) w;have aG:=jK (e-c) d;have ay:=jJ (e-c) d;rw[<-av]at aN aG ay;have aM:=λw=>HW.o (c-b) w;have aF:=jK (c-b) d;have ax:=jJ (c-b) d;rw[<-au]at aM aF ax;have aL:=λw=>HW.o (b-a) w;have aE:=jK (b-a) d;have aw:=jJ (b-a) d;rw[<-ar]at aL aE aw;clear l av au ar;go_enter func104,ntmps104;go_wp2_with fail;rw[<-am.o,<-HB.o,<-HC.o]
  go_quiet (fail)
  go_wp2_with fail
  go_loopg [15] 3 (λj s15 wr=>∃i:Nat,s15=.int .i64 (3-i:Int)/\i+j=3/\gh (gn wr B 73 ((if i=0 then[a,b,c,e]else if i=1 then[a,b,c,e']else if i=2 then[a,b,c',e']else[a,b',c',e']).map vi).toArray)/\gh (gn wr C 73 #[(0:Int),(0:Int),(0:Int),(0:Int)])/\gh (gg [] w wr))
  .exact⟨0,by simp,rfl,gd (aO.o.drewN nq),gd (ak.o.drewN nq),gd (al.o.drewN nq)⟩
  clear n o p q z0 z1 z2 z3 J K L M N O P Q;obtain⟨i,rfl,aZ,U,g,V⟩:=hrel;rcases(by omega:i=0\/i=1\/i=2\/i=3)with rfl|rfl|rfl|rfl
  .have f:gn wr B 73 #[a,b,c,e]:=U.o
   have n:=f.X 0;have J:=f.U 0;have z0:=g.o.X 0;have N:=g.o.U 0;have o:=f.X 1;have K:=f.U 1;have z1:=g.o.X 1;have O:=g.o.U 1;have p:=f.X 2;have L:=f.U 2;have z2:=g.o.X 2;have P:=g.o.U 2;have q:=f.X 3;have M:=f.U 3;have z3:=g.o.X 3;have Q:=g.o.U 3;simp at n o p q z0 z1 z2 z3;have F:=gd f;clear f;go_wp2_with fail;refine i9 12 (by kernel_rfl) (by kernel_rfl) ?_;simp only[take_succ_cons,take_zero,drop_succ_cons,drop_zero]
   repeat(go_big_quiet_step ((go_at_call 81;exact Calls.quiet_of_same ((aN _).mono (λ_ _ h=>⟨h.1,h.2.symm⟩)))))
   refine wpQuiet_nil ?_;intro _ G;obtain⟨m,rfl⟩:=G;go_wp2_with fail
   go_roundg 2
   .have r:=(F.o.drewN m).S 3 (.int .i64 e')
    exact⟨1,by simp,rfl,gd (by simpa[vi]using r),gd ((g.o.drewN m).Q A _),gd ((V.o.drewN m).setCell (.inr (by show _<=B;have:=HB.o;omega)) _)⟩
   .omega
  .have f:gn wr B 73 #[a,b,c,e']:=U.o
   have n:=f.X 0;have J:=f.U 0;have z0:=g.o.X 0;have N:=g.o.U 0;have o:=f.X 1;have K:=f.U 1;have z1:=g.o.X 1;have O:=g.o.U 1;have p:=f.X 2;have L:=f.U 2;have z2:=g.o.X 2;have P:=g.o.U 2;have q:=f.X 3;have M:=f.U 3;have z3:=g.o.X 3;have Q:=g.o.U 3;simp at n o p q z0 z1 z2 z3;have F:=gd f;clear f;go_wp2_with fail;refine i9 12 (by kernel_rfl) (by kernel_rfl) ?_;simp only[take_succ_cons,take_zero,drop_succ_cons,drop_zero]
   repeat(go_big_quiet_step ((go_at_call 81;exact Calls.quiet_of_same ((aM _).mono (λ_ _ h=>⟨h.1,h.2.symm⟩)))))
   refine wpQuiet_nil ?_;intro _ G;obtain⟨m,rfl⟩:=G;go_wp2_with fail
   go_roundg 1
   .have r:=(F.o.drewN m).S 2 (.int .i64 c')
    exact⟨2,by simp,rfl,gd (by simpa[vi]using r),gd ((g.o.drewN m).Q A _),gd ((V.o.drewN m).setCell (.inr (by show _<=B;have:=HB.o;omega)) _)⟩
   .omega
  .have f:gn wr B 73 #[a,b,c',e']:=U.o
   have n:=f.X 0;have J:=f.U 0;have z0:=g.o.X 0;have N:=g.o.U 0;have o:=f.X 1;have K:=f.U 1;have z1:=g.o.X 1;have O:=g.o.U 1;have p:=f.X 2;have L:=f.U 2;have z2:=g.o.X 2;have P:=g.o.U 2;have q:=f.X 3;have M:=f.U 3;have z3:=g.o.X 3;have Q:=g.o.U 3;simp at n o p q z0 z1 z2 z3;have F:=gd f;clear f;go_wp2_with fail;refine i9 12 (by kernel_rfl) (by kernel_rfl) ?_;simp only[take_succ_cons,take_zero,drop_succ_cons,drop_zero]
   repeat(go_big_quiet_step ((go_at_call 81;exact Calls.quiet_of_same ((aL _).mono (λ_ _ h=>⟨h.1,h.2.symm⟩)))))
   refine wpQuiet_nil ?_;intro _ G;obtain⟨m,rfl⟩:=G;go_wp2_with fail
   go_roundg 0
   .have r:=(F.o.drewN m).S 1 (.int .i64 b')
    exact⟨3,by simp,rfl,gd (by simpa[vi]using r),gd ((g.o.drewN m).Q A _),gd ((V.o.drewN m).setCell (.inr (by show _<=B;have:=HB.o;omega)) _)⟩
   .omega
  .have f:gn wr B 73 #[a,b',c',e']:=U.o
   have n:=f.X 0;have J:=f.U 0;have z0:=g.o.X 0;have N:=g.o.U 0;have o:=f.X 1;have K:=f.U 1;have z1:=g.o.X 1;have O:=g.o.U 1;have p:=f.X 2;have L:=f.U 2;have z2:=g.o.X 2;have P:=g.o.U 2;have q:=f.X 3;have M:=f.U 3;have z3:=g.o.X 3;have Q:=g.o.U 3;simp at n o p q z0 z1 z2 z3;have F:=gd f;clear f;go_wp2_with fail;refine RN HB.o HC.o (by repeat(first|exact g.o|refine gn.Q ?_ A _)) ?_ (λX x0 x1 x2 x3=>by simp[results,results104,go_sem,x0,x1,x2,x3,jO,vi]) rfl
   repeat(first|exact V.o|refine gg.setCell ?_ (.inr (by show _<=B;have:=HB.o;omega)) _)
theorem K4(k d:Nat)(a b c e:Int)(w:World)(E:1<=d)(F:d<=16)(k4:k<=4)(ha:Rb d a)(hb:Rb d b)(hc:Rb d c)(he:Rb d e):Calls prog 109 #[x7 a b c e,k,d] w λen w'=>en=.returned (jO (jM k d a b c e))/\gg [] w w':=by
 obtain⟨aX,aY⟩:=jX E F;have hw:∀v w,_:=λv w=>o7 v d w E F;have hf:∀v w,_:=λv w=>oB v d w E F;obtain⟨a0,a1⟩:=ha;obtain⟨b0,b1⟩:=hb;obtain⟨c0,c1⟩:=hc;obtain⟨e0,e1⟩:=he;unfold x7;have⟨w1,aq⟩:=zX ((w.alloc (.cells #[a,b,c,e] 73)).alloc (.cells #[(0:Int),(0:Int),(0:Int),(0:Int)] 73));have⟨B,hB⟩:=zX w.heap.size;have⟨C,hC⟩:=zX (B+1);have aa:=RG aq hB;have ab:gn w1 C 73 #[(0:Int),(0:Int),(0:Int),(0:Int)]:=by
  rw[aq,hC,hB]
  have:=gn.new (w.alloc (.cells #[a,b,c,e] 73)) 73 #[(0:Int),(0:Int),(0:Int),(0:Int)]
  rwa [EW]at this
 have aK:=RF aq;have u:C≠B:=by omega
 have⟨n,o,p,q⟩:=my aa;have⟨z0,z1,z2,z3⟩:=my ab;have⟨O,P,Q,R⟩:=RJ aa 0 1 2 3;have⟨S,T,U,V⟩:=RJ ab 0 1 2 3;simp at n o p q z0 z1 z2 z3;have⟨HW,HF,am,al⟩:=gu hw hf aq aK;have⟨HB,HC,aO,ak⟩:=gu hB hC aa ab;clear hw hf aq aK aa ab hB hC;rcases(by omega:k=0\/k=1\/k=2\/k=3\/k=4)with rfl|rfl|rfl|rfl|rfl
 .have l:jM 0 d a b c e=[a,b,c,e]:=by rfl
  rw[l];clear l;go_enter func109,ntmps109
  go_upto_region 1 with(fail)
  rw[<-am.o,<-HB.o,<-HC.o];go_wp2_with fail;refine RN HB.o HC.o (by repeat(first|exact ak.o|refine gn.Q ?_ u _)) ?_ (λX x0 x1 x2 x3=>by simp[results,results109,go_sem,x0,x1,x2,x3,jO,vi]) rfl
  repeat(first|exact al.o|refine gg.setCell ?_ (.inr (by show _<=B;have:=HB.o;omega)) _)
 .have⟨x,hx⟩:=zX (gU (a+b) d)
  have⟨z,hz⟩:=zX (gU (c+b) d);have l:jM 1 d a b c e=[x,b,z,e]:=by rw[hz,hx];rfl
  rw[l];have A:=λw=>HW.o (a+b) w;have K:=jK (a+b) d;have H:=jJ (a+b) d;rw[<-hx]at A K H;have D:=λw=>HW.o (c+b) w;have L:=jK (c+b) d;have I:=jJ (c+b) d;rw[<-hz]at D L I;clear l hx hz;go_enter func109,ntmps109;go_wp2_with fail;rw[<-am.o,<-HB.o,<-HC.o];refine gB (A _) ?_;go_wp2_with fail;refine gB (D _) ?_;go_wp2_with fail;refine RN HB.o HC.o (by repeat(first|exact ak.o|refine gn.Q ?_ u _)) ?_ (λX x0 x1 x2 x3=>by simp[results,results109,go_sem,x0,x1,x2,x3,jO,vi]) rfl
  repeat(first|exact al.o|refine gg.setCell ?_ (.inr (by show _<=B;have:=HB.o;omega)) _)
 .have⟨fc,ae⟩:=zX (ii c d)
  have⟨sc,aF⟩:=zX (kt fc 1);have⟨t,ht⟩:=zX (gU (a-sc) d);have⟨fb,ad⟩:=zX (ii b d);have⟨sb,aE⟩:=zX (kt fb 1);have⟨y,hy⟩:=zX (gU (t-sb) d);have⟨x,hx⟩:=zX (gU (b+y) d);have⟨z,hz⟩:=zX (gU (c+t) d);have l:jM 2 d a b c e=[x,z,y,e]:=by rw[hz,hx,hy,aE,ad,ht,aF,ae];rfl
  rw[l];have N:=λw=>HF.o c w;obtain⟨ai,ag⟩:=qJ c E F;rw[<-ae]at N ai ag;have a3:fc / 2=sc:=aF.symm;have aT : -32768<=sc:=by omega
  have aQ:sc<=32768:=by omega
  have mt:=λw=>HW.o (a-sc) w;have aU:=jK (a-sc) d;have aR:=jJ (a-sc) d;rw[<-ht]at mt aU aR;have M:=λw=>HF.o b w;obtain⟨ah,af⟩:=qJ b E F;rw[<-ad]at M ah af;have a2:fb / 2=sb:=aE.symm;have aS : -32768<=sb:=by omega
  have aP:sb<=32768:=by omega
  have W:=λw=>HW.o (t-sb) w;have aJ:=jK (t-sb) d;have aD:=jJ (t-sb) d;rw[<-hy]at W aJ aD;have A:=λw=>HW.o (b+y) w;have K:=jK (b+y) d;have H:=jJ (b+y) d;rw[<-hx]at A K H;have D:=λw=>HW.o (c+t) w;have L:=jK (c+t) d;have I:=jJ (c+t) d;rw[<-hz]at D L I;clear l ae aF ht ad aE hy hx hz;go_enter func109,ntmps109;go_wp2_with fail;rw[<-am.o,<-HB.o,<-HC.o]
  go_quiet (fail)
  go_wp2_with fail;refine gB (N _) ?_;go_wp2_with fail;refine gB (mt _) ?_;go_wp2_with fail;refine gB (M _) ?_;go_wp2_with fail;refine gB (W _) ?_;go_wp2_with fail;refine gB (A _) ?_;go_wp2_with fail;refine gB (D _) ?_;go_wp2_with fail;refine RN HB.o HC.o (by repeat(first|exact ak.o.drewN nq|refine gn.Q ?_ u _)) ?_ (λX x0 x1 x2 x3=>by simp[results,results109,go_sem,x0,x1,x2,x3,jO,vi]) rfl
  repeat(first|exact al.o.drewN nq|refine gg.setCell ?_ (.inr (by show _<=B;have:=HB.o;omega)) _)
 .have⟨fb,ad⟩:=zX (ii b d)
  have⟨fc,ae⟩:=zX (ii c d);have⟨s,r⟩:=zX (kt (fb+fc) 2);have⟨y,hy⟩:=zX (gU (a-s) d);have⟨x,hx⟩:=zX (gU (c+y) d);have⟨z,hz⟩:=zX (gU (b+y) d);have l:jM 3 d a b c e=[x,y,z,e]:=by rw[hz,hx,hy,r,ae,ad];rfl
  rw[l];have M:=λw=>HF.o b w;obtain⟨ah,af⟩:=qJ b E F;rw[<-ad]at M ah af;have N:=λw=>HF.o c w;obtain⟨ai,ag⟩:=qJ c E F;rw[<-ae]at N ai ag;have ms:(fb+fc) / 4=s:=r.symm;have aZ : -32768<=s:=by omega
  have aW:s<=32768:=by omega
  have W:=λw=>HW.o (a-s) w;have aJ:=jK (a-s) d;have aD:=jJ (a-s) d;rw[<-hy]at W aJ aD;have A:=λw=>HW.o (c+y) w;have K:=jK (c+y) d;have H:=jJ (c+y) d;rw[<-hx]at A K H;have D:=λw=>HW.o (b+y) w;have L:=jK (b+y) d;have I:=jJ (b+y) d;rw[<-hz]at D L I;clear l ad ae r hy hx hz;go_enter func109,ntmps109;go_wp2_with fail;rw[<-am.o,<-HB.o,<-HC.o]
  go_quiet (fail)
  go_wp2_with fail;refine gB (M _) ?_;go_wp2_with fail;refine gB (N _) ?_;go_wp2_with fail;refine gB (W _) ?_;go_wp2_with fail;refine gB (A _) ?_;go_wp2_with fail;refine gB (D _) ?_;go_wp2_with fail;refine RN HB.o HC.o (by repeat(first|exact ak.o.drewN nq|refine gn.Q ?_ u _)) ?_ (λX x0 x1 x2 x3=>by simp[results,results109,go_sem,x0,x1,x2,x3,jO,vi]) rfl
  repeat(first|exact al.o.drewN nq|refine gg.setCell ?_ (.inr (by show _<=B;have:=HB.o;omega)) _)
 .have⟨b',ax⟩:=zX (gU (b+a) d)
  have⟨c',ay⟩:=zX (gU (c+b') d);have⟨e',az⟩:=zX (gU (e+c') d);have l:jM 4 d a b c e=[a,b',c',e']:=by rw[az,ay,ax];rfl
  rw[l];have aL:=λw=>HW.o (b+a) w;have aG:=jK (b+a) d;have aA:=jJ (b+a) d;rw[<-ax]at aL aG aA;have aM:=λw=>HW.o (c+b') w;have aH:=jK (c+b') d;have aB:=jJ (c+b') d;rw[<-ay]at aM aH aB;have aN:=λw=>HW.o (e+c') w;have aI:=jK (e+c') d;have aC:=jJ (e+c') d;rw[<-az]at aN aI aC;clear l ax ay az;go_enter func109,ntmps109;go_wp2_with fail;rw[<-am.o,<-HB.o,<-HC.o]
  go_loopg [16] 3 (λj s16 wr=>∃i:Nat,s16=.int .i64 (1+i:Int)/\i+j=3/\gh (gn wr B 73 ((if i=0 then[a,b,c,e]else if i=1 then[a,b',c,e]else if i=2 then[a,b',c',e]else[a,b',c',e']).map vi).toArray)/\gh (gn wr C 73 #[(0:Int),(0:Int),(0:Int),(0:Int)])/\gh (gg [] w wr))
  .exact⟨0,by simp,rfl,aO,ak,al⟩
  clear n o p q z0 z1 z2 z3 O P Q R S T U V;obtain⟨i,rfl,aV,Z,g,HZ⟩:=hrel;rcases(by omega:i=0\/i=1\/i=2\/i=3)with rfl|rfl|rfl|rfl
  .have f:gn wr B 73 #[a,b,c,e]:=Z.o
   have n:=f.X 0;have O:=f.U 0;have z0:=g.o.X 0;have S:=g.o.U 0;have o:=f.X 1;have P:=f.U 1;have z1:=g.o.X 1;have T:=g.o.U 1;have p:=f.X 2;have Q:=f.U 2;have z2:=g.o.X 2;have U:=g.o.U 2;have q:=f.X 3;have R:=f.U 3;have z3:=g.o.X 3;have V:=g.o.U 3;simp at n o p q z0 z1 z2 z3;have G:=gd f;clear f;go_wp2_with fail;refine i9 12 (by kernel_rfl) (by kernel_rfl) ?_;simp only[take_succ_cons,take_zero,drop_succ_cons,drop_zero]
   repeat(go_big_quiet_step ((go_at_call 81;exact Calls.quiet_of_same ((aL _).mono (λ_ _ h=>⟨h.1,h.2.symm⟩)))))
   refine wpQuiet_nil ?_;intro _ J;obtain⟨m,rfl⟩:=J;go_wp2_with fail
   go_roundg 2
   .have r:=(G.o.drewN m).S 1 (.int .i64 b')
    exact⟨1,by simp,rfl,gd (by simpa[vi]using r),gd ((g.o.drewN m).Q u _),gd ((HZ.o.drewN m).setCell (.inr (by show _<=B;have:=HB.o;omega)) _)⟩
   .omega
  .have f:gn wr B 73 #[a,b',c,e]:=Z.o
   have n:=f.X 0;have O:=f.U 0;have z0:=g.o.X 0;have S:=g.o.U 0;have o:=f.X 1;have P:=f.U 1;have z1:=g.o.X 1;have T:=g.o.U 1;have p:=f.X 2;have Q:=f.U 2;have z2:=g.o.X 2;have U:=g.o.U 2;have q:=f.X 3;have R:=f.U 3;have z3:=g.o.X 3;have V:=g.o.U 3;simp at n o p q z0 z1 z2 z3;have G:=gd f;clear f;go_wp2_with fail;refine i9 12 (by kernel_rfl) (by kernel_rfl) ?_;simp only[take_succ_cons,take_zero,drop_succ_cons,drop_zero]
   repeat(go_big_quiet_step ((go_at_call 81;exact Calls.quiet_of_same ((aM _).mono (λ_ _ h=>⟨h.1,h.2.symm⟩)))))
   refine wpQuiet_nil ?_;intro _ J;obtain⟨m,rfl⟩:=J;go_wp2_with fail
   go_roundg 1
   .have r:=(G.o.drewN m).S 2 (.int .i64 c')
    exact⟨2,by simp,rfl,gd (by simpa[vi]using r),gd ((g.o.drewN m).Q u _),gd ((HZ.o.drewN m).setCell (.inr (by show _<=B;have:=HB.o;omega)) _)⟩
   .omega
  .have f:gn wr B 73 #[a,b',c',e]:=Z.o
   have n:=f.X 0;have O:=f.U 0;have z0:=g.o.X 0;have S:=g.o.U 0;have o:=f.X 1;have P:=f.U 1;have z1:=g.o.X 1;have T:=g.o.U 1;have p:=f.X 2;have Q:=f.U 2;have z2:=g.o.X 2;have U:=g.o.U 2;have q:=f.X 3;have R:=f.U 3;have z3:=g.o.X 3;have V:=g.o.U 3;simp at n o p q z0 z1 z2 z3;have G:=gd f;clear f;go_wp2_with fail;refine i9 12 (by kernel_rfl) (by kernel_rfl) ?_;simp only[take_succ_cons,take_zero,drop_succ_cons,drop_zero]
   repeat(go_big_quiet_step ((go_at_call 81;exact Calls.quiet_of_same ((aN _).mono (λ_ _ h=>⟨h.1,h.2.symm⟩)))))
   refine wpQuiet_nil ?_;intro _ J;obtain⟨m,rfl⟩:=J;go_wp2_with fail
   go_roundg 0
   .have r:=(G.o.drewN m).S 3 (.int .i64 e')
    exact⟨3,by simp,rfl,gd (by simpa[vi]using r),gd ((g.o.drewN m).Q u _),gd ((HZ.o.drewN m).setCell (.inr (by show _<=B;have:=HB.o;omega)) _)⟩
   .omega
  .have f:gn wr B 73 #[a,b',c',e']:=Z.o
   have n:=f.X 0;have O:=f.U 0;have z0:=g.o.X 0;have S:=g.o.U 0;have o:=f.X 1;have P:=f.U 1;have z1:=g.o.X 1;have T:=g.o.U 1;have p:=f.X 2;have Q:=f.U 2;have z2:=g.o.X 2;have U:=g.o.U 2;have q:=f.X 3;have R:=f.U 3;have z3:=g.o.X 3;have V:=g.o.U 3;simp at n o p q z0 z1 z2 z3;have G:=gd f;clear f;go_wp2_with fail;refine RN HB.o HC.o (by repeat(first|exact g.o|refine gn.Q ?_ u _)) ?_ (λX x0 x1 x2 x3=>by simp[results,results109,go_sem,x0,x1,x2,x3,jO,vi]) rfl
   repeat(first|exact HZ.o|refine gg.setCell ?_ (.inr (by show _<=B;have:=HB.o;omega)) _)
end Go.Proofs.YtifdlkoepaepiaaGreatDoor
