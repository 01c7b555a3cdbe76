/- Lemmas. -/
import Derived.Test.YtifdlkoepaepiaaGreatDoorMh16
import Derived.Test.YtifdlkoepaepiaaGreatDoorMh07
set_option linter.all false
set_option maxHeartbeats 2000000
set_option maxRecDepth 100000
namespace Go.Proofs.YtifdlkoepaepiaaGreatDoor
open Tryz List Nat Go.RowKit
theorem PL(w:World)(b g h:Nat)(c:ij)(v n:Nat)(N:kI 270 w b g h c)(p:iw c)(Y:n<=32)(Q:v<2^n)(z:v<18446744073709551616)(y:c.low.length<=549755813888):Calls prog 228 #[.pointer b,.int .u64 v,n] w λe B=>e=.returned (.int .i64 0) /\ ∃d,kI 270 B b d h (j9 c v n)/\gg [b,g,h] w B/\(d=g\/w.heap.size<=d):=by
 have Z:decide ((n:Int)<0)=false:=by simp
 have t2:decide ((32:Int)<n)=false:=by simp;omega
 have t3:(((v:Int) / 2^n) != 0)=false:=by
  have:(v:Int) / 2^n=((v / 2^n:Nat):Int):=by simp
  rw[this,div_eq_of_lt Q];rfl
 go_enter func228,ntmps228;go_wp2_with fail
 go_loopg [7] n (λk i wr=>∃(d:Nat) (a:ij),i=.int .i64 ((k:Int)-1)/\k<=n/\kI 270 wr b d h a/\iw a/\gh (j9 c v n=j9 a v k) /\
   a.low.length+k<=c.low.length+n/\gg [b,g,h] w wr/\(d=g\/w.heap.size<=d))
 .exact⟨g,c,rfl,zQ _,N,p,gd rfl,zQ _,zR _ _,.inl rfl⟩
 obtain⟨d,a,rfl,X,o,j,r,W,l,f⟩:=hrel;rcases gk with _|k
 .have t4:decide ((0:Int)<=((0:Nat):Int)-1)=false:=by simp
  go_wp2;go_ret;exact⟨rfl,d,by rw[r.o];exact o,l,f⟩
 .have L:(((k+1:Nat):Int)-1)=(k:Int):=by omega
  rw[L];have m:=q5 j;obtain⟨vl,vo,u,O,P⟩:=o.ex;have H:=u.X 1;simp at H;clear u O P;have K:IntKind.u64.wrap ((a.W:Int) / 2)=((a.W / 2:Nat):Int):=by
   have e:(a.W:Int) / 2=((a.W / 2:Nat):Int):=(by simp);rw[e];exact IntWalk.u64_in _ (by have:=j.hi;omega)
  have⟨ab,ad⟩:=zX (v / 2^k%2);have T:bits BinOp.and IntKind.u64 ((v:Int) / 2^k) 1=(ab:Int):=by
   have e:(v:Int) / 2^k=((v / 2^k:Nat):Int):=(by simp);have V:v / 2^k<=v:=div_le_self _ _;rw[e,ad];generalize v / 2^k=q at *;rw[and_one_u64 _ (by omega) (by omega)];simp
  have s:ab=0\/ab=1:=by omega
  have C:gh (j9 c v n=j9 (jF a (a.W / 2) ab) v k):=by
   refine gd ?_;rw[r.o,ad];rfl
  have S:ab<=1:=by omega
  have G:=gd s;clear ad s;have⟨W2,ah⟩:=zX (a.W / 2);rw[<-ah]at K m;have F:=gd ah;clear ah;go_wp2_with fail;refine i9 11 (by kernel_rfl) (by kernel_rfl) ?_;simp only[take_succ_cons,take_zero,drop_succ_cons,drop_zero]
  repeat(go_big_quiet_step (fail))
  refine wpQuiet_nil ?_;intro _ J;obtain⟨nq,rfl⟩:=J;go_wp2_with fail;refine(EY _ b d h a W2 ab (o.Y ((zR _ _).drewN nq)) j m G.o (by omega)).mono ?_;rintro e w1 ⟨rfl,M,I,D,t⟩;have U:=(zz (c:=a) W2 ab).2;have E:=rQ j m ab;have R:=l.size;go_wp2_with fail
  go_roundg k
  .refine⟨M,_,rfl,by omega,I,E,?_,by omega,?_,?_⟩
   .rw[F.o];exact C
   .refine(l.drewN nq).trans D ?_
    intro x A;simp at A;rcases A with rfl|rfl
    .exact .inl (by simp)
    .rcases f with rfl|f
     .exact .inl (by simp)
     .exact .inr f
   .rcases t with rfl|t
    .exact f
    .exact .inr (by have:(wr.drewN nq).heap.size=wr.heap.size:=rfl;omega)
  .omega
theorem Py:jx prog 22 3 (.int .i64 0) 1 8:=.mk' underlying22 (by kernel_rfl)
theorem Nt(w:World)(b g h:Nat)(c:ij)(o:kI 270 w b g h c)(f:iw c)(p:c.low.length<=1099511627776):Calls prog 177 #[.pointer b] w λe l=>∃g' a,e=.returned (.slice (some ⟨g',0,none⟩) c.low.length a)/\gv l 5 (.slice (some ⟨g',0,none⟩) c.low.length a) g' (c.low.map b8)/\gg [] w l/\w.heap.size<=g':=by
 obtain⟨G,H,n,k,A⟩:=o.ex;obtain⟨a,rfl,D,E,r,t⟩:=k.T;have m:∀j u,(c.low.map b8)[j]?=some u->w.cell? ((⟨g,0,none⟩:Addr).add j)=some u:=(k.own 0 (zero_le _)).cells (g:=g) rfl;have s:=n.X 0;simp at s;have F:=f.len;have q:=gd m;clear r t n k A o f m;go_enter func177,ntmps177
 go_wp2_with(at_builtin;refine tP rfl rfl xZ rfl (by decide) rfl (World.ownsRow_nil _ 0 _ _) (news:=c.low.map b8) rfl ?c1 ?c2 ?c3 ?c4 ?c5 ?c6 ?_)
 case c1=>simp
 case c2=>omega
 case c3=>exact q.o
 case c4=>intro u B;obtain⟨d,_,rfl⟩:=List.mem_map.1 B;rfl
 case c5=>omega
 case c6=>omega
 intro g' ad l v x y;go_wp2;go_ret;obtain⟨C,z,i⟩:=gv.of_own v rfl;refine⟨g',ad,rfl,?_,x,by simpa[Value.ownBlock]using y⟩;simp only[Value.ownBlock]at i;injection i with i;subst i
 simpa using z
theorem FU(n:Nat)(w:World)(s:n<=4096):Calls prog 203 #[n] w λe g=>∃h,e=.returned (.slice (some ⟨h,0,none⟩) n n)/\gv g 3 (.slice (some ⟨h,0,none⟩) n n) h ((replicate n 2048).map i64)/\gg [] w g/\w.heap.size<=h:=by
 have q:=kg Py rfl .i64 .i64 n (by omega) (by omega);go_enter func203,ntmps203;go_wp2_with fail
 go_loopg [4,9] n (λk i j wr=>k<=n/\j=.int .i64 ((n-k:Nat):Int)/\gg [w.heap.size] w wr /\
   gv wr 3 (.slice (some ⟨w.heap.size,0,none⟩) n n) w.heap.size ((replicate (n-k) 2048++replicate k 0).map i64))
 .refine⟨zQ _,by simp,(zR _ _).alloc _,?_⟩
  have:=gv.made w 3 (replicate n (Value.int .i64 0)) (by simp[maxLen];omega)
  simpa[i64]using this
 obtain⟨r,rfl,a,b⟩:=hrel;rcases gk with _|k
 .have t:decide (((n-0:Nat):Int)<n)=false:=by simp
  go_wp2;go_ret;exact⟨_,rfl,by simpa using b,⟨a.os,a.tape,a.output,a.size,λx hx _=>a.block x hx (by simp;omega)⟩,zQ _⟩
 .have⟨m,hm⟩:=zX (n-(k+1))
  rw[<-hm]at b⊢;have p:m<n:=by omega
  have d:n-k=m+1:=by omega
  have l:=gd d;clear hm d;have o:wr.frozen? ⟨w.heap.size,m,none⟩=false:=by
   obtain⟨_,_,_,_,_,c⟩:=b.T;exact c m
  have ad:wr.cell? ⟨w.heap.size,m,none⟩=some (.int .i64 0):=by
   obtain⟨_,_,_,_,c,_⟩:=b.T;exact c m 0 (by rw[zS (by simp)];simp)
  go_wp2
  go_roundg k
  .rw[l.o]
   refine⟨by omega,by go_num,a.setCell (by simp) _,?_⟩;have f:=b.S (i:=m) (by simp) (i64 2048);have e:(((replicate m 2048++replicate (k+1) 0).map i64).set m (i64 2048))=(replicate (m+1) 2048++replicate k 0).map i64:=by
    rw[<-map_set,set_append_right _ _ (by simp),replicate_succ' (n:=m)];simp[replicate_succ]
   rw[e]at f;exact f
  .omega
theorem Ee(w:World)(b g h:Nat)(D:i8)(bound:Nat)(H:kz 249 w b g h D)(a:lX D)(j:65536<=bound/\bound+65536<=D.W):Calls prog 240 #[.pointer b,.int .u64 bound] w λe w'=>e=.returned (.int .i64 ((jL D bound).1:Nat)) /\ kz 249 w' b g h (jL D bound).2/\gg [b] w w':=by
 obtain⟨vd,q,d,l,o⟩:=H.ex;have B:=l.ne_ d (by decide);have C:=o.ne_ d (by decide);obtain⟨z,rfl,X,Y,s,-⟩:=l.T;have⟨c0,c1,c2,c3⟩:=my d;have c5:=d.X 5;have⟨f1,f2,f3,f5⟩:=RJ d 1 2 3 5;simp at c0 c1 c2 c3 c5;have aw:=a.pos;have ax:=a.val;have aF:=a.hi;obtain⟨N,O,E⟩:=Hm a j;obtain⟨T,U⟩:=j;have⟨W1,ak⟩:=zX (dW D bound);have⟨V1,aj⟩:=zX (dV D bound);have⟨ad,ac⟩:=zX (rA D bound);rw[<-ak]at N O E;rw[<-aj]at E
 have A:jL D bound=if W1<16777216 then
  (match D.data[D.pos]? with
   | none=>(0,{ D with err := 3 })
   | some x=>(ad,{ D with V := V1*256+x,W := W1*256,pos := D.pos+1 }))
 else(ad,{ D with V:=V1,W:=W1 }):=by rw[ak,aj,ac];rfl
 have⟨HC,al,HW,HV⟩:=gu s A ak aj;have r:=gd ac;clear s A ak aj ac;have n:=d;have F:=l;have G:=o;clear d l o H;go_enter func240,ntmps240;go_wp2
 go_quiet (fail)
 generalize nq=na
 go_upto_if 20 with fail
 go_cut [5,6,7] (λs5 s6 s7 wx=>s5=.int .i64 ad/\s6=.int .u64 V1/\s7=.int .u64 W1/\∃f,wx=w.drewN f)
 case first=>
  by_cases hV:bound<=D.V
  .have R:decide (bound<=D.V)=true:=by simpa using hV
   go_wp2
   go_quiet (fail)
   go_wp2;go_meet
   case rel=>
    refine⟨?_,?_,?_,na+nq,by simp⟩
    .rw[r.o];unfold rA;rw[if_pos hV];rfl
    .rw[HV.o];unfold dV;rw[if_pos hV];go_num
    .rw[HW.o];unfold dW;rw[if_pos hV];go_num
  .have R:decide (bound<=D.V)=false:=by simpa using hV
   go_wp2;go_meet
   case rel=>
    refine⟨?_,?_,?_,na,rfl⟩
    .rw[r.o];unfold rA;rw[if_neg hV];rfl
    .rw[HV.o];unfold dV;rw[if_neg hV]
    .rw[HW.o];unfold dW;rw[if_neg hV]
 case rest=>
  obtain⟨rfl,rfl,rfl,f,rfl⟩:=hcut
  have u:∀D':i8,D'.data=D.data->D'.L=D.L->jL D bound=(ad,D')->∀wz,gn wz b 249 #[.slice g D.data.length z,.int .i64 D'.pos,.int .u64 D'.V,.int .u64 D'.W,q,.int .i64 D'.err] ->
    gg [b] w wz->kz 249 wz b g h (jL D bound).2:=λD' i e2 e3 wz hz hch=>by
   rw[e3];exact⟨_,q,hz,by rw[i];exact F.Z hch (by simpa using B),by rw[e2];exact G.Z hch (by simpa using C)⟩
  have t:=gd u;clear u;by_cases hs:W1<16777216
  .go_wp2_with fail
   go_loopg [6,7,8] 1 (λk v wd at_ wr=>∃V W p:Nat,v=.int .u64 V/\wd=.int .u64 W/\at_=.int .i64 p/\(∃nq,wr=w.drewN nq) /\
    ((k=1/\V=V1/\W=W1/\p=D.pos)\/(k=0/\16777216<=W/\W<4294967296/\gh (jL D bound=(ad,{ D with V:=V,W:=W,pos:=p })))))
   .exact⟨V1,W1,D.pos,rfl,rfl,rfl,⟨f,rfl⟩,.inl ⟨rfl,rfl,rfl,rfl⟩⟩
   obtain⟨V,W,p,rfl,rfl,rfl,⟨c,rfl⟩,L⟩:=hrel;rcases L with⟨rfl,rfl,rfl,rfl⟩|⟨rfl,ar,au,y⟩
   .have I:decide ((W:Int)<16777216)=true:=by simp;omega
    by_cases hp:D.pos=D.data.length
    .have S:((D.pos:Int)==(D.data.length:Int))=true:=by rw[beq_iff_eq];omega
     have J:=gd hp;clear hp;go_wp2;go_ret;have i:jL D bound=(0,{ D with err:=3 }):=by
      rw[al.o,if_pos hs,getElem?_eq_none (by have:=J.o;omega)]
     rw[i];refine⟨rfl,⟨.slice g D.data.length z,q,?_,(F.drewN c).Q (p:=⟨b,5,none⟩) B _,(G.drewN c).Q (p:=⟨b,5,none⟩) C _⟩,((zR _ _).drewN c).setCell (by simp) _⟩
     have:=(n.drewN c).S 5 (.int .i64 3)
     simpa using this
    .have M:D.pos<D.data.length:=by omega
     have S:((D.pos:Int)==(D.data.length:Int))=false:=(by rw[beq_eq_false_iff_ne];omega);obtain⟨x,m⟩:∃x,D.data[D.pos]?=some x:=⟨_,zF M⟩;have aG:x<256:=a.dig x (by obtain⟨P,Q⟩:=List.getElem?_eq_some_iff.1 m;rw[<-Q];exact zG P);have Z:w.cell? ⟨g,D.pos,none⟩=some (.int .u8 x):=HC.o _ _ m;have K:=gd m;clear m hp;go_wp2
     go_roundg 0
     .refine⟨V*256+x,W*256,D.pos+1,by go_num,by go_num,by go_num,⟨c,rfl⟩,.inr ⟨rfl,by omega,by omega,gd ?_⟩⟩
      rw[al.o,if_pos hs,K.o]
     .omega
   .have I:decide ((W:Int)<16777216)=false:=by simp;omega
    go_wp2;go_ret;refine⟨?_,t.o { D with V:=V,W:=W,pos:=p } rfl rfl y.o _ ?_ ?_,?_⟩
    .rw[y.o];rfl
    .have:=(((n.drewN c).S 2 (.int .u64 V)).S 3 (.int .u64 W)).S 1 (.int .i64 p)
     simpa using this
    .exact((((zR _ _).drewN c).setCell (by simp) _).setCell (by simp) _).setCell (by simp) _
    .exact((((zR _ _).drewN c).setCell (by simp) _).setCell (by simp) _).setCell (by simp) _
  .have I:decide ((W1:Int)<16777216)=false:=by simp;omega
   go_wp2_with fail;refine wp_loop_once ?_;go_wp2;go_ret;have i:jL D bound=(ad,{ D with V:=V1,W:=W1 }):=(by rw[al.o,if_neg hs]);refine⟨?_,t.o { D with V:=V1,W:=W1 } rfl rfl i _ ?_ ?_,?_⟩
   .rw[i];rfl
   .have:=(((n.drewN f).S 2 (.int .u64 V1)).S 3 (.int .u64 W1)).S 1 (.int .i64 D.pos)
    simpa using this
   .exact((((zR _ _).drewN f).setCell (by simp) _).setCell (by simp) _).setCell (by simp) _
   .exact((((zR _ _).drewN f).setCell (by simp) _).setCell (by simp) _).setCell (by simp) _
theorem DE{D:i8}{ctx:Nat}(a:ctx<D.L.length):D.L[ctx]?=some (mY D ctx):=by
 unfold mY;rw[zD,zF a];rfl
theorem OT(w:World)(b g h:Nat)(D:i8)(c:kz 249 w b g h D):Calls prog 147 #[.pointer b] w λe i=>e=.returned D.err/\i=w:=by
 obtain⟨j,k,a,d,f⟩:=c.ex;have c5:=a.X 5;simp at c5;clear a d f c;go_enter func147,ntmps147;go_wp2;go_ret;exact⟨rfl,rfl⟩
theorem N7(w:World)(b g h:Nat)(D:i8)(c:kz 249 w b g h D)(f:D.pos<=D.data.length):Calls prog 149 #[.pointer b] w λe k=>e=.returned (.int .i64 ((D.data.length-D.pos:Nat):Int))/\∃n,k=w.drewN n:=by
 obtain⟨q,r,a,d,j⟩:=c.ex;obtain⟨l,rfl,m,o,-,-⟩:=d.T;have i:=a.X 0;have c1:=a.X 1;simp at i c1;clear a d j c;have p:IntKind.i64.wrap ((D.data.length:Int)-D.pos)=((D.data.length-D.pos:Nat):Int):=by
  rw[IntWalk.i64_in _ (by omega)];omega
 go_enter func149,ntmps149;go_wp2
 go_quiet (fail)
 go_wp2;go_ret;exact⟨by go_num,nq,rfl⟩
theorem E5(w:World)(b g h:Nat)(D:i8)(ctx:Nat)(A:kz 249 w b g h D)(c:lX D)(B:D.err=0)(a:ctx<D.L.length):Calls prog 205 #[.pointer b,ctx] w λe w'=>e=.returned (.int .i64 ((mb D ctx).1:Nat)) /\ kz 249 w' b g h (mb D ctx).2/\gg [b,h] w w':=by
 obtain⟨vd,vo,f,Y,C⟩:=A.ex;have l:=DD c a;have S:=c.hi;have E:=C.ne_ f (by decide);obtain⟨N,rfl,R,P,v,-⟩:=C.T;have n:=v ctx _ (DE a);replace n:w.cell? ⟨h,ctx,none⟩=some (.int .i64 (mY D ctx:Int)):=n;clear v;have F:=zd c a;have⟨o1,au⟩:=zX (mY D ctx);rw[<-au]at n F l;have z:=gd au;clear au;have c3:=f.X 3;have c4:=f.X 4;have c5:=f.X 5;simp at c3 c4 c5;rw[B]at c5;have Z:decide ((ctx:Int)<0)=false:=by simp
 have t2:decide (D.L.length<=ctx)=false:=by simp;omega
 have⟨bd,ac⟩:=zX (D.W / 4096*o1);rw[<-ac]at l;have Q:IntKind.u64.wrap ((D.W:Int) / 4096*(o1:Int))=(bd:Int):=by
  have e:((D.W:Int) / 4096*(o1:Int))=(bd:Int):=by rw[ac];simp
  rw[e];exact IntWalk.u64_in _ (by omega)
 have x:gh (mb D ctx=if (jL D bd).2.err=0 then((jL D bd).1,{ (jL D bd).2 with L:=D.L.set ctx (pX o1 (jL D bd).1) })else jL D bd):=by
  refine gd ?_;rw[ac,z.o];rfl
 clear ac;have⟨ah,ao⟩:=gy (ze D bd) (Mf D bd);have⟨aj,aA⟩:=zX ((jL D bd).1);have⟨D1,az⟩:=zX ((jL D bd).2);have⟨ai,ae⟩:=gy aA az;clear aA az;clear B;go_enter func205,ntmps205;go_wp2;refine i9 15 (by kernel_rfl) (by kernel_rfl) ?_;simp only[take_succ_cons,take_zero,drop_succ_cons,drop_zero]
 repeat(go_big_quiet_step (fail))
 refine wpQuiet_nil ?_;intro _ o;obtain⟨nq,rfl⟩:=o;go_wp2_with fail;refine(Ee (w.drewN nq) b g h D bd (A.Y ((zR _ _).drewN nq)) c l).mono ?_;rintro e J ⟨rfl,m,y⟩;rw[<-ae.o]at m;rw[<-ai.o];obtain⟨V,W,k,s,d⟩:=m.ex;have K:=k.X 5;simp at K;by_cases he1:D1.err=0
 .have I:((D1.err:Int)==0)=true:=by rw[beq_iff_eq];omega
  have j:=gd he1;clear he1;have t:D1.L=D.L:=by rw[ae.o];exact ah.o.2
  rw[t]at d;clear t;have H:=s.ne_row d (by decide);obtain⟨X,rfl,O,M,u,ad⟩:=d.T;have T:J.cell? ⟨h,ctx,none⟩=some (.int .i64 o1):=by rw[z.o];exact u ctx _ (DE a)
  have U:=ad ctx;have G:=k.X 4;simp at G;clear u ad;go_wp2_with fail;refine i9 14 (by kernel_rfl) (by kernel_rfl) ?_;simp only[take_succ_cons,take_zero,drop_succ_cons,drop_zero]
  repeat(go_big_quiet_step ((go_at_call 241;exact Calls.quiet_of_same (D5 o1 aj _ (by omega) (by rw[ai.o];exact ao.o)))))
  refine wpQuiet_nil ?_;intro _ o;obtain⟨q,rfl⟩:=o;go_wp2;go_ret;have r:mb D ctx=(aj,{ D1 with L:=D.L.set ctx (pX o1 aj) }):=by
   rw[x.o,if_pos (by rw[<-ae.o];exact j.o),ai.o,ae.o]
  rw[r];refine⟨rfl,⟨_,_,(k.drewN q).Q (p:=⟨h,ctx,none⟩) E.symm _,(s.drewN q).Q (p:=⟨h,ctx,none⟩) H _,?_⟩,?_⟩
  .simp only
   rw[map_set];exact(d.drewN q).S (i:=ctx) (by simpa using a) _
  .refine gg.setCell (gg.drewN ?_ _) (by simp) _
   exact((zR _ _).drewN nq).trans y (by simp)
 .have I:((D1.err:Int)==0)=false:=by rw[beq_eq_false_iff_ne];omega
  have j:=gd he1;clear he1;go_wp2;go_ret;have r:mb D ctx=(aj,D1):=by
   rw[x.o,if_neg (by rw[<-ae.o];exact j.o),ai.o,ae.o]
  rw[r];exact⟨rfl,m,(((zR _ _).drewN nq).trans y (by simp))⟩
theorem Jx(g l:Nat)(a:List Nat)(n:Nat)(w:World)(B:1<=n)(S:n<=4096)(C:a.length<=l)(r:l<=9223372036854775807)(f:∀(i d:Nat),a[i]?=some d->w.cell? ⟨g,i,none⟩=some (b8 d))(s:∀d∈a,d<256)(R:4<=a.length)(E:a.length<=1099511627776)(o:iV (a.take 4)≠4294967295):Calls prog 144 #[.slice g a.length l,n] w λe H=>∃b g' h,e=.returned (.tuple #[.pointer (some ⟨b,0,none⟩),(0:Int)]) /\ kz 249 H b g' h (p8 a n)/\gg [] w H/\w.heap.size<=b/\w.heap.size<=g'/\w.heap.size<=h:=by
 have t1:decide ((n:Int)<1)=false:=by simp;omega
 have t2:decide ((4096:Int)<n)=false:=by simp;omega
 have t3:decide ((a.length:Int)<4)=false:=by simp;omega
 have⟨HC,HD,HF⟩:=Q9 f s o;have O:iV (a.take 4)<4294967296:=by
  have:=GO (a.take 4) λd h=>s d (mem_of_mem_take h)
  rw[zI,Nat.min_eq_left R]at this
  simpa using this
 clear f s o O;go_enter func144,ntmps144;go_wp2_with fail
 go_loopg [6,8,22] 4 (λk v c i wr=>wr=w/\k<=4/\i=.int .i64 ((4-k:Nat):Int)/\v=.int .u64 ((iV (a.take (4-k)):Nat):Int))
 .exact⟨rfl,zQ _,rfl,rfl⟩
 obtain⟨rfl,hk,rfl,rfl⟩:=hrel;rcases gk with _|k
 .have t4:decide (((4-0:Nat):Int)<4)=false:=by simp
  simp only[Nat.sub_zero];have⟨V,hV⟩:=zX (iV (a.take 4));rw[<-hV];have t5:((V:Int)==4294967295)=false:=by rw[beq_eq_false_iff_ne,hV];have:=HF.o;omega
  have M:=gd hV;clear hV;have z:∀j u,(a.map b8)[j]?=some u->wr.cell? ((⟨g,0,none⟩:Addr).add j)=some u:=by
   intro j u D;rw[zW]at D;obtain⟨d,N,rfl⟩:=Option.map_eq_some_iff.1 D;have e:(⟨g,0,none⟩:Addr).add j=⟨g,j,none⟩:=(by unfold Addr.add;split<;>simp_all);rw[e];exact HC.o j d N
  have J:=gd z;clear z
  go_wp2_with(at_builtin;refine tP rfl rfl xZ rfl (by decide) rfl (World.ownsRow_nil _ 0 _ _) (news:=a.map b8) rfl ?c1 ?c2 ?c3 ?c4 ?c5 ?c6 ?_)
  case c1=>simp
  case c2=>omega
  case c3=>exact J.o
  case c4=>intro u T;obtain⟨d,_,rfl⟩:=List.mem_map.1 T;rfl
  case c5=>omega
  case c6=>omega
  intro g' K w1 F y G;obtain⟨Z,W,q⟩:=gv.of_own F rfl;simp only[Value.ownBlock]at q;injection q with q;subst q;have X:wr.heap.size<=g':=by simpa[Value.ownBlock]using G
  simp only[Value.ownBlock,Option.toList_none]at y;clear F G
  go_wp2_with(go_at_call 203;refine(FU n _ S).mono ?_;rintro e Y ⟨h,rfl,U,t,q3⟩)
  go_ret2
  have s1:=y.size;have s2:=t.size;refine⟨_,_,_,rfl,⟨_,_,?_,((W.Z t (by simp)).alloc _),U.alloc _⟩,(y.tq t).alloc _,by omega,X,by omega⟩
  have:=gn.new Y 249 #[.slice (some ⟨g',0,none⟩) a.length K,(4:Int),.int .u64 V,.int .u64 4294967295,.slice (some ⟨h,0,none⟩) n n,(0:Int)]
  simp only[p8,<-M.o];exact this
 .have⟨m,hm⟩:=zX (4-(k+1))
  rw[<-hm];have am:m<4:=by omega
  have A:4-k=m+1:=by omega
  have I:=gd A;clear hm A;obtain⟨x,p⟩:∃x,a[m]?=some x:=⟨_,zF (by omega)⟩;have an:x<256:=HD.o x (by obtain⟨B,Q⟩:=List.getElem?_eq_some_iff.1 p;rw[<-Q];exact zG B);have al:wr.cell? ⟨g,m,none⟩=some (.int .u8 x):=HC.o _ _ p;have ad:iV (a.take (m+1))=iV (a.take m)*256+x:=by
   rw[take_add_one,p];exact sQ _ _
  have P:iV (a.take m)<16777216:=by
   have:=GO (a.take m) λd h=>HD.o d (mem_of_mem_take h)
   have h3:256^(a.take m).length<=256^3:=Nat.pow_le_pow_right (by decide) (by rw[zI];omega)
   have:(256:Nat)^3=16777216:=by decide
   omega
  have⟨V,hV⟩:=zX (iV (a.take m));rw[<-hV]at ad P⊢;have L:=gd ad;clear p ad hV;go_wp2_with fail
  go_roundg k
  .rw[I.o]
   exact⟨rfl,by omega,by go_num,by rw[L.o];go_num⟩
  .omega
theorem O9(q bit:Nat)(f:q<4294967296)(d:bit=0\/bit=1):bits BinOp.or IntKind.u64 ((q:Int)*2) (bit:Int)=((q*2+bit:Nat):Int):=by
 have a:=u64_or_nat (q*2) bit (by omega) (by omega);have c:q*2 ||| bit=q*2+bit:=by
  have:=two_pow_add_eq_or_of_lt (i:=1) (b:=bit) (by omega) q
  rw[zY q 2]
  simpa using this.symm
 rw[c]at a;have e:((q*2:Nat):Int)=(q:Int)*2:=by simp
 rw[<-e];exact a
theorem E8(w:World)(b g h:Nat)(D:i8)(c:ij)(v n:Nat)(M:kz 249 w b g h D)(B:lX D)(L:lu D c)(A:iw c)(X:jb c)(hn:n<=32)(N:v<2^n)(O:v<4294967296)(hF:jC D.data (j9 c v n)):Calls prog 206 #[.pointer b,n] w λe w'=>e=.returned (.int .u64 v) /\ ∃d,kz 249 w' b g h d/\lX d/\lu d (j9 c v n)/\d.data=D.data/\gg [b] w w':=by
 have t1:decide ((n:Int)<0)=false:=by simp
 have t2:decide ((32:Int)<n)=false:=by simp;omega
 have⟨HF,HV⟩:=gy hF N;clear hF N;have c5:w.cell? ⟨b,5,none⟩=some (.int .i64 0):=by
  obtain⟨P,Q,l,-,-⟩:=M.ex
  have:=l.X 5
  simpa[L.err]using this
 go_enter func206,ntmps206;go_wp2_with fail
 go_loopg [5,21] n (λk x i wr=>∃(d:i8) (a:ij),k<=n/\x=.int .u64 ((v / 2^k:Nat):Int)/\i=.int .i64 ((n-k:Nat):Int)/\kz 249 wr b g h d/\lX d/\lu d a/\iw a/\jb a /\
   gh (j9 c v n=j9 a v k)/\gh (d.data=D.data)/\gg [b] w wr)
 .exact⟨D,c,zQ _,by rw[div_eq_of_lt HV.o];rfl,by simp,M,B,L,A,X,gd rfl,gd rfl,zR _ _⟩
 obtain⟨d,a,hk,rfl,rfl,u,o,p,j,y,r,s,I⟩:=hrel;rcases gk with _|k
 .have t4:decide (((n-0:Nat):Int)<n)=false:=by simp
  go_wp2_with fail;go_ret;refine⟨by simp,d,u,o,?_,s.o,I⟩;rw[r.o];exact p
 .have⟨m,hm⟩:=zX (n-(k+1))
  rw[<-hm];have aE:m<n:=by omega
  have J:n-k=m+1:=by omega
  have R:=gd J;clear hm J;have⟨bit,af⟩:=zX (v / 2^k%2);have z:v / 2^k=(v / 2^(k+1))*2+bit:=by
   rw[af,Nat.pow_succ,<-Nat.div_div_eq_div_mul];omega
  have V:v / 2^(k+1)<=v:=div_le_self _ _;have⟨q,hq⟩:=zX (v / 2^(k+1));rw[<-hq]at z V⊢;have t:bit=0\/bit=1:=by omega
  have U:=gd z;have F:jC d.data (j9 (jF a (a.W / 2) bit) v k):=by
   have:=HF.o
   rw[r.o]at this;rw[s.o,af];exact this
  have E:gh (j9 c v n=j9 (jF a (a.W / 2) bit) v k):=by
   refine gd ?_;rw[r.o,af];rfl
  have f:=q5 j;have G:=Bl o.dig v k (rQ j f bit) (ul j y f bit) F;have K:=Mg p o j y f t G;have ad:=(ze d (a.W / 2)).1;have C:=E4 o (bound:=a.W / 2) (by rw[p.W];exact f);have T:=gd t;have av:bit<=1:=by omega
  have⟨aj,ap⟩:=gy K ad;clear af z hq t K ad F G;obtain⟨P,Q,l,Y,Z⟩:=u.ex;have c3:=l.X 3;simp at c3;have S:=gd p.W;rw[p.W]at c3;have⟨W2,ak⟩:=zX (a.W / 2);have aF:IntKind.u64.wrap ((a.W:Int) / 2)=(W2:Int):=by
   have e:(a.W:Int) / 2=((a.W / 2:Nat):Int):=(by simp);rw[e,ak];exact IntWalk.u64_in _ (by have:=j.hi;omega)
  rw[<-ak]at aj ap C f E;clear ak l Y Z;go_wp2_with fail;refine(Ee wr b g h d W2 u o (by rw[S.o];exact f)).mono ?_;rintro e w1 ⟨rfl,H,W⟩;rw[aj.o.1];have aD:w1.cell? ⟨b,5,none⟩=some (.int .i64 0):=by
   obtain⟨P,Q,l,-,-⟩:=H.ex
   have:=l.X 5
   simpa[aj.o.2.err]using this
  go_wp2_with fail;rw[O9 q bit (by omega) T.o]
  go_roundg k
  .rw[R.o]
   refine⟨_,_,by omega,by rw[U.o],by go_num,H,C,aj.o.2,rQ j f bit,ul j y f bit,E,gd ?_,I.tq W⟩;rw[ap.o];exact s.o
  .omega
theorem Gy(v d:Nat)(h:2^d<=v+1)(a:v<4294967296):IntKind.u64.wrap (IntKind.u64.wrap (IntKind.u64.wrap ((2:Int)^d)+((v+1-2^d:Nat):Int))-1)=(v:Int):=by
 have e:((2:Int)^d)=((2^d:Nat):Int):=by simp
 rw[e];generalize 2^d=p at *;rw[IntWalk.u64_in (p:Int) (by omega),IntWalk.u64_in ((p:Int)+((v+1-p:Nat):Int)) (by omega),IntWalk.u64_in _ (by omega)];omega
def sY(T:TypeId)(w:World)(b g h:Nat)(D:i8)(c:ij)(ctx v most:Nat)(e:Ending)(w':World):Prop:=
 e=.returned (.int .u64 ((if v<=most then v else 0:Nat):Int)) /\
  ∃D',kz T w' b g h D'/\(if v<=most then lX D'/\lu D' (mc c ctx v)else D'.err=2)/\D'.data=D.data/\gg [b,h] w w'
theorem NC(w:World)(b g h:Nat)(D:i8)(c:ij)(ctx v most:Nat)(hc:kz 249 w b g h D)(q:lX D)(hS:lu D c)(a:iw c)(L:jb c)(o:ctx+33<=c.L.length)(hv:v<4294967296)(hmost:most<18446744073709551616)(hF:jC D.data (mc c ctx v)):Calls prog 146 #[.pointer b,ctx,.int .u64 most] w (sY 249 w b g h D c ctx v most):=by
 obtain⟨vd,vo,hb,hl,ho⟩:=hc.ex;obtain⟨aZ,rfl,a2,a1,-,-⟩:=ho.T;have c4:=hb.X 4;have c5:=hb.X 5;simp at c4 c5;rw[hS.err]at c5;rw[hS.L]at c4 a2;clear hb hl ho;have t2:decide ((ctx:Int)<0)=false:=by simp
 have t3:decide ((c.L.length:Int)-33<(ctx:Int))=false:=by simp;omega
 have⟨d,hd⟩:=zX (log2 (v+1));have H:d<=32:=by rw[hd];exact pS hv
 have aT:2^d<=v+1:=by rw[hd];exact log2_self_le (by omega)
 have az:v+1<2^(d+1):=by rw[hd];exact lt_log2_self
 have ar:mc c ctx v=j9 (lJ c ctx d) (v+1-2^d) d:=by rw[hd];rfl
 have W:iw (lJ c ctx d):=Br a H o;have Y:jb (lJ c ctx d):=AS a L H o;have N:jC D.data (j9 (lJ c ctx d) (v+1-2^d) d):=by rw[<-ar];exact hF
 have O:jC D.data (lJ c ctx d):=Bl q.dig _ _ W Y N;have aU:jC D.data (iP c ctx d):=Gl q.dig a L H o O;have aV:∀j,j<=d->jC D.data (iP c ctx j):=λj hj=>Fi q.dig a L (by omega) j hj aU;have⟨aS,aX,aY,HN⟩:=gu N O aV ar;have H2:=gd az;clear hd ar hF N O aU aV az;go_enter func146,ntmps146;go_wp2_with fail
 go_loopg [7] d (λk n wr=>∃(f:i8),k<=d/\n=.int .i64 ((d-k:Nat):Int)/\kz 249 wr b g h f/\lX f/\lu f (iP c ctx (d-k))/\gh (f.data=D.data)/\gg [b,h] w wr)
 .exact⟨D,zQ _,by simp,hc,q,by simpa[iP]using hS,gd rfl,zR _ _⟩
 obtain⟨f,hk,rfl,R,r,i,F,Q⟩:=hrel
 skip
 rcases gk with _|k
 .simp only[Nat.sub_zero]at i⊢
  have T:iw (iP c ctx d):=pK a (by omega);have S:jb (iP c ctx d):=uo a L (by omega);by_cases hlt:d<32
  .have t4:decide ((d:Int)<32)=true:=by simp;omega
   have ad:lJ c ctx d=kq (iP c ctx d) (ctx+d) 0:=(by unfold lJ;rw[if_pos hlt]);have s:ctx+d<(iP c ctx d).L.length:=(by rw[nK];omega);have E:=E6 i r T S s (bit:=0) (by simp) (by rw[F.o,<-ad];exact aX.o);have au:=Gj r (ctx:=ctx+d) (by rw[i.L];exact s);have I:=Eg f (ctx+d);have⟨HS,M,aH⟩:=Q9 E ad I;clear ad E I;go_wp2_with fail;rw[show((ctx:Int)+d)=((ctx+d:Nat):Int)from by omega];refine(E5 wr b g h f (ctx+d) R r i.err (by rw[i.L];exact s)).mono ?_;rintro e wz ⟨rfl,z,am⟩;rw[HS.o.1];have aw:=au;have P:lu (mb f (ctx+d)).2 (lJ c ctx d):=(by rw[M.o];exact HS.o.2);have t:gh ((mb f (ctx+d)).2.data=D.data):=gd (by rw[aH.o];exact F.o);have X:gg [b,h] w wz:=Q.tq am;generalize (mb f (ctx+d)).2=Dz at *;go_wp2_with fail;refine(E8 wz b g h Dz (lJ c ctx d) (v+1-2^d) d z aw P W Y H (by have:=H2.o;rw[Nat.pow_succ]at this;omega) (by have:1<=2^d:=Nat.one_le_two_pow;omega) (by rw[t.o];exact aS.o)).mono ?_;rintro e w2 ⟨rfl,u,y,av,x,A,Z⟩;obtain⟨U,V,l,B,C⟩:=y.ex;have K:=l.X 5;simp at K;rw[x.err]at K;have a0:=l.U 5;have ap:=B.ne_ l (by decide);have aq:=C.ne_ l (by decide);have J:=gd A;have aP:=Gy v d aT hv;have G:gg [b,h] w w2:=X.trans Z (by simp);clear A;by_cases hm:v<=most
   .have t6:decide (most<v)=false:=by simpa using hm
    go_wp2;go_ret;unfold sY;simp only[if_pos hm];exact⟨rfl,u,y,⟨av,by rw[HN.o];exact x⟩,by rw[J.o];exact t.o,G⟩
   .have t6:decide (most<v)=true:=by simp;omega
    go_wp2;go_ret;unfold sY;simp only[if_neg hm];refine⟨rfl,{ u with err:=2 },⟨U,V,?_,B.Q (p:=⟨b,5,none⟩) ap _,C.Q (p:=⟨b,5,none⟩) aq _⟩,rfl,by simp only;rw[J.o];exact t.o,G.setCell (by simp) _⟩
    have:=l.S 5 (.int .i64 2)
    simpa using this
  .have t4:decide ((d:Int)<32)=false:=by simp;omega
   have ad:lJ c ctx d=iP c ctx d:=(by unfold lJ;rw[if_neg hlt]);have z:=R;have aw:=r;have P:lu f (lJ c ctx d):=(by rw[ad];exact i);have t:=F;have X:=Q;clear ad;generalize f=Dz at *;have⟨wz,a3⟩:=zX wr;subst a3;go_wp2_with fail;refine(E8 wz b g h Dz (lJ c ctx d) (v+1-2^d) d z aw P W Y H (by have:=H2.o;rw[Nat.pow_succ]at this;omega) (by have:1<=2^d:=Nat.one_le_two_pow;omega) (by rw[t.o];exact aS.o)).mono ?_;rintro e w2 ⟨rfl,u,y,av,x,A,Z⟩;obtain⟨U,V,l,B,C⟩:=y.ex;have K:=l.X 5;simp at K;rw[x.err]at K;have a0:=l.U 5;have ap:=B.ne_ l (by decide);have aq:=C.ne_ l (by decide);have J:=gd A;have aP:=Gy v d aT hv;have G:gg [b,h] w w2:=X.trans Z (by simp);clear A;by_cases hm:v<=most
   .have t6:decide (most<v)=false:=by simpa using hm
    go_wp2;go_ret;unfold sY;simp only[if_pos hm];exact⟨rfl,u,y,⟨av,by rw[HN.o];exact x⟩,by rw[J.o];exact t.o,G⟩
   .have t6:decide (most<v)=true:=by simp;omega
    go_wp2;go_ret;unfold sY;simp only[if_neg hm];refine⟨rfl,{ u with err:=2 },⟨U,V,?_,B.Q (p:=⟨b,5,none⟩) ap _,C.Q (p:=⟨b,5,none⟩) aq _⟩,rfl,by simp only;rw[J.o];exact t.o,G.setCell (by simp) _⟩
    have:=l.S 5 (.int .i64 2)
    simpa using this
 .have⟨m,hm⟩:=zX (d-(k+1))
  rw[<-hm]at i⊢;have a4:m<d:=by omega
  have aW:d-k=m+1:=by omega
  have M:=gd aW;clear hm aW;have t4:decide ((m:Int)<32)=true:=by simp;omega
  have T:iw (iP c ctx m):=pK a (by omega);have S:jb (iP c ctx m):=uo a L (by omega);have s:ctx+m<(iP c ctx m).L.length:=by rw[nK];omega
  have E:=E6 i r T S s (bit:=1) (by simp) (by rw[F.o];exact aY.o (m+1) (by omega));have au:=Gj r (ctx:=ctx+m) (by rw[i.L];exact s);have I:=Eg f (ctx+m);have⟨HS,aH⟩:=gy E I;clear E I;go_wp2_with fail;rw[show((ctx:Int)+m)=((ctx+m:Nat):Int)from by omega];refine(E5 wr b g h f (ctx+m) R r i.err (by rw[i.L];exact s)).mono ?_;rintro e wz ⟨rfl,z,am⟩;rw[HS.o.1];go_wp2_with fail
  go_roundg k
  .rw[M.o]
   exact⟨_,by omega,by go_num,z,au,HS.o.2,gd (by rw[aH.o];exact F.o),Q.tq am⟩
  .omega
end Go.Proofs.YtifdlkoepaepiaaGreatDoor
