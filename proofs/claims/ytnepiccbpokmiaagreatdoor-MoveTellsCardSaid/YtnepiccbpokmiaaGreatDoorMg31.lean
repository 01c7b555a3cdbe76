/- Lemmas. -/
import Derived.Test.YtnepiccbpokmiaaGreatDoorMg27
import Derived.Deep.RegionHeld3
import Derived.Deep.RegionLaw
set_option linter.all false
set_option maxHeartbeats 4000000
set_option maxRecDepth 100000
namespace Go.Proofs.YtnepiccbpokmiaaGreatDoor
open Tryz List Nat Go.RowKit
theorem CH(o a:Nat)(w:World)(d:o<=4096)(b:a=0\/a=1):Calls prog 290 #[o,a] w λe c=>e=.returned (.int .i64 (lJ o a:Nat))/\c=w:=by
 rcases b with rfl|rfl
 all_goals
  go_enter func290,ntmps290;go_wp2;go_ret;exact⟨by unfold lJ;simp;go_num,rfl⟩
theorem IG(x:Nat)(c:x<18446744073709551616):bits BinOp.and IntKind.u64 (x:Int) 255=((x%256:Nat):Int):=by
 have a:=u64_and_nat x 255 c (by decide);have b:x &&& 255=x%256:=and_two_pow_sub_one_eq_mod x 8;rw[b]at a;exact a
theorem MH(w:World)(b g:Nat)(v m:Value)(W:Int)(a:List Nat)(k:Nat)(u:gn w b 219 #[v,.int .u64 W,m])(y:gv w 5 v g (a.map b8))(A:∀d∈a,d<256)(L:k<9223372036854775808):Calls prog 318 #[.pointer b,.int .u64 k] w λe w'=>e=.returned (.tuple #[])/\gv w' 5 v g ((me a k).map b8)/\gf [g] w w':=by
 obtain⟨E,rfl,P,Q,-,-⟩:=y.oq;have G:=y.ne_ u (by decide);have B:=gd A;clear A;have z:=u.X 0;simp at z;go_enter func318,ntmps318;go_wp2
 go_loopw [1,4] (λn i wr=>∃(l t:List Nat) (c:Nat) (j:Int),i=.int .i64 j/\n=.int .u64 c/\j=(l.length:Int)-1/\c<9223372036854775808/\l.length+t.length=a.length /\
   me a k=me l c++t/\(∀d∈l,d<256)/\gv wr 5 (.slice g a.length E) g ((l++t).map b8)/\gf [g] w wr)
  (λn i _=>(intOf i+1).toNat)
 .exact⟨a,[],k,_,rfl,rfl,rfl,L,by simp,by simp,B.o,by simpa using y,zR _ _⟩
 obtain⟨l,t,c,j,rfl,rfl,r,U,q,ad,s,h,p⟩:=hrel;have F:=u.Z p (by simpa using G.symm);have C:=F.X 0;simp at C;clear z;rcases eq_nil_or_concat l with rfl|⟨l',d,rfl⟩
 .obtain rfl:j=-1:=by simpa using r
  have o:=gd ad;clear r q ad s;go_wp2
  all_goals
   go_end0
   refine⟨rfl,?_,p⟩;rw[o.o];simpa[CX]using h
 .have O:wr.cell? ⟨g,l'.length,none⟩=some (.int .u8 d):=by
   obtain⟨_,K,_,_,f,_⟩:=h.oq;exact f l'.length d (by simp)
  have S:wr.frozen? ⟨g,l'.length,none⟩=false:=by
   obtain⟨_,K,_,_,_,f⟩:=h.oq;exact f _
  obtain rfl:j=(l'.length:Int):=by simp at r;omega
  have M:d<256:=s d (by simp);have T:l'.length<a.length:=by simp at q;omega
  have⟨HL,o,ah⟩:=gS q ad s;clear r q ad s;have N:bits BinOp.and IntKind.u64 ((c:Int)+(d:Int)) 255=(((c:Int)+d)%256):=by
   have:=IG (c+d) (by omega)
   have e:((c+d:Nat):Int)=(c:Int)+d:=(by omega);rw[e]at this;rw[this];omega
  go_wp2
  .have R:0<c:=by omega
   go_roundw
   case rel=>
    have H:=B8 l' d c (by omega);have D:=HL.o;refine⟨l',(c+d)%256::t,(c+d) / 256,_,rfl,by go_num,rfl,by omega,by simp at D⊢;omega,?_,λx hx=>ah.o x (by simp[hx]),?_,p.setCell (by simp) _⟩
    .rw[o.o,concat_eq_append,H,zH];rfl
    .have f:=h.T (i:=l'.length) (by simp) (b8 ((c+d)%256))
     have I:((l'.concat d++t).map b8).set l'.length (b8 ((c+d)%256))=(l'++(c+d)%256::t).map b8:=by
      rw[concat_eq_append,zH,zM,zM,set_append_right _ _ (by simp)];simp
     rw[I]at f;have J:b8 ((c+d)%256)=.int .u8 (((c:Int)+d)%256):=(by unfold b8;go_num);rw[J]at f;exact f
   case measure=>simp[intOf]
  .obtain rfl:c=0:=by omega
   go_end0
   refine⟨rfl,?_,p⟩;rw[o.o,B9];exact h
theorem FZ{P:Program}{w:World}{ops:Array Oper}{o:Oper}{a:Act}{K:Act->World->Prop}{Q:Exit->Act->World->Prop}{E0:Prop}(n:o.guard=none){s x:Operand}{t:TypeId}(G:o.op=.call { callee:=.builtin .append,args:=#[s,x],argTypes:=#[t,t] }){e:TypeId}{z:Value}{b:Nat}(E:jA P t e z 1 b)(p:z.cells.size=1){v:Value}{g:Nat}{i:List Value}(H:a.eval s=v)(y:gv w e v g i){B c:Nat}(u:Value)(J:a.eval x=.slice B 1 c)(I:w.cell? B=some u)(A:u.oneCell'=true)(d:(i.length+1)*b<=140737488355328)(F:i.length<9223372036854775807)(h:∀f cap k,gv k e (.slice (some ⟨f,0,none⟩) (i.length+1) cap) f (i++[u])->gf [g] w k->(f=g\/w.heap.size<=f)->K (a.put o.dst (.slice (some ⟨f,0,none⟩) (i.length+1) cap)) k):if Region.wanted o (yielded ops a.tmps)=true then Oper.wp P o a w K Q else E0:=by
 rw[if_pos (by simp[Region.wanted,n])];refine tU G E p (by decide) H (y.own 0 (zero_le _)) J (news:=[u]) (by simp) (by decide) ?_ (by simpa using A) (by omega) d ?_
 .intro j M m
  match j,m with
  | 0,m=>simp at m;subst m;simpa[Addr.add]using I
 .intro f cap k C q r
  obtain⟨L,D,l⟩:=gv.of_own C rfl;rw[y.own_block]at q r;simp only[Value.ownBlock]at l;injection l with l;subst l;exact h f cap k D q (r.elim (λh=>.inl (by injection h)) .inr)
theorem yN(w:World)(b g h:Nat)(c:ix)(bound a:Nat)(hc:iZ 219 w b g h c)(i:iY c)(J:pP c bound)(t:a=0\/a=1)(V:c.low.length<=1099511627776):Calls prog 291 #[.pointer b,.int .u64 bound,a] w λe Y=>e=.returned (.tuple #[]) /\ ∃d,iZ 219 Y b d h (jR c bound a)/\gf [b,g] w Y/\(d=g\/w.heap.size<=d):=by
 obtain⟨vl,B,f,u,K⟩:=hc.ex;obtain⟨s,aX⟩:=J;have a0:=i.hi;have E:=u.ne_ f (by decide);have aU:=K.ne_ f (by decide);have aT:=u.ne_row K (by decide);obtain⟨I,rfl,aY,aZ,-,-⟩:=u.oq;have L:=f.X 0;have M:=f.X 1;have aO:=f.V 1;simp at L M;have aJ:=zk i ⟨s,by omega⟩ a;have⟨W1,aA⟩:=zX (nO c bound a);have⟨l1,z⟩:=zX (oO c bound a);rw[<-aA]at aJ;have⟨au,ak⟩:=gy aA z;clear aA z;have U:l1.length=c.low.length:=by rw[ak.o,uG]
 have G:=gd U;clear U;go_enter func291,ntmps291
 go_upto_if 7 with fail
 go_cut [] (λwx=>gn wx b 219 #[.slice g c.low.length I,.int .u64 W1,B]/\gv wx 5 (.slice g c.low.length I) g (l1.map b8)/\gf [b,g] w wx)
 case first=>
  rcases t with rfl|rfl
  .go_wp2
   go_meet
   case rel=>
    refine⟨?_,?_,(zR _ _).setCell (by simp) _⟩
    .have:=f.T 1 (.int .u64 W1)
     rw[au.o]at this⊢;exact this
    .rw[ak.o]
     exact u.R (p:=⟨b,1,none⟩) E _
  .go_wp2_with(go_at_call 318;refine(MH _ _ _ _ _ _ _ _ f u i.dig (by omega)).mono ?_;rintro e w1 ⟨rfl,z,Q⟩;have s:=f.Z Q (by simpa using E.symm);have Z:=s.X 1;have aP:=s.V 1;simp at Z)
   go_meet
   case rel=>
    refine⟨?_,?_,(Q.mono (F':=[b,g]) (by simp)).setCell (by simp) _⟩
    .have:=s.T 1 (.int .u64 ((c.W:Int)-bound))
     have e:((W1:Nat):Int)=(c.W:Int)-bound:=(by rw[au.o];unfold nO;simp;omega);rw[e];exact this
    .rw[ak.o]
     exact z.R (p:=⟨b,1,none⟩) E _
 case rest=>
  obtain⟨r,O,aE⟩:=hcut;have v:=r.X 0;have y:=r.X 1;have⟨aQ,aR⟩:=pt r 0 1;simp at v y;clear L M aO;go_wp2_with fail
  go_loopg [] 1 (λk wr=>∃(d o:Nat) (l:List Nat) (W:Nat),gn wr b 219 #[.slice (some ⟨d,0,none⟩) l.length o,.int .u64 W,B] /\
    gv wr 5 (.slice (some ⟨d,0,none⟩) l.length o) d (l.map b8)/\gf [b,g] w wr/\(d=g\/w.heap.size<=d) /\
    ((k=1/\W=W1/\l=l1)\/(k=0/\16777216<=W/\W<4294967296/\gh (jR c bound a=⟨l,W,c.M⟩))))
  .exact⟨g,I,l1,W1,by rw[G.o];exact r,by rw[G.o];exact O,aE,.inl rfl,.inl ⟨rfl,rfl,rfl⟩⟩
  clear v y aQ aR r O;obtain⟨d,o,l,W,m,F,q,n,am⟩:=hrel;have aH:=F.ne_ m (by decide);have v:=m.X 0;have y:=m.X 1;simp at v y;have S:∀W',W'=W->jR c bound a=⟨l,W',c.M⟩->iZ 219 wr b d h (jR c bound a):=λW' e he=>by
   subst e;rw[he];have aV:h∉[b,g]:=(by simp;exact⟨aU,aT.symm⟩);exact⟨_,B,m,F,K.Z q aV⟩
  have P:=gd S;clear S;rcases am with⟨rfl,rfl,rfl⟩|⟨rfl,hW,aW,ay⟩
  .by_cases hs:W<16777216
   .have R:decide ((W:Int)<16777216)=true:=by simp;omega
    have a2:IntKind.u64.wrap ((W:Int)*256)=((W*256:Nat):Int):=by
     have e:((W:Int)*256)=((W*256:Nat):Int):=(by omega);rw[e];exact IntWalk.u64_in _ (by omega)
    have a1:l.length<=1099511627776:=(by have:=G.o;omega);go_wp2_with fail;have C:=m.alloc (.cells #[.int .u8 0] 5);have n0:(wr.alloc (Obj.cells #[Value.int IntKind.u8 0] 5)).cell? { block:=b,off:=0 }=some (.slice (some ⟨d,0,none⟩) l.length o):=(by simpa using C.X 0);have n1:(wr.alloc (Obj.cells #[Value.int IntKind.u8 0] 5)).cell? { block:=b,off:=1 }=some (.int .u64 W):=(by simpa using C.X 1);clear C
    go_region_law (first|(refine FZ (by rfl) (by rfl) rL (by rfl) (by rfl) ((F.alloc (.cells #[.int .u8 0] 5)).drew) (.int .u8 0) (by rfl) (by simp[go_sem]) (by rfl) (by simp;omega) (by simp;omega) ?_;intro g2 ad w2 N H D;have j:gn w2 b 219 #[.slice (some ⟨d,0,none⟩) l.length o,.int .u64 W,B]:=((m.alloc (.cells #[.int .u8 0] 5)).drew).Z H (by simpa using aH.symm);have y0:=j.X 0;have y1:=j.X 1;have z0:=j.V 0;have z1:=j.V 1;simp at y0 y1))
    all_goals go_ways
    all_goals
     have T:=N.ne_ j (by decide);have aD:gf [b,g] w w2:=((q.alloc (.cells #[.int .u8 0] 5)).drew).trans H (by
      intro x X;simp at X;subst X;rcases n with rfl|n
      .exact .inl (by simp)
      .exact .inr n)
     have aS:g2=g\/w.heap.size<=g2:=by
      rcases D with rfl|D
      .exact n
      .exact .inr (Nat.le_trans ((q.alloc (.cells #[.int .u8 0] 5)).drew).size D)
     clear H;go_wp2_with fail
     go_roundg 0
     .refine⟨g2,ad,l++[0],W*256,?_,?_,(aD.setCell (p:=⟨b,1,none⟩) (by simp) _).setCell (by simp) _,aS,.inr ⟨rfl,by omega,by omega,?_⟩⟩
      .have A:=(j.T 1 (.int .u64 ((W*256:Nat):Int))).T 0 (.slice g2 (l.length+1) ad)
       simp at A
       simpa using A
      .have A:=(N.R (p:=⟨b,1,none⟩) T (.int .u64 ((W*256:Nat):Int))).R (p:=⟨b,0,none⟩) T (.slice g2 (l.length+1) ad)
       simpa[b8]using A
      .refine gd ?_
       unfold jR;rw[<-au.o,if_pos hs,<-ak.o]
     .omega
   .have R:decide ((W:Int)<16777216)=false:=by simp;omega
    go_wp2
    go_end0
    refine⟨rfl,d,?_,q,n⟩;refine P.o W rfl ?_;unfold jR;rw[<-au.o,if_neg hs,<-ak.o]
  .have R:decide ((W:Int)<16777216)=false:=by simp;omega
   go_wp2
   go_end0
   exact⟨rfl,d,P.o W rfl ay.o,q,n⟩
theorem CO(c:ix)(x:List Nat)(b a:Nat):jR { c with M:=x } b a={ jR c b a with M:=x }:=by
 unfold jR nO oO;simp only;split<;>split<;>rfl
theorem NU{c:ix}(h:iY c){b o:Nat}(e:31<=o/\o<=4065)(a:Nat):iY { c with M:=c.M.set b (lJ o a) }:=by
 refine⟨h.dig,h.len,h.lo,h.hi,λx hx=>?_⟩;rcases mem_or_eq_of_mem_set hx with d|d
 .exact h.M x d
 .subst d
  exact CG a e
theorem Ew(w:World)(b g h:Nat)(c:ix)(a d:Nat)(K:iZ 219 w b g h c)(k:iY c)(f:a<c.M.length)(t:d=0\/d=1)(l:c.low.length<=1099511627776):Calls prog 232 #[.pointer b,a,d] w λe H=>e=.returned (.int .i64 0) /\ ∃g',iZ 219 H b g' h (lX c a d)/\gf [b,g,h] w H/\(g'=g\/w.heap.size<=g'):=by
 obtain⟨W,X,o,y,u⟩:=K.ex;have n:=xQ k f;have N:=k.hi;have T:=y.ne_ o (by decide);have F:=u.ne_ o (by decide);have E:=y.ne_row u (by decide);obtain⟨O,rfl,S,P,B,Q⟩:=u.oq;have z:=B a _ (xu f);replace z:w.cell? ⟨h,a,none⟩=some (.int .i64 (mT c a:Int)):=z;clear B;have⟨o1,al⟩:=zX (mT c a);have G:=uA k f;rw[<-al]at z G n;have I:=gd al;clear al;have s:=o.X 1;have J:=o.X 2;simp at s J;have U:decide ((a:Int)<0)=false:=by simp
 have V:decide (c.M.length<=a)=false:=by simp;omega
 have⟨bd,aa⟩:=zX (c.W / 4096*o1);have R:IntKind.u64.wrap ((c.W:Int) / 4096*(o1:Int))=(bd:Int):=by
  rw[<-aa]at n
  have:=n.2
  have e:((c.W:Int) / 4096*(o1:Int))=(bd:Int):=by rw[aa];simp
  rw[e];exact IntWalk.u64_in _ (by omega)
 rw[<-aa]at n;have D:gh (lX c a d={ jR c bd d with M:=c.M.set a (lJ o1 d) }):=by
  refine gd ?_;rw[aa,I.o];rfl
 clear aa;have C:gh (iY { c with M:=c.M.set a (lJ o1 d) }):=gd (NU k G _);go_enter func232,ntmps232;rcases t with rfl|rfl
 .go_wp2_with fail
  refine jE 8 (by kernel_rfl) (by kernel_rfl) ?_;simp only[take_succ_cons,take_zero,drop_succ_cons,drop_zero]
  repeat(go_big_quiet_step ((go_at_call 290;exact Calls.quiet_of_same (CH o1 _ _ (by omega) (by simp)))))
  refine wpQuiet_nil ?_;intro _ A;obtain⟨j,rfl⟩:=A;go_wp2_with fail;refine(yN _ b g h { c with M:=c.M.set a (lJ o1 0) } bd 0 ⟨_,_,(o.drewN j).R (p:=⟨h,a,none⟩) F.symm _,(y.drewN j).R (p:=⟨h,a,none⟩) E _,?q⟩ C.o n (by simp) l).mono ?_
  case q=>
   have:=(u.drewN j).T (i:=a) (by simpa using f) (i64 (lJ o1 0))
   rw[<-map_set]at this
   simpa[i64]using this
  rintro e L ⟨rfl,g',s,ad,m⟩;have r:gf [b,g,h] w ((w.drewN j).setCell ⟨h,a,none⟩ (.int .i64 (lJ o1 0:Nat))):=((zR _ _).drewN j).setCell (p:=⟨h,a,none⟩) (by simp) _;replace m:g'=g\/w.heap.size<=g':=m.imp id (Nat.le_trans r.size);go_wp2_with fail;go_ret;refine⟨rfl,g',?_,?_,m⟩
  .rw[D.o,<-CO];exact s
  .refine r.trans ad ?_
   intro x v;simp at v;rcases v with rfl|rfl<;>exact .inl (by simp)
 .go_wp2_with fail
  refine jE 8 (by kernel_rfl) (by kernel_rfl) ?_;simp only[take_succ_cons,take_zero,drop_succ_cons,drop_zero]
  repeat(go_big_quiet_step ((go_at_call 290;exact Calls.quiet_of_same (CH o1 _ _ (by omega) (by simp)))))
  refine wpQuiet_nil ?_;intro _ A;obtain⟨j,rfl⟩:=A;go_wp2_with fail;refine(yN _ b g h { c with M:=c.M.set a (lJ o1 1) } bd 1 ⟨_,_,(o.drewN j).R (p:=⟨h,a,none⟩) F.symm _,(y.drewN j).R (p:=⟨h,a,none⟩) E _,?q⟩ C.o n (by simp) l).mono ?_
  case q=>
   have:=(u.drewN j).T (i:=a) (by simpa using f) (i64 (lJ o1 1))
   rw[<-map_set]at this
   simpa[i64]using this
  rintro e L ⟨rfl,g',s,ad,m⟩;have r:gf [b,g,h] w ((w.drewN j).setCell ⟨h,a,none⟩ (.int .i64 (lJ o1 1:Nat))):=((zR _ _).drewN j).setCell (p:=⟨h,a,none⟩) (by simp) _;replace m:g'=g\/w.heap.size<=g':=m.imp id (Nat.le_trans r.size);go_wp2_with fail;go_ret;refine⟨rfl,g',?_,?_,m⟩
  .rw[D.o,<-CO];exact s
  .refine r.trans ad ?_
   intro x v;simp at v;rcases v with rfl|rfl<;>exact .inl (by simp)
theorem M8(w:World)(b g h:Nat)(c:ix)(v n:Nat)(M:iZ 219 w b g h c)(p:iY c)(X:n<=32)(P:v<2^n)(z:v<18446744073709551616)(y:c.low.length<=549755813888):Calls prog 233 #[.pointer b,.int .u64 v,n] w λe B=>e=.returned (.int .i64 0) /\ ∃d,iZ 219 B b d h (lj c v n)/\gf [b,g,h] w B/\(d=g\/w.heap.size<=d):=by
 have Y:decide ((n:Int)<0)=false:=by simp
 have Z:decide ((32:Int)<n)=false:=by simp;omega
 have t3:(((v:Int) / 2^n) != 0)=false:=by
  have:(v:Int) / 2^n=((v / 2^n:Nat):Int):=by simp
  rw[this,div_eq_of_lt P];rfl
 go_enter func233,ntmps233;go_wp2_with fail
 go_loopg [7] n (λk i wr=>∃(d:Nat) (a:ix),i=.int .i64 ((k:Int)-1)/\k<=n/\iZ 219 wr b d h a/\iY a/\gh (lj c v n=lj a v k) /\
   a.low.length+k<=c.low.length+n/\gf [b,g,h] w wr/\(d=g\/w.heap.size<=d))
 .exact⟨g,c,rfl,zQ _,M,p,gd rfl,zQ _,zR _ _,.inl rfl⟩
 obtain⟨d,a,rfl,W,o,j,r,U,l,f⟩:=hrel;rcases gk with _|k
 .have t4:decide ((0:Int)<=((0:Nat):Int)-1)=false:=by simp
  go_wp2;go_ret;exact⟨rfl,d,by rw[r.o];exact o,l,f⟩
 .have K:(((k+1:Nat):Int)-1)=(k:Int):=by omega
  rw[K];have m:=xR j;obtain⟨vl,vo,u,N,O⟩:=o.ex;have H:=u.X 1;simp at H;clear u N O;have J:IntKind.u64.wrap ((a.W:Int) / 2)=((a.W / 2:Nat):Int):=by
   have e:(a.W:Int) / 2=((a.W / 2:Nat):Int):=(by simp);rw[e];exact IntWalk.u64_in _ (by have:=j.hi;omega)
  have⟨ab,ad⟩:=zX (v / 2^k%2);have R:bits BinOp.and IntKind.u64 ((v:Int) / 2^k) 1=(ab:Int):=by
   have e:(v:Int) / 2^k=((v / 2^k:Nat):Int):=(by simp);have T:v / 2^k<=v:=div_le_self _ _;rw[e,ad];generalize v / 2^k=q at *;rw[and_one_u64 _ (by omega) (by omega)];simp
  have s:ab=0\/ab=1:=by omega
  have C:gh (lj c v n=lj (jR a (a.W / 2) ab) v k):=by
   refine gd ?_;rw[r.o,ad];rfl
  have Q:ab<=1:=by omega
  have G:=gd s;clear ad s;have⟨W2,ah⟩:=zX (a.W / 2);rw[<-ah]at J m;have F:=gd ah;clear ah;go_wp2_with fail;refine(yN wr b d h a W2 ab o j m G.o (by omega)).mono ?_;rintro e w1 ⟨rfl,L,I,D,t⟩;have S:=(ur (c:=a) W2 ab).2;have E:=uF j m ab;have V:=l.size;go_wp2_with fail
  go_roundg k
  .refine⟨L,_,rfl,by omega,I,E,?_,by omega,?_,?_⟩
   .rw[F.o];exact C
   .refine l.trans D ?_
    intro x A;simp at A;rcases A with rfl|rfl
    .exact .inl (by simp)
    .rcases f with rfl|f
     .exact .inl (by simp)
     .exact .inr f
   .rcases t with rfl|t
    .exact f
    .exact .inr (by omega)
  .omega
theorem IN(w:World)(b g h:Nat)(c:ix)(n:iZ 219 w b g h c)(f:iY c)(o:c.low.length<=1099511627776):Calls prog 163 #[.pointer b] w λe w'=>∃g' cap,e=.returned (.slice (some ⟨g',0,none⟩) c.low.length cap)/\gv w' 5 (.slice (some ⟨g',0,none⟩) c.low.length cap) g' (c.low.map b8)/\gf [] w w'/\w.heap.size<=g':=by
 obtain⟨K,L,l,k,D⟩:=n.ex;obtain⟨cap,rfl,G,H,t,A⟩:=k.oq;have s:∀j u,(c.low.map b8)[j]?=some u->w.cell? ((⟨g,0,none⟩:Addr).add j)=some u:=(k.own 0 (zero_le _)).cells (g:=g) rfl;have z:=l.X 0;simp at z;have I:=f.len;have q:gv (w.alloc (.cells #[] 5)) 5 (.slice (some ⟨w.heap.size,0,none⟩) 0 0) w.heap.size []:=gv.made w 5 [] (by simp[maxLen]);have J:(w.alloc (Obj.cells #[] 5)).cell? { block:=b,off:=0 }=some (.slice g c.low.length cap):=by simpa using(l.alloc (.cells #[] 5)).X 0
 have r:gh (∀j u,(c.low.map b8)[j]?=some u->(w.alloc (.cells #[] 5)).cell? ((⟨g,0,none⟩:Addr).add j)=some u):=gd (((k.alloc (.cells #[] 5)).own 0 (zero_le _)).cells (g:=g) rfl);clear t A l k D n f s;go_enter func163,ntmps163
 go_wp2_with(at_builtin;refine rW rfl rfl rL rfl (by decide) rfl (q.own 0 (zero_le _)) (news:=c.low.map b8) rfl ?c1 ?c2 ?c3 ?c4 ?c5 ?c6 ?_)
 case c1=>simp
 case c2=>omega
 case c3=>exact r.o
 case c4=>intro u E;obtain⟨d,_,rfl⟩:=List.mem_map.1 E;rfl
 case c5=>simp;omega
 case c6=>simp;omega
 intro g' ad w' B m a;rw[q.own_block]at m a;have v:w.heap.size<=g':=by
  rcases a with a|a
  .injection a with a;omega
  .omega
 have y:gf [] w w':=((show gf [] w w from zR _ _).alloc _).trans m (by intro x p;simp at p;subst p;exact .inr (zQ _));go_wp2;go_ret;obtain⟨F,C,i⟩:=gv.of_own B rfl;refine⟨g',ad,by simp,?_,y,v⟩;simp only[Value.ownBlock]at i;injection i with i;subst i
 simpa using C
theorem JU(n:Nat)(w:World)(s:n<=4096):Calls prog 230 #[n] w λe g=>∃h,e=.returned (.slice (some ⟨h,0,none⟩) n n)/\gv g 3 (.slice (some ⟨h,0,none⟩) n n) h ((replicate n 2048).map i64)/\gf [] w g/\w.heap.size<=h:=by
 have q:=lp FB rfl .i64 .i64 n (by omega) (by omega);go_enter func230,ntmps230;go_wp2_with fail
 go_loopg [4] n (λk j wr=>k<=n/\j=.int .i64 ((n-k:Nat):Int)/\gf [w.heap.size] w wr /\
   gv wr 3 (.slice (some ⟨w.heap.size,0,none⟩) n n) w.heap.size ((replicate (n-k) 2048++replicate k 0).map i64))
 .refine⟨zQ _,by simp,(zR _ _).alloc _,?_⟩
  have:=gv.made w 3 (replicate n (Value.int .i64 0)) (by simp[maxLen];omega)
  simpa[i64]using this
 obtain⟨r,rfl,a,b⟩:=hrel;rcases gk with _|k
 .have t:decide (((n-0:Nat):Int)<n)=false:=by simp
  go_wp2;go_ret;exact⟨_,rfl,by simpa using b,⟨a.os,a.tape,a.output,a.size,λx hx _=>a.block x hx (by simp;omega)⟩,zQ _⟩
 .have⟨m,hm⟩:=zX (n-(k+1))
  rw[<-hm]at b⊢;have p:m<n:=by omega
  have d:n-k=m+1:=by omega
  have l:=gd d;clear hm d;have o:wr.frozen? ⟨w.heap.size,m,none⟩=false:=by
   obtain⟨_,_,_,_,_,c⟩:=b.oq;exact c m
  have ad:wr.cell? ⟨w.heap.size,m,none⟩=some (.int .i64 0):=by
   obtain⟨_,_,_,_,c,_⟩:=b.oq;exact c m 0 (by rw[zS (by simp)];simp)
  go_wp2
  go_roundg k
  .rw[l.o]
   refine⟨by omega,by go_num,a.setCell (by simp) _,?_⟩;have f:=b.T (i:=m) (by simp) (i64 2048);have e:(((replicate m 2048++replicate (k+1) 0).map i64).set m (i64 2048))=(replicate (m+1) 2048++replicate k 0).map i64:=by
    rw[<-map_set,set_append_right _ _ (by simp),replicate_succ' (n:=m)];simp[replicate_succ]
   rw[e]at f;exact f
  .omega
theorem GA(n:Nat)(w:World)(m:1<=n)(k:n<=4096):Calls prog 160 #[n] w λe j=>∃b g h,e=.returned (.tuple #[.pointer (some ⟨b,0,none⟩),(0:Int)])/\iZ 219 j b g h (pg n)/\gf [] w j /\ w.heap.size<=b/\w.heap.size<=g/\w.heap.size<=h:=by
 have o:decide ((n:Int)<1)=false:=by simp;omega
 have p:decide ((4096:Int)<n)=false:=by simp;omega
 have l:∀w,(Instr.makeSlice 40 (.int .i64 4) (.int .i64 4)).run prog w=.ok (.slice (some ⟨w.heap.size,0,none⟩) 4 4) (w.alloc (.cells #[.int .u8 0,.int .u8 0,.int .u8 0,.int .u8 0] 5)) :=
  λw=>lp rL rfl .i64 .i64 4 (by omega) (by omega) w
 go_enter func160,ntmps160;go_wp2_with fail
 go_region_with (go_at_call 230;refine(JU n _ k).mono ?_;rintro e c ⟨h,rfl,f,a,i⟩)
 .go_wp2
  go_ret2
  have d:=gv.made w 5 [.int .u8 0,.int .u8 0,.int .u8 0,.int .u8 0] (by simp[maxLen]);refine⟨c.heap.size,w.heap.size,h,rfl,⟨_,_,gn.new _ _ _,((d.drew).Z a (by simp)).alloc _,f.alloc _⟩,?_,?_,zQ _,?_⟩
  .exact((((zR _ _).alloc _).drew).tq a).alloc _
  .have:=a.size;simp at this;omega
  .simp at i;omega
 .go_wp2
  go_ret2
  have d:=gv.made c 5 [.int .u8 0,.int .u8 0,.int .u8 0,.int .u8 0] (by simp[maxLen]);refine⟨c.heap.size+1,c.heap.size,h,?_,⟨_,_,(show gn _ _ _ #[_,.int .u64 4294967295,_]from ?_),d.alloc _,(f.alloc _).alloc _⟩,?_,?_,?_,?_⟩
  .rfl
  .have:=gn.new (c.alloc (.cells #[.int .u8 0,.int .u8 0,.int .u8 0,.int .u8 0] 5)) 219 #[.slice (some ⟨c.heap.size,0,none⟩) 4 4,.int .u64 4294967295,.slice (some ⟨h,0,none⟩) n n]
   simpa using this
  .exact((((zR _ _).drew).tq a).alloc _).alloc _
  .have:=a.size;simp at this;omega
  .have:=a.size;simp at this;omega
  .simp at i;omega
theorem IX(v:Nat)(w:World)(g:v<4294967296):Calls prog 231 #[.int .u64 v] w λe j=>e=.returned (.int .i64 (log2 (v+1):Nat))/\j=w:=by
 have⟨d,hd⟩:=zX (log2 (v+1));have l:d<=32:=by rw[hd];exact tt g
 have b:2^d<=v+1:=by rw[hd];exact log2_self_le (by omega)
 have a:v+1<2^(d+1):=by rw[hd];exact lt_log2_self
 rw[<-hd];clear hd;have⟨H1,H2⟩:=gy b a;clear b a;go_enter func231,ntmps231;go_wp2
 go_loopg [3] d (λk i wr=>k<=d/\i=.int .i64 ((d-k:Nat):Int)/\wr=w)
 .exact⟨zQ _,by simp,rfl⟩
 obtain⟨o,rfl,rfl⟩:=hrel;rcases gk with _|k
 .simp only[Nat.sub_zero]
  have h:decide ((1:Int)<((v:Int)+1) / 2^d)=false:=by
   have e:((v:Int)+1) / 2^d=(((v+1) / 2^d:Nat):Int):=(by simp);rw[e]
   have:(v+1) / 2^d<2:=by rw[div_lt_iff_lt_mul (Nat.two_pow_pos d)];have:=H2.o;rw[Nat.pow_succ]at this;omega
   generalize (v+1) / 2^d=q at *;simp;omega
  go_wp2;go_ret;exact⟨rfl,rfl⟩
 .have⟨m,hm⟩:=zX (d-(k+1))
  rw[<-hm];have n:m<d:=by omega
  have c:d-k=m+1:=by omega
  have f:=gd c;clear hm c;have h:decide ((1:Int)<((v:Int)+1) / 2^m)=true:=by
   have e:((v:Int)+1) / 2^m=(((v+1) / 2^m:Nat):Int):=(by simp);rw[e]
   have:2<=(v+1) / 2^m:=by
    rw[le_div_iff_mul_le (Nat.two_pow_pos m)];have b:=H1.o;have a:2^(m+1)<=2^d:=Nat.pow_le_pow_right (by omega) (by omega);rw[Nat.pow_succ]at a;omega
   generalize (v+1) / 2^m=q at *;simp;omega
  go_wp2
  go_roundg k
  .rw[f.o]
   exact⟨by omega,by go_num,rfl⟩
  .omega
theorem Ns(v d:Nat)(h:2^d<=v+1)(f:v+1<2^(d+1))(k:v<4294967296):bits BinOp.and IntKind.u64 ((v:Int)+1) (IntKind.u64.wrap (IntKind.u64.wrap ((2:Int)^d)-1))=((v+1-2^d:Nat):Int):=by
 have e:((2:Int)^d)=((2^d:Nat):Int):=by simp
 have j:0<2^d:=Nat.two_pow_pos d;have g:(v+1) &&& (2^d-1)=(v+1)%2^d:=and_two_pow_sub_one_eq_mod _ _;have i:(v+1)%2^d=v+1-2^d:=by
  rw[Nat.pow_succ]at f;rw[Nat.mod_eq_sub_mod h,mod_eq_of_lt (by omega)]
 rw[e];generalize 2^d=p at *;rw[IntWalk.u64_in (p:Int) (by omega),IntWalk.u64_in _ (by omega)];have a:=u64_and_nat (v+1) (p-1) (by omega) (by omega);rw[g,i]at a;have b:((v+1:Nat):Int)=(v:Int)+1:=by omega
 have c:((p-1:Nat):Int)=(p:Int)-1:=by omega
 rw[b,c]at a;exact a
theorem ML(w:World)(b g h:Nat)(c:ix)(a v:Nat)(L:iZ 219 w b g h c)(p:iY c)(y:a+33<=c.M.length)(A:v<4294967296)(M:c.low.length<=274877906944):Calls prog 161 #[.pointer b,a,.int .u64 v] w λe D=>e=.returned (.int .i64 0) /\ ∃f,iZ 219 D b f h (nt c a v)/\gf [b,g,h] w D/\(f=g\/w.heap.size<=f):=by
 obtain⟨vl,vo,K,hl,N⟩:=L.ex;obtain⟨aC,rfl,aG,aF,-,-⟩:=N.oq;have s:=K.X 2;simp at s;clear K hl N;have t1:decide ((4294967296:Int)<=(v:Int))=false:=by simp;omega
 have t2:decide ((a:Int)<0)=false:=by simp
 have t3:decide ((c.M.length:Int)-33<(a:Int))=false:=by simp;omega
 have⟨d,hd⟩:=zX (log2 (v+1));have U:d<=32:=by rw[hd];exact tt A
 have C:=IX v;rw[<-hd]at C;have B:=xg p A y;have W:iY (i2 c a d):=sU p (by omega);have ay:=sK c a d;have ad:=pw c a d;have Q:2^d<=v+1:=by rw[hd];exact log2_self_le (by omega)
 have F:v+1<2^(d+1):=by rw[hd];exact lt_log2_self
 have G:nt c a v=lj (if d<32 then lX (i2 c a d) (a+d) 0 else i2 c a d) (v+1-2^d) d:=by rw[hd];rfl
 rw[<-hd]at B;have⟨HN,HO,HB⟩:=gS G ad C;clear hd G ad C;go_enter func161,ntmps161
 go_wp2_with(go_at_call 231;refine(HB.o _ A).mono ?_;rintro e D ⟨Z,E⟩;subst Z;have X:=E.symm;subst X;clear E)
 go_loopg [8] d (λk j wr=>∃f,k<=d/\j=.int .i64 ((d-k:Nat):Int)/\iZ 219 wr b f h (i2 c a (d-k))/\gf [b,g,h] w wr/\(f=g\/w.heap.size<=f))
 .exact⟨g,zQ _,by simp,by simpa[i2]using L,zR _ _,.inl rfl⟩
 obtain⟨f,hk,rfl,u,t,l⟩:=hrel;rcases gk with _|k
 .have t4:decide (((d-0:Nat):Int)<d)=false:=by simp
  simp only[Nat.sub_zero]at u
  go_upto_if 38 with fail
  have⟨au,hm⟩:=zX ((if d<32 then lX (i2 c a d) (a+d) 0 else i2 c a d));rw[<-hm]at B;have ax:au.low.length<=c.low.length+33:=by
   rw[hm];split
   .have:=uK (i2 c a d) (a+d) 0
    omega
   .omega
  have r:=gd hm;clear hm
  go_cut [] (λwx=>∃n,iZ 219 wx b n h au/\gf [b,g,h] w wx/\(n=g\/w.heap.size<=n))
  case first=>
   by_cases z:d<32
   .have t5:decide ((d:Int)<32)=true:=by simp;omega
    go_wp2_with fail;rw[show((a:Int)+d)=((a+d:Nat):Int)from by omega];refine(Ew wr b f h (i2 c a d) (a+d) 0 u W (by rw[HO.o];omega) (by simp) (by omega)).mono ?_;rintro e O ⟨rfl,n,s,q,i⟩;go_wp2_with fail;go_meet
    case rel=>
     have J:=t.size;refine⟨n,?_,t.trans q ?_,?_⟩
     .rw[r.o,if_pos z];exact s
     .intro x o
      simp at o;rcases o with rfl|rfl|rfl
      .exact .inl (by simp)
      .rcases l with rfl|l
       .exact .inl (by simp)
       .exact .inr l
      .exact .inl (by simp)
     .rcases i with rfl|i
      .exact l
      .exact .inr (by omega)
   .have t5:decide ((d:Int)<32)=false:=by simp;omega
    go_wp2_with fail;go_meet
    case rel=>exact⟨f,by rw[r.o,if_neg z];exact u,t,l⟩
  case rest=>
   obtain⟨n,S,q,i⟩:=hcut;go_wp2_with fail;rw[Ns v d Q F A];have z:v+1-2^d<2^d:=(by rw[Nat.pow_succ]at F;omega);refine(M8 wc b n h au (v+1-2^d) d S B U z (by omega) (by omega)).mono ?_;rintro e O ⟨rfl,Y,R,T,H⟩;have J:=q.size;go_wp2_with fail;go_ret;refine⟨rfl,Y,?_,q.trans T ?_,?_⟩
   .rw[HN.o,<-r.o];exact R
   .intro x o
    simp at o;rcases o with rfl|rfl|rfl
    .exact .inl (by simp)
    .rcases i with rfl|i
     .exact .inl (by simp)
     .exact .inr i
    .exact .inl (by simp)
   .rcases H with rfl|H
    .exact i
    .exact .inr (by omega)
 .have⟨m,hm⟩:=zX (d-(k+1))
  rw[<-hm]at u⊢;have aI:m<d:=by omega
  have I:d-k=m+1:=by omega
  have r:=gd I;clear hm I;have V:iY (i2 c a m):=sU p (by omega);have aH:=sK c a m;have P:=gd (pw c a m);go_wp2_with fail;rw[show((a:Int)+m)=((a+m:Nat):Int)from by omega];refine(Ew wr b f h (i2 c a m) (a+m) 1 u V (by rw[P.o];omega) (by simp) (by omega)).mono ?_;rintro e O ⟨rfl,n,s,q,i⟩;go_wp2_with fail
  go_roundg k
  .rw[r.o]
   have J:=t.size;refine⟨n,by omega,by go_num,s,t.trans q ?_,?_⟩
   .intro x o
    simp at o;rcases o with rfl|rfl|rfl
    .exact .inl (by simp)
    .rcases l with rfl|l
     .exact .inl (by simp)
     .exact .inr l
    .exact .inl (by simp)
   .rcases i with rfl|i
    .exact l
    .exact .inr (by omega)
  .omega
end Go.Proofs.YtnepiccbpokmiaaGreatDoor
