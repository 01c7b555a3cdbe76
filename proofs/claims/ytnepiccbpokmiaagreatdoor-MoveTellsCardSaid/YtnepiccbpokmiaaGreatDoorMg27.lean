/- Lemmas. -/
import Derived.Test.YtnepiccbpokmiaaGreatDoorMg18
import Derived.Test.YtnepiccbpokmiaaGreatDoorMg06
import Derived.Deep.RegionWith
set_option linter.all false
set_option maxHeartbeats 2000000
set_option maxRecDepth 100000
namespace Go.Proofs.YtnepiccbpokmiaaGreatDoor
open Tryz List Nat Go.RowKit
theorem OJ(w:World)(b g h:Nat)(c:ix)(v n:Nat)(N:iZ 248 w b g h c)(p:iY c)(Y:n<=32)(Q:v<2^n)(z:v<18446744073709551616)(y:c.low.length<=549755813888):Calls prog 278 #[.pointer b,.int .u64 v,n] w λe B=>e=.returned (.int .i64 0) /\ ∃d,iZ 248 B b d h (lj c v n)/\gf [b,g,h] w B/\(d=g\/w.heap.size<=d):=by
 have Z:decide ((n:Int)<0)=false:=by simp
 have t2:decide ((32:Int)<n)=false:=by simp;omega
 have t3:(((v:Int) / 2^n) != 0)=false:=by
  have:(v:Int) / 2^n=((v / 2^n:Nat):Int):=by simp
  rw[this,div_eq_of_lt Q];rfl
 go_enter func278,ntmps278;go_wp2_with fail
 go_loopg [7] n (λk i wr=>∃(d:Nat) (a:ix),i=.int .i64 ((k:Int)-1)/\k<=n/\iZ 248 wr b d h a/\iY a/\gh (lj c v n=lj a v k) /\
   a.low.length+k<=c.low.length+n/\gf [b,g,h] w wr/\(d=g\/w.heap.size<=d))
 .exact⟨g,c,rfl,zQ _,N,p,gd rfl,zQ _,zR _ _,.inl rfl⟩
 obtain⟨d,a,rfl,X,o,j,r,W,l,f⟩:=hrel;rcases gk with _|k
 .have t4:decide ((0:Int)<=((0:Nat):Int)-1)=false:=by simp
  go_wp2;go_ret;exact⟨rfl,d,by rw[r.o];exact o,l,f⟩
 .have L:(((k+1:Nat):Int)-1)=(k:Int):=by omega
  rw[L];have m:=xR j;obtain⟨vl,vo,u,O,P⟩:=o.ex;have H:=u.X 1;simp at H;clear u O P;have K:IntKind.u64.wrap ((a.W:Int) / 2)=((a.W / 2:Nat):Int):=by
   have e:(a.W:Int) / 2=((a.W / 2:Nat):Int):=(by simp);rw[e];exact IntWalk.u64_in _ (by have:=j.hi;omega)
  have⟨ab,ad⟩:=zX (v / 2^k%2);have T:bits BinOp.and IntKind.u64 ((v:Int) / 2^k) 1=(ab:Int):=by
   have e:(v:Int) / 2^k=((v / 2^k:Nat):Int):=(by simp);have V:v / 2^k<=v:=div_le_self _ _;rw[e,ad];generalize v / 2^k=q at *;rw[and_one_u64 _ (by omega) (by omega)];simp
  have s:ab=0\/ab=1:=by omega
  have C:gh (lj c v n=lj (jR a (a.W / 2) ab) v k):=by
   refine gd ?_;rw[r.o,ad];rfl
  have S:ab<=1:=by omega
  have G:=gd s;clear ad s;have⟨W2,ah⟩:=zX (a.W / 2);rw[<-ah]at K m;have F:=gd ah;clear ah;go_wp2_with fail;refine jE 11 (by kernel_rfl) (by kernel_rfl) ?_;simp only[take_succ_cons,take_zero,drop_succ_cons,drop_zero]
  repeat(go_big_quiet_step (fail))
  refine wpQuiet_nil ?_;intro _ J;obtain⟨nq,rfl⟩:=J;go_wp2_with fail;refine(DO _ b d h a W2 ab (o.Y ((zR _ _).drewN nq)) j m G.o (by omega)).mono ?_;rintro e w1 ⟨rfl,M,I,D,t⟩;have U:=(ur (c:=a) W2 ab).2;have E:=uF j m ab;have R:=l.size;go_wp2_with fail
  go_roundg k
  .refine⟨M,_,rfl,by omega,I,E,?_,by omega,?_,?_⟩
   .rw[F.o];exact C
   .refine(l.drewN nq).trans D ?_
    intro x A;simp at A;rcases A with rfl|rfl
    .exact .inl (by simp)
    .rcases f with rfl|f
     .exact .inl (by simp)
     .exact .inr f
   .rcases t with rfl|t
    .exact f
    .exact .inr (by have:(wr.drewN nq).heap.size=wr.heap.size:=rfl;omega)
  .omega
theorem FB:jA prog 22 3 (.int .i64 0) 1 8:=.mk' underlying22 (by kernel_rfl)
theorem L3(w:World)(b g h:Nat)(c:ix)(n:iZ 248 w b g h c)(a:iY c)(o:c.low.length<=1099511627776):Calls prog 208 #[.pointer b] w λe k=>∃g' cap,e=.returned (.slice (some ⟨g',0,none⟩) c.low.length cap)/\gv k 5 (.slice (some ⟨g',0,none⟩) c.low.length cap) g' (c.low.map b8)/\gf [] w k/\w.heap.size<=g':=by
 obtain⟨F,G,m,i,z⟩:=n.ex;obtain⟨cap,rfl,C,D,q,s⟩:=i.oq;have l:∀j u,(c.low.map b8)[j]?=some u->w.cell? ((⟨g,0,none⟩:Addr).add j)=some u:=(i.own 0 (zero_le _)).cells (g:=g) rfl;have r:=m.X 0;simp at r;have E:=a.len;have p:=gd l;clear q s m i z n a l;go_enter func208,ntmps208
 go_wp2_with(at_builtin;refine rW rfl rfl rL rfl (by decide) rfl (World.ownsRow_nil _ 0 _ _) (news:=c.low.map b8) rfl ?c1 ?c2 ?c3 ?c4 ?c5 ?c6 ?_)
 case c1=>simp
 case c2=>omega
 case c3=>exact p.o
 case c4=>intro u A;obtain⟨d,_,rfl⟩:=List.mem_map.1 A;rfl
 case c5=>omega
 case c6=>omega
 intro g' ad k t v x;go_wp2;go_ret;obtain⟨B,y,f⟩:=gv.of_own t rfl;refine⟨g',ad,rfl,?_,v,by simpa[Value.ownBlock]using x⟩;simp only[Value.ownBlock]at f;injection f with f;subst f
 simpa using y
theorem Ng(n:Nat)(w:World)(s:n<=4096):Calls prog 255 #[n] w λe g=>∃h,e=.returned (.slice (some ⟨h,0,none⟩) n n)/\gv g 3 (.slice (some ⟨h,0,none⟩) n n) h ((replicate n 2048).map i64)/\gf [] w g/\w.heap.size<=h:=by
 have q:=lp FB rfl .i64 .i64 n (by omega) (by omega);go_enter func255,ntmps255;go_wp2_with fail
 go_loopg [4,9] n (λk i j wr=>k<=n/\j=.int .i64 ((n-k:Nat):Int)/\gf [w.heap.size] w wr /\
   gv wr 3 (.slice (some ⟨w.heap.size,0,none⟩) n n) w.heap.size ((replicate (n-k) 2048++replicate k 0).map i64))
 .refine⟨zQ _,by simp,(zR _ _).alloc _,?_⟩
  have:=gv.made w 3 (replicate n (Value.int .i64 0)) (by simp[maxLen];omega)
  simpa[i64]using this
 obtain⟨r,rfl,a,b⟩:=hrel;rcases gk with _|k
 .have t:decide (((n-0:Nat):Int)<n)=false:=by simp
  go_wp2;go_ret;exact⟨_,rfl,by simpa using b,⟨a.os,a.tape,a.output,a.size,λx hx _=>a.block x hx (by simp;omega)⟩,zQ _⟩
 .have⟨m,hm⟩:=zX (n-(k+1))
  rw[<-hm]at b⊢;have p:m<n:=by omega
  have d:n-k=m+1:=by omega
  have l:=gd d;clear hm d;have o:wr.frozen? ⟨w.heap.size,m,none⟩=false:=by
   obtain⟨_,_,_,_,_,c⟩:=b.oq;exact c m
  have ad:wr.cell? ⟨w.heap.size,m,none⟩=some (.int .i64 0):=by
   obtain⟨_,_,_,_,c,_⟩:=b.oq;exact c m 0 (by rw[zS (by simp)];simp)
  go_wp2
  go_roundg k
  .rw[l.o]
   refine⟨by omega,by go_num,a.setCell (by simp) _,?_⟩;have f:=b.T (i:=m) (by simp) (i64 2048);have e:(((replicate m 2048++replicate (k+1) 0).map i64).set m (i64 2048))=(replicate (m+1) 2048++replicate k 0).map i64:=by
    rw[<-map_set,set_append_right _ _ (by simp),replicate_succ' (n:=m)];simp[replicate_succ]
   rw[e]at f;exact f
  .omega
theorem Ig(n:Nat)(w:World)(m:1<=n)(k:n<=4096):Calls prog 206 #[n] w λe j=>∃b g h,e=.returned (.tuple #[.pointer (some ⟨b,0,none⟩),(0:Int)])/\iZ 248 j b g h (pg n)/\gf [] w j /\ w.heap.size<=b/\w.heap.size<=g/\w.heap.size<=h:=by
 have o:decide ((n:Int)<1)=false:=by simp;omega
 have p:decide ((4096:Int)<n)=false:=by simp;omega
 have l:∀w,(Instr.makeSlice 40 (.int .i64 4) (.int .i64 4)).run prog w=.ok (.slice (some ⟨w.heap.size,0,none⟩) 4 4) (w.alloc (.cells #[.int .u8 0,.int .u8 0,.int .u8 0,.int .u8 0] 5)) :=
  λw=>lp rL rfl .i64 .i64 4 (by omega) (by omega) w
 go_enter func206,ntmps206;go_wp2_with fail
 go_region_with (go_at_call 255;refine(Ng n _ k).mono ?_;rintro e c ⟨h,rfl,f,a,i⟩)
 .go_wp2
  go_ret2
  have d:=gv.made w 5 [.int .u8 0,.int .u8 0,.int .u8 0,.int .u8 0] (by simp[maxLen]);refine⟨c.heap.size,w.heap.size,h,rfl,⟨_,_,gn.new _ _ _,((d.drew).Z a (by simp)).alloc _,f.alloc _⟩,?_,?_,zQ _,?_⟩
  .exact((((zR _ _).alloc _).drew).tq a).alloc _
  .have:=a.size;simp at this;omega
  .simp at i;omega
 .go_wp2
  go_ret2
  have d:=gv.made c 5 [.int .u8 0,.int .u8 0,.int .u8 0,.int .u8 0] (by simp[maxLen]);refine⟨c.heap.size+1,c.heap.size,h,?_,⟨_,_,(show gn _ _ _ #[_,.int .u64 4294967295,_]from ?_),d.alloc _,(f.alloc _).alloc _⟩,?_,?_,?_,?_⟩
  .rfl
  .have:=gn.new (c.alloc (.cells #[.int .u8 0,.int .u8 0,.int .u8 0,.int .u8 0] 5)) 248 #[.slice (some ⟨c.heap.size,0,none⟩) 4 4,.int .u64 4294967295,.slice (some ⟨h,0,none⟩) n n]
   simpa using this
  .exact((((zR _ _).drew).tq a).alloc _).alloc _
  .have:=a.size;simp at this;omega
  .have:=a.size;simp at this;omega
  .simp at i;omega
theorem Oa(v d:Nat)(h:2^d<=v+1)(a:v<4294967296):IntKind.u64.wrap ((v:Int)+1-IntKind.u64.wrap ((2:Int)^d))=((v+1-2^d:Nat):Int):=by
 have e:((2:Int)^d)=((2^d:Nat):Int):=by simp
 rw[e];generalize 2^d=p at *;rw[IntWalk.u64_in (p:Int) (by omega),IntWalk.u64_in _ (by omega)];omega
theorem OB(w:World)(b g h:Nat)(c:ix)(a v:Nat)(L:iZ 248 w b g h c)(q:iY c)(z:a+33<=c.M.length)(C:v<4294967296)(N:c.low.length<=274877906944):Calls prog 207 #[.pointer b,a,.int .u64 v] w λe D=>e=.returned (.int .i64 0) /\ ∃f,iZ 248 D b f h (nt c a v)/\gf [b,g,h] w D/\(f=g\/w.heap.size<=f):=by
 obtain⟨vl,vo,K,hl,O⟩:=L.ex;obtain⟨aC,rfl,aG,aF,-,-⟩:=O.oq;have t:=K.X 2;simp at t;clear K hl O;have t1:decide ((4294967296:Int)<=(v:Int))=false:=by simp;omega
 have t2:decide ((a:Int)<0)=false:=by simp
 have t3:decide ((c.M.length:Int)-33<(a:Int))=false:=by simp;omega
 have⟨d,hd⟩:=zX (log2 (v+1));have W:d<=32:=by rw[hd];exact tt C
 have G:(Lib.bitLen (v+1):Int)=(d:Int)+1:=by rw[Hu _ (by omega) (by omega),hd];simp
 have B:=xg q C z;have Y:iY (i2 c a d):=sU q (by omega);have ay:=sK c a d;have ad:=pw c a d;have R:2^d<=v+1:=by rw[hd];exact log2_self_le (by omega)
 have T:v+1<2^(d+1):=by rw[hd];exact lt_log2_self
 have F:nt c a v=lj (if d<32 then lX (i2 c a d) (a+d) 0 else i2 c a d) (v+1-2^d) d:=by rw[hd];rfl
 rw[<-hd]at B;have⟨HN,HO,HB⟩:=gS F ad G;clear hd F ad G;go_enter func207,ntmps207
 go_wp2_with(go_at_call 276;refine(bits_Len64 _ _ (by omega) (by omega)).mono ?_;rintro e D ⟨M,E⟩;rw[show((v:Int)+1).toNat=v+1 from by omega,HB.o]at M;subst M;have Z:=E.symm;subst Z;clear E)
 go_loopg [8,30] d (λk i j wr=>∃f,k<=d/\j=.int .i64 ((d-k:Nat):Int)/\iZ 248 wr b f h (i2 c a (d-k))/\gf [b,g,h] w wr/\(f=g\/w.heap.size<=f))
 .exact⟨g,zQ _,by simp,by simpa[i2]using L,zR _ _,.inl rfl⟩
 obtain⟨f,hk,rfl,y,u,n⟩:=hrel;rcases gk with _|k
 .have t4:decide (((d-0:Nat):Int)<d)=false:=by simp
  simp only[Nat.sub_zero]at y
  go_upto_if 40 with fail
  have⟨ar,hm⟩:=zX ((if d<32 then lX (i2 c a d) (a+d) 0 else i2 c a d));rw[<-hm]at B;have ax:ar.low.length<=c.low.length+33:=by
   rw[hm];split
   .have:=uK (i2 c a d) (a+d) 0
    omega
   .omega
  have s:=gd hm;clear hm
  go_cut [] (λwx=>∃o,iZ 248 wx b o h ar/\gf [b,g,h] w wx/\(o=g\/w.heap.size<=o))
  case first=>
   by_cases A:d<32
   .have t5:decide ((d:Int)<32)=true:=by simp;omega
    go_wp2_with fail;rw[show((a:Int)+d)=((a+d:Nat):Int)from by omega];refine(FN wr b f h (i2 c a d) (a+d) 0 y Y (by rw[HO.o];omega) (by simp) (by omega)).mono ?_;rintro e P ⟨rfl,o,t,r,l⟩;go_wp2_with fail;go_meet
    case rel=>
     have J:=u.size;refine⟨o,?_,u.trans r ?_,?_⟩
     .rw[s.o,if_pos A];exact t
     .intro x p
      simp at p;rcases p with rfl|rfl|rfl
      .exact .inl (by simp)
      .rcases n with rfl|n
       .exact .inl (by simp)
       .exact .inr n
      .exact .inl (by simp)
     .rcases l with rfl|l
      .exact n
      .exact .inr (by omega)
   .have t5:decide ((d:Int)<32)=false:=by simp;omega
    go_wp2_with fail;go_meet
    case rel=>exact⟨f,by rw[s.o,if_neg A];exact y,u,n⟩
  case rest=>
   obtain⟨o,U,r,l⟩:=hcut;go_wp2_with fail;rw[Oa v d R C];have A:v+1-2^d<2^d:=(by rw[Nat.pow_succ]at T;omega);refine(OJ wc b o h ar (v+1-2^d) d U B W A (by omega) (by omega)).mono ?_;rintro e P ⟨rfl,g3,S,V,H⟩;have J:=r.size;go_wp2_with fail;go_ret;refine⟨rfl,g3,?_,r.trans V ?_,?_⟩
   .rw[HN.o,<-s.o];exact S
   .intro x p
    simp at p;rcases p with rfl|rfl|rfl
    .exact .inl (by simp)
    .rcases l with rfl|l
     .exact .inl (by simp)
     .exact .inr l
    .exact .inl (by simp)
   .rcases H with rfl|H
    .exact l
    .exact .inr (by omega)
 .have⟨m,hm⟩:=zX (d-(k+1))
  rw[<-hm]at y⊢;have aI:m<d:=by omega
  have I:d-k=m+1:=by omega
  have s:=gd I;clear hm I;have X:iY (i2 c a m):=sU q (by omega);have aH:=sK c a m;have Q:=gd (pw c a m);go_wp2_with fail;rw[show((a:Int)+m)=((a+m:Nat):Int)from by omega];refine(FN wr b f h (i2 c a m) (a+m) 1 y X (by rw[Q.o];omega) (by simp) (by omega)).mono ?_;rintro e P ⟨rfl,o,t,r,l⟩;go_wp2_with fail
  go_roundg k
  .rw[s.o]
   have J:=u.size;refine⟨o,by omega,by go_num,t,u.trans r ?_,?_⟩
   .intro x p
    simp at p;rcases p with rfl|rfl|rfl
    .exact .inl (by simp)
    .rcases n with rfl|n
     .exact .inl (by simp)
     .exact .inr n
    .exact .inl (by simp)
   .rcases l with rfl|l
    .exact n
    .exact .inr (by omega)
  .omega
end Go.Proofs.YtnepiccbpokmiaaGreatDoor
