/- Lemmas. -/
import Derived.Test.YtifdlkoepaepiaaGreatDoorMh22
import Derived.Deep.RegionWith
set_option linter.all false
set_option maxHeartbeats 2000000
set_option maxRecDepth 100000
namespace Go.Proofs.YtifdlkoepaepiaaGreatDoor
open Tryz List Nat Go.RowKit
theorem Kz(n:Nat)(w:World)(m:1<=n)(k:n<=4096):Calls prog 175 #[n] w λe j=>∃b g h,e=.returned (.tuple #[.pointer (some ⟨b,0,none⟩),(0:Int)])/\kI 270 j b g h (mj n)/\gg [] w j /\ w.heap.size<=b/\w.heap.size<=g/\w.heap.size<=h:=by
 have o:decide ((n:Int)<1)=false:=by simp;omega
 have p:decide ((4096:Int)<n)=false:=by simp;omega
 have l:∀w,(Instr.makeSlice 41 (.int .i64 4) (.int .i64 4)).run prog w=.ok (.slice (some ⟨w.heap.size,0,none⟩) 4 4) (w.alloc (.cells #[.int .u8 0,.int .u8 0,.int .u8 0,.int .u8 0] 5)) :=
  λw=>kg xZ rfl .i64 .i64 4 (by omega) (by omega) w
 go_enter func175,ntmps175;go_wp2_with fail
 go_region_with (go_at_call 203;refine(FU n _ k).mono ?_;rintro e c ⟨h,rfl,f,a,i⟩)
 .go_wp2
  go_ret2
  have d:=gv.made w 5 [.int .u8 0,.int .u8 0,.int .u8 0,.int .u8 0] (by simp[maxLen]);refine⟨c.heap.size,w.heap.size,h,rfl,⟨_,_,gn.new _ _ _,((d.drew).Z a (by simp)).alloc _,f.alloc _⟩,?_,?_,zQ _,?_⟩
  .exact((((zR _ _).alloc _).drew).tq a).alloc _
  .have:=a.size;simp at this;omega
  .simp at i;omega
 .go_wp2
  go_ret2
  have d:=gv.made c 5 [.int .u8 0,.int .u8 0,.int .u8 0,.int .u8 0] (by simp[maxLen]);refine⟨c.heap.size+1,c.heap.size,h,?_,⟨_,_,(show gn _ _ _ #[_,.int .u64 4294967295,_]from ?_),d.alloc _,(f.alloc _).alloc _⟩,?_,?_,?_,?_⟩
  .rfl
  .have:=gn.new (c.alloc (.cells #[.int .u8 0,.int .u8 0,.int .u8 0,.int .u8 0] 5)) 270 #[.slice (some ⟨c.heap.size,0,none⟩) 4 4,.int .u64 4294967295,.slice (some ⟨h,0,none⟩) n n]
   simpa using this
  .exact((((zR _ _).drew).tq a).alloc _).alloc _
  .have:=a.size;simp at this;omega
  .have:=a.size;simp at this;omega
  .simp at i;omega
theorem Pn(v d:Nat)(h:2^d<=v+1)(a:v<4294967296):IntKind.u64.wrap ((v:Int)+1-IntKind.u64.wrap ((2:Int)^d))=((v+1-2^d:Nat):Int):=by
 have e:((2:Int)^d)=((2^d:Nat):Int):=by simp
 rw[e];generalize 2^d=p at *;rw[IntWalk.u64_in (p:Int) (by omega),IntWalk.u64_in _ (by omega)];omega
theorem PC(w:World)(b g h:Nat)(c:ij)(ctx v:Nat)(K:kI 270 w b g h c)(p:iw c)(y:ctx+33<=c.L.length)(B:v<4294967296)(M:c.low.length<=274877906944):Calls prog 176 #[.pointer b,ctx,.int .u64 v] w λe C=>e=.returned (.int .i64 0) /\ ∃a,kI 270 C b a h (mc c ctx v)/\gg [b,g,h] w C/\(a=g\/w.heap.size<=a):=by
 obtain⟨vl,vo,J,hl,N⟩:=K.ex;obtain⟨aC,rfl,aG,aF,-,-⟩:=N.T;have s:=J.X 2;simp at s;clear J hl N;have t1:decide ((4294967296:Int)<=(v:Int))=false:=by simp;omega
 have t2:decide ((ctx:Int)<0)=false:=by simp
 have t3:decide ((c.L.length:Int)-33<(ctx:Int))=false:=by simp;omega
 have⟨d,hd⟩:=zX (log2 (v+1));have V:d<=32:=by rw[hd];exact pS B
 have F:(Lib.bitLen (v+1):Int)=(d:Int)+1:=by rw[Ki _ (by omega) (by omega),hd];simp
 have A:=Db p B y;have X:iw (iP c ctx d):=pK p (by omega);have ay:=Ri c ctx d;have ad:=nK c ctx d;have Q:2^d<=v+1:=by rw[hd];exact log2_self_le (by omega)
 have S:v+1<2^(d+1):=by rw[hd];exact lt_log2_self
 have E:mc c ctx v=j9 (if d<32 then kq (iP c ctx d) (ctx+d) 0 else iP c ctx d) (v+1-2^d) d:=by rw[hd];rfl
 rw[<-hd]at A;have⟨HN,HO,HB⟩:=Q9 E ad F;clear hd E ad F;go_enter func176,ntmps176
 go_wp2_with(go_at_call 161;refine(bits_Len64 _ _ (by omega) (by omega)).mono ?_;rintro e C ⟨L,D⟩;rw[show((v:Int)+1).toNat=v+1 from by omega,HB.o]at L;subst L;have Y:=D.symm;subst Y;clear D)
 go_loopg [8,30] d (λk i j wr=>∃a,k<=d/\j=.int .i64 ((d-k:Nat):Int)/\kI 270 wr b a h (iP c ctx (d-k))/\gg [b,g,h] w wr/\(a=g\/w.heap.size<=a))
 .exact⟨g,zQ _,by simp,by simpa[iP]using K,zR _ _,.inl rfl⟩
 obtain⟨a,hk,rfl,u,t,l⟩:=hrel;rcases gk with _|k
 .have t4:decide (((d-0:Nat):Int)<d)=false:=by simp
  simp only[Nat.sub_zero]at u
  go_upto_if 40 with fail
  have⟨ar,hm⟩:=zX ((if d<32 then kq (iP c ctx d) (ctx+d) 0 else iP c ctx d));rw[<-hm]at A;have ax:ar.low.length<=c.low.length+33:=by
   rw[hm];split
   .have:=AZ (iP c ctx d) (ctx+d) 0
    omega
   .omega
  have r:=gd hm;clear hm
  go_cut [] (λwx=>∃n,kI 270 wx b n h ar/\gg [b,g,h] w wx/\(n=g\/w.heap.size<=n))
  case first=>
   by_cases z:d<32
   .have t5:decide ((d:Int)<32)=true:=by simp;omega
    go_wp2_with fail;rw[show((ctx:Int)+d)=((ctx+d:Nat):Int)from by omega];refine(Hf wr b a h (iP c ctx d) (ctx+d) 0 u X (by rw[HO.o];omega) (by simp) (by omega)).mono ?_;rintro e O ⟨rfl,n,s,q,f⟩;go_wp2_with fail;go_meet
    case rel=>
     have I:=t.size;refine⟨n,?_,t.trans q ?_,?_⟩
     .rw[r.o,if_pos z];exact s
     .intro x o
      simp at o;rcases o with rfl|rfl|rfl
      .exact .inl (by simp)
      .rcases l with rfl|l
       .exact .inl (by simp)
       .exact .inr l
      .exact .inl (by simp)
     .rcases f with rfl|f
      .exact l
      .exact .inr (by omega)
   .have t5:decide ((d:Int)<32)=false:=by simp;omega
    go_wp2_with fail;go_meet
    case rel=>exact⟨a,by rw[r.o,if_neg z];exact u,t,l⟩
  case rest=>
   obtain⟨n,T,q,f⟩:=hcut;go_wp2_with fail;rw[Pn v d Q B];have z:v+1-2^d<2^d:=(by rw[Nat.pow_succ]at S;omega);refine(PL wc b n h ar (v+1-2^d) d T A V z (by omega) (by omega)).mono ?_;rintro e O ⟨rfl,Z,R,U,G⟩;have I:=q.size;go_wp2_with fail;go_ret;refine⟨rfl,Z,?_,q.trans U ?_,?_⟩
   .rw[HN.o,<-r.o];exact R
   .intro x o
    simp at o;rcases o with rfl|rfl|rfl
    .exact .inl (by simp)
    .rcases f with rfl|f
     .exact .inl (by simp)
     .exact .inr f
    .exact .inl (by simp)
   .rcases G with rfl|G
    .exact f
    .exact .inr (by omega)
 .have⟨m,hm⟩:=zX (d-(k+1))
  rw[<-hm]at u⊢;have aI:m<d:=by omega
  have H:d-k=m+1:=by omega
  have r:=gd H;clear hm H;have W:iw (iP c ctx m):=pK p (by omega);have aH:=Ri c ctx m;have P:=gd (nK c ctx m);go_wp2_with fail;rw[show((ctx:Int)+m)=((ctx+m:Nat):Int)from by omega];refine(Hf wr b a h (iP c ctx m) (ctx+m) 1 u W (by rw[P.o];omega) (by simp) (by omega)).mono ?_;rintro e O ⟨rfl,n,s,q,f⟩;go_wp2_with fail
  go_roundg k
  .rw[r.o]
   have I:=t.size;refine⟨n,by omega,by go_num,s,t.trans q ?_,?_⟩
   .intro x o
    simp at o;rcases o with rfl|rfl|rfl
    .exact .inl (by simp)
    .rcases l with rfl|l
     .exact .inl (by simp)
     .exact .inr l
    .exact .inl (by simp)
   .rcases f with rfl|f
    .exact l
    .exact .inr (by omega)
  .omega
end Go.Proofs.YtifdlkoepaepiaaGreatDoor
