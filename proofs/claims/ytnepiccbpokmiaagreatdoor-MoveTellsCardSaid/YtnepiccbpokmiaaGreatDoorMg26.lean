/- Lemmas. -/
import Derived.Laws.BitsAllLaws
import Derived.Test.YtnepiccbpokmiaaGreatDoorMg22
set_option linter.all false
set_option maxHeartbeats 1000000
set_option maxRecDepth 100000
namespace Go.Proofs.YtnepiccbpokmiaaGreatDoor
open Tryz List Nat Go.RowKit
theorem Au(k s:Nat):jr (k+1) s=km (jr k s):=vQ k 1 s
theorem Bb(w:World)(A:Option Addr)(cap:Nat)(a:List Nat)(G:gu b8 w A a)(H:∀d∈a,d<256)(N:a.length<=4611686018427387904):Calls prog 76 #[.slice A a.length cap] w λe w'=>e=.returned (.int .u32 (lE a:Int))/\w=w':=by
 have⟨n,hn⟩:=zX a.length;rw[<-hn]at N⊢;have⟨HN,HD,HC⟩:=gS hn H G;clear hn H G;go_enter func76,ntmps76;go_wp2_with fail
 go_loopg [3,5,6,9,17] n (λj v3 v5 v6 v9 v17 wr=>∃i s:Nat,v3=.int .u32 s/\v9=.int .i64 i/\i+j=n/\gh (s=n7 4294967295 (a.take i))/\s<4294967296/\w=wr)
 .exact⟨0,4294967295,rfl,rfl,by omega,gd rfl,by decide,rfl⟩
 obtain⟨i,s,rfl,rfl,P,r,f,rfl⟩:=hrel;rcases gk with _|j
 .obtain rfl:i=n:=by omega
  have c:=u32_xor_nat s 4294967295 f (by decide);have L:=u32_xor_nat 4294967295 s (by decide) f;have R:bits .xor .u32 IntKind.u32.max (s:Int)=((s ^^^ 4294967295:Nat):Int):=by
   rw[Nat.xor_comm,<-L];rfl
  have M:gh (((s ^^^ 4294967295:Nat):Int)=(lE a:Int)):=by
   refine gd ?_;have h:=r.o;rw[zT (by rw[<-HN.o];exact zQ _)]at h;rw[h];rfl
  generalize ((s ^^^ 4294967295:Nat):Int)=z at *;go_wp2;go_ret;exact⟨by rw[<-M.o];rfl,rfl⟩
 .have hi:i<n:=by omega
  have p:i<a.length:=by rw[<-HN.o];exact hi
  obtain⟨g,o,rfl,m⟩:=HC.o.at_ p;have⟨x,c⟩:=zX (a[i]);rw[<-c]at m;have O:w.cell? ⟨g,o+i,none⟩=some (.int .u8 x):=m;have S:x<256:=by rw[c];exact HD.o _ (zG _)
  have y:gh (n7 4294967295 (a.take (i+1))=jr 8 (s ^^^ x)):=by
   refine gd ?_;rw[take_succ_eq_append_getElem p,tR,<-r.o,<-c];rfl
  have U:IntKind.u32.wrap (x:Int)=(x:Int):=by rw[IntKind.wrap_u32'];omega
  have q:=u32_xor_nat s x f (by omega);have⟨s0,af⟩:=zX (s ^^^ x);have J:s0<4294967296:=by rw[af];exact xor_lt_two_pow (n:=32) f (by omega)
  rw[<-af]at q y;clear m c af p;go_wp2_with fail
  go_loopg [3,6,17] 8 (λl v3 v6 v17 wr=>∃k u:Nat,v3=.int .u32 u/\v17=.int .i64 k/\k+l=8/\gh (u=jr k s0)/\u<4294967296/\w=wr)
  .exact⟨0,s0,rfl,rfl,rfl,gd rfl,J,rfl⟩
  obtain⟨k,u,rfl,rfl,Q,t,I,rfl⟩:=hrel;rcases gk with _|l
  .obtain rfl:k=8:=by omega
   go_wp2
   go_roundg j
   .exact⟨i+1,u,rfl,by go_num,by omega,gd (by rw[y.o,t.o]),I,rfl⟩
   .omega
  .have T:=i6 k 8 (by omega)
   have F:bits .and .u32 (u:Int) 1=((u%2:Nat):Int):=by
    have:=u32_and_nat u 1 I (by decide)
    rw[and_one_is_mod]at this;exact this
   have B:(u:Int) / 2=((u / 2:Nat):Int):=(by omega);have D:gh (jr (k+1) s0=km u):=gd (by rw[Au,<-t.o]);by_cases h2:u%2=1
   .rw[h2]at F
    have ad:bits .xor .u32 ((u / 2:Nat):Int) 3988292384=(((u / 2) ^^^ 3988292384:Nat):Int):=u32_xor_nat (u / 2) 3988292384 (by omega) (by decide);have C:(u / 2) ^^^ 3988292384<4294967296:=xor_lt_two_pow (n:=32) (by omega) (by decide);have b:gh ((u / 2) ^^^ 3988292384=km u):=gd (by unfold km;rw[if_pos h2]);have⟨v,hv⟩:=zX ((u / 2) ^^^ 3988292384);rw[<-hv]at ad C b;have⟨h,hh⟩:=zX (u / 2);rw[<-hh]at ad B;have K:h<2147483648:=(by omega);clear hv hh h2 q;go_wp2
    go_roundg l
    .exact⟨k+1,v,rfl,by go_num,by omega,gd (by rw[D.o,b.o]),C,rfl⟩
    .omega
   .have E:u%2=0:=by omega
    rw[E]at F;have b:gh (u / 2=km u):=gd (by unfold km;rw[if_neg h2]);have⟨h,hh⟩:=zX (u / 2);rw[<-hh]at B b;have K:h<2147483648:=(by omega);clear hh h2 E q;go_wp2
    go_roundg l
    .exact⟨k+1,h,rfl,by go_num,by omega,gd (by rw[D.o,b.o]),by omega,rfl⟩
    .omega
theorem EE(w:World)(A:Option Addr)(cap:Nat)(a:List Nat)(G:gu b8 w A a)(H:∀d∈a,d<256)(N:a.length<=4611686018427387904):Calls prog 82 #[.slice A a.length cap] w λe w'=>e=.returned (.int .u32 (lE a:Int))/\w=w':=by
 have⟨n,hn⟩:=zX a.length;rw[<-hn]at N⊢;have⟨HN,HD,HC⟩:=gS hn H G;clear hn H G;go_enter func82,ntmps82;go_wp2_with fail
 go_loopg [3,4,5] n (λj v3 v4 v5 wr=>∃i s:Nat,v3=.int .u32 s/\v4=.int .i64 i/\i+j=n/\gh (s=n7 4294967295 (a.take i))/\s<4294967296/\w=wr)
 .exact⟨0,4294967295,rfl,rfl,by omega,gd rfl,by decide,rfl⟩
 obtain⟨i,s,rfl,rfl,P,r,f,rfl⟩:=hrel;rcases gk with _|j
 .obtain rfl:i=n:=by omega
  have c:=u32_xor_nat s 4294967295 f (by decide);have L:=u32_xor_nat 4294967295 s (by decide) f;have R:bits .xor .u32 IntKind.u32.max (s:Int)=((s ^^^ 4294967295:Nat):Int):=by
   rw[Nat.xor_comm,<-L];rfl
  have M:gh (((s ^^^ 4294967295:Nat):Int)=(lE a:Int)):=by
   refine gd ?_;have h:=r.o;rw[zT (by rw[<-HN.o];exact zQ _)]at h;rw[h];rfl
  generalize ((s ^^^ 4294967295:Nat):Int)=z at *;go_wp2;go_ret;exact⟨by rw[<-M.o];rfl,rfl⟩
 .have hi:i<n:=by omega
  have p:i<a.length:=by rw[<-HN.o];exact hi
  obtain⟨g,o,rfl,m⟩:=HC.o.at_ p;have⟨x,c⟩:=zX (a[i]);rw[<-c]at m;have O:w.cell? ⟨g,o+i,none⟩=some (.int .u8 x):=m;have S:x<256:=by rw[c];exact HD.o _ (zG _)
  have y:gh (n7 4294967295 (a.take (i+1))=jr 8 (s ^^^ x)):=by
   refine gd ?_;rw[take_succ_eq_append_getElem p,tR,<-r.o,<-c];rfl
  have U:IntKind.u32.wrap (x:Int)=(x:Int):=by rw[IntKind.wrap_u32'];omega
  have q:=u32_xor_nat s x f (by omega);have⟨s0,af⟩:=zX (s ^^^ x);have J:s0<4294967296:=by rw[af];exact xor_lt_two_pow (n:=32) f (by omega)
  rw[<-af]at q y;clear m c af p;go_wp2_with fail
  go_loopg [3,5] 8 (λl v3 v5 wr=>∃k u:Nat,v3=.int .u32 u/\v5=.int .i64 k/\k+l=8/\gh (u=jr k s0)/\u<4294967296/\w=wr)
  .exact⟨0,s0,rfl,rfl,rfl,gd rfl,J,rfl⟩
  obtain⟨k,u,rfl,rfl,Q,t,I,rfl⟩:=hrel;rcases gk with _|l
  .obtain rfl:k=8:=by omega
   go_wp2
   go_roundg j
   .exact⟨i+1,u,rfl,by go_num,by omega,gd (by rw[y.o,t.o]),I,rfl⟩
   .omega
  .have T:=i6 k 8 (by omega)
   have F:bits .and .u32 (u:Int) 1=((u%2:Nat):Int):=by
    have:=u32_and_nat u 1 I (by decide)
    rw[and_one_is_mod]at this;exact this
   have B:(u:Int) / 2=((u / 2:Nat):Int):=(by omega);have D:gh (jr (k+1) s0=km u):=gd (by rw[Au,<-t.o]);by_cases h2:u%2=1
   .rw[h2]at F
    have ad:bits .xor .u32 ((u / 2:Nat):Int) 3988292384=(((u / 2) ^^^ 3988292384:Nat):Int):=u32_xor_nat (u / 2) 3988292384 (by omega) (by decide);have C:(u / 2) ^^^ 3988292384<4294967296:=xor_lt_two_pow (n:=32) (by omega) (by decide);have b:gh ((u / 2) ^^^ 3988292384=km u):=gd (by unfold km;rw[if_pos h2]);have⟨v,hv⟩:=zX ((u / 2) ^^^ 3988292384);rw[<-hv]at ad C b;have⟨h,hh⟩:=zX (u / 2);rw[<-hh]at ad B;have K:h<2147483648:=(by omega);clear hv hh h2 q;go_wp2
    go_roundg l
    .exact⟨k+1,v,rfl,by go_num,by omega,gd (by rw[D.o,b.o]),C,rfl⟩
    .omega
   .have E:u%2=0:=by omega
    rw[E]at F;have b:gh (u / 2=km u):=gd (by unfold km;rw[if_neg h2]);have⟨h,hh⟩:=zX (u / 2);rw[<-hh]at B b;have K:h<2147483648:=(by omega);clear hh h2 E q;go_wp2
    go_roundg l
    .exact⟨k+1,h,rfl,by go_num,by omega,gd (by rw[D.o,b.o]),by omega,rfl⟩
    .omega
theorem Dr(n:Nat)(P:n<4294967296)(w:World):Calls prog 83 #[.int .u64 n,(4:Int)] w λe D=>∃(g cap:Nat),e=.returned (.slice g 4 cap)/\gv D 5 (.slice g 4 cap) g ((iK n).map b8)/\gf [] w D/\w.heap.size<=g:=by
 go_enter func83,ntmps83;go_wp2_with fail
 go_loopg [5,6] 4 (λj v5 v6 wr=>∃(k:Nat) (F:List Nat),k+j=4/\v6=.int .i64 (3-(k:Int))/\gh (gE wr 5 v5 F (((iK n).take k).map b8))/\gh (gf [] w wr)/\gh (∀x∈F,w.heap.size<=x))
 .exact⟨0,[],rfl,rfl,gd (gE.nil _ _),gd (zR _ _),gd (by simp)⟩
 obtain⟨k,F,B,rfl,z,d,f⟩:=hrel;rcases gk with _|j
 .obtain rfl:k=4:=by omega
  have v:=z.o;rw[zT (by simp[iK])]at v;obtain⟨g,c,rfl,A,hF⟩:=y8 (N:=4) v (by simp[iK]) (by decide);have G:=gd A;have E:gh (w.heap.size<=g):=gd (f.o g (by rw[hF];simp));clear v A hF;go_wp2_with fail;go_ret;exact⟨g,c,rfl,G.o,d.o,E.o⟩
 .have a:∃x m:Nat,(iK n).take (k+1)=(iK n).take k++[x]/\x<256/\m%256=x/\(k=0/\m=n / 16777216\/k=1/\m=n / 65536\/k=2/\m=n / 256\/k=3/\m=n):=by
   rcases(by omega:k=0\/k=1\/k=2\/k=3)with rfl|rfl|rfl|rfl
   .exact⟨n / 16777216%256,_,rfl,by omega,rfl,by simp⟩
   .exact⟨n / 65536%256,_,rfl,by omega,rfl,by simp⟩
   .exact⟨n / 256%256,_,rfl,by omega,rfl,by simp⟩
   .exact⟨n%256,_,rfl,by omega,rfl,by simp⟩
  obtain⟨x,m,u,M,J,r⟩:=a;have O:m<4294967296:=by omega
  have I:(k=0->(n:Int) / 16777216=(m:Int))/\(k=1->(n:Int) / 65536=(m:Int))/\(k=2->(n:Int) / 256=(m:Int))/\(k=3->n=m):=by
   refine⟨λh=>?_,λh=>?_,λh=>?_,λh=>?_⟩<;>omega
  have L:IntKind.u8.wrap (m:Int)=(x:Int):=by rw[IntKind.wrap_u8];omega
  have⟨l,hl⟩:=zX ((iK n).take k);have p:=z.o.alloc (.cells #[.int .u8 x] 5);have ad:gh (l.length=k):=gd (by rw[hl,zI];simp[iK];omega);rw[<-hl]at p u;have s:=gd u;clear hl;have H:=gd B;obtain⟨q,d1,d2,d3⟩:=I;clear u J;have K:k=0\/k=1\/k=2\/k=3:=by omega
  clear B;obtain rfl:j=3-k:=by have:=H.o;omega
  rcases K with rfl|rfl|rfl|rfl
  .have C:=q rfl
   clear q d1 d2 d3 r
   go_wp2_with(at_builtin;refine jT rfl rfl ku rfl rfl p (.int .u8 x) rfl ?e01 ?e02 ?e03 ?e04 ?_)
   case e02=>rfl
   case e03=>simp[ad.o]
   case e04=>simp[ad.o]
   intro o t y i b;go_wp2_with fail
   go_roundg 3
   .refine⟨1,[o],rfl,by go_num,gd ?_,gd ?_,gd ?_⟩
    .rw[s.o,zM]
     exact i.S
    .exact(d.o.tq ((zR [] wr).alloc _)).trans b.Z λx a=>.inr (f.o x a)
    .intro x a
     rcases b.new x a with h|h
     .exact f.o x h
     .have:=d.o.size;rw[sg]at h;omega
   .omega
  .have C:=d1 rfl
   clear q d1 d2 d3 r
   go_wp2_with(at_builtin;refine jT rfl rfl ku rfl rfl p (.int .u8 x) rfl ?e11 ?e12 ?e13 ?e14 ?_)
   case e12=>rfl
   case e13=>simp[ad.o]
   case e14=>simp[ad.o]
   intro o t y i b;go_wp2_with fail
   go_roundg 2
   .refine⟨2,[o],rfl,by go_num,gd ?_,gd ?_,gd ?_⟩
    .rw[s.o,zM]
     exact i.S
    .exact(d.o.tq ((zR [] wr).alloc _)).trans b.Z λx a=>.inr (f.o x a)
    .intro x a
     rcases b.new x a with h|h
     .exact f.o x h
     .have:=d.o.size;rw[sg]at h;omega
   .omega
  .have C:=d2 rfl
   clear q d1 d2 d3 r
   go_wp2_with(at_builtin;refine jT rfl rfl ku rfl rfl p (.int .u8 x) rfl ?e21 ?e22 ?e23 ?e24 ?_)
   case e22=>rfl
   case e23=>simp[ad.o]
   case e24=>simp[ad.o]
   intro o t y i b;go_wp2_with fail
   go_roundg 1
   .refine⟨3,[o],rfl,by go_num,gd ?_,gd ?_,gd ?_⟩
    .rw[s.o,zM]
     exact i.S
    .exact(d.o.tq ((zR [] wr).alloc _)).trans b.Z λx a=>.inr (f.o x a)
    .intro x a
     rcases b.new x a with h|h
     .exact f.o x h
     .have:=d.o.size;rw[sg]at h;omega
   .omega
  .obtain rfl:=d3 rfl
   clear q d1 d2 d3 r
   go_wp2_with(at_builtin;refine jT rfl rfl ku rfl rfl p (.int .u8 x) rfl ?e31 ?e32 ?e33 ?e34 ?_)
   case e32=>rfl
   case e33=>simp[ad.o]
   case e34=>simp[ad.o]
   intro o t y i b;go_wp2_with fail
   go_roundg 0
   .refine⟨4,[o],rfl,by go_num,gd ?_,gd ?_,gd ?_⟩
    .rw[s.o,zM]
     exact i.S
    .exact(d.o.tq ((zR [] wr).alloc _)).trans b.Z λx a=>.inr (f.o x a)
    .intro x a
     rcases b.new x a with h|h
     .exact f.o x h
     .have:=d.o.size;rw[sg]at h;omega
   .omega
end Go.Proofs.YtnepiccbpokmiaaGreatDoor
