/- Lemmas. -/
import Derived.Test.YtnepiccbpokmiaaGreatDoorMg16
import Derived.Lib.SliceRun
set_option linter.all false
set_option maxHeartbeats 1000000
set_option maxRecDepth 100000
namespace Go.Proofs.YtnepiccbpokmiaaGreatDoor
open Tryz List Nat Go.RowKit
theorem IS(w:World)(A:Option Addr)(cap:Nat)(d:List Int)(m:gu vi w A d)(j:0<d.length)(E:d.length<1099511627776):Calls prog 86 #[.slice A d.length cap] w λe w'=>∃v g,e=.returned v/\gv w' 3 v g (d.map vi)/\gf [] w w'/\w.heap.size<=g:=by
 obtain⟨t,G,rfl,I,-⟩:=m.ex j;have F:gE (w.alloc (.cells #[] 3)) 3 (.slice (some ⟨w.heap.size,0,none⟩) 0 0) [w.heap.size] []:=(gv.made w 3 [] (by simp[maxLen])).S;have q:gu (λu=>u) (w.alloc (.cells #[] 3)) (some ⟨t,G,none⟩) (d.map vi):=⟨λh=>by
  obtain⟨b,o,y,z,B⟩:=(m.Y ((zR [] w).alloc (.cells #[] 3))).ex j;refine⟨b,o,y,z,λi a ha=>?_⟩;rw[zW]at ha;obtain⟨x,p,rfl⟩:=Option.map_eq_some_iff.1 ha;exact B i x p⟩
 have s:=gd q;have⟨n,hn⟩:=zX d.length;rw[<-hn]at j E⊢;have f:=gd hn;have J:∀(w:World) (a:Option Addr) (n c n' c':Nat),(binOp .eql 22 (.slice a n c) (.slice none n' c')).run prog w=.ok (.bool a.isNone) w:=λw a n c n' c'=>Lib.run_eql_slice_nil w _ _ a n c n' c' underlying22;clear q m hn;go_enter func86,ntmps86
 go_wp2_with(at_builtin;refine na rfl rfl iJ rfl rfl F (d.map vi) n rfl ?c1 ?c2 ?c3 ?c4 ?c5 ?_)
 case c1=>rw[zE];exact f.o
 case c2=>exact s.o
 case c3=>exact pX _
 case c4=>rw[zE,length_nil,<-f.o];omega
 case c5=>rw[zE,length_nil,<-f.o];omega
 intro H F' w' k l
 try rw[nil_append]at k
 have ad:gf [] w w':=((zR [] w).alloc _).trans l.Z λx p=>.inr (by simp at p;omega);rcases k.cases with⟨_,C,_⟩|⟨g,r,hF⟩
 .have:=f.o
  rw[List.map_eq_nil_iff.1 C]at this;simp at this;omega
 .have D:w.heap.size<=g:=by
   rcases l.new g (by rw[hF];simp)with h|h
   .simp at h;omega
   .have:(w.alloc (.cells #[] 3)).heap.size=w.heap.size+1:=Array.size_push _
    omega
  clear k l;go_wp2;go_ret;exact⟨H,g,rfl,r,ad,D⟩
theorem IR(w:World)(A:Option Addr)(cap:Nat)(d:List Nat)(m:gu b8 w A d)(j:0<d.length)(E:d.length<1099511627776):Calls prog 73 #[.slice A d.length cap] w λe w'=>∃v g,e=.returned v/\gv w' 5 v g (d.map b8)/\gf [] w w'/\w.heap.size<=g:=by
 obtain⟨t,G,rfl,I,-⟩:=m.ex j;have F:gE (w.alloc (.cells #[] 5)) 5 (.slice (some ⟨w.heap.size,0,none⟩) 0 0) [w.heap.size] []:=(gv.made w 5 [] (by simp[maxLen])).S;have q:gu (λu=>u) (w.alloc (.cells #[] 5)) (some ⟨t,G,none⟩) (d.map b8):=⟨λh=>by
  obtain⟨b,o,y,z,B⟩:=(m.Y ((zR [] w).alloc (.cells #[] 5))).ex j;refine⟨b,o,y,z,λi a ha=>?_⟩;rw[zW]at ha;obtain⟨x,p,rfl⟩:=Option.map_eq_some_iff.1 ha;exact B i x p⟩
 have s:=gd q;have⟨n,hn⟩:=zX d.length;rw[<-hn]at j E⊢;have f:=gd hn;have J:∀(w:World) (a:Option Addr) (n c n' c':Nat),(binOp .eql 40 (.slice a n c) (.slice none n' c')).run prog w=.ok (.bool a.isNone) w:=λw a n c n' c'=>Lib.run_eql_slice_nil w _ _ a n c n' c' underlying40;clear q m hn;go_enter func73,ntmps73
 go_wp2_with(at_builtin;refine na rfl rfl ku rfl rfl F (d.map b8) n rfl ?c1 ?c2 ?c3 ?c4 ?c5 ?_)
 case c1=>rw[zE];exact f.o
 case c2=>exact s.o
 case c3=>exact ni _
 case c4=>rw[zE,length_nil,<-f.o];omega
 case c5=>rw[zE,length_nil,<-f.o];omega
 intro H F' w' k l
 try rw[nil_append]at k
 have ad:gf [] w w':=((zR [] w).alloc _).trans l.Z λx p=>.inr (by simp at p;omega);rcases k.cases with⟨_,C,_⟩|⟨g,r,hF⟩
 .have:=f.o
  rw[List.map_eq_nil_iff.1 C]at this;simp at this;omega
 .have D:w.heap.size<=g:=by
   rcases l.new g (by rw[hF];simp)with h|h
   .simp at h;omega
   .have:(w.alloc (.cells #[] 5)).heap.size=w.heap.size+1:=Array.size_push _
    omega
  clear k l;go_wp2;go_ret;exact⟨H,g,rfl,r,ad,D⟩
theorem IZ(w:World)(A B:Option Addr)(t u:Nat)(a b:List Int)(p:gu vi w A a)(h:gu vi w B b)(c:a.length=b.length)(D:a.length<=1099511627776):Calls prog 68 #[.slice A a.length t,.slice B b.length u] w λe w'=>e=.returned (.bool (decide (a=b)))/\gf [] w w':=by
 have⟨n,hn⟩:=zX a.length;have g:b.length=n:=by rw[hn,c]
 rw[g];rw[<-hn]at D⊢;have⟨HA,HB⟩:=gy hn g;clear hn g c;have L:((n:Int) != (n:Int))=false:=by simp
 go_enter func68,ntmps68;go_wp2_with fail
 go_loopg [5,13] n (λj v5 iv wr=>∃i q:Nat,iv=.int .i64 i/\i+j=n/\gh (a.take i=b.take i)/\wr=w.drewN q)
 .exact⟨0,0,rfl,by omega,gd rfl,rfl⟩
 obtain⟨i,q,rfl,I,l,rfl⟩:=hrel;rcases gk with _|j
 .obtain rfl:i=n:=by omega
  have k:=l.o;rw[zT (by rw[<-HA.o];exact zQ _),zT (by rw[HB.o];exact zQ _)]at k;have C:gh (decide (a=b)=true):=gd (zB k);clear k;go_wp2;go_ret;exact⟨by rw[C.o];rfl,(zR [] w).drewN q⟩
 .have ad:i<n:=by omega
  have m:i<a.length:=by rw[<-HA.o];exact ad
  have o:i<b.length:=by rw[HB.o];exact ad
  obtain⟨v,E,rfl,d⟩:=p.at_ m;obtain⟨z,F,rfl,f⟩:=h.at_ o;have⟨x,hx⟩:=zX (a[i]);have⟨y,hy⟩:=zX (b[i]);rw[<-hx]at d;rw[<-hy]at f;have J:w.cell? ⟨v,E+i,none⟩=some (.int .i64 x):=d;have K:w.cell? ⟨z,F+i,none⟩=some (.int .i64 y):=f;have⟨HX,HY,ag,ah⟩:=gz hx hy m o;have H:=gd h;clear hx hy d f p h;go_wp2
  go_quiet (fail)
  by_cases hxy:x=y
  .subst hxy
   have G:(x != x)=false:=(by simp);go_wp2
   go_roundg j
   .refine⟨i+1,q+nq,by go_num,by omega,gd ?_,by first|rfl|rw[World.drewN_drewN]⟩
    rw[take_succ_eq_append_getElem ag.o,take_succ_eq_append_getElem ah.o,l.o,<-HX.o,<-HY.o]
   .omega
  .have G:(x != y)=true:=by simpa using hxy
   have r:decide (a=b)=false:=zA λe=>hxy (by rw[HX.o,HY.o];subst e;rfl);have s:=gd r;clear r;go_wp2;go_ret;exact⟨by rw[s.o];rfl,((zR [] w).drewN q).drewN nq⟩
theorem B6(w:World)(A B:Option Addr)(t u:Nat)(a b:List Nat)(p:gu b8 w A a)(h:gu b8 w B b)(c:a.length=b.length)(D:a.length<=1099511627776):Calls prog 52 #[.slice A a.length t,.slice B b.length u] w λe w'=>e=.returned (.bool (decide (a=b)))/\gf [] w w':=by
 have⟨n,hn⟩:=zX a.length;have g:b.length=n:=by rw[hn,c]
 rw[g];rw[<-hn]at D⊢;have⟨HA,HB⟩:=gy hn g;clear hn g c;have L:((n:Int) != (n:Int))=false:=by simp
 go_enter func52,ntmps52;go_wp2_with fail
 go_loopg [5,13] n (λj v5 iv wr=>∃i q:Nat,iv=.int .i64 i/\i+j=n/\gh (a.take i=b.take i)/\wr=w.drewN q)
 .exact⟨0,0,rfl,by omega,gd rfl,rfl⟩
 obtain⟨i,q,rfl,I,l,rfl⟩:=hrel;rcases gk with _|j
 .obtain rfl:i=n:=by omega
  have k:=l.o;rw[zT (by rw[<-HA.o];exact zQ _),zT (by rw[HB.o];exact zQ _)]at k;have C:gh (decide (a=b)=true):=gd (zB k);clear k;go_wp2;go_ret;exact⟨by rw[C.o];rfl,(zR [] w).drewN q⟩
 .have ad:i<n:=by omega
  have m:i<a.length:=by rw[<-HA.o];exact ad
  have o:i<b.length:=by rw[HB.o];exact ad
  obtain⟨v,E,rfl,d⟩:=p.at_ m;obtain⟨z,F,rfl,f⟩:=h.at_ o;have⟨x,hx⟩:=zX (a[i]);have⟨y,hy⟩:=zX (b[i]);rw[<-hx]at d;rw[<-hy]at f;have J:w.cell? ⟨v,E+i,none⟩=some (.int .u8 x):=d;have K:w.cell? ⟨z,F+i,none⟩=some (.int .u8 y):=f;have⟨HX,HY,ag,ah⟩:=gz hx hy m o;have H:=gd h;clear hx hy d f p h;go_wp2
  go_quiet (fail)
  by_cases hxy:x=y
  .subst hxy
   have G:((x:Int) != (x:Int))=false:=(by simp);go_wp2
   go_roundg j
   .refine⟨i+1,q+nq,by go_num,by omega,gd ?_,by first|rfl|rw[World.drewN_drewN]⟩
    rw[take_succ_eq_append_getElem ag.o,take_succ_eq_append_getElem ah.o,l.o,<-HX.o,<-HY.o]
   .omega
  .have G:(x != y)=true:=by simpa using hxy
   have M:((x:Int) != (y:Int))=true:=(by rw[bne_iff_ne];omega);have r:decide (a=b)=false:=zA λe=>hxy (by rw[HX.o,HY.o];subst e;rfl);have s:=gd r;clear r;go_wp2;go_ret;exact⟨by rw[s.o];rfl,((zR [] w).drewN q).drewN nq⟩
end Go.Proofs.YtnepiccbpokmiaaGreatDoor
