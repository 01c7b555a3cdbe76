/- Lemmas. -/
import Derived.Test.YtifdlkoepaepiaaGreatDoorMg41
import Derived.Test.YtifdlkoepaepiaaGreatDoorMg40
set_option linter.all false
set_option maxHeartbeats 1000000
set_option maxRecDepth 100000
namespace Go.Proofs.YtifdlkoepaepiaaGreatDoor
open Tryz List Nat Go.RowKit
variable {k:Nat}
section
variable {w:World} {b:Nat} {F ds:List Nat} {p:Nat} {l:List Int} {W H d:Nat} (h:gM w b F ds p) (hw0:1<=W) (hw1:W<=16) (hh0:1<=H) (hh1:H<=16) (h0:1<=d) (h1:d<=16) (hl:l.length=W*H) (hs:ie d l)
include h hw0 hw1 hh0 hh1 h0 h1 hl hs
theorem PN(c:ig ds p (ik 1 l W H d)):Calls prog 94 #[.pointer b,W,H,d] w (lE w b F ds p l (ik 1 l W H d).length):=by
 have y:=qv W H d w hw0 hw1 hh0 hh1 h0 h1;have i:=zL hw1 hh1;have j:ik 1 l W H d=gx 1 3++iq l d:=rfl;have r:(ik 1 l W H d).length=3+(iq l d).length:=by rw[j,zC,gH]
 rw[r];rw[j]at c;have ad:=c.right;rw[gH]at ad;have x:=iU w b F ds p 3 1 h (by omega) (by decide) c.left;have a:=λw' (hr:gM w' b F ds (p+3)) (hc:gg [b] w w')=>xk w' b F ds (p+3) d l hr h1 hs (by rw[hl];exact Nat.le_trans i (by decide)) ad;have⟨n,hn⟩:=zX (W*H);have B:(W:Int)*(H:Int)=(n:Int):=by rw[hn];simp
 have A:n<=256:=by rw[hn];exact i
 rw[hl,<-hn]at a;have t:=gd a;unfold lE;generalize (iq l d).length=q at *;clear hn j r c ad hs hl a i;go_enter func94,ntmps94
 go_wp2_with(go_at_call 110;refine gB y ?_)
 refine x.mono ?_;rintro e z ⟨rfl,m,f⟩;have a:=t.o z m f
 go_wp2_with(go_at_call 60;refine gB (iS _ b F ds _ m) ?_)
 refine a.mono ?_;rintro e D ⟨v,g,rfl,s,o,u,C⟩;clear a
 go_wp2_with(go_at_call 60;refine gB (iS _ b F ds _ o) ?_)
 go_ret2
 exact⟨v,[g],rfl,s.R,o.cast (by omega),f.tq u,by have:=f.size;simp;omega⟩
theorem PO(c:ig ds p (ik 2 l W H d)):Calls prog 94 #[.pointer b,W,H,d] w (lE w b F ds p l (ik 2 l W H d).length):=by
 have y:=qv W H d w hw0 hw1 hh0 hh1 h0 h1;have u:=zL hw1 hh1;have j:ik 2 l W H d=gx 2 3++pF l W H d:=rfl;have r:(ik 2 l W H d).length=3+(pF l W H d).length:=by rw[j,zC,gH]
 rw[r];rw[j]at c;have i:=c.right;rw[gH]at i;have x:=iU w b F ds p 3 2 h (by omega) (by decide) c.left;have a:=λw' (hr:gM w' b F ds (p+3)) (hc:gg [b] w w')=>Ju w' b F ds (p+3) l W H d hr hw0 hw1 hh0 hh1 h0 h1 hl hs i;have⟨n,hn⟩:=zX (W*H);have s:=gd a;unfold lE;generalize (pF l W H d).length=q at *;clear hn j r c i hs hl a u;go_enter func94,ntmps94
 go_wp2_with(go_at_call 110;refine gB y ?_)
 refine x.mono ?_;rintro e z ⟨rfl,m,f⟩;have a:=s.o z m f
 go_wp2_with(go_at_call 60;refine gB (iS _ b F ds _ m) ?_)
 refine a.mono ?_;rintro e B ⟨v,g,rfl,ad,o,t,A⟩;clear a
 go_wp2_with(go_at_call 60;refine gB (iS _ b F ds _ o) ?_)
 go_ret2
 exact⟨v,[g],rfl,ad.R,o.cast (by omega),f.tq t,by have:=f.size;simp;omega⟩
theorem PP(c:ig ds p (ik 3 l W H d)):Calls prog 94 #[.pointer b,W,H,d] w (lE w b F ds p l (ik 3 l W H d).length):=by
 have y:=qv W H d w hw0 hw1 hh0 hh1 h0 h1;have u:=zL hw1 hh1;have j:ik 3 l W H d=gx 3 3++kw l W d (W*H):=rfl;have r:(ik 3 l W H d).length=3+(kw l W d (W*H)).length:=by rw[j,zC,gH]
 rw[r];rw[j]at c;have i:=c.right;rw[gH]at i;have x:=iU w b F ds p 3 3 h (by omega) (by decide) c.left;have a:=λw' (hr:gM w' b F ds (p+3)) (hc:gg [b] w w')=>O3 w' b F ds (p+3) l W H d hr hw0 (by omega) hh0 (by omega) h0 h1 hl hs i;have⟨n,hn⟩:=zX (W*H);have s:=gd a;unfold lE;generalize (kw l W d (W*H)).length=q at *;clear hn j r c i hs hl a u;go_enter func94,ntmps94
 go_wp2_with(go_at_call 110;refine gB y ?_)
 refine x.mono ?_;rintro e z ⟨rfl,m,f⟩;have a:=s.o z m f
 go_wp2_with(go_at_call 60;refine gB (iS _ b F ds _ m) ?_)
 refine a.mono ?_;rintro e B ⟨v,g,rfl,ad,o,t,A⟩;clear a
 go_wp2_with(go_at_call 60;refine gB (iS _ b F ds _ o) ?_)
 go_ret2
 exact⟨v,[g],rfl,ad.R,o.cast (by omega),f.tq t,by have:=f.size;simp;omega⟩
theorem PQ(s:iK w)(a:0∉F)(f:ig ds p (ik 4 l W H d)):Calls prog 94 #[.pointer b,W,H,d] w (lE w b F ds p l (ik 4 l W H d).length):=by
 have A:=qv W H d w hw0 hw1 hh0 hh1 h0 h1;have i:=zL hw1 hh1;have j:ik 4 l W H d=gx 4 3++nL (l5 l (d+1) 12) W d:=rfl;have r:(ik 4 l W H d).length=3+(nL (l5 l (d+1) 12) W d).length:=by rw[j,zC,gH]
 rw[r];rw[j]at f;have ad:=f.right;rw[gH]at ad;have z:=iU w b F ds p 3 4 h (by omega) (by decide) f.left;have c:=λw' (hr:gM w' b F ds (p+3)) (hc:gg [b] w w')=>Od w' b F ds (p+3) l W d (l5 l (d+1) 12) hr (s.Z hc (λhm=>by simp at hm;exact a (hm ▸ h.mem))) a hw0 (by omega) h0 h1 (by rw[hl];exact Nat.le_trans i (by decide)) (Ku l _ _) (DI hs _ _) ad;have⟨n,hn⟩:=zX (W*H);have E:(W:Int)*(H:Int)=(n:Int):=by rw[hn];simp
 have D:n<=256:=by rw[hn];exact i
 rw[hl,<-hn]at c;have u:=gd c;unfold lE;generalize (nL (l5 l (d+1) 12) W d).length=q at *;clear hn j r f ad hs hl c i s a;go_enter func94,ntmps94
 go_wp2_with(go_at_call 110;refine gB A ?_)
 refine z.mono ?_;rintro e C ⟨rfl,m,g⟩;have c:=u.o C m g
 go_wp2_with(go_at_call 60;refine gB (iS _ b F ds _ m) ?_)
 refine c.mono ?_;rintro e I ⟨v,G,rfl,t,o,y,B⟩;clear c
 go_wp2_with(go_at_call 60;refine gB (iS _ b F ds _ o) ?_)
 go_ret2
 exact⟨v,G,rfl,t,o.cast (by omega),g.tq y,λx hx=>Nat.le_trans g.size (B x hx)⟩
theorem PR(c:ig ds p (ik 5 l W H d)):Calls prog 94 #[.pointer b,W,H,d] w (lE w b F ds p l (ik 5 l W H d).length):=by
 have y:=qv W H d w hw0 hw1 hh0 hh1 h0 h1;have u:=zL hw1 hh1;have j:ik 5 l W H d=gx 5 3++pG l W d:=rfl;have r:(ik 5 l W H d).length=3+(pG l W d).length:=by rw[j,zC,gH]
 rw[r];rw[j]at c;have i:=c.right;rw[gH]at i;have x:=iU w b F ds p 3 5 h (by omega) (by decide) c.left;have a:=λw' (hr:gM w' b F ds (p+3)) (hc:gg [b] w w')=>JU w' b F ds (p+3) l W H d hr hw0 hw1 hh0 hh1 h0 h1 hl hs i;have⟨n,hn⟩:=zX (W*H);have s:=gd a;unfold lE;generalize (pG l W d).length=q at *;clear hn j r c i hs hl a u;go_enter func94,ntmps94
 go_wp2_with(go_at_call 110;refine gB y ?_)
 refine x.mono ?_;rintro e z ⟨rfl,m,f⟩;have a:=s.o z m f
 go_wp2_with(go_at_call 60;refine gB (iS _ b F ds _ m) ?_)
 refine a.mono ?_;rintro e B ⟨v,g,rfl,ad,o,t,A⟩;clear a
 go_wp2_with(go_at_call 60;refine gB (iS _ b F ds _ o) ?_)
 go_ret2
 exact⟨v,[g],rfl,ad.R,o.cast (by omega),f.tq t,by have:=f.size;simp;omega⟩
theorem PS(s:iE 6 l W d=true)(c:ig ds p (ik 6 l W H d)):Calls prog 94 #[.pointer b,W,H,d] w (lE w b F ds p l (ik 6 l W H d).length):=by
 have z:=qv W H d w hw0 hw1 hh0 hh1 h0 h1;have i:=zL hw1 hh1;have j:ik 6 l W H d=gx 6 3++pE l d:=rfl;have r:(ik 6 l W H d).length=3+(pE l d).length:=by rw[j,zC,gH]
 rw[r];rw[j]at c;have ad:=c.right;rw[gH]at ad;have y:=iU w b F ds p 3 6 h (by omega) (by decide) c.left;have a:=λw' (hr:gM w' b F ds (p+3)) (hc:gg [b] w w')=>I9 w' b F ds (p+3) l d hr h0 h1 (by rw[hl];exact Nat.mul_pos hw0 hh0) (by rw[hl];exact i) hs (by simpa[iE]using s) ad;have⟨n,hn⟩:=zX (W*H);have C:(W:Int)*(H:Int)=(n:Int):=by rw[hn];simp
 have B:n<=256:=by rw[hn];exact i
 rw[hl,<-hn]at a;have u:=gd a;unfold lE;generalize (pE l d).length=q at *;clear hn j r c ad hs hl a i s;go_enter func94,ntmps94
 go_wp2_with(go_at_call 110;refine gB z ?_)
 refine y.mono ?_;rintro e A ⟨rfl,m,f⟩;have a:=u.o A m f
 go_wp2_with(go_at_call 60;refine gB (iS _ b F ds _ m) ?_)
 refine a.mono ?_;rintro e E ⟨v,g,rfl,t,o,x,D⟩;clear a
 go_wp2_with(go_at_call 60;refine gB (iS _ b F ds _ o) ?_)
 go_ret2
 exact⟨v,[g],rfl,t.R,o.cast (by omega),f.tq x,by have:=f.size;simp;omega⟩
theorem PT(s:iE 7 l W d=true)(c:ig ds p (ik 7 l W H d)):Calls prog 94 #[.pointer b,W,H,d] w (lE w b F ds p l (ik 7 l W H d).length):=by
 have z:=qv W H d w hw0 hw1 hh0 hh1 h0 h1;have x:=zL hw1 hh1;have j:ik 7 l W H d=gx 7 3++pL l W d:=rfl;have r:(ik 7 l W H d).length=3+(pL l W d).length:=by rw[j,zC,gH]
 rw[r];rw[j]at c;have i:=c.right;rw[gH]at i;have y:=iU w b F ds p 3 7 h (by omega) (by decide) c.left;have a:=λw' (hr:gM w' b F ds (p+3)) (hc:gg [b] w w')=>Ja w' b F ds (p+3) l W H d hr hw0 hw1 hh0 hh1 h0 h1 hl hs (by simpa[iE]using s) i;have⟨n,hn⟩:=zX (W*H);have t:=gd a;unfold lE;generalize (pL l W d).length=q at *;clear hn j r c i hs hl a x s;go_enter func94,ntmps94
 go_wp2_with(go_at_call 110;refine gB z ?_)
 refine y.mono ?_;rintro e A ⟨rfl,m,f⟩;have a:=t.o A m f
 go_wp2_with(go_at_call 60;refine gB (iS _ b F ds _ m) ?_)
 refine a.mono ?_;rintro e C ⟨v,g,rfl,ad,o,u,B⟩;clear a
 go_wp2_with(go_at_call 60;refine gB (iS _ b F ds _ o) ?_)
 go_ret2
 exact⟨v,[g],rfl,ad.R,o.cast (by omega),f.tq u,by have:=f.size;simp;omega⟩
theorem GV(g:k<=7)(f:iK w)(c:0∉F)(e:iE k l W d=true)(a:ig ds p (ik k l W H d)):Calls prog 94 #[.pointer b,W,H,d] w (lE w b F ds p l (ik k l W H d).length):=by
 rcases(show k=0\/k=1\/k=2\/k=3\/k=4\/k=5\/k=6\/k=7 by omega)with rfl|rfl|rfl|rfl|rfl|rfl|rfl|rfl
 .exact Nk h hw0 hw1 hh0 hh1 h0 h1 hl hs e a
 .exact PN h hw0 hw1 hh0 hh1 h0 h1 hl hs a
 .exact PO h hw0 hw1 hh0 hh1 h0 h1 hl hs a
 .exact PP h hw0 hw1 hh0 hh1 h0 h1 hl hs a
 .exact PQ h hw0 hw1 hh0 hh1 h0 h1 hl hs f c a
 .exact PR h hw0 hw1 hh0 hh1 h0 h1 hl hs a
 .exact PS h hw0 hw1 hh0 hh1 h0 h1 hl hs e a
 .exact PT h hw0 hw1 hh0 hh1 h0 h1 hl hs e a
end
theorem Dm:∀(ks:List Nat) (ps:List (List Int)),sk ks->(∀p∈ps,∀x∈p,iy x)->((ks.zip ps).map (λp=>oz p.1 p.2)).sum<=10*ps.length+65*ps.flatten.length
 | [],ps,_,_=>by simp
 | k::ks,[],_,_=>by simp
 | k::ks,p::ps,hk,hp=>by
  have h1:=Dm ks ps (λx hx=>hk x (by simp[hx])) (λq hq=>hp q (by simp[hq]));have a:=yW (hk k (by simp)) (hp p (by simp));simp only[zip_cons_cons,map_cons,sum_cons,zK,flatten_cons,zC];omega
theorem Ox{e:List Int}{n:Nat}(m:e.length=n)(g:∀x∈e,iy x):(qC e n).length<=4+(160+65*n):=by
 have a:=tX (n:=n) (warm:=0) (most:=4) (by omega) e;have i:=ug a.1.1;have f:=sJ a.1.1;have c:=Dk (iR (jS n 0 4 e).order n 0) e (by omega);unfold qC;rw[L5];unfold lH;have h1:=Dm (jS n 0 4 e).ks (iQ (iR (jS n 0 4 e).order n 0) e) (Ae e) (λp hp x hx=>g x (by rw[<-c];exact List.mem_flatten.2 ⟨p,hp,hx⟩));rw[q4,c,f]at h1;have j:2^(jS n 0 4 e).order<=2^4:=Nat.pow_le_pow_right (by decide) a.2.2;omega
theorem Do{lens:List Nat}(a:∀x∈lens,x<=24):∀(l:List Nat),(kx lens l).length<=24*l.length
 | []=>by simp[kx]
 | s::l=>by
  have h:=Do a l;have e:kx lens (s::l)=ri lens s++kx lens l:=rfl;have c:gO lens s<=24:=by
   unfold gO;rw[zD]
   cases hx:lens[s]? with
   | none=>simp
   | some x=>exact a x (mem_of_getElem? hx)
  rw[e,zC,y7,zK];omega
theorem Jl(l:List Int){W H d:Nat}(h0:1<=d)(h1:d<=16)(a:W<=16)(hH:H<=16):0<(ik 2 l W H d).length/\(ik 2 l W H d).length<200000:=by
 have e:ik 2 l W H d=gx 2 3++(iq (mi l W H d) 4++qC (k8 l W H d) (W*H)):=rfl;have f:=Ox (Aa l W H d) (zf l W H d h0 h1);have c:W*H<=16*16:=zL a hH;rw[e,zC,zC,gH,xF,zi];omega
theorem IW(l:List Int){W H d:Nat}(h0:1<=d)(h1:d<=16)(a:W<=16)(hH:H<=16):0<(ik 3 l W H d).length/\(ik 3 l W H d).length<200000:=by
 have e:ik 3 l W H d=gx 3 3++kw l W d (W*H):=rfl;have f:=yA l W h0 h1 (by have:=Nat.pow_le_pow_right (n:=2) (by decide) h1;have e:((2^d:Nat):Int)=(2:Int)^d:=(by simp);omega) (W*H);have c:W*H<=16*16:=zL a hH;rw[e,zC,gH];omega
theorem I3(l:List Int){W H d:Nat}(h1:d<=16)(hl:l.length<=256):0<(ik 4 l W H d).length/\(ik 4 l W H d).length<200000:=by
 have e:ik 4 l W H d=gx 4 3++nL (l5 l (d+1) 12) W d:=rfl;have c:=Jw (l5 l (d+1) 12) W d h1;have a:=zj l (d+1) 12;rw[e,zC,gH];omega
theorem Dr(t:k<=7){l:List Int}{W H d:Nat}(hw0:1<=W)(hh0:1<=H)(h0:1<=d)(h1:d<=16)(a:W<=16)(hH:H<=16)(hl:l.length=W*H)(i:iE k l W d=true):0<(ik k l W H d).length/\(ik k l W H d).length<200000:=by
 have j:W*H<=16*16:=zL a hH;have r:0<W*H:=Nat.mul_pos hw0 hh0;rcases(show k=0\/k=1\/k=2\/k=3\/k=4\/k=5\/k=6\/k=7 by omega)with rfl|rfl|rfl|rfl|rfl|rfl|rfl|rfl
 .have e:ik 0 l W H d=gx 0 3++gx (l.getD 0 0).toNat d:=rfl
  rw[e,zC,gH,gH];omega
 .have e:ik 1 l W H d=gx 1 3++iq l d:=rfl
  rw[e,zC,gH,xF,hl]
  have:=zL h1 j
  omega
 .exact Jl l h0 h1 a hH
 .exact IW l h0 h1 a hH
 .exact I3 l h1 (by omega)
 .have e:ik 5 l W H d=gx 5 3++(gx (nv l W d).length 16++(nv l W d).flatMap λx=>gx x 8):=rfl
  have u:=yY l W h0 h1;have o:∀R:List Nat,(R.flatMap λx=>gx x 8).length=8*R.length:=by
   intro R
   induction R with
   | nil=>rfl
   | cons x R ih=>rw[flatMap_cons,zC,gH,ih,zK];omega
  rw[e,zC,zC,gH,gH,o];omega
 .have e:ik 6 l W H d=gx 6 3++(gx ((iA l).length-1) 4++iq (iA l) d++iq (oK l) (lG (iA l).length)):=rfl
  have f:(iA l).length<=16:=by simpa[iE]using i
  have q:=AB f;have c:=zL h1 f;have n:lG (iA l).length*l.length<=4*(16*16):=zL q (by omega);rw[e,zC,zC,zC,gH,gH,xF,xF,Fm];omega
 .have e:ik 7 l W H d=gx 7 3++(ou (pM l W d)++kx (pM l W d) (jH l W d)):=rfl
  have m:jG (jH l W d)<256:=by simpa[iE]using i
  obtain⟨g,-⟩:=GC (l:=l) (W:=W) (d:=d) (by omega) m;have s:=yC (pM l W d);have c:=Do g.le (jH l W d);have n:=g.n2;rw[tY]at c;rw[e,zC,zC,gH];omega
structure xX where
 l:List Int
 W:Nat
 H:Nat
 d:Nat
 k:Nat
structure xX.Ok (t:xX):Prop where
 w0:1<=t.W
 w1:t.W<=16
 h0:1<=t.H
 h1:t.H<=16
 d0:1<=t.d
 d1:t.d<=16
 len:t.l.length=t.W*t.H
 smp:ie t.d t.l
 k7:t.k<=7
 may:iE t.k t.l t.W t.d=true
def xX.bits (t:xX):List Nat:=ik t.k t.l t.W t.H t.d
end Go.Proofs.YtifdlkoepaepiaaGreatDoor
