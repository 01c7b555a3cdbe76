/- Lemmas. -/
import Derived.Test.YtnepiccbpokmiaaGreatDoorMg32
import Derived.Test.YtnepiccbpokmiaaGreatDoorMg30
set_option linter.all false
set_option maxHeartbeats 2000000
set_option maxRecDepth 100000
namespace Go.Proofs.YtnepiccbpokmiaaGreatDoor
open Tryz List Nat Go.RowKit
variable {G:List Nat}{g o:Nat}{c:Nat->Nat}{B:Nat->Option Addr}{w:World}
theorem JE{p:gH}(cap:Nat)(h:gW w p g o B c G):Calls prog 34 #[gN p g o cap] w λe w'=>e=.returned (.bool true)/\gf [] w w':=by
 have:=zc cap h.raw
 rw[h.ok.isB]at this;exact this
theorem JD{p:gH}(cap:Nat)(h:gW w p g o B c G):Calls prog 84 #[gN p g o cap] w λe w'=>e=.returned (.int .u32 (kw p:Int))/\gf [] w w':=by
 have I:=λw' (hc:gf [] w w')=>JE cap (h.Y hc);have f:=h.ok;unfold gN at I⊢;have⟨W,hW⟩:=zX p.W;have⟨H,hH⟩:=zX p.H;have⟨d,hd⟩:=zX p.d;have⟨n,hn⟩:=zX p.P.length;have⟨N,hN⟩:=zX (W*H);rw[<-hW,<-hH,<-hd,<-hn]at I⊢;have bn:N<=4096:=by rw[hN,hW,hH];exact f.area
 have bu:n<=4:=by rw[hn];exact f.n1
 have bo:W<=64:=by rw[hW];exact f.w1
 have bm:H<=64:=by rw[hH];exact f.h1
 have bp:d<=16:=by rw[hd];exact f.d1
 have an:∀i,i<n->∃b q,(∀w',gf [] w w'->w'.cell? ⟨g,o+i,none⟩=some (.slice (some ⟨b,q,none⟩) N (c i)))/\∀w'',gf [] w w''->∀k,k<N->w''.cell? ⟨b,q+k,none⟩=some (.int .i64 ((p.P.getD i []).getD k 0)):=by
  intro i hi;rw[hn]at hi;obtain⟨b,q,e,hb,hk⟩:=h.at_ hi;refine⟨b,q,λw' hc=>?_,λw'' hc'' k hk'=>?_⟩
  .have E:=(h.Y hc).X i hi
   rw[e,<-hW,<-hH,<-hN]at E;exact E
  have hh:=hk k (by rw[<-hW,<-hH,<-hN];exact hk');exact(World.cell?_of_block (w:=w) (hc''.block b (h.lt b hb) (by simp))).trans hh
 have a1:∀i k,i<n->∃m:Nat,(p.P.getD i []).getD k 0=(m:Int)/\m<65536:=by
  intro i k hi;rw[hn]at hi;obtain⟨a,b⟩:=nB (f.smp _ (by rw[zD,zF hi];exact zG hi:p.P.getD i []∈p.P)) k;exact⟨((p.P.getD i []).getD k 0).toNat,by omega,zw f.d0 f.d1 a b⟩
 have ao:∀i,i<n->(p.P.getD i []).length=N:=λi hi=>by rw[hN,hW,hH];exact h.len (by rw[<-hn];exact hi)
 have ak:=xh f;have bi:(rk p).length<=100000:=by
  unfold rk;rw[zC,rV p.P (λl hl=>f.len l hl)];have V:=f.area;have X:=f.n1;have K:=zL (zL (zQ 2) V) X;simp only[zK,length_nil];omega
 have t:∀i,i<=n->([W,H,d,n]++(p.P.take i).flatMap iX).length<=100000:=by
  intro i hi;rw[zC,rV (m:=p.W*p.H) _ (λl hl=>f.len l (mem_of_mem_take hl)),zI,<-hn];have V:=f.area;have K:=zL (zL (zQ 2) V) (show min i n<=4 by omega);simp only[zK,length_nil];omega
 have⟨w1,aB⟩:=zX (w.alloc (.cells #[W,H,d,.slice (some ⟨g,o,none⟩) n cap] 25));have aT:=jD aB;have aU:gn w1 w.heap.size 25 #[W,H,d,.slice (some ⟨g,o,none⟩) n cap]:=by rw[aB];exact gn.new w _ _
 have aM:gh (∀i,i=n->lE ([W,H,d,n]++(p.P.take i).flatMap iX)=kw p):=gd (λi hi=>by
  rw[zT (by omega),hW,hH,hd,hn];rfl)
 have aK:gh (∀i,i=n->∀x∈[W,H,d,n]++(p.P.take i).flatMap iX,x<256):=gd (λi hi=>by
  rw[zT (by omega),hW,hH,hd,hn];exact ak)
 have ar:gh (∀i,i<n->[W,H,d,n]++(p.P.take (i+1)).flatMap iX=([W,H,d,n]++(p.P.take i).flatMap iX)++iX (p.P.getD i [])):=gd (λi hi=>by
  have aW:i<p.P.length:=by omega
  rw[take_succ_eq_append_getElem aW,flatMap_append,zH,zD,zF aW];simp)
 have⟨a9,ab,HC,ba⟩:=gz aB aU an a1;have⟨av,a2,aR,a3⟩:=gz aT I t ao;have z:∀m:Nat,m<256->IntKind.u8.wrap (m:Int)=(m:Int):=λm u=>by rw[IntKind.wrap_u8];omega
 have wW:=z W (by omega);have wH:=z H (by omega);have wd:=z d (by omega);have wn:=z n (by omega);clear hW hH hd hn hN f an a1 aB aU aT h I ak bi t ao z;go_enter func84,ntmps84;go_wp2_with fail;rw[<-a9.o];refine(a2.o w1 av.o).mono ?_;rintro e y ⟨rfl,ad⟩;have c0:=(ab.o.Z ad (by simp)).X 0;have c1:=(ab.o.Z ad (by simp)).X 1;have c2:=(ab.o.Z ad (by simp)).X 2;have c3:=(ab.o.Z ad (by simp)).X 3;simp at c0 c1 c2 c3;have bb:=((ab.o.Z ad (by simp)).alloc (.cells #[.int .u8 W,.int .u8 H,.int .u8 d,.int .u8 n] 5)).X 3;simp at bb;have aj:=gd ad;have ac:gE (y.alloc (.cells #[.int .u8 W,.int .u8 H,.int .u8 d,.int .u8 n] 5)) 5 (.slice (some ⟨y.heap.size,0,none⟩) 4 4) [y.heap.size] ([W,H,d,n].map b8):=by
  have:=gv.made y 5 ([W,H,d,n].map b8) (by simp[maxLen])
  exact gv.S this
 have O:=gd ac;clear ad ac;go_wp2_with fail
 go_loopg [3,4,5] n (λj v3 v4 v5 wr=>∃(i:Nat) (F:List Nat),v4=.int .i64 i/\i+j=n/\gh (gE wr 5 v3 F (([W,H,d,n]++(p.P.take i).flatMap iX).map b8))/\gh (gf [] w1 wr)/\gh (∀x∈F,w1.heap.size<=x))
 .exact⟨0,[y.heap.size],rfl,by omega,gd (by simpa using O.o),gd (aj.o.alloc _),gd (by intro x v;simp at v;have:=aj.o.size;omega)⟩
 obtain⟨i,F,rfl,br,HO,D,HF⟩:=hrel;have c3:=(ab.o.Z D.o (by simp)).X 3;simp at c3;rcases gk with _|j
 .obtain rfl:i=n:=by omega
  have⟨ds,aV⟩:=zX ([W,H,d,i]++(p.P.take i).flatMap iX);have Y:=HO.o;have P:=aK.o i rfl;have Q:=aM.o i rfl;have t:=aR.o i (zQ _);rw[<-aV]at Y P Q t;obtain⟨A3,aI,rfl,bc,bd,s⟩:=Y.oq;have C:=EE wr A3 aI _ s P (by omega);rw[Q]at C;have⟨q,hq⟩:=zX ds.length;rw[<-hq]at C⊢;have a8:=gd C;clear C bc bd s Y P Q t aV hq;go_wp2_with fail;refine gx a8.o ?_;go_wp2;go_ret;exact⟨rfl,av.o.tq D.o⟩
 .have hi:i<n:=by omega
  obtain⟨b,q,am,aX⟩:=HC.o i hi;have L:gh (∀wz,gf [] w1 wz->wz.cell? ⟨g,o+i,none⟩=some (.slice (some ⟨b,q,none⟩) N (c i))):=gd λwz hz=>am wz (av.o.tq hz);have HK:gh (∀wz,gf [] w1 wz->∀k,k<N->wz.cell? ⟨b,q+k,none⟩=some (.int .i64 ((p.P.getD i []).getD k 0))):=gd λwz hz=>aX wz (av.o.tq hz);have E:=L.o wr D.o;have⟨l,hl⟩:=zX (p.P.getD i []);have⟨pre,ah⟩:=zX ([W,H,d,n]++(p.P.take i).flatMap iX);have J:=ar.o i hi;have U:=aR.o i (by omega);have S:=a3.o i hi;have T:=ba.o i;rw[<-hl]at J S T;rw[<-ah]at J U;have⟨HL,aH,a7,aG⟩:=gz hl ah J U;have⟨aE,a6⟩:=gy S T;clear aX am hl ah J U S T;go_wp2_with fail
  go_loopg [3,5] N (λZ v3 v5 wr2=>∃(k:Nat) (A:List Nat),v5=.int .i64 k/\k+Z=N/\gh (gE wr2 5 v3 A ((pre++iX (l.take k)).map b8))/\gh (gf [] w1 wr2)/\gh (∀x∈A,w1.heap.size<=x))
  .exact⟨0,F,rfl,by omega,gd (by rw[aH.o];simpa[iX]using HO.o),gd D.o,gd HF.o⟩
  obtain⟨k,A,rfl,bs,aQ,r,M⟩:=hrel;have c3:=(ab.o.Z r.o (by simp)).X 3;simp at c3;have E:=L.o wr r.o;rcases gk with _|Z
  .obtain rfl:k=N:=by omega
   go_wp2
   go_roundg j
   .refine⟨i+1,A,by go_num,by omega,gd ?_,r,M⟩
    have h:=aQ.o;rw[zT (by rw[aE.o];exact zQ _)]at h;rw[a7.o];exact h
   .omega
  .have R:k<N:=by omega
   obtain⟨m,u,bl⟩:=a6.o k hi;have bj:=HK.o wr r.o k R;rw[<-HL.o,u]at bj;have aZ:gh (iX (l.take (k+1))=iX (l.take k)++[m / 256,m%256]):=by
    refine gd ?_;have aY:k<l.length:=(by rw[aE.o];exact R);have e:l[k]=(m:Int):=by
     rw[<-u,zD,zF aY];rfl
    rw[take_succ_eq_append_getElem aY,iX,flatMap_append,e];simp[iX,sX]
   have a0:(iX (l.take k)).length<=8192:=(by rw[vE,zI,aE.o];omega);have a4:=gd a0;have bk:(m:Int) / 256=((m / 256:Nat):Int):=(by omega);have⟨af,ae⟩:=zX (m / 256);have⟨au,ap⟩:=zX (m%256);rw[<-ae,<-ap]at aZ;rw[<-ae]at bk;have bq:af<256:=(by omega);have e8:IntKind.u8.wrap (af:Int)=(af:Int):=(by rw[IntKind.wrap_u8];omega);have e9:IntKind.u8.wrap (m:Int)=(au:Int):=(by rw[IntKind.wrap_u8];omega);have O:=gd aQ.o;have aS:gh (((pre++iX (l.take k)).map b8).length+([af,au].map b8).length<=1000000):=gd (by
    have:=aG.o;have:=a4.o;simp only[zE,zC,zK,length_nil];omega)
   have a5:gh (∀wz,gf [] w1 wz->wz.cell? ⟨w.heap.size,3,none⟩=some (.slice (some ⟨g,o,none⟩) n cap)/\wz.cell? ⟨g,o+i,none⟩=some (.slice (some ⟨b,q,none⟩) N (c i))/\wz.cell? ⟨b,q+k,none⟩=some (.int .i64 m)):=gd λwz hz=>⟨(ab.o.Z hz (by simp)).X 3,L.o wz hz,by have:=HK.o wz hz k R;rw[<-HL.o,u]at this;exact this⟩;clear u ae ap a0;have be:(0:Int)<=(i:Int):=(by omega);have bf:(i:Int)<(n:Int):=(by omega);have bg:(0:Int)<=(k:Int):=(by omega);have bh:(k:Int)<(N:Int):=(by omega);go_wp2_with fail
   go_region_held3 (λw'=>w'.cell? ⟨w.heap.size,3,none⟩=some (.slice (some ⟨g,o,none⟩) n cap)/\w'.cell? ⟨g,o+i,none⟩=some (.slice (some ⟨b,q,none⟩) N (c i))/\w'.cell? ⟨b,q+k,none⟩=some (.int .i64 m))
    (first|(go_keep;done)|exact a5.o _ s)
    (first|(refine nQ (by rfl) (by rfl) ku (by rfl) (by rfl) (O.o.alloc _).drew ([af,au].map b8) 2 (by rfl) (by rfl) ((CL wr af au).Z ((zR [] _).drew) (by simp)) (ni _) (by have:=aS.o;omega) (by have:=aS.o;omega) ?_;intro v' F' w' X K;have s:gf [] w1 w':=((r.o.alloc _).drew).trans K.Z λx v=>.inr (M.o x v)))
   go_wp2_with fail
   go_roundg Z
   .refine⟨k+1,F',by go_num,by omega,gd ?_,gd ?_,gd ?_⟩
    .rw[aZ.o,<-zH,zM]
     exact X
    .exact s
    .intro x v
     rcases K.new x v with h|h
     .exact M.o x h
     .have:=((r.o.alloc (.cells #[.int .u8 af,.int .u8 au] 5)).drew).size;omega
   .omega
end Go.Proofs.YtnepiccbpokmiaaGreatDoor
