/- package move by its contracts: grid, checksum. -/
import Derived.Test.YtijpbkakncglgaaGreatDoorMg40
import Derived.Test.YtijpbkakncglgaaGreatDoorMg43
import Derived.Test.YtijpbkakncglgaaGreatDoorMg45
set_option linter.unusedVariables false
set_option linter.unusedSimpArgs false
set_option maxHeartbeats 4000000
set_option maxRecDepth 100000
namespace Go.Proofs.YtijpbkakncglgaaGreatDoor
open Go.RowKit
theorem mgrid_ok {p:PicD} (hok:p.Ok) (g o cap:Nat) (w:World) :
  Calls Tryz.prog 24 #[picV p g o cap] w fun e w'=>∃ v F,e=.returned v∧SqOwn w' v F (gridL p.W p.H 8)∧Chg [] w w'∧∀ x∈F,w.heap.size≤x:=by
 have htg:=fun w'=>tgrid_ok p.W p.H 8 w' hok.w0 hok.w1 hok.h0 hok.h1 (by decide) (by decide)
 unfold picV
 have HT:=hid htg
 clear htg
 go_enter Tryz.func24,Tryz.ntmps24
 go_wp2_with fail
 refine (HT.out _).mono ?_
 rintro e w2 ⟨v,F,rfl,hsq,ch2,hF⟩
 go_wp2
 go_ret
 refine ⟨v,F,rfl,hsq,((Chg.refl [] w).alloc _).trans_same ch2,fun x hx => ?_⟩
 have:=hF x hx
 rw [alloc_size] at this
 omega
section
variable {P:Program}
theorem step_append_s {w:World} {ops:Array Oper} {o:Oper} {a:Act} {K:Act→World→Prop} {Q:Exit→Act→World→Prop} {E0:Prop} (hgd:o.guard=none) {s x:Operand} {t:TypeId}
  (ho:o.op=.call { callee:=.builtin .append,args:=#[s,x],argTypes:=#[t,t] })
  {e:TypeId} {z:Value} {bytes:Nat} (E:Elem P t e z 1 bytes) (hzs:z.cells.size=1)
  {v:Value} {F:List Nat} {xs:List Value} (hs:a.eval s=v) (hown:Own w e v F xs) {A:Option Addr} {c:Nat} (news:List Value) (n:Nat) (hx:a.eval x=.slice A n c) (hnl:n=news.length) (hn:Cells (fun u=>u) w A news)
  (h1:∀ u∈news,u.oneCell'=true) (h63:xs.length+news.length≤9223372036854775807) (hbytes:(xs.length+news.length)*bytes≤140737488355328)
  (h:∀ v' F' w',Own w' e v' F' (xs++news)→Grow F F' w w'→K (a.put o.dst v') w'):if Region.wanted o (yielded ops a.tmps)=true then Oper.wp P o a w K Q else E0:=by
 subst hnl
 rw [if_pos (by simp [Region.wanted,hgd])]
 obtain ⟨v',F',w',hrun,h2,h3⟩:=run_append_s (P:=P) (ty:=o.type) E hzs hown (c:=c) news hn h1 h63 hbytes
 unfold Oper.wp execOp
 simp only [ho,resolve,invoke,builtin,Sem.run_bind,Sem.run_pure,Result.andThen_ok,List.map_toArray,List.map_cons,List.map_nil,hs,hx,hrun]
 exact h v' F' w' h2 h3
end
theorem Row.cells_b8 {w:World} {v:Value} {g:Nat} {l:List Nat} (h:Row w 5 v g (l.map b8)):∃ cap,v=.slice (some ⟨g,0,none⟩) l.length cap∧l.length≤cap∧cap≤9223372036854775807∧Cells b8 w (some ⟨g,0,none⟩) l:=by
 have hlt:=h.lt
 obtain ⟨cap,rfl,h2,h3,h4,h5⟩:=h.open_map
 exact ⟨cap,rfl,h2,h3,⟨fun _=>⟨g,0,rfl,hlt,fun i a ha=>by rw [Nat.zero_add];exact h4 i a ha⟩⟩⟩
theorem Cells.raw_b8 {w:World} {A:Option Addr} {l:List Nat} (h:Cells b8 w A l):Cells (fun u=>u) w A (l.map b8):=⟨fun h0=>by
 obtain ⟨b,o,e1,e2,e3⟩:=h.ex (by simpa using h0)
 refine ⟨b,o,e1,e2,fun i a ha => ?_⟩
 rw [List.getElem?_map] at ha
 obtain ⟨x,hx,rfl⟩:=Option.map_eq_some_iff.1 ha
 exact e3 i x hx⟩
theorem Row.cellsB {w:World} {g g' n c:Nat} {l:List Nat} (h:Row w 5 (.slice (some ⟨g',0,none⟩) n c) g (l.map b8)):Cells (fun u=>u) w (some ⟨g',0,none⟩) (l.map b8):=by
 obtain ⟨cap,e,_,_,hc⟩:=Row.cells_b8 h
 injection e with e _ _
 rw [e]
 exact hc.raw_b8
def sumL (p:PicD) (body:List Nat):List Nat:=big4 (crcN (body++big4 (picSum p)))
theorem sumL_len (p:PicD) (body:List Nat):(sumL p body).length=4:=rfl
theorem checksum_ok {w:World} {p:PicD} {g o:Nat} {B:Nat→Option Addr} {c:Nat→Nat} {G:List Nat} (cap:Nat) (h:PicAt w p g o B c G) (A:Option Addr) (capb:Nat) (body:List Nat) (hc:Cells b8 w A body) (hd:∀ d∈body,d<256) (h0:0<body.length) (hl:body.length≤1099511627000) :
  Calls Tryz.prog 30 #[picV p g o cap,.slice A body.length capb] w fun e w'=>∃ g' cap',e=.returned (.slice (some ⟨g',0,none⟩) 4 cap')∧Row w' 5 (.slice (some ⟨g',0,none⟩) 4 cap') g' ((sumL p body).map b8)∧Chg [] w w'∧w.heap.size≤g':=by
 have hcl:∀ w',Chg [] w w'→_:=fun w' hc'=>clone_b_ok w' A capb body (hc.same hc') h0 (by omega)
 have hsu:∀ w',Chg [] w w'→_:=fun w' hc'=>picSum_ok cap (h.same hc')
 have hbi:=fun w'=>big4_ok (picSum p) (picSum_lt h.ok) w'
 have hlt:∀ d∈body++big4 (picSum p),d<256:=fun d hd'=>by
  rcases List.mem_append.1 hd' with h1 | h1
  ·exact hd d h1
  ·exact big4_lt _ d h1
 have hcr:=crcN_lt hlt
 have hbi2:=fun w'=>big4_ok (crcN (body++big4 (picSum p))) hcr w'
 have h32:=fun w' A' cap' hc'=>thirtyTwo_ok w' A' cap' (body++big4 (picSum p)) hc' hlt (by rw [zC];simp [big4];omega)
 have hps:=picSum_lt h.ok
 have hfin:sumL p body=big4 (crcN (body++big4 (picSum p))):=rfl
 obtain ⟨ds,hds⟩:∃ ds,ds=body++big4 (picSum p):=⟨_,rfl⟩
 have hdl:ds.length=body.length+4:=by rw [hds,zC];rfl
 rw [←hds] at h32 hfin hbi2 hcr
 obtain ⟨S,hS⟩:∃ S,S=picSum p:=⟨_,rfl⟩
 obtain ⟨S2,hS2⟩:∃ S2,S2=crcN ds:=⟨_,rfl⟩
 rw [←hS] at hds hsu hbi hps
 rw [←hS2] at h32 hfin hbi2 hcr
 rw [hfin]
 obtain ⟨n,hn⟩:∃ n,n=body.length:=⟨_,rfl⟩
 rw [←hn] at hcl hl hdl ⊢
 obtain ⟨n4,hn4⟩:∃ n4,n4=ds.length:=⟨_,rfl⟩
 rw [←hn4] at h32 hdl
 unfold picV at hsu ⊢
 have hwS:IntKind.u64.wrap (S:Int)=(S:Int):=IntWalk.u64_in _ (by omega)
 have hwS2:IntKind.u64.wrap (S2:Int)=(S2:Int):=IntWalk.u64_in _ (by omega)
 have HDS:=hid hds
 have HN:=hid hn
 have HN4:=hid hn4
 have HDL:=hid hdl
 have HCL:=hid hcl
 have HSU:=hid hsu
 have HBI:=hid hbi
 have HBI2:=hid hbi2
 have H32:=hid h32
 have hb1:Blk (w.alloc (.cells #[.int .i64 p.W,.int .i64 p.H,.int .i64 p.d,.slice (some ⟨g,o,none⟩) p.P.length cap] 25)) w.heap.size 25 #[.int .i64 p.W,.int .i64 p.H,.int .i64 p.d,.slice (some ⟨g,o,none⟩) p.P.length cap]:=Blk.new w _ _
 obtain ⟨w1,hw1⟩:∃ w1,w1=w.alloc (.cells #[.int .i64 p.W,.int .i64 p.H,.int .i64 p.d,.slice (some ⟨g,o,none⟩) p.P.length cap] 25):=⟨_,rfl⟩
 rw [←hw1] at hb1
 have C1:Chg [] w w1:=by rw [hw1];exact (Chg.refl [] w).alloc _
 have D1:Chg [] w w1.drew:=C1.drew
 have HW1:=hid hw1
 have hkeep:∀ wz,Chg [] w1 wz→wz.cell? ⟨w.heap.size,0,none⟩=some (.int .i64 p.W)∧wz.cell? ⟨w.heap.size,1,none⟩=some (.int .i64 p.H)∧wz.cell? ⟨w.heap.size,2,none⟩=some (.int .i64 p.d)∧wz.cell? ⟨w.heap.size,3,none⟩=some (.slice (some ⟨g,o,none⟩) p.P.length cap):=fun wz hz =>
  ⟨(hb1.chg hz (by simp)).cell 0,(hb1.chg hz (by simp)).cell 1,(hb1.chg hz (by simp)).cell 2,(hb1.chg hz (by simp)).cell 3⟩
 have E1:Chg [] w1 w1.drew:=(Chg.refl [] w1).drew
 obtain ⟨k0,k1,k2,k3⟩:=hkeep w1 (Chg.refl _ _)
 have HK:=hid hkeep
 clear hcl hsu hbi hbi2 h32 hds hn hn4 hdl hlt hfin hw1 hb1 hkeep hS hS2 h hc hd h0
 go_enter Tryz.func30,Tryz.ntmps30
 go_wp2_with fail
 rw [←HW1.out]
 go_region_held3 (fun w'=>w'.cell? ⟨w.heap.size,0,none⟩=some (.int .i64 p.W)∧w'.cell? ⟨w.heap.size,1,none⟩=some (.int .i64 p.H)∧w'.cell? ⟨w.heap.size,2,none⟩=some (.int .i64 p.d)∧w'.cell? ⟨w.heap.size,3,none⟩=some (.slice (some ⟨g,o,none⟩) p.P.length cap))
  (first | (go_keep;done) | exact HK.out _ hk8 | exact HK.out _ (by first | exact E1.trans_same ch5 | exact E1.trans_same ch6 | exact (E1.trans_same ch5).trans_same ch6 | exact (E1.trans_same ch6).trans_same ch5 | exact (E1.trans_same ch6).trans_same ch7 | exact ((E1.trans_same ch5).trans_same ch6).trans_same ch7 | exact ((E1.trans_same ch6).trans_same ch5).trans_same ch7 | exact ((E1.trans_same ch6).trans_same ch7).trans_same ch5) | trivial)
  (first
   | (go_at_call 54;refine (HCL.out _ (by first | exact D1 | exact D1.trans_same ch6 | exact (D1.trans_same ch6).trans_same ch7)).mono ?_;rintro e w5 ⟨v5,g5,rfl,hrow5,ch5,hg5⟩)
   | (go_at_call 56;refine (HSU.out _ (by first | exact D1 | exact D1.trans_same ch5)).mono ?_;rintro e w6 ⟨rfl,ch6⟩)
   | (go_at_call 55;refine (HBI.out _).mono ?_;rintro e w7 ⟨g7,c7,rfl,hrow7,ch7,hg7⟩)
   | (refine step_append_s (by rfl) (by rfl) u8_elem (by rfl) (by rfl) (((hrow5.chg ch6 (by simp)).chg ch7 (by simp)).toOwn) ((big4 S).map b8) 4 (by rfl) (by rfl) (Row.cellsB hrow7) (b8_one _) (by rw [zE,←HN.out];simp [big4];omega) (by rw [zE,←HN.out];simp [big4];omega) ?_;intro v8 F8 w8 hown8 hgr8;have hk8:Chg [] w1 w8 := (((E1.trans_same ch5).trans_same ch6).trans_same ch7).trans hgr8.chg (fun x hx => .inr (by simp at hx;have := E1.size;have := D1.size;have := ch6.size;have := ch7.size;have := ch5.size;omega));have hch8:Hid (Chg [] w w8) := hid ((((D1.trans_same ch5).trans_same ch6).trans_same ch7).trans hgr8.chg (fun x hx => .inr (by simp at hx;have := E1.size;have := D1.size;have := ch6.size;have := ch7.size;have := ch5.size;omega))))
   | (refine step_append_s (by rfl) (by rfl) u8_elem (by rfl) (by rfl) ((hrow5.chg ch7 (by simp)).toOwn) ((big4 S).map b8) 4 (by rfl) (by rfl) (Row.cellsB hrow7) (b8_one _) (by rw [zE,←HN.out];simp [big4];omega) (by rw [zE,←HN.out];simp [big4];omega) ?_;intro v8 F8 w8 hown8 hgr8;have hk8:Chg [] w1 w8 := (((E1.trans_same ch6).trans_same ch5).trans_same ch7).trans hgr8.chg (fun x hx => .inr (by simp at hx;have := E1.size;have := D1.size;have := ch6.size;have := ch7.size;have := ch5.size;omega));have hch8:Hid (Chg [] w w8) := hid ((((D1.trans_same ch6).trans_same ch5).trans_same ch7).trans hgr8.chg (fun x hx => .inr (by simp at hx;have := E1.size;have := D1.size;have := ch6.size;have := ch7.size;have := ch5.size;omega))))
   | (refine step_append_s (by rfl) (by rfl) u8_elem (by rfl) (by rfl) (hrow5.toOwn) ((big4 S).map b8) 4 (by rfl) (by rfl) (Row.cellsB (hrow7.chg ch5 (by simp))) (b8_one _) (by rw [zE,←HN.out];simp [big4];omega) (by rw [zE,←HN.out];simp [big4];omega) ?_;intro v8 F8 w8 hown8 hgr8;have hk8:Chg [] w1 w8 := (((E1.trans_same ch6).trans_same ch7).trans_same ch5).trans hgr8.chg (fun x hx => .inr (by simp at hx;have := E1.size;have := D1.size;have := ch6.size;have := ch7.size;have := ch5.size;omega));have hch8:Hid (Chg [] w w8) := hid ((((D1.trans_same ch6).trans_same ch7).trans_same ch5).trans hgr8.chg (fun x hx => .inr (by simp at hx;have := E1.size;have := D1.size;have := ch6.size;have := ch7.size;have := ch5.size;omega)))))
 all_goals
  have ho:=hown8
  rw [←List.map_append,←HDS.out] at ho
  obtain ⟨A8,c8,rfl,h81,h82,hc8⟩:=ho.open_map
  rw [←HN4.out] at h81 ⊢
  have HC8:=hid hc8
  clear hown8 ho hc8 hgr8 hk8 hrow5 hrow7 ch5 ch6 ch7 hg5 hg7 k0 k1 k2 k3 E1 D1 C1
  go_wp2_with fail
  refine (H32.out _ A8 c8 HC8.out).mono ?_
  rintro e w' ⟨rfl,rfl⟩
  go_wp2_with fail
  refine (HBI2.out _).mono ?_
  rintro e w9 ⟨g9,c9,rfl,hrow9,ch9,hg9⟩
  go_wp2
  go_ret
  exact ⟨g9,c9,rfl,hrow9,hch8.out.trans_same ch9,by have:=hch8.out.size;omega⟩
def diffsF (p q:PicD) (s:Sq) (m:Int × Int) (i:Nat):List (List Int):=(List.range i).map fun k=>diffB p q k s m
theorem diffsF_succ (p q:PicD) (s:Sq) (m:Int × Int) (i:Nat):diffsF p q s m (i+1)=diffsF p q s m i++[diffB p q i s m]:=by simp [diffsF,List.range_succ]
def sameTo (p q:PicD) (s:Sq) (m:Int × Int) (i:Nat):Bool:=(List.range i).all fun k=>decide (oldB q k s (0,0)=oldB p k s m)
theorem sameTo_succ (p q:PicD) (s:Sq) (m:Int × Int) (i:Nat):sameTo p q s m (i+1)=(sameTo p q s m i&&decide (oldB q i s (0,0)=oldB p i s m)):=by simp [sameTo,List.range_succ]
structure DfSt (w0:World) (p q:PicD) (s:Sq) (m:Int × Int) (n gD:Nat) (w:World) (i:Nat) (xs:List Value) (gs:List Nat):Prop where
 row:Row w 22 (.slice (some ⟨gD,0,none⟩) n n) gD (xs++List.replicate (n-i) (.slice none 0 0))
 pl:PlRows w xs (diffsF p q s m i) gs
 dg:gD∉gs
 new:∀ x∈gD::gs,w0.heap.size≤x
 chg:Chg [] w0 w
section
variable {w0 w wa:World} {p q:PicD} {s:Sq} {m:Int × Int} {n gD i:Nat} {xs:List Value} {gs:List Nat}
theorem DfSt.len (h:DfSt w0 p q s m n gD w i xs gs):xs.length=i:=by rw [h.pl.lx];simp [diffsF]
theorem DfSt.same (h:DfSt w0 p q s m n gD w i xs gs) (hc:Chg [] w wa):DfSt w0 p q s m n gD wa i xs gs:=⟨h.row.chg hc (by simp),h.pl.same hc,h.dg,h.new,h.chg.trans_same hc⟩
theorem DfSt.next (h:DfSt w0 p q s m n gD w i xs gs) (hi:i<n) {g5:Nat} {u:Value} (ca:Chg [g5] w wa) (hg5:w.heap.size≤g5) (r:Row wa 3 u g5 ((diffB p q i s m).map vi)) :
  DfSt w0 p q s m n gD (wa.setCell ⟨gD,i,none⟩ u) (i+1) (xs++[u]) (gs++[g5]):=by
 have hl:=h.len
 have h5D:g5≠gD:=fun e=>by have:=h.row.lt;omega
 have h5g:g5∉gs:=fun hm=>by have:=h.pl.lt g5 hm;omega
 have hD5:gD∉[g5]:=by simpa using h5D.symm
 have hc0:Chg [gD] wa (wa.setCell ⟨gD,i,none⟩ u):=(Chg.refl [gD] wa).setCell (p:=⟨gD,i,none⟩) (.inl (by simp)) u
 refine ⟨?_,?_,?_,?_,?_⟩
 ·have h1:=(h.row.chg ca hD5).set_ (i:=i) (by simp [hl];omega) u
  have e:(xs++List.replicate (n-i) (Value.slice none 0 0)).set i u=(xs++[u])++List.replicate (n-(i+1)) (Value.slice none 0 0):=by
   rw [List.set_append_right _ _ (by omega),hl,Nat.sub_self]
   rw [show n-i=(n-(i+1))+1 by omega,List.replicate_succ]
   simp
  rw [e] at h1
  exact h1
 ·rw [diffsF_succ]
  refine ((h.pl.chg ca ?_).snoc r h5g).chg hc0 ?_
  ·intro x hx hm
   simp at hm
   exact h5g (hm ▸ hx)
  ·intro x hx hm
   simp at hm
   subst hm
   rcases List.mem_append.1 hx with hx | hx
   ·exact h.dg hx
   ·simp at hx;exact h5D hx.symm
 ·intro hm
  rcases List.mem_append.1 hm with hx | hx
  ·exact h.dg hx
  ·simp at hx;exact h5D hx.symm
 ·intro x hx
  have:=h.chg.size
  simp only [List.mem_cons,List.mem_append,List.not_mem_nil,or_false] at hx
  rcases hx with rfl | hx | rfl
  ·exact h.new x (by simp)
  ·exact h.new x (by simp [hx])
  ·omega
 ·refine (h.chg.trans ca fun x hx => .inr ?_).setCell (.inr (h.new gD (by simp))) u
  have:=h.chg.size
  simp at hx
  omega
end
def mixD (df now:List Int) (k:Nat):List Int:=df.take k++now.drop k
theorem mixD_len {df now:List Int} (h:df.length=now.length) (k:Nat):(mixD df now k).length=now.length:=by simp [mixD];omega
theorem mixD_get {df now:List Int} {k:Nat} (h:df.length=now.length) (hk:k<now.length):(mixD df now k)[k]?=some (now.getD k 0):=by
 unfold mixD
 have hl:(df.take k).length=k:=by rw [List.length_take];omega
 rw [List.getElem?_append_right (by omega),hl,Nat.sub_self,List.getElem?_drop,Nat.add_zero,zD,zF hk]
 rfl
theorem mixD_set {df now:List Int} {k:Nat} (h:df.length=now.length) (hk:k<now.length) (v:Int) (hv:df[k]?=some v):(mixD df now k).set k v=mixD df now (k+1):=by
 unfold mixD
 have hl:(df.take k).length=k:=by rw [List.length_take];omega
 have hkd:k<df.length:=by omega
 rw [List.set_append_right _ _ (by omega),hl,Nat.sub_self,List.drop_eq_getElem_cons hk,List.set_cons_zero,List.take_succ_eq_append_getElem hkd,List.append_assoc]
 rw [zF hkd] at hv
 injection hv with hv
 rw [hv]
 rfl
theorem diffB_get {p q:PicD} {i:Nat} {s:Sq} {m:Int × Int} {k:Nat} (hk:k<s.h*s.w):(diffB p q i s m)[k]?=some (wrapI ((oldB q i s (0,0)).getD k 0-(oldB p i s m).getD k 0) q.d):=by
 unfold diffB diffW
 rw [List.getElem?_zipWith]
 have h1:k<(oldB q i s (0,0)).length:=by rw [oldB_len];exact hk
 have h2:k<(oldB p i s m).length:=by rw [oldB_len];exact hk
 rw [zF h1,zF h2,zD,zD,zF h1,zF h2]
 rfl
def PutBlockPost (w:World) (b:Nat) (F bs ts:List Nat) (e:Ending) (w':World):Prop:=e=.returned (.tuple #[])∧∃ F',IsWr w' b F' (bs++ts)∧Grow F F' w w'
theorem putBlock_ok {w:World} {p q:PicD} {g o:Nat} {B:Nat→Option Addr} {c:Nat→Nat} {G:List Nat} (cap:Nat) (h:PicAt w p g o B c G)
  {g' o':Nat} {B':Nat→Option Addr} {c':Nat→Nat} {G':List Nat} (cap':Nat) (h':PicAt w q g' o' B' c' G') (ha:AlikeD p q) (s:Sq) (m:Int × Int) (hs:SqIn p.W p.H s) (hm:mvOk p.W p.H s m)
  (sw0:1≤s.w) (sw1:s.w≤8) (sh0:1≤s.h) (sh1:s.h≤8) (b:Nat) (F bs:List Nat) (hw:IsWr w b F bs) (hp:Pts w) (h0F:0∉F) (hbs:bs.length<17179869184) :
  Calls Tryz.prog 27 #[.pointer (some ⟨b,0,none⟩),picV p g o cap,picV q g' o' cap',sqV s,.int .i64 m.1,.int .i64 m.2] w (PutBlockPost w b F bs (blockBits p q s m)):=by
 have hok:=h.ok
 have hok':=h'.ok
 have hx4:s.x≤64:=by have:=hs.x;have:=hok.w1;omega
 have hy4:s.y≤64:=by have:=hs.y;have:=hok.h1;omega
 have hmf:=hm.fit
 have hpo:∀ w',Chg [] w w'→∀ i,i<q.P.length→_:=fun w' hc i hi=>part_ok cap (h.same hc) i (by rw [ha.n];exact hi) s m hmf.x0 hmf.x1 hmf.y0 hmf.y1 hx4 hy4
 have hf0:=hs.fit
 have hpn:∀ w',Chg [] w w'→∀ i,i<q.P.length→_:=fun w' hc i hi=>part_ok cap' (h'.same hc) i hi s (0,0) hf0.x0 (by rw [←ha.W];exact hf0.x1) hf0.y0 (by rw [←ha.H];exact hf0.y1) hx4 hy4
 obtain ⟨n,hn⟩:∃ n,n=q.P.length:=⟨_,rfl⟩
 obtain ⟨M,hM⟩:∃ M,M=s.h*s.w:=⟨_,rfl⟩
 have hM4:M≤64:=by rw [hM];exact Nat.mul_le_mul sh1 sw1
 have hM0:0<M:=by rw [hM];exact Nat.mul_pos sh0 sw0
 have hn4:n≤4:=by rw [hn];exact hok'.n1
 have hlen1:∀ i,(oldB q i s (0,0)).length=M:=fun i=>by rw [oldB_len,hM]
 have hlen2:∀ i,(oldB p i s m).length=M:=fun i=>by rw [oldB_len,hM]
 have hlen3:∀ i,(diffB p q i s m).length=M:=fun i=>by rw [diffB_len,hM,Nat.mul_comm]
 have hsm1:∀ i,i<q.P.length→SmpOk q.d (oldB q i s (0,0)):=fun i hi=>oldB_smp h'.ok hi s (0,0)
 have hsm2:∀ i,i<q.P.length→SmpOk q.d (oldB p i s m):=fun i hi=>by rw [←ha.d];exact oldB_smp h.ok (by rw [ha.n];exact hi) s m
 have hsm3:∀ i,SmpOk q.d (diffB p q i s m):=fun i=>diffW_smp _ _ _
 have hdg:∀ i k,k<M→_:=fun i k hk=>diffB_get (p:=p) (q:=q) (i:=i) (s:=s) (m:=m) (k:=k) (by rw [←hM];exact hk)
 have hwp:∀ v w,_:=fun v w=>wrap_ok v q.d w hok'.d0 hok'.d1
 have hd0:=hok'.d0
 have hd1:=hok'.d1
 obtain ⟨d,hd⟩:∃ d,d=q.d:=⟨_,rfl⟩
 rw [←hd] at hsm1 hsm2 hsm3 hwp hd0 hd1
 rw [←hn] at hpo hpn hsm1 hsm2
 unfold picV sqV at hpo hpn ⊢
 rw [←hd] at hpn ⊢
 rw [←hn] at hpn ⊢
 obtain ⟨w1,hw1⟩:∃ w1,w1=(((w.alloc (.cells #[.int .i64 p.W,.int .i64 p.H,.int .i64 p.d,.slice (some ⟨g,o,none⟩) p.P.length cap] 25)).alloc (.cells #[.int .i64 q.W,.int .i64 q.H,.int .i64 d,.slice (some ⟨g',o',none⟩) n cap'] 25)).alloc (.cells #[.int .i64 s.x,.int .i64 s.y,.int .i64 s.w,.int .i64 s.h] 45)):=⟨_,rfl⟩
 have hb1:Blk w1 w.heap.size 25 #[.int .i64 p.W,.int .i64 p.H,.int .i64 p.d,.slice (some ⟨g,o,none⟩) p.P.length cap]:=by rw [hw1];exact ((Blk.new w _ _).alloc _).alloc _
 have hb2:Blk w1 (w.heap.size+1) 25 #[.int .i64 q.W,.int .i64 q.H,.int .i64 d,.slice (some ⟨g',o',none⟩) n cap']:=by rw [hw1];exact (Blk.new2 w _ _ _).alloc _
 have hb3:Blk w1 (w.heap.size+1+1) 45 #[.int .i64 s.x,.int .i64 s.y,.int .i64 s.w,.int .i64 s.h]:=by rw [hw1];exact Blk.new3 w _ _ _ _
 have HC1:Hid (Chg [] w w1):=hid (by rw [hw1];exact (((Chg.refl [] w).alloc _).alloc _).alloc _)
 have hz1:w1.heap.size=w.heap.size+1+1+1:=by rw [hw1,alloc_size,alloc_size,alloc_size]
 have hcel:∀ (E:List Nat) wr,Chg E w1 wr→w.heap.size∉E→w.heap.size+1∉E→w.heap.size+1+1∉E→(wr.cell? ⟨w.heap.size,0,none⟩=some (.int .i64 p.W)∧wr.cell? ⟨w.heap.size,1,none⟩=some (.int .i64 p.H)∧wr.cell? ⟨w.heap.size,2,none⟩=some (.int .i64 p.d)∧wr.cell? ⟨w.heap.size,3,none⟩=some (.slice (some ⟨g,o,none⟩) p.P.length cap)) ∧
   (wr.cell? ⟨w.heap.size+1,0,none⟩=some (.int .i64 q.W)∧wr.cell? ⟨w.heap.size+1,1,none⟩=some (.int .i64 q.H)∧wr.cell? ⟨w.heap.size+1,2,none⟩=some (.int .i64 d)∧wr.cell? ⟨w.heap.size+1,3,none⟩=some (.slice (some ⟨g',o',none⟩) n cap')) ∧
   (wr.cell? ⟨w.heap.size+1+1,0,none⟩=some (.int .i64 s.x)∧wr.cell? ⟨w.heap.size+1+1,1,none⟩=some (.int .i64 s.y)∧wr.cell? ⟨w.heap.size+1+1,2,none⟩=some (.int .i64 s.w)∧wr.cell? ⟨w.heap.size+1+1,3,none⟩=some (.int .i64 s.h)):=fun E wr hc e1 e2 e3 =>
  ⟨⟨(hb1.chg hc e1).cell 0,(hb1.chg hc e1).cell 1,(hb1.chg hc e1).cell 2,(hb1.chg hc e1).cell 3⟩,⟨(hb2.chg hc e2).cell 0,(hb2.chg hc e2).cell 1,(hb2.chg hc e2).cell 2,(hb2.chg hc e2).cell 3⟩,⟨(hb3.chg hc e3).cell 0,(hb3.chg hc e3).cell 1,(hb3.chg hc e3).cell 2,(hb3.chg hc e3).cell 3⟩⟩
 have hmk:=run_make1 (P:=Tryz.prog) rows_el rfl .i64 .i64 n (by omega) (by omega)
 have hst:DfSt w1 p q s m n w1.heap.size (w1.alloc (.cells (List.replicate n (Value.slice none 0 0)).toArray 22)) 0 [] []:=by
  refine ⟨?_,PlRows.nil _,by simp,by simp,(Chg.refl [] w1).alloc _⟩
  have:=Row.made w1 22 (List.replicate n (.slice none 0 0)) (by simp [maxLen];omega)
  simpa using this
 have hwr1:=hw.same HC1.out
 have hlt:=hw.lt
 have HWR:=hid hwr1
 have HLT:=hid hlt
 have HP:=hid hp
 have HCEL:=hid hcel
 have HST:=hid hst
 have HW1:=hid hw1
 have HZ:=hid hz1
 have HPO:=hid hpo
 have HPN:=hid hpn
 have HL1:=hid hlen1
 have HL2:=hid hlen2
 have HL3:=hid hlen3
 have HS1:=hid hsm1
 have HS2:=hid hsm2
 have HS3:=hid hsm3
 have HDG:=hid hdg
 have HWP:=hid hwp
 have HMO:=hid hm
 have HND:Hid (n=q.P.length∧d=q.d∧M=s.h*s.w):=hid ⟨hn,hd,hM⟩
 obtain ⟨hpw0,hpw1⟩:=pow_d hd0 hd1
 obtain ⟨⟨a0,a1,a2,a3⟩,⟨b0,b1,b2,b3⟩,⟨s0,s1,s2,s3⟩⟩:=hcel [] w1 (Chg.refl _ _) (by simp) (by simp) (by simp)
 clear hpo hpn hlen1 hlen2 hlen3 hsm1 hsm2 hsm3 hdg hwp hn hd hM hw1 hb1 hb2 hb3 hcel hst hwr1 hlt hp hw hok hok' hmf hf0 h h' ha hs hm hx4 hy4 hz1
 go_enter Tryz.func27,Tryz.ntmps27
 go_wp2_with fail
 obtain ⟨gD,hgD⟩:∃ gD,gD=w1.heap.size:=⟨_,rfl⟩
 obtain ⟨w2,hw2⟩:∃ w2,w2=w1.alloc (.cells (Array.replicate n (Value.slice none 0 0)) 22):=⟨_,rfl⟩
 have HGZ:Hid (gD=w.heap.size+1+1+1):=hid (by rw [hgD,HZ.out])
 have hst2:DfSt w1 p q s m n gD w2 0 [] []:=by
  have:=HST.out
  rw [List.toArray_replicate] at this
  rw [hgD,hw2]
  exact this
 have HST2:=hid hst2
 have HGD:=hid hgD
 rw [←HW1.out,←hw2,←HGZ.out]
 clear hgD hst2 hw2
 go_loopg [13,14,15,16,17,26] n (fun j v13 v14 v15 v16 v17 v26 wr=>∃ (i:Nat) (xs:List Value) (gs:List Nat),v26=.int .i64 i∧i+j=n∧v13=.bool (sameTo p q s m i)∧Hid (DfSt w1 p q s m n gD wr i xs gs))
 case atStart=>exact ⟨0,[],[],rfl,by omega,rfl,HST2⟩
 case round =>
  obtain ⟨i,xs,gs,rfl,hij,rfl,HS⟩:=hrel
  rcases gk with _ | j
  ·obtain rfl:i=n:=by omega
   have t1:decide (i<i)=false:=by simp
   have hsb:sameTo p q s m i=sameB p q s m:=by rw [HND.out.1];rfl
   obtain ⟨z,hz⟩:∃ z,z=sameTo p q s m i:=⟨_,rfl⟩
   rw [←hz] at hsb ⊢
   have hok:=HMO.out
   obtain ⟨m1,m2,m3,m4,_⟩:=hok
   obtain ⟨e1,he1⟩:∃ e1:Nat,m.1+4=(e1:Int):=⟨(m.1+4).toNat,by omega⟩
   obtain ⟨e2,he2⟩:∃ e2:Nat,m.2+4=(e2:Int):=⟨(m.2+4).toNat,by omega⟩
   have e18:e1≤8:=by omega
   have e28:e2≤8:=by omega
   have hvec:vecBits m=bitsOf e1 4++bitsOf e2 4:=by
    unfold vecBits
    rw [he1,he2]
    rfl
   have u1:IntKind.u64.wrap (e1:Int)=(e1:Int):=IntWalk.u64_in _ (by omega)
   have u2:IntKind.u64.wrap (e2:Int)=(e2:Int):=IntWalk.u64_in _ (by omega)
   have hch0:Chg [] w wr:=HC1.out.trans_same HS.out.chg
   have hwr:=HWR.out.same HS.out.chg
   have hbk:blockBits p q s m=if z=true then (if m=(0,0) then bitsOf 0 2 else bitsOf 1 2++vecBits m) else bitsOf 2 2++(vecBits m++changeBits p q s m q.P.length):=by rw [hsb];rfl
   have hcl:=fun k=>changeBits_len p q (s:=s) m sw0 sh0 sw1 sh1 (by rw [←HND.out.2.1];exact hd0) (by rw [←HND.out.2.1];exact hd1) k
   have HBK:=hid hbk
   have HVEC:=hid hvec
   have HCH0:=hid hch0
   have HCLN:=hid hcl
   have hzero:z=true→m.1=0→m.2=0→blockBits p q s m=bitsOf 0 2:=fun a b c=>by rw [hbk,if_pos a,if_pos (Prod.ext b c)]
   have hsame:z=true→¬ (m.1=0∧m.2=0)→blockBits p q s m=bitsOf 1 2++vecBits m:=fun a b=>by rw [hbk,if_pos a,if_neg (fun e=>b (by rw [e];exact ⟨rfl,rfl⟩))]
   have hdiff:z=false→blockBits p q s m=bitsOf 2 2++(vecBits m++changeBits p q s m q.P.length):=fun a=>by rw [hbk,if_neg (by rw [a];simp)]
   have HZERO:=hid hzero
   have HSAME:=hid hsame
   have HDIFF:=hid hdiff
   clear hbk hvec hch0 hcl hzero hsame hdiff hz hsb m1 m2 m3 m4
   cases z with
   | true =>
    by_cases c1:m.1=0∧m.2=0
    ·have hbb:=HZERO.out rfl c1.1 c1.2
     have tm1:(m.1==0)=true:=by simpa using c1.1
     have tm2:(m.2==0)=true:=by simpa using c1.2
     have hput:=wput_ok wr b F bs 0 2 hwr (by decide) (by decide) (by omega)
     have HBB:=hid hbb
     clear c1 hwr hbb he1 he2
     go_wp2_with fail
     refine hput.mono ?_
     rintro e w3 ⟨rfl,F3,hw3,hg3⟩
     go_wp2_with fail
     refine bodyPost_ret (results_none rfl _ _ _) rfl ?_
     exact ⟨rfl,F3,by rw [HBB.out];exact hw3,Grow.pre HCH0.out hg3⟩
    ·have hbb:=HSAME.out rfl c1
     have hput:=wput_ok wr b F bs 1 2 hwr (by decide) (by decide) (by omega)
     have HBB:=hid hbb
     have tall:(m.1==0)=false∨((m.1==0)=true∧(m.2==0)=false):=by
      by_cases q1:m.1=0
      ·right
       exact ⟨by simpa using q1,by simpa using fun q2=>c1 ⟨q1,q2⟩⟩
      ·left;simpa using q1
     clear c1 hwr hbb
     rcases tall with tm1 | ⟨tm1,tm2⟩
     all_goals
      go_wp2_with fail
      refine hput.mono ?_
      rintro e w3 ⟨rfl,F3,hw3,hg3⟩
      have hp2:=wput_ok w3 b F3 _ e1 4 hw3 (by decide) (by omega) (by rw [zC,bitsOf_len];omega)
      go_wp2_with fail
      refine hp2.mono ?_
      rintro e w4 ⟨rfl,F4,hw4,hg4⟩
      have hp3:=wput_ok w4 b F4 _ e2 4 hw4 (by decide) (by omega) (by rw [zC,zC,bitsOf_len,bitsOf_len];omega)
      clear hp2 hput
      go_wp2_with fail
      refine hp3.mono ?_
      rintro e w5 ⟨rfl,F5,hw5,hg5⟩
      clear hp3
      go_wp2_with fail
      refine bodyPost_ret (results_none rfl _ _ _) rfl ?_
      exact ⟨rfl,F5,by rw [HBB.out,HVEC.out];simpa only [List.append_assoc] using hw5,Grow.pre HCH0.out ((hg3.trans hg4).trans hg5)⟩
   | false =>
    have hbb:=HDIFF.out rfl
    have hput:=wput_ok wr b F bs 2 2 hwr (by decide) (by decide) (by omega)
    have HBB:=hid hbb
    have hgDF:gD∉F:=fun hm=>by have:=HLT.out gD hm;have:=HGZ.out;omega
    have hrows:∀ k,k<i→∃ gk ck,wr.cell? ⟨gD,k,none⟩=some (.slice (some ⟨gk,0,none⟩) M ck)∧Row wr 3 (.slice (some ⟨gk,0,none⟩) M ck) gk ((diffB p q k s m).map vi)∧gk∉F:=by
     intro k hk
     have hP:(diffsF p q s m i)[k]?=some (diffB p q k s m):=by unfold diffsF;rw [List.getElem?_map,List.getElem?_range hk];rfl
     obtain ⟨u,gk,h1,h2,h3⟩:=HS.out.pl.row k _ hP
     obtain ⟨ck,rfl,_⟩:=h3.open_map
     rw [HL3.out k] at h1 h3
     obtain ⟨_,-,-,-,hce,-⟩:=HS.out.row.open_
     have hkx:k<xs.length:=by rw [HS.out.len];exact hk
     refine ⟨gk,ck,?_,h3,fun hm => ?_⟩
     ·rw [hce k (by rw [zC];omega),List.getElem?_append_left hkx,h1]
     ·have h4:=HLT.out gk hm
      have h5:=HS.out.new gk (List.mem_cons_of_mem _ (List.mem_of_getElem? h2))
      have h6:=HZ.out
      omega
    have HROWS:=hid hrows
    have HGDF:=hid hgDF
    have hgDl:=HS.out.row.lt
    have HGDL:=hid hgDl
    have h0w:0<w.heap.size:=HP.out.lt
    have H0:=hid h0w
    have HSC:=hid HS.out.chg
    obtain ⟨wr9,rfl⟩:∃ wr9,wr9=wr:=⟨_,rfl⟩
    clear hwr hbb hrows hgDF hgDl h0w
    go_wp2_with fail
    refine hput.mono ?_
    rintro e w3 ⟨rfl,F3,hw3,hg3⟩
    have hp2:=wput_ok w3 b F3 _ e1 4 hw3 (by decide) (by omega) (by rw [zC,bitsOf_len];omega)
    go_wp2_with fail
    refine hp2.mono ?_
    rintro e w4 ⟨rfl,F4,hw4,hg4⟩
    have hp3:=wput_ok w4 b F4 _ e2 4 hw4 (by decide) (by omega) (by rw [zC,zC,bitsOf_len,bitsOf_len];omega)
    clear hp2 hput
    go_wp2_with fail
    refine hp3.mono ?_
    rintro e w5 ⟨rfl,F5,hw5,hg5⟩
    have HW5:Hid (IsWr w5 b F5 (bs++(bitsOf 2 2++(vecBits m++changeBits p q s m 0)))):=hid (by
     have e0:changeBits p q s m 0=[]:=rfl
     rw [HVEC.out,e0]
     simpa only [List.append_assoc,List.append_nil] using hw5)
    have HG5:=hid ((hg3.trans hg4).trans hg5)
    clear hp3 hw3 hw4 hw5 hg3 hg4 hg5
    go_wp2_with fail
    go_loopg [19,102] i (fun j2 v19 v102 wr3=>∃ (k:Nat) (F6:List Nat),v102=.int .i64 k∧k+j2=i∧Hid (IsWr wr3 b F6 (bs++(bitsOf 2 2++(vecBits m++changeBits p q s m k))))∧Hid (Grow F F6 wr9 wr3))
    case atStart=>exact ⟨0,F5,rfl,by omega,HW5,HG5⟩
    case round =>
     obtain ⟨k,F6,rfl,hkj,HWK,HGK⟩:=hrel
     rcases gk with _ | j2
     ·obtain rfl:k=i:=by omega
      have t2:decide (k<k)=false:=by simp
      go_wp2_with fail
      refine bodyPost_ret (results_none rfl _ _ _) rfl ?_
      refine ⟨rfl,F6,?_,Grow.pre HCH0.out HGK.out⟩
      rw [HBB.out,←HND.out.1]
      exact HWK.out
     ·have hk:k<i:=by omega
      have t2:decide (k<i)=true:=zB hk
      obtain ⟨gk,ck,hcD0,hrk0,hgkF⟩:=HROWS.out k hk
      have hgkl:=hrk0.lt
      have hcD:wr.cell? ⟨gD,k,none⟩=some (.slice (some ⟨gk,0,none⟩) M ck):=(World.cell?_of_block (w:=wr9) (HGK.out.chg.block gD HGDL.out HGDF.out)).trans hcD0
      have hrk:=hrk0.chg HGK.out.chg hgkF
      have hgk6:gk∉F6:=HGK.out.out hgkl hgkF
      obtain ⟨l,hl⟩:∃ l,l=diffB p q k s m:=⟨_,rfl⟩
      have hll:=HL3.out k
      have hls:=HS3.out k
      rw [←hl] at hll hls hrk
      have hcells:Cells vi wr (some ⟨gk,0,none⟩) l:=by
       have hlt:=hrk.lt
       obtain ⟨_,_,_,_,hce,_⟩:=hrk.open_map
       exact ⟨fun _=>⟨gk,0,rfl,hlt,fun a x hx=>by rw [Nat.zero_add];exact hce a x hx⟩⟩
      have htile:Tile wr l (some ⟨gk,0,none⟩) s.w s.h d:=⟨sw0,by omega,sh0,by omega,hd0,hd1,by rw [hll,HND.out.2.2,Nat.mul_comm],hls,hcells⟩
      have hpt:=(HP.out.same HCH0.out).chg HGK.out.chg h0F
      have h06:0∉F6:=HGK.out.out (Nat.lt_of_lt_of_le H0.out HCH0.out.size) h0F
      have hcl:=HCLN.out k
      have hput:=tput_ok ck htile hpt b F6 _ HWK.out (apt_block hgk6) h06 (by rw [zC,zC,zC,bitsOf_len,vecBits_len];omega)
      rw [hll] at hput
      unfold PutPost at hput
      have hnx:(bs++(bitsOf 2 2++(vecBits m++changeBits p q s m k)))++tileBits (bestKind l s.w s.h d) l s.w s.h d=bs++(bitsOf 2 2++(vecBits m++changeBits p q s m (k+1))):=by
       rw [changeBits_succ,hl,HND.out.2.1]
       simp only [List.append_assoc,tileBest]
      rw [hnx] at hput
      have hcz:Chg F w1 wr:=(HSC.out.mono (by simp)).trans HGK.out.chg (fun x hx => .inl hx)
      obtain ⟨-,⟨-,-,b2,-⟩,⟨-,-,s2,s3⟩⟩:=HCEL.out F wr hcz (fun hm=>by have:=HLT.out _ hm;omega) (fun hm=>by have:=HLT.out _ hm;omega) (fun hm=>by have:=HLT.out _ hm;omega)
      have HPUT:=hid hput
      clear hput hnx hcz hpt htile hcells hrk hrk0 hcD0 hll hls hl hcl hgk6 hgkF hgkl h06
      go_wp2_with fail
      refine HPUT.out.mono ?_
      rintro e w7 ⟨rfl,F7,hw7,hg7⟩
      go_wp2_with fail
      go_roundg j2
      case measure=>omega
      case rel=>exact ⟨k+1,F7,by go_num,by omega,hid hw7,hid (HGK.out.trans hg7)⟩
  ·have hi:i<n:=by omega
   have t1:decide (i<n)=true:=zB hi
   obtain ⟨wr0,rfl⟩:∃ wr0,wr0=wr:=⟨_,rfl⟩
   obtain ⟨⟨a0,a1,a2,a3⟩,⟨b0,b1,b2,b3⟩,⟨s0,s1,s2,s3⟩⟩:=HCEL.out [] wr0 HS.out.chg (by simp) (by simp) (by simp)
   have hp1:=HPO.out wr0 (HC1.out.trans_same HS.out.chg) i hi
   obtain ⟨z,hz⟩:∃ z,z=sameTo p q s m i:=⟨_,rfl⟩
   rw [←hz]
   have HZZ:=hid hz
   clear hz
   go_wp2_with fail
   refine hp1.mono ?_
   rintro e w4 ⟨v4,F4,rfl,own4,ch4,hF4⟩
   have HCH4:=hid (HS.out.chg.trans_same ch4)
   have hp2:=HPN.out w4 (HC1.out.trans_same HCH4.out) i hi
   clear hp1 a0 a1 a2 a3 b0 b1 b2 b3 s0 s1 s2 s3
   obtain ⟨⟨a0,a1,a2,a3⟩,⟨b0,b1,b2,b3⟩,⟨s0,s1,s2,s3⟩⟩:=HCEL.out [] w4 HCH4.out (by simp) (by simp) (by simp)
   go_wp2_with fail
   refine hp2.mono ?_
   rintro e w5 ⟨v5,F5,rfl,own5,ch5,hF5⟩
   have HCH5:=hid (HCH4.out.trans_same ch5)
   have HCHW:=hid ((Chg.refl [] wr0).trans_same ch4)
   clear hp2 a0 a1 a2 a3 b0 b1 b2 b3 s0 s1 s2 s3
   obtain ⟨A4,c4,rfl,h41,h42,hc4⟩:=own4.open_map
   obtain ⟨old,hold⟩:∃ old,old=oldB p i s m:=⟨_,rfl⟩
   obtain ⟨now,hnow⟩:∃ now,now=oldB q i s (0,0):=⟨_,rfl⟩
   have hlo:=HL2.out i
   have hln:=HL1.out i
   rcases own5.cases with ⟨_,he,_⟩ | ⟨g5,hrow5,hFg5⟩
   ·exfalso
    have:=HL1.out i
    rw [List.map_eq_nil_iff.1 he] at this
    simp at this
    omega
   have hr5:=hrow5
   obtain ⟨c5,rfl,h51,h52,hce5,hfr5⟩:=hrow5.open_map
   have hg5:w4.heap.size≤g5:=hF5 g5 (by rw [hFg5];simp)
   have hc5:Cells vi w5 (some ⟨g5,0,none⟩) (oldB q i s (0,0)):=⟨fun _=>⟨g5,0,rfl,hr5.lt,fun k a hk=>by rw [Nat.zero_add];exact hce5 k a hk⟩⟩
   rw [←hold] at hlo hc4 h41
   rw [←hnow] at hln hc5 h51 hr5
   rw [←hold,←hnow,hlo,hln]
   rw [hlo] at h41
   rw [hln] at h51 hr5
   have hso:=HS2.out i hi
   have hsn:=HS1.out i hi
   rw [←hold] at hso
   rw [←hnow] at hsn
   have hfs:=sameTo_succ p q s m i
   rw [←HZZ.out,←hnow,←hold] at hfs
   have heq:=equal_i_ok w5 (some ⟨g5,0,none⟩) A4 c5 c4 now old hc5 (hc4.same ch5) (by rw [hlo,hln]) (by rw [hln];omega)
   rw [hln,hlo] at heq
   have HHO:=hid hold
   have HHN:=hid hnow
   have HLO:=hid hlo
   have HLN:=hid hln
   have HSO:=hid hso
   have HSN:=hid hsn
   have HK4:=hid (hc4.same ch5)
   have HR5:=hid hr5
   have HG5:=hid hg5
   have HFS:=hid hfs
   have hA4:∀ ad,A4=some ad→ad.block<w4.heap.size:=fun ad e=>by
    obtain ⟨b0,o0,e0,hb0,_⟩:=hc4.ex (by rw [hlo];exact hM0)
    rw [e] at e0
    injection e0 with e0
    subst e0
    exact hb0
   have HA4:=hid hA4
   have HC45:=hid ch5
   clear hold hnow hlo hln hso hsn hc4 hc5 hrow5 hr5 h42 h52 hce5 hfr5 hFg5 own4 own5 ch4 ch5 hF4 hF5 hfs hA4 hg5
   obtain ⟨eq,heqd⟩:∃ eq,eq=decide (now=old):=⟨_,rfl⟩
   rw [←heqd] at heq
   have hfs2:=HFS.out
   rw [←heqd] at hfs2
   clear heqd
   rcases (show z=false∨z=true by cases z<;>simp) with rfl | rfl
   have HFLAG:Hid (sameTo p q s m (i+1)=false):=hid (by rw [hfs2];rfl)
   obtain ⟨w6,rfl⟩:∃ w6,w6=w5:=⟨_,rfl⟩
   have ch6:Chg [] w6 w6:=Chg.refl _ _
   clear heq hfs2
   go_wp2_with fail
   rotate_left
   have HFLAG:Hid (sameTo p q s m (i+1)=eq):=hid (by rw [hfs2];cases eq<;>rfl)
   clear hfs2
   go_wp2_with fail
   refine heq.mono ?_
   rintro e w6 ⟨rfl,ch6⟩
   clear heq
   rotate_left
   all_goals
    have HC46:=hid (HC45.out.trans_same ch6)
    have hdl:(diffB p q i s m).length=now.length:=by rw [HL3.out,HLN.out]
    obtain ⟨df,hdf⟩:∃ df,df=diffB p q i s m:=⟨_,rfl⟩
    have hdg:=HDG.out i
    rw [←hdf] at hdl hdg
    rw [←HHN.out,←HHO.out,←HND.out.2.1] at hdg
    have hrw0:Row w6 3 (.slice (some ⟨g5,0,none⟩) M c5) g5 ((mixD df now 0).map vi):=by
     have h1:=HR5.out.chg ch6 (by simp)
     simpa [mixD] using h1
    have HR0:=hid hrw0
    have HCH6:=hid (HCH5.out.trans_same ch6)
    have HDF:=hid hdf
    have HDLN:=hid hdl
    have HDGG:=hid hdg
    have HK6:=hid (HK4.out.same ch6)
    clear hrw0 hdf hdl hdg ch6
    go_wp2_with fail
    go_loopg [17,47] M (fun j2 v17 v47 wr2=>∃ k:Nat,v47=.int .i64 k∧k+j2=M∧Hid (Row wr2 3 (.slice (some ⟨g5,0,none⟩) M c5) g5 ((mixD df now k).map vi))∧Hid (Chg [g5] w6 wr2))
    case atStart=>exact ⟨0,rfl,by omega,HR0,hid (Chg.refl _ _)⟩
    case round =>
     obtain ⟨k,rfl,hkj,HRK,HCK⟩:=hrel
     rcases gk with _ | j2
     ·obtain rfl:k=M:=by omega
      have t2:decide (k<k)=false:=by simp
      have hrk:=HRK.out
      rw [show mixD df now k=diffB p q i s m by
       rw [←HDF.out]
       unfold mixD
       rw [List.take_of_length_le (by rw [HDLN.out,HLN.out];exact Nat.le_refl _),List.drop_of_length_le (by rw [HLN.out];exact Nat.le_refl _),List.append_nil]] at hrk
      have hch:Chg [g5] wr0 wr:=(((HCHW.out.trans_same HC46.out).mono (by simp)).trans HCK.out (fun x hx => .inl hx))
      have hg5w:wr0.heap.size≤g5:=Nat.le_trans HCHW.out.size HG5.out
      have hD:gD∉[g5]:=by have:=HS.out.row.lt;simp;omega
      have hrow:=HS.out.row.chg hch hD
      obtain ⟨_,-,-,-,hce,hfr⟩:=hrow.open_
      have hcD:wr.cell? ⟨gD,i,none⟩=some (.slice none 0 0):=by
       rw [hce i (by rw [zC,HS.out.len,List.length_replicate];omega),List.getElem?_append_right (by rw [HS.out.len];exact Nat.le_refl _),HS.out.len,Nat.sub_self,List.getElem?_replicate,if_pos (by omega)]
      have hfD:=hfr i
      have hnx:=HS.out.next hi hch hg5w hrk
      have HNX:=hid hnx
      clear hrk hch hD hrow hce hfr hnx hg5w
      go_wp2_with fail
      go_roundg j
      case measure=>omega
      case rel=>exact ⟨i+1,_,_,by go_num,by omega,by rw [HFLAG.out],HNX⟩
     ·have hk:k<M:=by omega
      have t2:decide (k<M)=true:=zB hk
      have hkn:k<now.length:=by rw [HLN.out];exact hk
      have hko:k<old.length:=by rw [HLO.out];exact hk
      have hmg:=mixD_get HDLN.out hkn
      obtain ⟨_,-,-,-,hce,hfr⟩:=HRK.out.open_map
      have hcl:=hce k _ hmg
      have hfl:=hfr k
      have hapt:Apt A4 old [g5]:=fun _ ad e hm=>by have:=HA4.out ad e;have:=HG5.out;simp at hm;omega
      obtain ⟨ga,oa,hAe,hcA⟩:=(HK6.out.keep hapt HCK.out).at_ hko
      subst hAe
      obtain ⟨x,hx⟩:∃ x,x=now.getD k 0:=⟨_,rfl⟩
      obtain ⟨y,hy⟩:∃ y,y=old.getD k 0:=⟨_,rfl⟩
      have hyy:old[k]=y:=by rw [hy,zD,zF hko];rfl
      rw [hyy] at hcA
      rw [←hx] at hcl
      have cA:wr.cell? ⟨ga,oa+k,none⟩=some (.int .i64 y):=hcA
      have cB:wr.cell? ⟨g5,k,none⟩=some (.int .i64 x):=hcl
      obtain ⟨hx1,hx2⟩:=getD_smp HSN.out k
      obtain ⟨hy1,hy2⟩:=getD_smp HSO.out k
      rw [←hx] at hx1 hx2
      rw [←hy] at hy1 hy2
      have hx3:x<65536:=by omega
      have hy3:y<65536:=by omega
      have hdk:=HDGG.out k hk
      rw [←hx,←hy] at hdk
      have hwr0:=HWP.out (x-y)
      obtain ⟨v,hv⟩:∃ v,v=wrapI (x-y) d:=⟨_,rfl⟩
      rw [←hv] at hdk hwr0
      have HWV:Hid (∀ w,Calls Tryz.prog 50 #[.int .i64 (x-y),.int .i64 d] w fun e w'=>e=.returned (.int .i64 v)∧w'=w):=hid (fun w=>(hwr0 w).mono fun e w' h=>⟨h.1,h.2.symm⟩)
      have hw1:IntKind.i64.wrap (x-y)=x-y:=IntWalk.i64_in _ (by omega)
      have hcz:Chg [g5] w1 wr:=((HCH6.out.mono (F':=[g5]) (by simp))).trans HCK.out (fun x hx => .inl hx)
      have b2:=(HCEL.out [g5] wr hcz (by have:=HG5.out;have:=HCH4.out.size;have:=HZ.out;simp;omega) (by have:=HG5.out;have:=HCH4.out.size;have:=HZ.out;simp;omega) (by have:=HG5.out;have:=HCH4.out.size;have:=HZ.out;simp;omega)).2.1.2.2.1
      have hset:=mixD_set HDLN.out hkn v hdk
      have HSET:=hid hset
      have HKN:=hid hkn
      clear hcl hcA hx hy hyy hdk hwr0 hv hcz hset hce hfr hmg hapt hkn hko hx2 hy2
      go_wp2_with fail
      refine wp_region_quiet_tail 15 (by kernel_rfl) (by kernel_rfl) ?_
      simp only [List.take_succ_cons,List.take_zero,List.drop_succ_cons,List.drop_zero]
      repeat (go_big_quiet_step ((go_at_call 50;exact Calls.quiet_of_same (HWV.out _))))
      refine wpQuiet_nil ?_
      intro _ hw'
      obtain ⟨nq,rfl⟩:=hw'
      go_wp2_with fail
      go_roundg j2
      case measure=>omega
      case rel =>
       refine ⟨k+1,by go_num,by omega,hid ?_,hid ((HCK.out.drewN nq).setCell (p:=⟨g5,k,none⟩) (.inl (by simp)) _)⟩
       have h1:=(HRK.out.drewN nq).set_ (i:=k) (by rw [zE,mixD_len HDLN.out];exact HKN.out) (.int .i64 v)
       have e:((mixD df now k).map vi).set k (.int .i64 v)=(mixD df now (k+1)).map vi:=by rw [←HSET.out,List.map_set];rfl
       rw [e] at h1
       exact h1
theorem partF_row (l:List Int) (W x y:Nat) {w h k:Nat} (hk:k<h):((partF l W x y w h).drop (k*w)).take w=(List.range w).map fun i=>l.getD ((y+k)*W+(x+i)) 0:=by
 have hlen:=partF_len l W x y w h
 have h2:k*w+w≤h*w:=by
  have:=Nat.mul_le_mul_right w (show k+1≤h by omega)
  rw [Nat.succ_mul] at this
  exact this
 apply List.ext_getElem?
 intro i
 rcases Nat.lt_or_ge i w with hi | hi
 ·rw [List.getElem?_take,if_pos hi,List.getElem?_drop,partF_get l W x y hk hi,List.getElem?_map,List.getElem?_range hi]
  rfl
 ·rw [List.getElem?_eq_none (by rw [List.length_take];omega),List.getElem?_eq_none (by simp;omega)]
theorem oldB_zero {p q:PicD} (ha:AlikeD p q) (i:Nat) (s:Sq):oldB q i s (0,0)=partF (q.P.getD i []) p.W s.x s.y s.w s.h:=by
 unfold oldB
 rw [ha.W]
 simp
theorem copy_row_eq {q l:List Int} {W H:Nat} {bs:List Sq} {sx sy sw sh k:Nat} (hq:q.length=l.length) (hl:l.length=W*H) (hx:sx+sw≤W) (hy:sy+sh≤H) (hk:k<sh) :
  splice ((mixF q l W (bs++[⟨sx,sy,sw,k⟩])).map vi) ((sy+k)*W+sx) ((((partF q W sx sy sw sh).drop (k*sw)).take sw).map vi)=(mixF q l W (bs++[⟨sx,sy,sw,k+1⟩])).map vi:=by
 rw [partF_row q W sx sy hk]
 have h1:=mixF_row (q:=q) (l:=l) (W:=W) (H:=H) (bs:=bs) (s:=⟨sx,sy,sw,k⟩) hq hl hx (by simp only;omega)
 simp only at h1
 rw [←h1]
 simp [splice,List.map_take,List.map_drop]
theorem unD_get {p q:PicD} {i:Nat} {s:Sq} {m:Int × Int} {k:Nat} (hs:SmpOk q.d (oldB q i s (0,0))) (hk:k<s.h*s.w) :
  (oldB q i s (0,0))[k]?=some (wrapI ((oldB p i s m).getD k 0+(diffB p q i s m).getD k 0) q.d):=by
 have hu:=undiff_diff (d:=q.d) (now:=oldB q i s (0,0)) (old:=oldB p i s m) (by rw [oldB_len,oldB_len]) hs
 have h2:k<(oldB p i s m).length:=by rw [oldB_len];exact hk
 have h3:k<(diffB p q i s m).length:=by rw [diffB_len,Nat.mul_comm];exact hk
 have hu':oldB q i s (0,0)=List.zipWith (fun a b=>wrapI (a+b) q.d) (oldB p i s m) (diffB p q i s m):=hu.symm
 rw [hu',List.getElem?_zipWith,zF h2,zF h3,zD,zD,zF h2,zF h3]
 rfl
structure GbIn (w:World) (p q:PicD) (g o:Nat) (B:Nat→Option Addr) (c:Nat→Nat) (G:List Nat) (bs:List Sq) (s:Sq) (m:Int × Int) (b:Nat) (F ds:List Nat) (pos gP capP:Nat) (xs:List Value) (gs:List Nat):Prop where
 was:PicAt w p g o B c G
 now:PicOwn w (bwP p q bs s 0) gP capP xs gs
 rd:IsRd w b F ds pos
 qok:q.Ok
 ha:AlikeD p q
 hs:SqIn p.W p.H s
 hm:mvOk p.W p.H s m
 sw0:1≤s.w
 sw1:s.w≤8
 sh0:1≤s.h
 sh1:s.h≤8
 pts:Pts w
 gG:∀ x∈G,x∉b::gs
 fG:∀ x∈F,x∉gP::gs
 f0:0∉F
 g0:0∉gs
def GbPost (w:World) (p q:PicD) (bs:List Sq) (s:Sq) (b:Nat) (F ds:List Nat) (pos gP capP:Nat) (xs:List Value) (gs:List Nat) (e:Ending) (w':World):Prop :=
 e=.returned (.int .i64 0)∧IsRd w' b F ds pos∧PicOwn w' (bwP p q bs s p.P.length) gP capP xs gs∧Chg (b::gs) w w'
theorem same_at {p q:PicD} {s:Sq} {m:Int × Int} (h:sameB p q s m=true) {i:Nat} (hi:i<q.P.length):oldB p i s m=oldB q i s (0,0):=by
 unfold sameB at h
 rw [List.all_eq_true] at h
 have:=h i (List.mem_range.2 hi)
 exact (of_decide_eq_true this).symm
structure GbSt (w1:World) (p q:PicD) (bs:List Sq) (s:Sq) (b:Nat) (F ds:List Nat) (pos gP capP:Nat) (xs:List Value) (gs:List Nat) (wr:World) (i:Nat):Prop where
 rd:IsRd wr b F ds pos
 now:PicOwn wr (bwP p q bs s i) gP capP xs gs
 chg:Chg (b::gs) w1 wr
theorem GbSt.next {w1:World} {p q:PicD} {bs:List Sq} {s:Sq} {b:Nat} {F ds:List Nat} {pos pos' gP capP:Nat} {xs:List Value} {gs:List Nat} {wr wa w':World} {i gi:Nat} {u:Value} (h:GbSt w1 p q bs s b F ds pos gP capP xs gs wr i)
  (hp:p.Ok) (hq:q.Ok) (ha:AlikeD p q) (hi:i<p.P.length) (fG:∀ x∈F,x∉gP::gs) (hx:xs[i]?=some u) (hg:gs[i]?=some gi)
  (rd:IsRd wa b F ds pos') (c1:Chg [b] wr wa) (c2:Chg [gi] wa w') (r:Row w' 3 u gi ((mixF (q.P.getD i []) (p.P.getD i []) p.W (bs++[s])).map vi)) :
  GbSt w1 p q bs s b F ds pos' gP capP xs gs w' (i+1):=by
 have hgm:gi∈gs:=List.mem_of_getElem? hg
 have hbF:=rd.mem
 have hbg:=fG b hbF
 have hcb:Chg (b::gs) wr w':=(c1.mono (F':=b::gs) (by simp)).trans c2 fun x hx=>by
  simp at hx
  subst hx
  exact .inl (by simp [hgm])
 refine ⟨rd.chg c2 fun x hx hm => ?_,?_,h.chg.trans_same hcb⟩
 ·simp at hm
  subst hm
  exact fG x hx (by simp [hgm])
 ·have hn:=h.now.chg c1 (F:=[b]) (by simpa using fun e=>hbg (by simp [e])) (by
   intro x hx hm
   simp at hm
   subst hm
   exact hbg (by simp [hx]))
  exact hn.setPlane hx hg r c2 (hn.neP (by rw [bwP_len];exact hi) hg) (bwP_ok hp hq ha bs s (i+1)) (bwP_succ bs s hi).symm
def mvCells (m:Int × Int):List Value:=[.int .i64 m.1,.int .i64 m.2]
theorem mv_flat_get:∀ (ms:List (Int × Int)) (i:Nat),i<ms.length→(ms.flatMap mvCells)[i*2]?=some (.int .i64 (ms.getD i (0,0)).1)∧(ms.flatMap mvCells)[i*2+1]?=some (.int .i64 (ms.getD i (0,0)).2)
 | [],i,h=>by simp at h
 | m::ms,0,_=>⟨rfl,rfl⟩
 | m::ms,i+1,h=>by
  obtain ⟨a,b⟩:=mv_flat_get ms i (by simpa using h)
  have hl:(mvCells m).length=2:=rfl
  rw [List.flatMap_cons]
  refine ⟨?_,?_⟩
  ·rw [List.getElem?_append_right (by omega),hl,show (i+1)*2-2=i*2 by omega,a];rfl
  ·rw [List.getElem?_append_right (by omega),hl,show (i+1)*2+1-2=i*2+1 by omega,b];rfl
theorem mv_len (ms:List (Int × Int)):(ms.flatMap mvCells).length=ms.length*2:=by
 induction ms with
 | nil=>rfl
 | cons m ms ih=>rw [List.flatMap_cons,zC,ih,List.length_cons];simp only [mvCells,List.length_cons,List.length_nil];omega
theorem blockBits_pos (p q:PicD) (s:Sq) (m:Int × Int):2≤(blockBits p q s m).length:=by
 unfold blockBits
 split
 ·split
  ·rw [bitsOf_len];omega
  ·rw [zC,bitsOf_len];omega
 ·rw [zC,bitsOf_len];omega
theorem moveBits_pos (p q:PicD) (ss:List Sq) (ms:List (Int × Int)):∀ n,2*n≤(moveBits p q ss ms n).length
 | 0=>by simp
 | n+1=>by
  have h1:=moveBits_pos p q ss ms n
  have h2:=blockBits_pos p q (sqAt ss n) (ms.getD n (0,0))
  rw [moveBits_succ,zC]
  omega
def mvBody (p q:PicD) (ms:List (Int × Int)):List Nat:=packed (padF (moveBits p q (gridL q.W q.H 8) ms (gridL q.W q.H 8).length))
def mvBytes (p q:PicD) (ms:List (Int × Int)):List Nat:=mvBody p q ms++sumL p (mvBody p q ms)
def MvBits (p q:PicD) (ms:List (Int × Int)):Prop:=∀ b∈moveBits p q (gridL q.W q.H 8) ms (gridL q.W q.H 8).length,b<2
theorem grid8_len {W H:Nat} (hW:W≤64) (hH:H≤64):(gridL W H 8).length≤4096:=by
 have h1:=grid_len W H 8
 have h2:H*W≤64*64:=Nat.mul_le_mul hH hW
 omega
theorem by_ok {w:World} {p q:PicD} {g o:Nat} {B:Nat→Option Addr} {c:Nat→Nat} {G:List Nat} (cap:Nat) (h:PicAt w p g o B c G)
  {g' o':Nat} {B':Nat→Option Addr} {c':Nat→Nat} {G':List Nat} (cap':Nat) (h':PicAt w q g' o' B' c' G') (ha:AlikeD p q) (hp:Pts w)
  (AM:Option Addr) (capM:Nat) (ms:List (Int × Int)) (hM:Cells (fun v=>v) w AM (ms.flatMap mvCells)) (hml:ms.length=(gridL q.W q.H 8).length) (hmo:∀ i,i<ms.length→mvOk p.W p.H (sqAt (gridL q.W q.H 8) i) (ms.getD i (0,0))) :
  Calls Tryz.prog 8 #[picV p g o cap,picV q g' o' cap',.slice AM ms.length capM] w fun e w'=>∃ v G9,e=.returned (.tuple #[v,.int .i64 0])∧Own w' 5 v G9 ((mvBytes p q ms).map b8)∧Chg [] w w'∧(∀ x∈G9,w.heap.size≤x)∧MvBits p q ms:=by
 have hok:=h.ok
 have hok':=h'.ok
 have hal:=fun w' (hc:Chg [] w w')=>alike_yes cap (h.same hc) cap' (h'.same hc) ha
 have hgr:=fun w'=>mgrid_ok hok' g' o' cap' w'
 obtain ⟨ss,hss⟩:∃ ss,ss=gridL q.W q.H 8:=⟨_,rfl⟩
 have hs8:∀ s∈ss,1≤s.w∧s.w≤8∧1≤s.h∧s.h≤8:=by rw [hss];exact grid_ok (by decide)
 have hsin:∀ s∈ss,SqIn p.W p.H s:=fun s hs=>by
  rw [hss] at hs
  obtain ⟨a,b⟩:=grid_in (by decide) s hs
  exact ⟨by rw [ha.W];exact a,by rw [ha.H];exact b⟩
 have hn4:ss.length≤4096:=by rw [hss];exact grid8_len hok'.w1 hok'.h1
 rw [←hss] at hml hmo hgr
 obtain ⟨n,hn⟩:∃ n,n=ss.length:=⟨_,rfl⟩
 have hbl:=moveBits_len p q (ss:=ss) ms hs8 hok'.d0 hok'.d1 hok'.n1
 have hn0:0<n:=by
  rcases Nat.eq_zero_or_pos n with h0 | h0
  ·exfalso
   have h1:=area_grid (w:=q.W) (h:=q.H) (s:=8) (by decide)
   rw [←hss,List.eq_nil_of_length_eq_zero (show ss.length=0 by omega)] at h1
   have h2:=hok'.pos
   simp [area] at h1
   omega
  ·exact h0
 obtain ⟨gm,om,rfl,hgm,hMc⟩:=hM.ex (by rw [mv_len];omega)
 have hmc:∀ i,i<n→w.cell? ⟨gm,om+i*2,none⟩=some (.int .i64 (ms.getD i (0,0)).1)∧w.cell? ⟨gm,om+i*2+1,none⟩=some (.int .i64 (ms.getD i (0,0)).2):=fun i hi=>by
  obtain ⟨a,b⟩:=mv_flat_get ms i (by omega)
  exact ⟨hMc _ _ a,by have:=hMc _ _ b;rwa [←Nat.add_assoc] at this⟩
 have hpb:∀ w',Chg [] w w'→∀ i,i<n→∀ b F bs,IsWr w' b F bs→0∉F→bs.length<17179869184→_:=fun w' hc i hi b F bs hw h0 hb =>
  have hm8:=hs8 _ (sqAt_mem (i:=i) (ss:=ss) (by omega))
  putBlock_ok cap (h.same hc) cap' (h'.same hc) ha (sqAt ss i) (ms.getD i (0,0)) (hsin _ (sqAt_mem (by omega))) (hmo i (by omega)) hm8.1 hm8.2.1 hm8.2.2.1 hm8.2.2.2 b F bs hw (hp.same hc) h0 hb
 have him:∀ w' i,i<n→Calls Tryz.prog 26 #[.agg #[.int .i64 p.W,.int .i64 p.H,.int .i64 p.d,.slice (some ⟨g,o,none⟩) p.P.length cap],sqV (sqAt ss i),.int .i64 (ms.getD i (0,0)).1,.int .i64 (ms.getD i (0,0)).2] w' fun e w''=>e=.returned (.bool true)∧Chg [] w' w'':=fun w' i hi=>by
  have hm8:=hs8 _ (sqAt_mem (i:=i) (ss:=ss) (by omega))
  have hin:=hsin _ (sqAt_mem (i:=i) (ss:=ss) (by omega))
  have hm:=hmo i (by omega)
  have h1:=isMove_ok p.W p.H p.d p.P.length g o cap (sqAt ss i) (ms.getD i (0,0)) w' hok.w1 hok.h1 (by have:=hin.x;have:=hok.w1;omega) (by have:=hin.y;have:=hok.h1;omega) (by omega) (by omega) (by have:=hm.1;omega) (by have:=hm.2.1;omega) (by have:=hm.2.2.1;omega) (by have:=hm.2.2.2.1;omega)
  rw [(mvB_iff _ _ _ _).2 hm] at h1
  exact h1
 have hck:=fun w' (hc:Chg [] w w')=>fun A capb body=>checksum_ok cap (h.same hc) A capb body
 have hmb:(∀ b∈moveBits p q ss ms n,b<2)→MvBits p q ms:=fun h=>by unfold MvBits;rw [←hss,←hn];exact h
 have HMB:=hid hmb
 clear hmb
 have hbt:mvBytes p q ms=packed (padF (moveBits p q ss ms n))++sumL p (packed (padF (moveBits p q ss ms n))):=by rw [hn,hss];rfl
 unfold picV sqV at hpb him
 unfold picV at hal hgr hck ⊢
 have hmn:ms.length=n:=by omega
 rw [hmn]
 obtain ⟨w1,hw1⟩:∃ w1,w1=((w.alloc (.cells #[.int .i64 p.W,.int .i64 p.H,.int .i64 p.d,.slice (some ⟨g,o,none⟩) p.P.length cap] 25)).alloc (.cells #[.int .i64 q.W,.int .i64 q.H,.int .i64 q.d,.slice (some ⟨g',o',none⟩) q.P.length cap'] 25)):=⟨_,rfl⟩
 have hb1:Blk w1 w.heap.size 25 #[.int .i64 p.W,.int .i64 p.H,.int .i64 p.d,.slice (some ⟨g,o,none⟩) p.P.length cap]:=by rw [hw1];exact (Blk.new w _ _).alloc _
 have hb2:Blk w1 (w.heap.size+1) 25 #[.int .i64 q.W,.int .i64 q.H,.int .i64 q.d,.slice (some ⟨g',o',none⟩) q.P.length cap']:=by rw [hw1];exact Blk.new2 w _ _ _
 have hC1:Chg [] w w1:=by rw [hw1];exact ((Chg.refl [] w).alloc _).alloc _
 have hz1:w1.heap.size=w.heap.size+1+1:=by rw [hw1,alloc_size,alloc_size]
 have hcel:∀ (E:List Nat) (wr wz:World) (i:Nat),i<n→Chg [] w1 wr→(∀ x∈E,w1.heap.size≤x∧x<wr.heap.size)→Chg E (wr.alloc (.cells #[.int .i64 ((sqAt ss i).x:Int),.int .i64 ((sqAt ss i).y:Int),.int .i64 ((sqAt ss i).w:Int),.int .i64 ((sqAt ss i).h:Int)] 45)) wz →
   (wz.cell? ⟨w.heap.size,0,none⟩=some (.int .i64 p.W)∧wz.cell? ⟨w.heap.size,1,none⟩=some (.int .i64 p.H)∧wz.cell? ⟨w.heap.size,2,none⟩=some (.int .i64 p.d)∧wz.cell? ⟨w.heap.size,3,none⟩=some (.slice (some ⟨g,o,none⟩) p.P.length cap)) ∧
   (wz.cell? ⟨w.heap.size+1,0,none⟩=some (.int .i64 q.W)∧wz.cell? ⟨w.heap.size+1,1,none⟩=some (.int .i64 q.H)∧wz.cell? ⟨w.heap.size+1,2,none⟩=some (.int .i64 q.d)∧wz.cell? ⟨w.heap.size+1,3,none⟩=some (.slice (some ⟨g',o',none⟩) q.P.length cap')) ∧
   (wz.cell? ⟨wr.heap.size,0,none⟩=some (.int .i64 ((sqAt ss i).x:Int))∧wz.cell? ⟨wr.heap.size,1,none⟩=some (.int .i64 ((sqAt ss i).y:Int))∧wz.cell? ⟨wr.heap.size,2,none⟩=some (.int .i64 ((sqAt ss i).w:Int))∧wz.cell? ⟨wr.heap.size,3,none⟩=some (.int .i64 ((sqAt ss i).h:Int))) ∧
   (wz.cell? ⟨gm,om+i*2,none⟩=some (.int .i64 (ms.getD i (0,0)).1)∧wz.cell? ⟨gm,om+i*2+1,none⟩=some (.int .i64 (ms.getD i (0,0)).2)):=by
  intro E wr wz i hi hc hE hz
  have e1:w.heap.size∉E:=fun hm=>by have:=(hE _ hm).1;omega
  have e2:w.heap.size+1∉E:=fun hm=>by have:=(hE _ hm).1;omega
  have e3:wr.heap.size∉E:=fun hm=>by have:=(hE _ hm).2;omega
  have e4:gm∉E:=fun hm=>by have:=(hE _ hm).1;omega
  have k1:=((hb1.chg hc (by simp)).alloc _).chg hz e1
  have k2:=((hb2.chg hc (by simp)).alloc _).chg hz e2
  have k3:=(Blk.new wr 45 #[.int .i64 ((sqAt ss i).x:Int),.int .i64 ((sqAt ss i).y:Int),.int .i64 ((sqAt ss i).w:Int),.int .i64 ((sqAt ss i).h:Int)]).chg hz e3
  have hcw:Chg E w wz:=(((hC1.trans_same hc).alloc _).mono (by simp)).trans hz (fun x hx => .inl hx)
  obtain ⟨m1,m2⟩:=hmc i hi
  exact ⟨⟨k1.cell 0,k1.cell 1,k1.cell 2,k1.cell 3⟩,⟨k2.cell 0,k2.cell 1,k2.cell 2,k2.cell 3⟩,⟨k3.cell 0,k3.cell 1,k3.cell 2,k3.cell 3⟩,⟨(World.cell?_of_block (w:=w) (hcw.block gm hgm e4)).trans m1,(World.cell?_of_block (w:=w) (hcw.block gm hgm e4)).trans m2⟩⟩
 have hbox:=fun wz (hc:Chg [] w1 wz)=>And.intro (And.intro ((hb1.chg hc (by simp)).cell 0) (And.intro ((hb1.chg hc (by simp)).cell 1) (And.intro ((hb1.chg hc (by simp)).cell 2) ((hb1.chg hc (by simp)).cell 3)))) (And.intro ((hb2.chg hc (by simp)).cell 0) (And.intro ((hb2.chg hc (by simp)).cell 1) (And.intro ((hb2.chg hc (by simp)).cell 2) ((hb2.chg hc (by simp)).cell 3))))
 have HW1:=hid hw1
 have HC1:=hid hC1
 have HZ:=hid hz1
 have HCEL:=hid hcel
 have HPB:=hid hpb
 have HIM:=hid him
 have HCK:=hid hck
 have HBT:=hid hbt
 have HAL:=hid hal
 have HGR:=hid hgr
 have HBL:=hid hbl
 have HN:=hid hn
 have HP:=hid hp
 have HBOX:=hid hbox
 have hn41:n≤4096:=by omega
 clear hcel hpb him hck hbt hal hgr hbl hb1 hb2 hw1 hC1 hz1 hmc hMc hM hmo hs8 hsin hok hok' h h' ha hp hn hml hmn hss hgm hn4 hbox
 go_enter Tryz.func8,Tryz.ntmps8
 go_wp2_with fail
 rw [←HW1.out]
 refine (HAL.out w1 HC1.out).mono ?_
 rintro e w2 ⟨rfl,ch2⟩
 obtain ⟨⟨a0,a1,a2,a3⟩,⟨b0,b1,b2,b3⟩⟩:=HBOX.out w2 ch2
 have HCH2:=hid ch2
 clear ch2
 go_wp2_with fail
 refine (HGR.out w2).mono ?_
 rintro e w3 ⟨v8,F8,rfl,hsq,ch3,hF8⟩
 obtain ⟨A8,c8,rfl,h81,h82,hc8,-⟩:=OwnK.open_ hsq
 have HCH3:=hid (HCH2.out.trans_same ch3)
 have HC8:=hid hc8
 rw [←HN.out]
 clear hsq ch3 hF8 hc8 a0 a1 a2 a3 b0 b1 b2 b3
 have t0:((n:Int) != (n:Int))=false:=by simp
 go_wp2_with fail
 go_loopg [9,10,28] n (fun j v9 v10 v28 wr=>∃ i:Nat,v28=.int .i64 i∧i+j=n∧Hid (Chg [] w3 wr))
 case atStart=>exact ⟨0,rfl,by omega,hid (Chg.refl _ _)⟩
 case round =>
  obtain ⟨i,rfl,hij,HCH⟩:=hrel
  rcases gk with _ | j
  ·obtain rfl:i=n:=by omega
   have t1:decide (i<i)=false:=by simp
   obtain ⟨wo,rfl⟩:∃ wo,wo=wr:=⟨_,rfl⟩
   obtain ⟨w4,hw4⟩:∃ w4,w4=wo.alloc (.cells #[.slice none 0 0,.int .i64 0] 59):=⟨_,rfl⟩
   obtain ⟨b,hb⟩:∃ b,b=wo.heap.size:=⟨_,rfl⟩
   have hwr:IsWr w4 b [b] []:=by rw [hw4,hb];exact IsWr.new wo
   have HC4:Hid (Chg [] w3 w4):=hid (by rw [hw4];exact HCH.out.alloc _)
   have hb3:w3.heap.size≤b:=by rw [hb];exact HCH.out.size
   have HWR:=hid hwr
   have HW4:=hid hw4
   have HB:=hid hb
   have HB3:=hid hb3
   have HSZ:Hid (w1.heap.size≤w3.heap.size∧w.heap.size≤w1.heap.size∧0<w.heap.size):=hid ⟨HCH3.out.size,HC1.out.size,HP.out.lt⟩
   clear hwr hw4 hb hb3
   go_wp2_with fail
   rw [←HW4.out,←HB.out]
   go_loopg [12,13,52] i (fun j2 v12 v13 v52 wr=>∃ (k:Nat) (F:List Nat),v52=.int .i64 k∧k+j2=i∧Hid (IsWr wr b F (moveBits p q ss ms k))∧Hid (Grow [b] F w4 wr))
   case atStart=>exact ⟨0,[b],rfl,by omega,hid (by simpa [moveBits] using HWR.out),hid (Grow.refl _ _)⟩
   case round =>
    obtain ⟨k,F,rfl,hkj,HWK,HGK⟩:=hrel
    have hch:Chg [] w3 wr:=HC4.out.trans HGK.out.chg (fun x hx => .inr (by simp at hx;have:=HB3.out;omega))
    have hFn:∀ x∈F,w3.heap.size≤x:=fun x hx=>by
     rcases HGK.out.new x hx with h | h
     ·simp at h;have:=HB3.out;omega
     ·have:=HC4.out.size;omega
    have HCHK:=hid hch
    have HFN:=hid hFn
    clear hch hFn
    rcases gk with _ | j2
    ·obtain rfl:k=i:=by omega
     have t2:decide (k<k)=false:=by simp
     have hmb9:=hid (HMB.out HWK.out.bit)
     have hbb:=HBL.out k (by rw [←HN.out];exact Nat.le_refl _)
     have hal:=walign_ok wr b F _ HWK.out (by omega)
     obtain ⟨T,hT⟩:∃ T,T=padF (moveBits p q ss ms k):=⟨_,rfl⟩
     have hTl:T.length≤4000000000:=by
      have:=padF_len (moveBits p q ss ms k)
      rw [hT]
      omega
     have hT0:0<T.length:=by
      have h1:=padF_len (moveBits p q ss ms k)
      have h2:=moveBits_pos p q ss ms k
      rw [hT]
      omega
     have hbt:=HBT.out
     rw [←hT] at hal hbt
     have HT:=hid hTl
     have HT0:=hid hT0
     have HBT2:=hid hbt
     clear hT hbt hbb hTl hT0
     go_wp2_with fail
     refine hal.mono ?_
     rintro e w5 ⟨rfl,F5,hw5,hg5⟩
     have hch5:Chg [] w3 w5:=HCHK.out.trans hg5.chg (fun x hx => .inr (HFN.out x hx))
     have hbit:=hw5.bit
     have hby:=wbytes_ok w5 b F5 T hw5 (by have:=HT.out;omega)
     clear hal
     go_wp2_with fail
     refine hby.mono ?_
     rintro e w6 ⟨v6,G6,rfl,own6,ch6,hG6⟩
     obtain ⟨A6,c6,rfl,h61,h62,hc6⟩:=own6.open_map
     have hch6:Chg [] w3 w6:=hch5.trans_same ch6
     obtain ⟨⟨a0,a1,a2,a3⟩,-⟩:=HBOX.out w6 (HCH3.out.trans_same hch6)
     have hck:=HCK.out w6 ((HC1.out.trans_same HCH3.out).trans_same hch6) A6 c6 (packed T) hc6 (packed_dig hbit) (by rw [packed_len];have:=HT0.out;omega) (by rw [packed_len];have:=HT.out;omega)
     obtain ⟨body,hbody⟩:∃ body,body=packed T:=⟨_,rfl⟩
     have hbl:body.length≤1000000000:=by rw [hbody,packed_len];have:=HT.out;omega
     have hbt:=HBT2.out
     rw [←hbody] at hck own6 hbt ⊢
     obtain ⟨nb,hnb⟩:∃ nb,nb=body.length:=⟨_,rfl⟩
     rw [←hnb] at hck own6 ⊢
     have HNB:=hid hnb
     have HBLN:=hid hbl
     have HOWN6:=hid own6
     have HCK6:=hid hck
     have HBT3:=hid hbt
     have HCH6:=hid hch6
     have HG6:=hid (fun x hx=>Nat.le_trans hch5.size (hG6 x hx):∀ x∈G6,w3.heap.size≤x)
     clear hw5 hg5 hbit hby own6 ch6 hG6 h61 h62 hc6 hch5 hch6 hck hbody hnb hbl hbt
     go_wp2_with fail
     refine HCK6.out.mono ?_
     rintro e w7 ⟨g7,c7,rfl,hrow7,ch7,hg7⟩
     have hown7:=HOWN6.out.same ch7
     have HR7:=hid hrow7
     have HCH7:=hid (HCH6.out.trans_same ch7)
     have hsl:(sumL p body).length=4:=rfl
     clear hrow7 ch7 hg7 a0 a1 a2 a3
     go_wp2_with (at_builtin;refine wpList_append_s rfl rfl u8_elem rfl rfl hown7 ((sumL p body).map b8) 4 rfl ?c1 ?c2 ?c3 ?c4 ?c5 ?_)
     case c1=>rfl
     case c2=>exact Row.cellsB HR7.out
     case c3=>exact b8_one _
     case c4=>rw [zE,zE,hsl];have := HBLN.out;omega
     case c5=>rw [zE,zE,hsl];have := HBLN.out;omega
     intro v8 F8' w8 h28 h38
     have hall:=HBT3.out
     clear hsl
     go_wp2
     refine bodyPost_ret (v:=.tuple #[v8,.int .i64 0]) (by simp [results,Tryz.results8,go_sem]) rfl ?_
     have hw3:w.heap.size≤w3.heap.size:=by have:=HSZ.out;omega
     refine ⟨v8,F8',rfl,by rw [hall,List.map_append];exact h28,?_,fun x hx => ?_,hmb9.out⟩
     ·refine ((HC1.out.trans_same HCH3.out).trans_same HCH7.out).trans h38.chg (fun x hx => .inr ?_)
      have:=HG6.out x hx
      omega
     ·rcases h38.new x hx with h | h
      ·have:=HG6.out x h;omega
      ·have:=HCH7.out.size;omega
    ·have hk:k<i:=by omega
     have t2:decide (k<i)=true:=zB hk
     have hil:k<ss.length:=by rw [←HN.out];exact hk
     obtain ⟨g8,o8,hA8,x0,x1,x2,x3⟩:=sq_cell (HC8.out.same HCHK.out) hil
     subst hA8
     have hE:∀ x∈F,w1.heap.size≤x∧x<wr.heap.size:=fun x hx=>⟨by have:=HFN.out x hx;have:=HSZ.out;omega,HWK.out.lt x hx⟩
     obtain ⟨⟨k0,k1,k2,k3⟩,⟨q0,q1,q2,q3⟩,⟨s0,s1,s2,s3⟩,⟨m0,m1⟩⟩:=HCEL.out [] wr _ k hk (HCH3.out.trans_same HCHK.out) (by simp) (Chg.refl _ _)
     have hkeep:∀ wz,Chg F (wr.alloc (.cells #[.int .i64 ((sqAt ss k).x:Int),.int .i64 ((sqAt ss k).y:Int),.int .i64 ((sqAt ss k).w:Int),.int .i64 ((sqAt ss k).h:Int)] 45)) wz→wz.cell? ⟨w.heap.size,0,none⟩=some (.int .i64 p.W)∧wz.cell? ⟨w.heap.size,1,none⟩=some (.int .i64 p.H)∧wz.cell? ⟨w.heap.size,2,none⟩=some (.int .i64 p.d)∧wz.cell? ⟨w.heap.size,3,none⟩=some (.slice (some ⟨g,o,none⟩) p.P.length cap)∧wz.cell? ⟨w.heap.size+1,0,none⟩=some (.int .i64 q.W)∧wz.cell? ⟨w.heap.size+1,1,none⟩=some (.int .i64 q.H)∧wz.cell? ⟨w.heap.size+1,2,none⟩=some (.int .i64 q.d)∧wz.cell? ⟨w.heap.size+1,3,none⟩=some (.slice (some ⟨g',o',none⟩) q.P.length cap')∧wz.cell? ⟨wr.heap.size,0,none⟩=some (.int .i64 ((sqAt ss k).x:Int))∧wz.cell? ⟨wr.heap.size,1,none⟩=some (.int .i64 ((sqAt ss k).y:Int))∧wz.cell? ⟨wr.heap.size,2,none⟩=some (.int .i64 ((sqAt ss k).w:Int))∧wz.cell? ⟨wr.heap.size,3,none⟩=some (.int .i64 ((sqAt ss k).h:Int))∧wz.cell? ⟨gm,om+k*2,none⟩=some (.int .i64 (ms.getD k (0,0)).1)∧wz.cell? ⟨gm,om+k*2+1,none⟩=some (.int .i64 (ms.getD k (0,0)).2):=fun wz hz=>by
      obtain ⟨⟨k0,k1,k2,k3⟩,⟨q0,q1,q2,q3⟩,⟨s0,s1,s2,s3⟩,⟨m0,m1⟩⟩:=HCEL.out F wr wz k hk (HCH3.out.trans_same HCHK.out) hE hz
      exact ⟨k0,k1,k2,k3,q0,q1,q2,q3,s0,s1,s2,s3,m0,m1⟩
     have HKEEP:=hid hkeep
     have hbb:=HBL.out k (by omega)
     have hchd:Chg [] wr (wr.alloc (.cells #[.int .i64 ((sqAt ss k).x:Int),.int .i64 ((sqAt ss k).y:Int),.int .i64 ((sqAt ss k).w:Int),.int .i64 ((sqAt ss k).h:Int)] 45)).drew:=((Chg.refl [] wr).alloc _).drew
     have hpb:=HPB.out _ (((HC1.out.trans_same HCH3.out).trans_same HCHK.out).trans_same hchd) k hk b F _ (HWK.out.same hchd) (fun h0=>by have:=HFN.out 0 h0;have:=HSZ.out;omega) (by omega)
     unfold PutBlockPost at hpb
     rw [←moveBits_succ] at hpb
     have HPBK:=hid hpb
     have HCHD:=hid hchd
     clear hil hkeep hpb hbb hE hchd
     go_wp2_with fail
     go_region_held3 (fun w'=>w'.cell? ⟨w.heap.size,0,none⟩=some (.int .i64 p.W)∧w'.cell? ⟨w.heap.size,1,none⟩=some (.int .i64 p.H)∧w'.cell? ⟨w.heap.size,2,none⟩=some (.int .i64 p.d)∧w'.cell? ⟨w.heap.size,3,none⟩=some (.slice (some ⟨g,o,none⟩) p.P.length cap)∧w'.cell? ⟨w.heap.size+1,0,none⟩=some (.int .i64 q.W)∧w'.cell? ⟨w.heap.size+1,1,none⟩=some (.int .i64 q.H)∧w'.cell? ⟨w.heap.size+1,2,none⟩=some (.int .i64 q.d)∧w'.cell? ⟨w.heap.size+1,3,none⟩=some (.slice (some ⟨g',o',none⟩) q.P.length cap')∧w'.cell? ⟨wr.heap.size,0,none⟩=some (.int .i64 ((sqAt ss k).x:Int))∧w'.cell? ⟨wr.heap.size,1,none⟩=some (.int .i64 ((sqAt ss k).y:Int))∧w'.cell? ⟨wr.heap.size,2,none⟩=some (.int .i64 ((sqAt ss k).w:Int))∧w'.cell? ⟨wr.heap.size,3,none⟩=some (.int .i64 ((sqAt ss k).h:Int))∧w'.cell? ⟨gm,om+k*2,none⟩=some (.int .i64 (ms.getD k (0,0)).1)∧w'.cell? ⟨gm,om+k*2+1,none⟩=some (.int .i64 (ms.getD k (0,0)).2)) (first | (go_keep;done) | exact HKEEP.out _ (((Chg.refl F _).drew).trans_same hg6.chg)) (first | (go_at_call 27;refine HPBK.out.mono ?_;rintro e w6 ⟨rfl,F6,hw6,hg6⟩))
     have hgn:=HGK.out.trans (Grow.pre HCHD.out hg6)
     have HGN:=hid hgn
     have HW6:=hid hw6
     clear hgn hg6 hw6
     go_wp2_with fail
     go_roundg j2
     case measure=>omega
     case rel=>exact ⟨k+1,F6,by go_num,by omega,HW6,HGN⟩
  ·have hi:i<n:=by omega
   have t1:decide (i<n)=true:=zB hi
   have hil:i<ss.length:=by rw [←HN.out];exact hi
   obtain ⟨g8,o8,hA8,x0,x1,x2,x3⟩:=sq_cell (HC8.out.same HCH.out) hil
   subst hA8
   obtain ⟨⟨k0,k1,k2,k3⟩,-,⟨s0,s1,s2,s3⟩,⟨m0,m1⟩⟩:=HCEL.out [] wr _ i hi (HCH3.out.trans_same HCH.out) (by simp) (Chg.refl _ _)
   have hkeep:∀ wz,Chg [] (wr.alloc (.cells #[.int .i64 ((sqAt ss i).x:Int),.int .i64 ((sqAt ss i).y:Int),.int .i64 ((sqAt ss i).w:Int),.int .i64 ((sqAt ss i).h:Int)] 45)) wz→wz.cell? ⟨w.heap.size,0,none⟩=some (.int .i64 p.W)∧wz.cell? ⟨w.heap.size,1,none⟩=some (.int .i64 p.H)∧wz.cell? ⟨w.heap.size,2,none⟩=some (.int .i64 p.d)∧wz.cell? ⟨w.heap.size,3,none⟩=some (.slice (some ⟨g,o,none⟩) p.P.length cap)∧wz.cell? ⟨wr.heap.size,0,none⟩=some (.int .i64 ((sqAt ss i).x:Int))∧wz.cell? ⟨wr.heap.size,1,none⟩=some (.int .i64 ((sqAt ss i).y:Int))∧wz.cell? ⟨wr.heap.size,2,none⟩=some (.int .i64 ((sqAt ss i).w:Int))∧wz.cell? ⟨wr.heap.size,3,none⟩=some (.int .i64 ((sqAt ss i).h:Int))∧wz.cell? ⟨gm,om+i*2,none⟩=some (.int .i64 (ms.getD i (0,0)).1)∧wz.cell? ⟨gm,om+i*2+1,none⟩=some (.int .i64 (ms.getD i (0,0)).2):=fun wz hz=>by
    obtain ⟨⟨k0,k1,k2,k3⟩,-,⟨s0,s1,s2,s3⟩,⟨m0,m1⟩⟩:=HCEL.out [] wr wz i hi (HCH3.out.trans_same HCH.out) (by simp) hz
    exact ⟨k0,k1,k2,k3,s0,s1,s2,s3,m0,m1⟩
   have HKEEP:=hid hkeep
   have him:=fun wz=>HIM.out wz i hi
   have HIMI:=hid him
   clear hil hkeep him
   go_wp2_with fail
   go_region_held3 (fun w'=>w'.cell? ⟨w.heap.size,0,none⟩=some (.int .i64 p.W)∧w'.cell? ⟨w.heap.size,1,none⟩=some (.int .i64 p.H)∧w'.cell? ⟨w.heap.size,2,none⟩=some (.int .i64 p.d)∧w'.cell? ⟨w.heap.size,3,none⟩=some (.slice (some ⟨g,o,none⟩) p.P.length cap)∧w'.cell? ⟨wr.heap.size,0,none⟩=some (.int .i64 ((sqAt ss i).x:Int))∧w'.cell? ⟨wr.heap.size,1,none⟩=some (.int .i64 ((sqAt ss i).y:Int))∧w'.cell? ⟨wr.heap.size,2,none⟩=some (.int .i64 ((sqAt ss i).w:Int))∧w'.cell? ⟨wr.heap.size,3,none⟩=some (.int .i64 ((sqAt ss i).h:Int))∧w'.cell? ⟨gm,om+i*2,none⟩=some (.int .i64 (ms.getD i (0,0)).1)∧w'.cell? ⟨gm,om+i*2+1,none⟩=some (.int .i64 (ms.getD i (0,0)).2)) (first | (go_keep;done) | exact HKEEP.out _ (((Chg.refl [] _).drew).trans_same ch6) | exact HKEEP.out _ ch6) (first | (go_at_call 26;refine (HIMI.out _).mono ?_;rintro e w6 ⟨rfl,ch6⟩))
   have hch6:Chg [] w3 w6:=((HCH.out.alloc (.cells #[.int .i64 ((sqAt ss i).x:Int),.int .i64 ((sqAt ss i).y:Int),.int .i64 ((sqAt ss i).w:Int),.int .i64 ((sqAt ss i).h:Int)] 45)).drew).trans_same ch6
   have HCH6:=hid hch6
   clear hch6 ch6
   go_wp2_with fail
   go_roundg j
   case measure=>omega
   case rel=>exact ⟨i+1,by go_num,by omega,HCH6⟩
theorem slice_to {P:Program} {t e:TypeId} (ht:P.underlying t=some (.slice e)) (A:Option Addr) (n c hi:Nat) (h:hi≤n) (hnc:n≤c) (w:World) (hs:(sizeOf e).run P w=.ok 1 w) :
  (Instr.slice t (.slice A n c) none (some (.int .i64 hi)) none).run P w=.ok (.slice A hi c) w:=by
 have he:=elem_of ht
 rw [run_slice_h (P:=P) (w:=w) t A n c (by rw [he];exact ht) .i64 (hi:Int) (by omega) (by omega),he,hs]
 simp [sliced]
 intro _
 cases A with
 | none=>rfl
 | some ad=>simp [Addr.add]
theorem bitsOf_zero:∀ n,bitsOf 0 n=List.replicate n 0:=fun n=>by
 apply List.ext_getElem?
 intro i
 rcases Nat.lt_or_ge i n with hi | hi
 ·rw [bitsOf_get 0 n i hi,List.getElem?_replicate,if_pos hi]
  simp
 ·rw [List.getElem?_eq_none (by rw [bitsOf_len];exact hi),List.getElem?_eq_none (by rw [List.length_replicate];exact hi)]
theorem bwP_any (p q:PicD) (bs:List Sq) (s s':Sq):bwP p q bs s 0=bwP p q bs s' 0:=by
 unfold bwP
 congr 1
theorem take_sq {ss:List Sq} {i:Nat} (h:i<ss.length):ss.take (i+1)=ss.take i++[sqAt ss i]:=by
 rw [List.take_succ_eq_append_getElem h]
 unfold sqAt
 rw [zD,zF h]
 rfl
theorem moveBits_pre (p q:PicD) (ss:List Sq) (ms:List (Int × Int)):∀ k n i,i+k=n→∃ rest,moveBits p q ss ms n=moveBits p q ss ms i++rest
 | 0,n,i,h=>⟨[],by rw [List.append_nil,show i=n by omega]⟩
 | k+1,n,i,h=>by
  obtain ⟨r,hr⟩:=moveBits_pre p q ss ms k n (i+1) (by omega)
  exact ⟨_,by rw [hr,moveBits_succ,List.append_assoc]⟩
theorem mem_padF {bs:List Nat} (h:∀ b∈bs,b<2):∀ b∈padF bs,b<2:=fun b hb=>by
 unfold padF at hb
 rcases List.mem_append.1 hb with h1 | h1
 ·exact h b h1
 ·rw [List.eq_of_mem_replicate h1];omega
theorem body_block {p q:PicD} {ms:List (Int × Int)} {ss:List Sq} {n:Nat} (h:∀ b∈moveBits p q ss ms n,b<2) {i:Nat} (hi:i<n) :
  Ahead (packed (padF (moveBits p q ss ms n))) (moveBits p q ss ms i).length (blockBits p q (sqAt ss i) (ms.getD i (0,0))):=by
 have hp:=mem_padF h
 obtain ⟨r,hr⟩:=moveBits_pre p q ss ms (n-(i+1)) n (i+1) (by omega)
 have e:padF (moveBits p q ss ms n)=moveBits p q ss ms i++blockBits p q (sqAt ss i) (ms.getD i (0,0))++(r++List.replicate ((8-(moveBits p q ss ms n).length%8)%8) 0):=by
  unfold padF
  rw [hr,moveBits_succ]
  simp only [List.append_assoc]
 rw [e] at hp ⊢
 exact ahead_packed hp
theorem body_rest {bs:List Nat} (h:∀ b∈bs,b<2):Ahead (packed (padF bs)) bs.length (bitsOf 0 ((8-bs.length%8)%8)):=by
 have hp:=mem_padF h
 have e:padF bs=bs++bitsOf 0 ((8-bs.length%8)%8)++[]:=by
  rw [bitsOf_zero]
  unfold padF
  rw [List.append_nil]
 rw [e] at hp ⊢
 exact ahead_packed hp
theorem body_left (bs:List Nat):8*(packed (padF bs)).length-bs.length=(8-bs.length%8)%8:=by
 rw [packed_len,padF_len]
 omega
theorem getBlock_same {w:World} {p q:PicD} {g o:Nat} {B:Nat→Option Addr} {c:Nat→Nat} {G:List Nat} {bs:List Sq} {s:Sq} {m:Int × Int} {b:Nat} {F ds:List Nat} {pos gP capP:Nat} {xs:List Value} {gs:List Nat} (cap:Nat)
  (h:GbIn w p q g o B c G bs s m b F ds pos gP capP xs gs) (hsame:sameB p q s m=true) (hah:Ahead ds pos (blockBits p q s m)) :
  Calls Tryz.prog 36 #[.pointer (some ⟨b,0,none⟩),picV p g o cap,picV (bwP p q bs s 0) gP 0 capP,sqV s] w (GbPost w p q bs s b F ds (pos+(blockBits p q s m).length) gP capP xs gs):=by
 have hok:=h.was.ok
 have hok':=h.qok
 have ha:=h.ha
 have hs:=h.hs
 have hm:=h.hm
 obtain ⟨sw0,sw1,sh0,sh1⟩:(1≤s.w∧s.w≤8∧1≤s.h∧s.h≤8):=⟨h.sw0,h.sw1,h.sh0,h.sh1⟩
 have hx4:s.x≤64:=by have:=hs.x;have:=hok.w1;omega
 have hy4:s.y≤64:=by have:=hs.y;have:=hok.h1;omega
 have hW4:=hok.w1
 have hH4:=hok.h1
 have hmf:=hm.fit
 have hgs:∀ k,w.heap.size≤k→k∉b::gs:=fun k hk hmm=>by
  rcases List.mem_cons.1 hmm with rfl | h1
  ·have:=h.rd.lt _ h.rd.mem;omega
  ·have:=h.now.pl.lt k h1;omega
 have hnn:=ha.n
 obtain ⟨n,hn⟩:∃ n,n=p.P.length:=⟨_,rfl⟩
 rw [←hn] at hnn
 obtain ⟨N,hN⟩:∃ N,N=p.W*p.H:=⟨_,rfl⟩
 obtain ⟨M,hM⟩:∃ M,M=s.h*s.w:=⟨_,rfl⟩
 have hM4:M≤64:=by rw [hM];exact Nat.mul_le_mul sh1 sw1
 have hM0:0<M:=by rw [hM];exact Nat.mul_pos sh0 sw0
 have hN4:N≤4096:=by rw [hN];exact hok.area
 have hn4:n≤4:=by rw [hn];exact hok.n1
 have hpo:∀ w',Chg (b::gs) w w'→∀ i,i<n→_:=fun w' hc i hi=>part_ok cap (h.was.chg hc h.gG) i (by rw [←hn];exact hi) s m hmf.x0 hmf.x1 hmf.y0 hmf.y1 hx4 hy4
 have him:=fun w'=>isMove_ok p.W p.H p.d n g o cap s m w' hW4 hH4 hx4 hy4 (by omega) (by omega) (by have:=hm.1;omega) (by have:=hm.2.1;omega) (by have:=hm.2.2.1;omega) (by have:=hm.2.2.2.1;omega)
 rw [(mvB_iff p.W p.H s m).2 hm] at him
 have hd0:=hok.d0
 have hd1:=hok.d1
 have hwp:∀ v w,_:=fun v w=>wrap_ok v p.d w hd0 hd1
 unfold GbPost
 unfold picV sqV at hpo ⊢
 unfold sqV at him
 rw [←hn] at hpo ⊢
 rw [bwP_len,←hn]
 show Calls _ _ #[_,_,.agg #[.int .i64 p.W,.int .i64 p.H,.int .i64 p.d,.slice (some ⟨gP,0,none⟩) n capP],_] _ _
 obtain ⟨w1,hw1⟩:∃ w1,w1=(((w.alloc (.cells #[.int .i64 p.W,.int .i64 p.H,.int .i64 p.d,.slice (some ⟨g,o,none⟩) n cap] 25)).alloc (.cells #[.int .i64 p.W,.int .i64 p.H,.int .i64 p.d,.slice (some ⟨gP,0,none⟩) n capP] 25)).alloc (.cells #[.int .i64 s.x,.int .i64 s.y,.int .i64 s.w,.int .i64 s.h] 45)):=⟨_,rfl⟩
 have hb1:Blk w1 w.heap.size 25 #[.int .i64 p.W,.int .i64 p.H,.int .i64 p.d,.slice (some ⟨g,o,none⟩) n cap]:=by rw [hw1];exact ((Blk.new w _ _).alloc _).alloc _
 have hb2:Blk w1 (w.heap.size+1) 25 #[.int .i64 p.W,.int .i64 p.H,.int .i64 p.d,.slice (some ⟨gP,0,none⟩) n capP]:=by rw [hw1];exact (Blk.new2 w _ _ _).alloc _
 have hb3:Blk w1 (w.heap.size+1+1) 45 #[.int .i64 s.x,.int .i64 s.y,.int .i64 s.w,.int .i64 s.h]:=by rw [hw1];exact Blk.new3 w _ _ _ _
 have hC1:Chg [] w w1:=by rw [hw1];exact (((Chg.refl [] w).alloc _).alloc _).alloc _
 have hcel:∀ (E:List Nat) wr,Chg E w1 wr→(∀ k,w.heap.size≤k→k∉E)→(wr.cell? ⟨w.heap.size,0,none⟩=some (.int .i64 p.W)∧wr.cell? ⟨w.heap.size,1,none⟩=some (.int .i64 p.H)∧wr.cell? ⟨w.heap.size,2,none⟩=some (.int .i64 p.d)∧wr.cell? ⟨w.heap.size,3,none⟩=some (.slice (some ⟨g,o,none⟩) n cap)) ∧
   (wr.cell? ⟨w.heap.size+1,0,none⟩=some (.int .i64 p.W)∧wr.cell? ⟨w.heap.size+1,3,none⟩=some (.slice (some ⟨gP,0,none⟩) n capP)) ∧
   (wr.cell? ⟨w.heap.size+1+1,0,none⟩=some (.int .i64 s.x)∧wr.cell? ⟨w.heap.size+1+1,1,none⟩=some (.int .i64 s.y)∧wr.cell? ⟨w.heap.size+1+1,2,none⟩=some (.int .i64 s.w)∧wr.cell? ⟨w.heap.size+1+1,3,none⟩=some (.int .i64 s.h)):=fun E wr hc e =>
  ⟨⟨(hb1.chg hc (e _ (by omega))).cell 0,(hb1.chg hc (e _ (by omega))).cell 1,(hb1.chg hc (e _ (by omega))).cell 2,(hb1.chg hc (e _ (by omega))).cell 3⟩,⟨(hb2.chg hc (e _ (by omega))).cell 0,(hb2.chg hc (e _ (by omega))).cell 3⟩,⟨(hb3.chg hc (e _ (by omega))).cell 0,(hb3.chg hc (e _ (by omega))).cell 1,(hb3.chg hc (e _ (by omega))).cell 2,(hb3.chg hc (e _ (by omega))).cell 3⟩⟩
 have hgP:gP∉b::gs:=fun hmm=>by
  rcases List.mem_cons.1 hmm with e | h1
  ·exact h.fG b h.rd.mem (by simp [e])
  ·obtain ⟨k,hk,e⟩:=List.getElem_of_mem h1
   have hk':k<(bwP p q bs s 0).P.length:=by rw [←h.now.pl.lg];exact hk
   exact h.now.neP hk' (zF hk) e.symm
 have hrd1:=h.rd.chg hC1 (by simp)
 have hst1:∀ w2 pos',IsRd w2 b F ds pos'→Chg [b] w1 w2→GbSt w1 p q bs s b F ds pos' gP capP xs gs w2 0:=fun w2 pos' hr hc =>
  ⟨hr,(h.now.same hC1).chg hc (by simpa using fun e=>hgP (by simp [e])) (by
   intro x hx hmm
   simp at hmm
   subst hmm
   exact h.fG _ h.rd.mem (by simp [hx])),hc.mono (by simp)⟩
 have hpt:∀ w2,Chg (b::gs) w w2→Pts w2:=fun w2 hc=>h.pts.chg hc fun hmm=>by
  rcases List.mem_cons.1 hmm with e | h1
  ·exact h.f0 (by rw [e];exact h.rd.mem)
  ·exact h.g0 h1
 have hFG:=h.fG
 have hF0:=h.f0
 have hoo:=fun i=>oldB_zero ha i s
 have hold:∀ i,(oldB p i s m).length=M:=fun i=>by rw [oldB_len,hM]
 have hln:∀ i,i<n→(p.P.getD i []).length=N∧(q.P.getD i []).length=N:=fun i hi=>⟨by rw [hN];exact hok.len _ (plane_mem (by omega)),by rw [hN,ha.W,ha.H];exact hok'.len _ (plane_mem (by omega))⟩
 have hfy:∀ k,k<s.h→(s.y+k)*p.W+s.x+s.w≤N:=fun k hk=>by
  have h1:=hs.x
  have h2:s.y+k+1≤p.H:=by have:=hs.y;omega
  have h3:=Nat.mul_le_mul_right p.W h2
  rw [Nat.succ_mul,Nat.mul_comm p.H,←hN] at h3
  omega
 have hfm:∀ k,k<s.h→k*s.w+s.w≤M:=fun k hk=>by
  have h3:=Nat.mul_le_mul_right s.w (show k+1≤s.h by omega)
  rw [Nat.succ_mul,←hM] at h3
  exact h3
 have hcr:∀ i k,i<n→k<s.h→_:=fun i k hi hk=>copy_row_eq (q:=q.P.getD i []) (l:=p.P.getD i []) (W:=p.W) (H:=p.H) (bs:=bs) (sx:=s.x) (sy:=s.y) (sw:=s.w) (sh:=s.h) (k:=k) (by rw [(hln i hi).1,(hln i hi).2]) (by rw [(hln i hi).1,hN]) hs.x hs.y hk
 have hso:∀ i,i<n→oldB p i s m=partF (q.P.getD i []) p.W s.x s.y s.w s.h:=fun i hi=>by rw [same_at hsame (by omega),hoo i]
 obtain ⟨e1,he1⟩:∃ e1:Nat,m.1+4=(e1:Int):=⟨(m.1+4).toNat,by have:=hm.1;omega⟩
 obtain ⟨e2,he2⟩:∃ e2:Nat,m.2+4=(e2:Int):=⟨(m.2+4).toNat,by have:=hm.2.2.1;omega⟩
 have e18:e1≤8:=by have:=hm.2.1;omega
 have e28:e2≤8:=by have:=hm.2.2.2.1;omega
 have hvec:vecBits m=bitsOf e1 4++bitsOf e2 4:=by
  unfold vecBits
  rw [he1,he2]
  rfl
 have z1:(e1:Int)-4=m.1:=by omega
 have z2:(e2:Int)-4=m.2:=by omega
 have y1:IntKind.i64.wrap (e1:Int)=(e1:Int):=IntWalk.i64_in _ (by omega)
 have y2:IntKind.i64.wrap (e2:Int)=(e2:Int):=IntWalk.i64_in _ (by omega)
 have z3 : -4≤m.1:=by omega
 have z4:m.1≤4:=by omega
 have z5 : -4≤m.2:=by omega
 have z6:m.2≤4:=by omega
 have HW1:=hid hw1
 have HPO:=hid hpo
 have HIM:=hid him
 have HWP:=hid hwp
 have HCEL:=hid hcel
 have HST:=hid hst1
 have HPT:=hid hpt
 have HFG:=hid hFG
 have HOLD:=hid hold
 have HLN:=hid hln
 have HFY:=hid hfy
 have HFM:=hid hfm
 have HCR:=hid hcr
 have HVEC:=hid hvec
 have HGP:=hid hgP
 have HGS:=hid hgs
 have HRD:=hid hrd1
 have HC1:=hid hC1
 have HOK:=hid hok
 have HOQ:=hid hok'
 have HA:=hid ha
 have HAH:=hid hah
 have HN:=hid hn
 have HNN:=hid hN
 have HM:=hid hM
 have HF0:=hid hF0
 have HSO:=hid hso
 have HSAME:=hid hsame
 obtain ⟨⟨a0,a1,a2,a3⟩,⟨b0,b3⟩,⟨s0,s1,s2,s3⟩⟩:=hcel [] w1 (Chg.refl _ _) (by simp)
 have H9:=hid (show m.1=0→m.2=0→m=(0,0) from fun a b=>Prod.ext a b)
 clear hw1 hb1 hb2 hb3 hpo him hwp hcel hst1 hpt hFG hold hln hfy hfm hcr hvec hgP hgs hrd1 hC1 hok hok' ha hah hn hN hM hF0 hso hoo hs hm hmf hsame hnn he1 he2 h
 have tall:m=(0,0)∨(¬ m=(0,0)∧(m.1==0)=false)∨(¬ m=(0,0)∧(m.1==0)=true∧(m.2==0)=false):=by
  by_cases hmz:m=(0,0)
  ·exact .inl hmz
  ·right
   by_cases q1:m.1=0
   ·right
    exact ⟨hmz,by simpa using q1,by simpa using fun q2=>hmz (H9.out q1 q2)⟩
   ·left
    exact ⟨hmz,by simpa using q1⟩
 rcases tall with hmz | ⟨hmz,tm1⟩ | ⟨hmz,tm1,tm2⟩
 have hbits:blockBits p q s m=bitsOf 0 2:=by unfold blockBits;rw [if_pos HSAME.out,if_pos hmz]
 obtain ⟨posE,hpE⟩:∃ posE,posE=pos+2:=⟨_,rfl⟩
 have HEND:Hid (pos+(blockBits p q s m).length=posE):=hid (by rw [hbits,bitsOf_len,hpE])
 have hh:=HAH.out
 rw [hbits] at hh
 have hg1:=rget_ahead w1 b F ds pos 2 0 HRD.out (by omega) (by decide) hh
 rw [←hpE] at hg1
 have m1:m.1=0:=by rw [hmz]
 have m2:m.2=0:=by rw [hmz]
 have HM12:=hid (And.intro m1 m2)
 have hppz:=HPO.out
 rw [m1,m2] at hppz
 have HPO:=hid hppz
 clear hbits hpE hh hppz m1 m2 hmz z1 z2 z3 z4 z5 z6 y1 y2
 go_enter Tryz.func36,Tryz.ntmps36
 go_wp2_with fail
 rw [←HW1.out]
 refine hg1.mono ?_
 rintro e w2 ⟨rfl,hr2,ch2⟩
 have herr:=err_ok w2 b F ds posE hr2
 have HS0:=hid (HST.out w2 posE hr2 ch2)
 obtain ⟨⟨a0,a1,a2,a3⟩,⟨b0,b3⟩,⟨s0,s1,s2,s3⟩⟩:=HCEL.out (b::gs) w2 HS0.out.chg HGS.out
 clear hg1 hr2
 go_wp2_with (go_at_call 60;refine herr.mono ?_;rintro e w' ⟨rfl,rfl⟩)
 clear a0 a1 a2 a3 b0 b3 s0 s1 s2 s3 herr ch2
 rotate_left
 iterate 2
  have hbits:blockBits p q s m=bitsOf 1 2++vecBits m:=by unfold blockBits;rw [if_pos HSAME.out,if_neg hmz]
  clear hmz
  have hh:=HAH.out
  rw [hbits] at hh
  have hg1:=rget_ahead w1 b F ds pos 2 1 HRD.out (by omega) (by decide) hh.left
  have hh2:=hh.right
  rw [bitsOf_len] at hh2
  rw [HVEC.out] at hh2
  have hh3:=hh2.left
  have hh4:=hh2.right
  rw [bitsOf_len] at hh4
  obtain ⟨posE,hpE⟩:∃ posE,posE=pos+2+4+4:=⟨_,rfl⟩
  have HEND:Hid (pos+(blockBits p q s m).length=posE):=hid (by rw [hbits,zC,bitsOf_len,vecBits_len,hpE])
  have hg2:=fun w' hr=>rget_ahead w' b F ds (pos+2) 4 e1 hr (by omega) (by omega) hh3
  have hg3:=fun w' hr=>rget_ahead w' b F ds (pos+2+4) 4 e2 hr (by omega) (by omega) hh4
  rw [←hpE] at hg3
  have HG2:=hid hg2
  have HG3:=hid hg3
  clear hbits hpE hh hh2 hh3 hh4 hg2 hg3
  go_enter Tryz.func36,Tryz.ntmps36
  go_wp2_with fail
  rw [←HW1.out]
  refine hg1.mono ?_
  rintro e w2 ⟨rfl,hr2,ch2⟩
  have herr:=err_ok w2 b F ds _ hr2
  have hg2:=HG2.out w2 hr2
  have HCH2:=hid ch2
  clear hg1 hr2 ch2
  go_wp2_with (go_at_call 60;refine herr.mono ?_;rintro e w' ⟨rfl,rfl⟩)
  refine hg2.mono ?_
  rintro e w3 ⟨rfl,hr3,ch3⟩
  have hg3:=HG3.out w3 hr3
  have HCH3:=hid (HCH2.out.trans_same ch3)
  clear hg2 herr hr3 ch3
  go_wp2_with fail
  refine hg3.mono ?_
  rintro e w4 ⟨rfl,hr4,ch4⟩
  have herr:=err_ok w4 b F ds _ hr4
  have HCH4:=hid (HCH3.out.trans_same ch4)
  have HR4:=hid hr4
  obtain ⟨⟨a0,a1,a2,a3⟩,⟨b0,b3⟩,⟨s0,s1,s2,s3⟩⟩:=HCEL.out [b] w4 HCH4.out (fun k hk hmm=>HGS.out k hk (by simp at hmm;simp [hmm]))
  clear hg3 hr4 ch4
  go_wp2_with (go_at_call 60;refine herr.mono ?_;rintro e w' ⟨rfl,rfl⟩)
  refine (HIM.out _).mono ?_
  rintro e w5 ⟨rfl,ch5⟩
  have hch5:=HCH4.out.trans_same (ch5.mono (F':=[b]) (by simp))
  have HS0:=hid (HST.out w5 posE (HR4.out.chg ch5 (by simp)) hch5)
  obtain ⟨⟨a0,a1,a2,a3⟩,⟨b0,b3⟩,⟨s0,s1,s2,s3⟩⟩:=HCEL.out (b::gs) w5 HS0.out.chg HGS.out
  clear ch5 hch5 herr
  go_wp2_with fail
  clear a0 a1 a2 a3 b0 b3 s0 s1 s2 s3
  rotate_left
 all_goals
  go_loopg [14,15,16,17,18,19,67] n (fun j v14 v15 v16 v17 v18 v19 v67 wr=>∃ i:Nat,v67=.int .i64 i∧i+j=n∧Hid (GbSt w1 p q bs s b F ds posE gP capP xs gs wr i))
  case atStart=>exact ⟨0,rfl,by omega,HS0⟩
  case round =>
   obtain ⟨i,rfl,hij,HS⟩:=hrel
   rcases gk with _ | j
   ·obtain rfl:i=n:=by omega
    have t1:decide (i<i)=false:=by simp
    go_wp2_with fail
    go_ret
    have hs9:=HS.out
    refine ⟨rfl,?_,?_,?_⟩
    ·rw [HEND.out]
     exact hs9.rd
    ·exact hs9.now
    ·exact (HC1.out.mono (by simp)).trans_same hs9.chg
   ·have hi:i<n:=by omega
    have t1:decide (i<n)=true:=zB hi
    have hip:i<p.P.length:=by rw [←HN.out];exact hi
    obtain ⟨wr0,rfl⟩:∃ wr0,wr0=wr:=⟨_,rfl⟩
    have hc0:Chg (b::gs) w wr0:=(HC1.out.mono (by simp)).trans_same HS.out.chg
    obtain ⟨⟨a0,a1,a2,a3⟩,⟨b0,b3⟩,⟨s0,s1,s2,s3⟩⟩:=HCEL.out (b::gs) wr0 HS.out.chg HGS.out
    have hpp:=HPO.out wr0 hc0 i hi
    obtain ⟨gi,ci,hxi,hgi,hrow,hcell⟩:=HS.out.now.plane (i:=i) (by rw [bwP_len];exact hip)
    have hmx:(bwP p q bs s i).P.getD i []=mixF (q.P.getD i []) (p.P.getD i []) p.W bs:=by
     rw [zD,bwP_get bs s i hip,if_neg (by omega)]
     rfl
    rw [hmx] at hrow
    change Row wr0 3 (.slice (some ⟨gi,0,none⟩) (p.W*p.H) ci) gi _ at hrow
    change wr0.cell? ⟨gP,i,none⟩=some (.slice (some ⟨gi,0,none⟩) (p.W*p.H) ci) at hcell
    change xs[i]?=some (.slice (some ⟨gi,0,none⟩) (p.W*p.H) ci) at hxi
    rw [←HNN.out] at hrow hcell hxi
    have hPlt:=HS.out.now.ltP
    have hgim:gi∈gs:=List.mem_of_getElem? hgi
    have hce2:∀ wz,Chg (b::gs) wr0 wz→wz.cell? ⟨gP,i,none⟩=some (.slice (some ⟨gi,0,none⟩) N ci):=fun wz hz=>(World.cell?_of_block (w:=wr0) (hz.block gP hPlt HGP.out)).trans hcell
    have hNci:N≤ci:=by
     obtain ⟨_,e,h1,_⟩:=hrow.open_
     injection e with _ e3 e4
     subst e4
     rw [zE,mixF_len,(HLN.out i hi).1] at h1
     exact h1
    have HXI:=hid hxi
    have HGI:=hid hgi
    have HRW:=hid hrow
    have HCE:=hid hce2
    have HGM:=hid hgim
    have HC0:=hid hc0
    have HIP:=hid hip
    clear hxi hgi hrow hcell hce2 hmx hPlt hgim hc0 hip
    go_wp2_with fail
    refine hpp.mono ?_
    rintro e w5 ⟨v5,F5,rfl,own5,ch5,hF5⟩
    clear hpp
    rcases own5.cases with ⟨_,he,_⟩ | ⟨g5,hrow5,hFg5⟩
    ·exfalso
     have:=HOLD.out i
     rw [List.map_eq_nil_iff.1 he] at this
     simp at this
     omega
    have hr5:=hrow5
    obtain ⟨c5,rfl,h51,h52,hce5,hfr5⟩:=hrow5.open_map
    have hg5:wr0.heap.size≤g5:=hF5 g5 (by rw [hFg5];simp)
    rw [HOLD.out i] at h51 hr5 ⊢
    have HR5:=hid hr5
    have HG5:=hid hg5
    have HC5:=hid ch5
    have hglt:gi<wr0.heap.size:=HRW.out.lt
    have HGLT:=hid hglt
    clear own5 hrow5 hr5 hce5 hfr5 hFg5 hF5 hg5 hglt h52 a0 a1 a2 a3 b0 b3 s0 s1 s2 s3
    obtain ⟨w6,rfl⟩:∃ w6,w6=w5:=⟨_,rfl⟩
    have HRD6:=hid (HS.out.rd.chg ch5 (by simp))
    have HC6:Hid (Chg [b] wr0 w6):=hid (ch5.mono (by simp))
    have hr6:=HR5.out
    rw [HSO.out i hi] at hr6
    have HR6:=hid hr6
    have HPE:Hid (posE=posE):=hid rfl
    clear hr6 ch5
    have hcc6:Chg (b::gs) w1 w6:=HS.out.chg.trans_same (HC6.out.mono (by simp))
    obtain ⟨⟨a0,a1,a2,a3⟩,⟨b0,b3⟩,⟨s0,s1,s2,s3⟩⟩:=HCEL.out (b::gs) w6 hcc6 HGS.out
    clear hcc6
    have hri:Row w6 3 (.slice (some ⟨gi,0,none⟩) N ci) gi ((mixF (q.P.getD i []) (p.P.getD i []) p.W (bs++[⟨s.x,s.y,s.w,0⟩])).map vi):=by
     rw [mixF_flat _ _ _ _ _ rfl]
     refine HRW.out.chg HC6.out ?_
     intro hmm
     simp at hmm
     subst hmm
     exact HFG.out _ HS.out.rd.mem (by simp [HGM.out])
    have HRI:=hid hri
    clear hri
    go_wp2_with fail
    go_loopg [19,116] s.h (fun j2 v19 v116 wr2=>∃ k:Nat,v116=.int .i64 k∧k+j2=s.h∧Hid (Row wr2 3 (.slice (some ⟨gi,0,none⟩) N ci) gi ((mixF (q.P.getD i []) (p.P.getD i []) p.W (bs++[⟨s.x,s.y,s.w,k⟩])).map vi))∧Hid (Chg [gi] w6 wr2))
    case atStart=>exact ⟨0,rfl,by omega,HRI,hid (Chg.refl _ _)⟩
    case round =>
     obtain ⟨k,rfl,hkj,HRK,HCK⟩:=hrel
     have hcz:Chg (b::gs) wr0 wr:=(HC6.out.mono (F':=b::gs) (by simp)).trans HCK.out (fun x hx=>by
      simp at hx
      subst hx
      exact .inl (by simp [HGM.out]))
     rcases gk with _ | j2
     ·have hks:k=s.h:=by omega
      have t2:decide (k<s.h)=false:=zA (by omega)
      have hrk:=HRK.out
      rw [hks] at hrk
      have hnx:=HS.out.next HOK.out HOQ.out HA.out HIP.out HFG.out (by rw [HXI.out]) HGI.out HRD6.out HC6.out HCK.out hrk
      have HNX:=hid hnx
      clear hrk hnx hks hcz
      go_wp2_with fail
      go_roundg j
      case measure=>omega
      case rel=>exact ⟨i+1,by go_num,by omega,HNX⟩
     ·have hk:k<s.h:=by omega
      have t2:decide (k<s.h)=true:=zB hk
      obtain ⟨Yk,hYk⟩:∃ Yk,Yk=s.y+k:=⟨_,rfl⟩
      have eY:(s.y:Int)+(k:Int)=(Yk:Int):=by omega
      have hfy:=HFY.out k hk
      have hfm:=HFM.out k hk
      have hcr:=HCR.out i k hi hk
      rw [←hYk] at hfy hcr
      obtain ⟨P0,hP0⟩:∃ P0,P0=Yk*p.W:=⟨_,rfl⟩
      have eP:(Yk:Int)*(p.W:Int)=(P0:Int):=by rw [hP0];simp
      rw [←hP0] at hfy hcr
      obtain ⟨at_,hat⟩:∃ at_,at_=P0+s.x:=⟨_,rfl⟩
      have eQ:(P0:Int)+(s.x:Int)=(at_:Int):=by omega
      rw [←hat] at hfy hcr
      obtain ⟨lo,hlo⟩:∃ lo,lo=k*s.w:=⟨_,rfl⟩
      have eL:(k:Int)*(s.w:Int)=(lo:Int):=by rw [hlo];simp
      rw [←hlo] at hfm hcr
      obtain ⟨k1,hk1⟩:∃ k1,k1=k+1:=⟨_,rfl⟩
      have eK:(k:Int)+1=(k1:Int):=by omega
      obtain ⟨hi2,hhi⟩:∃ hi2,hi2=lo+s.w:=⟨_,rfl⟩
      have eH:(k1:Int)*(s.w:Int)=(hi2:Int):=by rw [hk1,hhi,hlo];simp [Int.add_mul]
      have hat2:at_<N:=by omega
      have hsl2:=slice_at (P:=Tryz.prog) Tryz.underlying22 size_int gi N ci at_ hat2 hNci
      obtain ⟨A',hsl,-,hcl⟩:=slice_mid (P:=Tryz.prog) Tryz.underlying22 size_int (some ⟨g5,0,none⟩) M c5 lo s.w hi2 hhi (by omega) h51
      have hg5g:g5∉[gi]:=fun hmm=>by
       simp at hmm
       have:=HG5.out
       have:=HGLT.out
       omega
      have hr5:=HR6.out.chg HCK.out hg5g
      obtain ⟨_,-,-,-,hce5,-⟩:=hr5.open_map
      have hc5:Cells vi wr (some ⟨g5,0,none⟩) (partF (q.P.getD i []) p.W s.x s.y s.w s.h):=⟨fun _=>⟨g5,0,rfl,hr5.lt,fun k a hk=>by rw [Nat.zero_add];exact hce5 k a hk⟩⟩
      obtain ⟨R,hR⟩:∃ R,R=((partF (q.P.getD i []) p.W s.x s.y s.w s.h).drop lo).take s.w:=⟨_,rfl⟩
      have hcR:Cells vi wr A' R:=by rw [hR];exact hcl Int vi wr _ (by rw [partF_len,HM.out]) hc5
      have hRl:R.length=s.w:=by rw [hR,List.length_take,List.length_drop,partF_len,←HM.out];omega
      rw [←hR] at hcr
      have hrl:((mixF (q.P.getD i []) (p.P.getD i []) p.W (bs++[⟨s.x,s.y,s.w,k⟩])).map vi).length=N:=by rw [zE,mixF_len,(HLN.out i hi).1]
      have hgpc:=HCE.out wr hcz
      have hcw1:Chg (b::gs) w1 wr:=HS.out.chg.trans_same hcz
      obtain ⟨⟨a0,a1,a2,a3⟩,⟨b0,b3⟩,⟨s0,s1,s2,s3⟩⟩:=HCEL.out (b::gs) wr hcw1 HGS.out
      have HCRR:=hid hcR
      have HCR2:=hid hcr
      have HRL:=hid hRl
      have HLR:=hid hrl
      have hYk4:Yk≤72:=by omega
      have hP4:P0≤4096:=by omega
      have hat4:at_≤4096:=by omega
      have hlo4:lo≤64:=by omega
      have hhi4:hi2≤64:=by omega
      have hk14:k1≤8:=by omega
      have hfit:Hid (at_+s.w≤N∧s.w≤N-at_):=hid ⟨by omega,by omega⟩
      clear hYk hP0 hat hlo hk1 hhi hfy hfm hcr hcl hg5g hr5 hce5 hc5 hR hcR hRl hrl hcw1 hcz a0 a1 a2 a3
      go_wp2_with fail
      refine wp_region_quiet_tail 27 (by kernel_rfl) (by kernel_rfl) ?_
      simp only [List.take_succ_cons,List.take_zero,List.drop_succ_cons,List.drop_zero]
      repeat (go_big_quiet_step (fail))
      refine wpQuiet_nil ?_
      intro _ hw'
      obtain ⟨nq,rfl⟩:=hw'
      have hrq:=HRK.out.drewN nq
      go_wp2_with (refine wpList_copy_row rfl (.tmp 134) (.tmp 145) 22 22 rfl Tryz.underlying22 (by kernel_rfl) hrq at_ (N-at_) (ci-at_) s.w (c5-lo) rfl rfl (R.map vi) ?n1 ?n2 ?n3 ?n4 ?n5 ?n6 ?_)
      case n1=>rw [zE];exact HRL.out
      case n2=>exact sw0
      case n3=>exact hfit.out.2
      case n4 =>
       have h1:=HCRR.out.drewN nq
       refine ⟨fun h0 => ?_⟩
       obtain ⟨b,o,e1,e2,e3⟩:=h1.ex (by simpa using h0)
       refine ⟨b,o,e1,e2,fun i a ha => ?_⟩
       rw [List.getElem?_map] at ha
       obtain ⟨x,hx,rfl⟩:=Option.map_eq_some_iff.1 ha
       exact e3 i x hx
      case n5=>rw [HLR.out];exact hfit.out.1
      case n6 =>
       intro u hu
       obtain ⟨x,_,rfl⟩:=List.mem_map.1 hu
       rfl
      intro w7 hr7 ch7
      rw [←zD,←zD,HCR2.out] at hr7
      have HR7:=hid hr7
      have HC7:Hid (Chg [gi] w6 w7):=hid ((HCK.out.drewN nq).trans_same ch7)
      clear hr7 ch7 hrq
      go_wp2_with fail
      go_roundg j2
      case measure=>omega
      case rel=>exact ⟨k+1,by go_num,by omega,HR7,HC7⟩
theorem getBlock_diff {w:World} {p q:PicD} {g o:Nat} {B:Nat→Option Addr} {c:Nat→Nat} {G:List Nat} {bs:List Sq} {s:Sq} {m:Int × Int} {b:Nat} {F ds:List Nat} {pos gP capP:Nat} {xs:List Value} {gs:List Nat} (cap:Nat)
  (h:GbIn w p q g o B c G bs s m b F ds pos gP capP xs gs) (hsame:sameB p q s m=false) (hah:Ahead ds pos (blockBits p q s m)) :
  Calls Tryz.prog 36 #[.pointer (some ⟨b,0,none⟩),picV p g o cap,picV (bwP p q bs s 0) gP 0 capP,sqV s] w (GbPost w p q bs s b F ds (pos+(blockBits p q s m).length) gP capP xs gs):=by
 have hok:=h.was.ok
 have hok':=h.qok
 have ha:=h.ha
 have hs:=h.hs
 have hm:=h.hm
 obtain ⟨sw0,sw1,sh0,sh1⟩:(1≤s.w∧s.w≤8∧1≤s.h∧s.h≤8):=⟨h.sw0,h.sw1,h.sh0,h.sh1⟩
 have hx4:s.x≤64:=by have:=hs.x;have:=hok.w1;omega
 have hy4:s.y≤64:=by have:=hs.y;have:=hok.h1;omega
 have hW4:=hok.w1
 have hH4:=hok.h1
 have hmf:=hm.fit
 have hgs:∀ k,w.heap.size≤k→k∉b::gs:=fun k hk hmm=>by
  rcases List.mem_cons.1 hmm with rfl | h1
  ·have:=h.rd.lt _ h.rd.mem;omega
  ·have:=h.now.pl.lt k h1;omega
 have hnn:=ha.n
 obtain ⟨n,hn⟩:∃ n,n=p.P.length:=⟨_,rfl⟩
 rw [←hn] at hnn
 obtain ⟨N,hN⟩:∃ N,N=p.W*p.H:=⟨_,rfl⟩
 obtain ⟨M,hM⟩:∃ M,M=s.h*s.w:=⟨_,rfl⟩
 have hM4:M≤64:=by rw [hM];exact Nat.mul_le_mul sh1 sw1
 have hM0:0<M:=by rw [hM];exact Nat.mul_pos sh0 sw0
 have hN4:N≤4096:=by rw [hN];exact hok.area
 have hn4:n≤4:=by rw [hn];exact hok.n1
 have hpo:∀ w',Chg (b::gs) w w'→∀ i,i<n→_:=fun w' hc i hi=>part_ok cap (h.was.chg hc h.gG) i (by rw [←hn];exact hi) s m hmf.x0 hmf.x1 hmf.y0 hmf.y1 hx4 hy4
 have him:=fun w'=>isMove_ok p.W p.H p.d n g o cap s m w' hW4 hH4 hx4 hy4 (by omega) (by omega) (by have:=hm.1;omega) (by have:=hm.2.1;omega) (by have:=hm.2.2.1;omega) (by have:=hm.2.2.2.1;omega)
 rw [(mvB_iff p.W p.H s m).2 hm] at him
 have hd0:=hok.d0
 have hd1:=hok.d1
 have hwp:∀ v w,_:=fun v w=>wrap_ok v p.d w hd0 hd1
 unfold GbPost
 unfold picV sqV at hpo ⊢
 unfold sqV at him
 rw [←hn] at hpo ⊢
 rw [bwP_len,←hn]
 show Calls _ _ #[_,_,.agg #[.int .i64 p.W,.int .i64 p.H,.int .i64 p.d,.slice (some ⟨gP,0,none⟩) n capP],_] _ _
 obtain ⟨w1,hw1⟩:∃ w1,w1=(((w.alloc (.cells #[.int .i64 p.W,.int .i64 p.H,.int .i64 p.d,.slice (some ⟨g,o,none⟩) n cap] 25)).alloc (.cells #[.int .i64 p.W,.int .i64 p.H,.int .i64 p.d,.slice (some ⟨gP,0,none⟩) n capP] 25)).alloc (.cells #[.int .i64 s.x,.int .i64 s.y,.int .i64 s.w,.int .i64 s.h] 45)):=⟨_,rfl⟩
 have hb1:Blk w1 w.heap.size 25 #[.int .i64 p.W,.int .i64 p.H,.int .i64 p.d,.slice (some ⟨g,o,none⟩) n cap]:=by rw [hw1];exact ((Blk.new w _ _).alloc _).alloc _
 have hb2:Blk w1 (w.heap.size+1) 25 #[.int .i64 p.W,.int .i64 p.H,.int .i64 p.d,.slice (some ⟨gP,0,none⟩) n capP]:=by rw [hw1];exact (Blk.new2 w _ _ _).alloc _
 have hb3:Blk w1 (w.heap.size+1+1) 45 #[.int .i64 s.x,.int .i64 s.y,.int .i64 s.w,.int .i64 s.h]:=by rw [hw1];exact Blk.new3 w _ _ _ _
 have hC1:Chg [] w w1:=by rw [hw1];exact (((Chg.refl [] w).alloc _).alloc _).alloc _
 have hcel:∀ (E:List Nat) wr,Chg E w1 wr→(∀ k,w.heap.size≤k→k∉E)→(wr.cell? ⟨w.heap.size,0,none⟩=some (.int .i64 p.W)∧wr.cell? ⟨w.heap.size,1,none⟩=some (.int .i64 p.H)∧wr.cell? ⟨w.heap.size,2,none⟩=some (.int .i64 p.d)∧wr.cell? ⟨w.heap.size,3,none⟩=some (.slice (some ⟨g,o,none⟩) n cap)) ∧
   (wr.cell? ⟨w.heap.size+1,0,none⟩=some (.int .i64 p.W)∧wr.cell? ⟨w.heap.size+1,3,none⟩=some (.slice (some ⟨gP,0,none⟩) n capP)) ∧
   (wr.cell? ⟨w.heap.size+1+1,0,none⟩=some (.int .i64 s.x)∧wr.cell? ⟨w.heap.size+1+1,1,none⟩=some (.int .i64 s.y)∧wr.cell? ⟨w.heap.size+1+1,2,none⟩=some (.int .i64 s.w)∧wr.cell? ⟨w.heap.size+1+1,3,none⟩=some (.int .i64 s.h)):=fun E wr hc e =>
  ⟨⟨(hb1.chg hc (e _ (by omega))).cell 0,(hb1.chg hc (e _ (by omega))).cell 1,(hb1.chg hc (e _ (by omega))).cell 2,(hb1.chg hc (e _ (by omega))).cell 3⟩,⟨(hb2.chg hc (e _ (by omega))).cell 0,(hb2.chg hc (e _ (by omega))).cell 3⟩,⟨(hb3.chg hc (e _ (by omega))).cell 0,(hb3.chg hc (e _ (by omega))).cell 1,(hb3.chg hc (e _ (by omega))).cell 2,(hb3.chg hc (e _ (by omega))).cell 3⟩⟩
 have hgP:gP∉b::gs:=fun hmm=>by
  rcases List.mem_cons.1 hmm with e | h1
  ·exact h.fG b h.rd.mem (by simp [e])
  ·obtain ⟨k,hk,e⟩:=List.getElem_of_mem h1
   have hk':k<(bwP p q bs s 0).P.length:=by rw [←h.now.pl.lg];exact hk
   exact h.now.neP hk' (zF hk) e.symm
 have hrd1:=h.rd.chg hC1 (by simp)
 have hst1:∀ w2 pos',IsRd w2 b F ds pos'→Chg [b] w1 w2→GbSt w1 p q bs s b F ds pos' gP capP xs gs w2 0:=fun w2 pos' hr hc =>
  ⟨hr,(h.now.same hC1).chg hc (by simpa using fun e=>hgP (by simp [e])) (by
   intro x hx hmm
   simp at hmm
   subst hmm
   exact h.fG _ h.rd.mem (by simp [hx])),hc.mono (by simp)⟩
 have hpt:∀ w2,Chg (b::gs) w w2→Pts w2:=fun w2 hc=>h.pts.chg hc fun hmm=>by
  rcases List.mem_cons.1 hmm with e | h1
  ·exact h.f0 (by rw [e];exact h.rd.mem)
  ·exact h.g0 h1
 have hFG:=h.fG
 have hF0:=h.f0
 have hoo:=fun i=>oldB_zero ha i s
 have hold:∀ i,(oldB p i s m).length=M:=fun i=>by rw [oldB_len,hM]
 have hln:∀ i,i<n→(p.P.getD i []).length=N∧(q.P.getD i []).length=N:=fun i hi=>⟨by rw [hN];exact hok.len _ (plane_mem (by omega)),by rw [hN,ha.W,ha.H];exact hok'.len _ (plane_mem (by omega))⟩
 have hfy:∀ k,k<s.h→(s.y+k)*p.W+s.x+s.w≤N:=fun k hk=>by
  have h1:=hs.x
  have h2:s.y+k+1≤p.H:=by have:=hs.y;omega
  have h3:=Nat.mul_le_mul_right p.W h2
  rw [Nat.succ_mul,Nat.mul_comm p.H,←hN] at h3
  omega
 have hfm:∀ k,k<s.h→k*s.w+s.w≤M:=fun k hk=>by
  have h3:=Nat.mul_le_mul_right s.w (show k+1≤s.h by omega)
  rw [Nat.succ_mul,←hM] at h3
  exact h3
 have hcr:∀ i k,i<n→k<s.h→_:=fun i k hi hk=>copy_row_eq (q:=q.P.getD i []) (l:=p.P.getD i []) (W:=p.W) (H:=p.H) (bs:=bs) (sx:=s.x) (sy:=s.y) (sw:=s.w) (sh:=s.h) (k:=k) (by rw [(hln i hi).1,(hln i hi).2]) (by rw [(hln i hi).1,hN]) hs.x hs.y hk
 have hdl:∀ i,(diffB p q i s m).length=M:=fun i=>by rw [diffB_len,hM,Nat.mul_comm]
 have hds:∀ i,SmpOk p.d (diffB p q i s m):=fun i=>by rw [ha.d];exact diffW_smp _ _ _
 have hos:∀ i,i<n→SmpOk p.d (oldB p i s m):=fun i hi=>oldB_smp hok (by omega) s m
 have hug:∀ i k,i<n→k<M→(partF (q.P.getD i []) p.W s.x s.y s.w s.h)[k]?=some (wrapI ((oldB p i s m).getD k 0+(diffB p q i s m).getD k 0) p.d):=fun i k hi hk=>by
  rw [←hoo i,ha.d]
  exact unD_get (oldB_smp hok' (by omega) s (0,0)) (by rw [←hM];exact hk)
 have hpl:∀ i,(partF (q.P.getD i []) p.W s.x s.y s.w s.h).length=M:=fun i=>by rw [partF_len,hM]
 have hlen3:∀ i,i<n→bestKind (diffB p q i s m) s.w s.h p.d≤7∧mayB (bestKind (diffB p q i s m) s.w s.h p.d) (diffB p q i s m) s.w p.d=true:=fun i hi=>by
  have h1:=bestKind_ok (diffB p q i s m) s.w s.h p.d
  exact ⟨h1.1,h1.2.1⟩
 have htg:∀ w' i pos',i<n→IsRd w' b F ds pos'→Chg (b::gs) w w'→Ahead ds pos' (tileBest (diffB p q i s m) s.w s.h p.d)→Calls Tryz.prog 61 #[.pointer (some ⟨b,0,none⟩),.int .i64 s.w,.int .i64 s.h,.int .i64 p.d] w' (GetPost w' b F ds pos' (diffB p q i s m) (tileBest (diffB p q i s m) s.w s.h p.d).length):=fun w' i pos' hi hr hc hah' =>
  tget_all hr sw0 (by omega) sh0 (by omega) hd0 hd1 (by rw [hdl i,hM,Nat.mul_comm]) (hds i) (hlen3 i hi).1 (hpt w' hc) hF0 (hlen3 i hi).2 hah'
 have hbb:blockBits p q s m=bitsOf 2 2++(vecBits m++changeBits p q s m n):=by
  unfold blockBits
  rw [if_neg (by rw [hsame];simp),hnn]
 obtain ⟨e1,he1⟩:∃ e1:Nat,m.1+4=(e1:Int):=⟨(m.1+4).toNat,by have:=hm.1;omega⟩
 obtain ⟨e2,he2⟩:∃ e2:Nat,m.2+4=(e2:Int):=⟨(m.2+4).toNat,by have:=hm.2.2.1;omega⟩
 have e18:e1≤8:=by have:=hm.2.1;omega
 have e28:e2≤8:=by have:=hm.2.2.2.1;omega
 have hvec:vecBits m=bitsOf e1 4++bitsOf e2 4:=by
  unfold vecBits
  rw [he1,he2]
  rfl
 have z1:(e1:Int)-4=m.1:=by omega
 have z2:(e2:Int)-4=m.2:=by omega
 have y1:IntKind.i64.wrap (e1:Int)=(e1:Int):=IntWalk.i64_in _ (by omega)
 have y2:IntKind.i64.wrap (e2:Int)=(e2:Int):=IntWalk.i64_in _ (by omega)
 have z3 : -4≤m.1:=by omega
 have z4:m.1≤4:=by omega
 have z5 : -4≤m.2:=by omega
 have z6:m.2≤4:=by omega
 have HW1:=hid hw1
 have HPO:=hid hpo
 have HIM:=hid him
 have HWP:=hid hwp
 have HCEL:=hid hcel
 have HST:=hid hst1
 have HPT:=hid hpt
 have HFG:=hid hFG
 have HOLD:=hid hold
 have HLN:=hid hln
 have HFY:=hid hfy
 have HFM:=hid hfm
 have HCR:=hid hcr
 have HVEC:=hid hvec
 have HGP:=hid hgP
 have HGS:=hid hgs
 have HRD:=hid hrd1
 have HC1:=hid hC1
 have HOK:=hid hok
 have HOQ:=hid hok'
 have HA:=hid ha
 have HAH:=hid hah
 have HN:=hid hn
 have HNN:=hid hN
 have HM:=hid hM
 have HF0:=hid hF0
 have HDL:=hid hdl
 have HDS:=hid hds
 have HOS:=hid hos
 have HUG:=hid hug
 have HPL:=hid hpl
 have HTG:=hid htg
 have HBB:=hid hbb
 obtain ⟨⟨a0,a1,a2,a3⟩,⟨b0,b3⟩,⟨s0,s1,s2,s3⟩⟩:=hcel [] w1 (Chg.refl _ _) (by simp)
 have H9:=hid (show m.1=0→m.2=0→m=(0,0) from fun a b=>Prod.ext a b)
 clear hw1 hb1 hb2 hb3 hpo him hwp hcel hst1 hpt hFG hold hln hfy hfm hcr hvec hgP hgs hrd1 hC1 hok hok' ha hah hn hN hM hF0 hdl hds hos hug hpl htg hbb hoo hs hm hmf hsame hnn he1 he2 h hlen3
 have hbits:blockBits p q s m=bitsOf 2 2++(vecBits m++changeBits p q s m n):=HBB.out
 have hh:=HAH.out
 rw [hbits] at hh
 have hg1:=rget_ahead w1 b F ds pos 2 2 HRD.out (by omega) (by decide) hh.left
 have hh2:=hh.right
 rw [bitsOf_len] at hh2
 have hh5:=hh2.right
 rw [vecBits_len] at hh5
 have hh6:=hh2.left
 rw [HVEC.out] at hh6
 have hh3:=hh6.left
 have hh4:=hh6.right
 rw [bitsOf_len] at hh4
 obtain ⟨posE,hpE⟩:∃ posE,posE=pos+2+4+4:=⟨_,rfl⟩
 have hpE':pos+2+8=posE:=by omega
 rw [hpE'] at hh5
 have HEND:Hid (pos+(blockBits p q s m).length=posE+(changeBits p q s m n).length):=hid (by rw [hbits,zC,zC,bitsOf_len,vecBits_len,hpE];omega)
 have hqd:q.d=p.d:=HA.out.d.symm
 have HCB:Hid (∀ i,changeBits p q s m (i+1)=changeBits p q s m i++tileBest (diffB p q i s m) s.w s.h p.d):=hid (fun i=>by rw [←hqd];exact changeBits_succ p q s m i)
 have hpre:∀ k i,i+k=n→∃ rest,changeBits p q s m n=changeBits p q s m i++rest:=by
  intro k
  induction k with
  | zero=>intro i h;exact ⟨[],by rw [List.append_nil,show i=n by omega]⟩
  | succ k ih =>
   intro i h
   obtain ⟨r,hr⟩:=ih (i+1) (by omega)
   exact ⟨_,by rw [hr,changeBits_succ,List.append_assoc]⟩
 have HAHC:Hid (∀ i,i<n→Ahead ds (posE+(changeBits p q s m i).length) (tileBest (diffB p q i s m) s.w s.h p.d)):=hid (fun i hi=>by
  obtain ⟨r,hr⟩:=hpre (n-(i+1)) (i+1) (by omega)
  rw [hr,HCB.out i,List.append_assoc] at hh5
  exact hh5.right.left)
 clear hh5 hh6 hpE' hqd hpre
 have hg2:=fun w' hr=>rget_ahead w' b F ds (pos+2) 4 e1 hr (by omega) (by omega) hh3
 have hg3:=fun w' hr=>rget_ahead w' b F ds (pos+2+4) 4 e2 hr (by omega) (by omega) hh4
 rw [←hpE] at hg3
 have HG2:=hid hg2
 have HG3:=hid hg3
 clear hbits hpE hh hh2 hh3 hh4 hg2 hg3
 go_enter Tryz.func36,Tryz.ntmps36
 go_wp2_with fail
 rw [←HW1.out]
 refine hg1.mono ?_
 rintro e w2 ⟨rfl,hr2,ch2⟩
 have herr:=err_ok w2 b F ds _ hr2
 have hg2:=HG2.out w2 hr2
 have HCH2:=hid ch2
 clear hg1 hr2 ch2
 go_wp2_with (go_at_call 60;refine herr.mono ?_;rintro e w' ⟨rfl,rfl⟩)
 refine hg2.mono ?_
 rintro e w3 ⟨rfl,hr3,ch3⟩
 have hg3:=HG3.out w3 hr3
 have HCH3:=hid (HCH2.out.trans_same ch3)
 clear hg2 herr hr3 ch3
 go_wp2_with fail
 refine hg3.mono ?_
 rintro e w4 ⟨rfl,hr4,ch4⟩
 have herr:=err_ok w4 b F ds _ hr4
 have HCH4:=hid (HCH3.out.trans_same ch4)
 have HR4:=hid hr4
 obtain ⟨⟨a0,a1,a2,a3⟩,⟨b0,b3⟩,⟨s0,s1,s2,s3⟩⟩:=HCEL.out [b] w4 HCH4.out (fun k hk hmm=>HGS.out k hk (by simp at hmm;simp [hmm]))
 clear hg3 hr4 ch4
 go_wp2_with (go_at_call 60;refine herr.mono ?_;rintro e w' ⟨rfl,rfl⟩)
 refine (HIM.out _).mono ?_
 rintro e w5 ⟨rfl,ch5⟩
 have hch5:=HCH4.out.trans_same (ch5.mono (F':=[b]) (by simp))
 have HS0:=hid (HST.out w5 posE (HR4.out.chg ch5 (by simp)) hch5)
 obtain ⟨⟨a0,a1,a2,a3⟩,⟨b0,b3⟩,⟨s0,s1,s2,s3⟩⟩:=HCEL.out (b::gs) w5 HS0.out.chg HGS.out
 clear ch5 hch5 herr
 go_wp2_with fail
 clear a0 a1 a2 a3 b0 b3 s0 s1 s2 s3
 have hs00:=HS0.out
 have HS0:Hid (GbSt w1 p q bs s b F ds (posE+(changeBits p q s m 0).length) gP capP xs gs w5 0):=hid (by simpa [changeBits] using hs00)
 clear hs00
 go_loopg [14,15,16,17,18,19,67] n (fun j v14 v15 v16 v17 v18 v19 v67 wr=>∃ i:Nat,v67=.int .i64 i∧i+j=n∧Hid (GbSt w1 p q bs s b F ds (posE+(changeBits p q s m i).length) gP capP xs gs wr i))
 case atStart=>exact ⟨0,rfl,by omega,HS0⟩
 case round =>
  obtain ⟨i,rfl,hij,HS⟩:=hrel
  rcases gk with _ | j
  ·obtain rfl:i=n:=by omega
   have t1:decide (i<i)=false:=by simp
   go_wp2_with fail
   go_ret
   have hs9:=HS.out
   refine ⟨rfl,?_,?_,?_⟩
   ·rw [HEND.out]
    exact hs9.rd
   ·exact hs9.now
   ·exact (HC1.out.mono (by simp)).trans_same hs9.chg
  ·have hi:i<n:=by omega
   have t1:decide (i<n)=true:=zB hi
   have hip:i<p.P.length:=by rw [←HN.out];exact hi
   obtain ⟨wr0,rfl⟩:∃ wr0,wr0=wr:=⟨_,rfl⟩
   have hc0:Chg (b::gs) w wr0:=(HC1.out.mono (by simp)).trans_same HS.out.chg
   obtain ⟨⟨a0,a1,a2,a3⟩,⟨b0,b3⟩,⟨s0,s1,s2,s3⟩⟩:=HCEL.out (b::gs) wr0 HS.out.chg HGS.out
   have hpp:=HPO.out wr0 hc0 i hi
   obtain ⟨gi,ci,hxi,hgi,hrow,hcell⟩:=HS.out.now.plane (i:=i) (by rw [bwP_len];exact hip)
   have hmx:(bwP p q bs s i).P.getD i []=mixF (q.P.getD i []) (p.P.getD i []) p.W bs:=by
    rw [zD,bwP_get bs s i hip,if_neg (by omega)]
    rfl
   rw [hmx] at hrow
   change Row wr0 3 (.slice (some ⟨gi,0,none⟩) (p.W*p.H) ci) gi _ at hrow
   change wr0.cell? ⟨gP,i,none⟩=some (.slice (some ⟨gi,0,none⟩) (p.W*p.H) ci) at hcell
   change xs[i]?=some (.slice (some ⟨gi,0,none⟩) (p.W*p.H) ci) at hxi
   rw [←HNN.out] at hrow hcell hxi
   have hPlt:=HS.out.now.ltP
   have hgim:gi∈gs:=List.mem_of_getElem? hgi
   have hce2:∀ wz,Chg (b::gs) wr0 wz→wz.cell? ⟨gP,i,none⟩=some (.slice (some ⟨gi,0,none⟩) N ci):=fun wz hz=>(World.cell?_of_block (w:=wr0) (hz.block gP hPlt HGP.out)).trans hcell
   have hNci:N≤ci:=by
    obtain ⟨_,e,h1,_⟩:=hrow.open_
    injection e with _ e3 e4
    subst e4
    rw [zE,mixF_len,(HLN.out i hi).1] at h1
    exact h1
   have HXI:=hid hxi
   have HGI:=hid hgi
   have HRW:=hid hrow
   have HCE:=hid hce2
   have HGM:=hid hgim
   have HC0:=hid hc0
   have HIP:=hid hip
   clear hxi hgi hrow hcell hce2 hmx hPlt hgim hc0 hip
   go_wp2_with fail
   refine hpp.mono ?_
   rintro e w5 ⟨v5,F5,rfl,own5,ch5,hF5⟩
   clear hpp
   rcases own5.cases with ⟨_,he,_⟩ | ⟨g5,hrow5,hFg5⟩
   ·exfalso
    have:=HOLD.out i
    rw [List.map_eq_nil_iff.1 he] at this
    simp at this
    omega
   have hr5:=hrow5
   obtain ⟨c5,rfl,h51,h52,hce5,hfr5⟩:=hrow5.open_map
   have hg5:wr0.heap.size≤g5:=hF5 g5 (by rw [hFg5];simp)
   rw [HOLD.out i] at h51 hr5 ⊢
   have HR5:=hid hr5
   have HG5:=hid hg5
   have HC5:=hid ch5
   have hglt:gi<wr0.heap.size:=HRW.out.lt
   have HGLT:=hid hglt
   clear own5 hrow5 hr5 hce5 hfr5 hFg5 hF5 hg5 hglt h52 a0 a1 a2 a3 b0 b3 s0 s1 s2 s3
   have hrd5:=HS.out.rd.chg ch5 (by simp)
   have hah5:=HAHC.out i hi
   have hcw5:Chg (b::gs) w w5:=HC0.out.trans_same (ch5.mono (by simp))
   have hcc5:Chg (b::gs) w1 w5:=HS.out.chg.trans_same (ch5.mono (by simp))
   have htg5:=HTG.out w5 i _ hi hrd5 hcw5 hah5
   unfold GetPost at htg5
   obtain ⟨⟨a0,a1,a2,a3⟩,⟨b0,b3⟩,⟨s0,s1,s2,s3⟩⟩:=HCEL.out (b::gs) w5 hcc5 HGS.out
   clear hrd5 hah5 hcw5 hcc5
   go_wp2_with fail
   refine htg5.mono ?_
   rintro e w6 ⟨v7,F7,rfl,own7,hrd6,ch6,hF7⟩
   obtain ⟨A7,c7,rfl,h71,h72,hc7⟩:=own7.open_map
   have hg5l:=HR5.out.lt
   have hbg5:g5≠b:=fun e=>by have:=HG5.out;have:=HS.out.rd.lt b HS.out.rd.mem;omega
   have hrr6:=HR5.out.chg ch6 (by simpa using hbg5)
   have hap7:∀ ad,A7=some ad→ad.block≠g5:=fun ad e he=>by
    obtain ⟨b0,o0,e0,hb0,_⟩:=hc7.ex (by rw [HDL.out i];exact hM0)
    rw [e] at e0
    injection e0 with e0
    have hn7:=own7.apt (F':=[g5]) (l':=[()]) (by
     intro x hx hmm
     simp at hmm
     subst hmm
     have:=hF7 x hx
     omega) (by simp) ad e
    simp at hn7
    exact hn7 he
   rw [HDL.out i] at h71 ⊢
   have HRD6:=hid hrd6
   have HR60:=hid hrr6
   have HC7:=hid hc7
   have HAP7:=hid hap7
   have HC6:Hid (Chg [b] wr0 w6):=hid ((ch5.mono (by simp)).trans_same ch6)
   clear htg5 own7 hrd6 hc7 hrr6 hap7 hF7 ch6 ch5 h72 hg5l
   have hcc6:Chg (b::gs) w1 w6:=HS.out.chg.trans_same (HC6.out.mono (by simp))
   obtain ⟨⟨a0,a1,a2,a3⟩,⟨b0,b3⟩,⟨s0,s1,s2,s3⟩⟩:=HCEL.out (b::gs) w6 hcc6 HGS.out
   have HCC6:=hid hcc6
   obtain ⟨df,hdf⟩:∃ df,df=diffB p q i s m:=⟨_,rfl⟩
   obtain ⟨old,hol⟩:∃ old,old=oldB p i s m:=⟨_,rfl⟩
   obtain ⟨un,hun⟩:∃ un,un=partF (q.P.getD i []) p.W s.x s.y s.w s.h:=⟨_,rfl⟩
   have hlo:=HOLD.out i
   have hld:=HDL.out i
   have hlu:=HPL.out i
   have hsd:=HDS.out i
   have hsO:=HOS.out i hi
   have hgu:=fun k hk=>HUG.out i k hi hk
   rw [←hol] at hlo hsO
   rw [←hdf] at hld hsd
   rw [←hun] at hlu
   rw [←hun,←hol,←hdf] at hgu
   have hc7':=HC7.out
   rw [←hdf] at hc7'
   have hr60:Row w6 3 (.slice (some ⟨g5,0,none⟩) M c5) g5 ((mixD un old 0).map vi):=by
    have h1:=HR60.out
    rw [←hol] at h1
    simpa [mixD] using h1
   have HR0:=hid hr60
   have HC7':=hid hc7'
   have HLO:=hid hlo
   have HLD:=hid hld
   have HLU:=hid hlu
   have HSD:=hid hsd
   have HSO:=hid hsO
   have HGU:=hid hgu
   have HUN:=hid hun
   clear hcc6 hdf hol hun hlo hld hlu hsd hsO hgu hc7' hr60
   go_wp2_with fail
   go_loopg [18,95] M (fun j2 v18 v95 wr2=>∃ k:Nat,v95=.int .i64 k∧k+j2=M∧Hid (Row wr2 3 (.slice (some ⟨g5,0,none⟩) M c5) g5 ((mixD un old k).map vi))∧Hid (Chg [g5] w6 wr2))
   case atStart=>exact ⟨0,rfl,by omega,HR0,hid (Chg.refl _ _)⟩
   case round =>
   obtain ⟨k,rfl,hkj,HRK,HCK⟩:=hrel
   rcases gk with _ | j2
   case succ =>
    have hk:k<M:=by omega
    have t2:decide (k<M)=true:=zB hk
    have hko:k<old.length:=by rw [HLO.out];exact hk
    have hkd:k<df.length:=by rw [HLD.out];exact hk
    have hlu2:un.length=old.length:=by rw [HLU.out,HLO.out]
    have hmg:=mixD_get hlu2 hko
    obtain ⟨_,-,-,-,hce,hfr⟩:=HRK.out.open_map
    have hcl:=hce k _ hmg
    have hfl:=hfr k
    have hapt:Apt A7 df [g5]:=fun _ ad e hmm=>HAP7.out ad e (by simpa using hmm)
    obtain ⟨ga,oa,hAe,hcA⟩:=(HC7'.out.keep hapt HCK.out).at_ hkd
    subst hAe
    obtain ⟨x,hx⟩:∃ x,x=old.getD k 0:=⟨_,rfl⟩
    obtain ⟨y,hy⟩:∃ y,y=df.getD k 0:=⟨_,rfl⟩
    have hyy:df[k]=y:=by rw [hy,zD,zF hkd];rfl
    rw [hyy] at hcA
    rw [←hx] at hcl
    have cA:wr.cell? ⟨ga,oa+k,none⟩=some (.int .i64 y):=hcA
    have cB:wr.cell? ⟨g5,k,none⟩=some (.int .i64 x):=hcl
    obtain ⟨hx1,hx2⟩:=getD_smp HSO.out k
    obtain ⟨hy1,hy2⟩:=getD_smp HSD.out k
    rw [←hx] at hx1 hx2
    rw [←hy] at hy1 hy2
    obtain ⟨hpw0,hpw1⟩:=pow_d hd0 hd1
    have hx3:x<65536:=by omega
    have hy3:y<65536:=by omega
    have hdk:=HGU.out k hk
    rw [←hx,←hy] at hdk
    have hwr0:=HWP.out (x+y)
    obtain ⟨v,hv⟩:∃ v,v=wrapI (x+y) p.d:=⟨_,rfl⟩
    rw [←hv] at hdk hwr0
    have HWV:Hid (∀ w,Calls Tryz.prog 50 #[.int .i64 (x+y),.int .i64 p.d] w fun e w'=>e=.returned (.int .i64 v)∧w'=w):=hid (fun w=>(hwr0 w).mono fun e w' h=>⟨h.1,h.2.symm⟩)
    have hw1:IntKind.i64.wrap (x+y)=x+y:=IntWalk.i64_in _ (by omega)
    have hg5n:∀ k,k∈[g5]→w.heap.size≤k:=fun k hk=>by
     simp at hk
     have:=HG5.out
     have:=HC0.out.size
     omega
    obtain ⟨⟨a0,a1,a2,a3⟩,-,-⟩:=HCEL.out (b::gs) w6 HCC6.out HGS.out
    have hg5w1:g5≠w.heap.size:=fun e=>by
     have:=HG5.out
     have:=HS.out.chg.size
     have:=HW1.out
     have hz:w1.heap.size=w.heap.size+1+1+1:=by rw [HW1.out,alloc_size,alloc_size,alloc_size]
     omega
    have hz1:w1.heap.size=w.heap.size+1+1+1:=by rw [HW1.out,alloc_size,alloc_size,alloc_size]
    have hws6:w.heap.size<w6.heap.size:=by have:=HCC6.out.size;omega
    have b2:wr.cell? ⟨w.heap.size,2,none⟩=some (.int .i64 p.d):=(World.cell?_of_block (w:=w6) (HCK.out.block w.heap.size hws6 (by simpa using hg5w1.symm))).trans a2
    have hset:=mixD_set hlu2 hko v hdk
    have HSET:=hid hset
    have HKN:=hid hko
    have HLU2:=hid hlu2
    clear hcl hcA hx hy hyy hdk hwr0 hv hset hce hfr hmg hapt hkd hko hx2 hy2 a0 a1 a2 a3 hg5n hlu2 hpw0 hpw1 hg5w1 hz1 hws6
    go_wp2_with fail
    refine wp_region_quiet_tail 15 (by kernel_rfl) (by kernel_rfl) ?_
    simp only [List.take_succ_cons,List.take_zero,List.drop_succ_cons,List.drop_zero]
    repeat (go_big_quiet_step ((go_at_call 50;exact Calls.quiet_of_same (HWV.out _))))
    refine wpQuiet_nil ?_
    intro _ hw'
    obtain ⟨nq,rfl⟩:=hw'
    go_wp2_with fail
    go_roundg j2
    case measure=>omega
    case rel =>
     refine ⟨k+1,by go_num,by omega,hid ?_,hid ((HCK.out.drewN nq).setCell (p:=⟨g5,k,none⟩) (.inl (by simp)) _)⟩
     have h1:=(HRK.out.drewN nq).set_ (i:=k) (by rw [zE,mixD_len HLU2.out];exact HKN.out) (.int .i64 v)
     have e:((mixD un old k).map vi).set k (.int .i64 v)=(mixD un old (k+1)).map vi:=by rw [←HSET.out,List.map_set];rfl
     rw [e] at h1
     exact h1
   obtain rfl:k=M:=by omega
   have t2:decide (k<k)=false:=by simp
   have hr6:=HRK.out
   rw [show mixD un old k=partF (q.P.getD i []) p.W s.x s.y s.w s.h by
    rw [←HUN.out]
    unfold mixD
    rw [List.take_of_length_le (by rw [HLU.out];exact Nat.le_refl _),List.drop_of_length_le (by rw [HLO.out];exact Nat.le_refl _),List.append_nil]] at hr6
   obtain ⟨w6',rfl⟩:∃ w6',w6'=wr:=⟨_,rfl⟩
   obtain ⟨M,rfl⟩:∃ M,M=k:=⟨_,rfl⟩
   have hrdz:IsRd w6' b F ds (posE+(changeBits p q s m i).length+(tileBest (diffB p q i s m) s.w s.h p.d).length):=HRD6.out.chg HCK.out (fun x hx hmm=>by
    simp at hmm
    have:=HG5.out
    have:=HS.out.rd.lt x hx
    omega)
   have HRDZ:=hid hrdz
   have HC6Z:Hid (Chg [b] wr0 w6'):=hid (HC6.out.trans HCK.out (fun x hx=>by
    simp at hx
    subst hx
    exact .inr HG5.out))
   have hcc6:Chg (b::gs) w1 w6':=HS.out.chg.trans_same (HC6Z.out.mono (by simp))
   obtain ⟨⟨a0,a1,a2,a3⟩,⟨b0,b3⟩,⟨s0,s1,s2,s3⟩⟩:=HCEL.out (b::gs) w6' hcc6 HGS.out
   have HR6:=hid hr6
   clear hr6 hrdz hcc6
   have hri:Row w6' 3 (.slice (some ⟨gi,0,none⟩) N ci) gi ((mixF (q.P.getD i []) (p.P.getD i []) p.W (bs++[⟨s.x,s.y,s.w,0⟩])).map vi):=by
    rw [mixF_flat _ _ _ _ _ rfl]
    refine HRW.out.chg HC6Z.out ?_
    intro hmm
    simp at hmm
    subst hmm
    exact HFG.out _ HS.out.rd.mem (by simp [HGM.out])
   have HRI:=hid hri
   clear hri
   go_wp2_with fail
   go_loopg [19,116] s.h (fun j2 v19 v116 wr2=>∃ k:Nat,v116=.int .i64 k∧k+j2=s.h∧Hid (Row wr2 3 (.slice (some ⟨gi,0,none⟩) N ci) gi ((mixF (q.P.getD i []) (p.P.getD i []) p.W (bs++[⟨s.x,s.y,s.w,k⟩])).map vi))∧Hid (Chg [gi] w6' wr2))
   case atStart=>exact ⟨0,rfl,by omega,HRI,hid (Chg.refl _ _)⟩
   case round =>
    obtain ⟨k,rfl,hkj,HRK,HCK⟩:=hrel
    have hcz:Chg (b::gs) wr0 wr:=(HC6Z.out.mono (F':=b::gs) (by simp)).trans HCK.out (fun x hx=>by
     simp at hx
     subst hx
     exact .inl (by simp [HGM.out]))
    rcases gk with _ | j2
    ·have hks:k=s.h:=by omega
     have t2:decide (k<s.h)=false:=zA (by omega)
     have hrk:=HRK.out
     rw [hks] at hrk
     have hnx:=HS.out.next HOK.out HOQ.out HA.out HIP.out HFG.out (by rw [HXI.out]) HGI.out HRDZ.out HC6Z.out HCK.out hrk
     have hce:posE+(changeBits p q s m i).length+(tileBest (diffB p q i s m) s.w s.h p.d).length=posE+(changeBits p q s m (i+1)).length:=by rw [HCB.out i,zC];omega
     rw [hce] at hnx
     clear hce
     have HNX:=hid hnx
     clear hrk hnx hks hcz
     go_wp2_with fail
     go_roundg j
     case measure=>omega
     case rel=>exact ⟨i+1,by go_num,by omega,HNX⟩
    ·have hk:k<s.h:=by omega
     have t2:decide (k<s.h)=true:=zB hk
     obtain ⟨Yk,hYk⟩:∃ Yk,Yk=s.y+k:=⟨_,rfl⟩
     have eY:(s.y:Int)+(k:Int)=(Yk:Int):=by omega
     have hfy:=HFY.out k hk
     have hfm:=HFM.out k hk
     have hcr:=HCR.out i k hi hk
     rw [←hYk] at hfy hcr
     obtain ⟨P0,hP0⟩:∃ P0,P0=Yk*p.W:=⟨_,rfl⟩
     have eP:(Yk:Int)*(p.W:Int)=(P0:Int):=by rw [hP0];simp
     rw [←hP0] at hfy hcr
     obtain ⟨at_,hat⟩:∃ at_,at_=P0+s.x:=⟨_,rfl⟩
     have eQ:(P0:Int)+(s.x:Int)=(at_:Int):=by omega
     rw [←hat] at hfy hcr
     obtain ⟨lo,hlo⟩:∃ lo,lo=k*s.w:=⟨_,rfl⟩
     have eL:(k:Int)*(s.w:Int)=(lo:Int):=by rw [hlo];simp
     rw [←hlo] at hfm hcr
     obtain ⟨k1,hk1⟩:∃ k1,k1=k+1:=⟨_,rfl⟩
     have eK:(k:Int)+1=(k1:Int):=by omega
     obtain ⟨hi2,hhi⟩:∃ hi2,hi2=lo+s.w:=⟨_,rfl⟩
     have eH:(k1:Int)*(s.w:Int)=(hi2:Int):=by rw [hk1,hhi,hlo];simp [Int.add_mul]
     have hat2:at_<N:=by omega
     have hsl2:=slice_at (P:=Tryz.prog) Tryz.underlying22 size_int gi N ci at_ hat2 hNci
     obtain ⟨A',hsl,-,hcl⟩:=slice_mid (P:=Tryz.prog) Tryz.underlying22 size_int (some ⟨g5,0,none⟩) M c5 lo s.w hi2 hhi (by omega) h51
     have hg5g:g5∉[gi]:=fun hmm=>by
      simp at hmm
      have:=HG5.out
      have:=HGLT.out
      omega
     have hr5:=HR6.out.chg HCK.out hg5g
     obtain ⟨_,-,-,-,hce5,-⟩:=hr5.open_map
     have hc5:Cells vi wr (some ⟨g5,0,none⟩) (partF (q.P.getD i []) p.W s.x s.y s.w s.h):=⟨fun _=>⟨g5,0,rfl,hr5.lt,fun k a hk=>by rw [Nat.zero_add];exact hce5 k a hk⟩⟩
     obtain ⟨R,hR⟩:∃ R,R=((partF (q.P.getD i []) p.W s.x s.y s.w s.h).drop lo).take s.w:=⟨_,rfl⟩
     have hcR:Cells vi wr A' R:=by rw [hR];exact hcl Int vi wr _ (by rw [partF_len,HM.out]) hc5
     have hRl:R.length=s.w:=by rw [hR,List.length_take,List.length_drop,partF_len,←HM.out];omega
     rw [←hR] at hcr
     have hrl:((mixF (q.P.getD i []) (p.P.getD i []) p.W (bs++[⟨s.x,s.y,s.w,k⟩])).map vi).length=N:=by rw [zE,mixF_len,(HLN.out i hi).1]
     have hgpc:=HCE.out wr hcz
     have hcw1:Chg (b::gs) w1 wr:=HS.out.chg.trans_same hcz
     obtain ⟨⟨a0,a1,a2,a3⟩,⟨b0,b3⟩,⟨s0,s1,s2,s3⟩⟩:=HCEL.out (b::gs) wr hcw1 HGS.out
     have HCRR:=hid hcR
     have HCR2:=hid hcr
     have HRL:=hid hRl
     have HLR:=hid hrl
     have hYk4:Yk≤72:=by omega
     have hP4:P0≤4096:=by omega
     have hat4:at_≤4096:=by omega
     have hlo4:lo≤64:=by omega
     have hhi4:hi2≤64:=by omega
     have hk14:k1≤8:=by omega
     have hfit:Hid (at_+s.w≤N∧s.w≤N-at_):=hid ⟨by omega,by omega⟩
     clear hYk hP0 hat hlo hk1 hhi hfy hfm hcr hcl hg5g hr5 hce5 hc5 hR hcR hRl hrl hcw1 hcz a0 a1 a2 a3
     go_wp2_with fail
     refine wp_region_quiet_tail 27 (by kernel_rfl) (by kernel_rfl) ?_
     simp only [List.take_succ_cons,List.take_zero,List.drop_succ_cons,List.drop_zero]
     repeat (go_big_quiet_step (fail))
     refine wpQuiet_nil ?_
     intro _ hw'
     obtain ⟨nq,rfl⟩:=hw'
     have hrq:=HRK.out.drewN nq
     go_wp2_with (refine wpList_copy_row rfl (.tmp 134) (.tmp 145) 22 22 rfl Tryz.underlying22 (by kernel_rfl) hrq at_ (N-at_) (ci-at_) s.w (c5-lo) rfl rfl (R.map vi) ?n1 ?n2 ?n3 ?n4 ?n5 ?n6 ?_)
     case n1=>rw [zE];exact HRL.out
     case n2=>exact sw0
     case n3=>exact hfit.out.2
     case n4 =>
      have h1:=HCRR.out.drewN nq
      refine ⟨fun h0 => ?_⟩
      obtain ⟨b,o,e1,e2,e3⟩:=h1.ex (by simpa using h0)
      refine ⟨b,o,e1,e2,fun i a ha => ?_⟩
      rw [List.getElem?_map] at ha
      obtain ⟨x,hx,rfl⟩:=Option.map_eq_some_iff.1 ha
      exact e3 i x hx
     case n5=>rw [HLR.out];exact hfit.out.1
     case n6 =>
      intro u hu
      obtain ⟨x,_,rfl⟩:=List.mem_map.1 hu
      rfl
     intro w7 hr7 ch7
     rw [←zD,←zD,HCR2.out] at hr7
     have HR7:=hid hr7
     have HC7:Hid (Chg [gi] w6' w7):=hid ((HCK.out.drewN nq).trans_same ch7)
     clear hr7 ch7 hrq
     go_wp2_with fail
     go_roundg j2
     case measure=>omega
     case rel=>exact ⟨k+1,by go_num,by omega,HR7,HC7⟩
theorem getBlock_ok {w:World} {p q:PicD} {g o:Nat} {B:Nat→Option Addr} {c:Nat→Nat} {G:List Nat} {bs:List Sq} {s:Sq} {m:Int × Int} {b:Nat} {F ds:List Nat} {pos gP capP:Nat} {xs:List Value} {gs:List Nat} (cap:Nat)
  (h:GbIn w p q g o B c G bs s m b F ds pos gP capP xs gs) (hah:Ahead ds pos (blockBits p q s m)) :
  Calls Tryz.prog 36 #[.pointer (some ⟨b,0,none⟩),picV p g o cap,picV (bwP p q bs s 0) gP 0 capP,sqV s] w (GbPost w p q bs s b F ds (pos+(blockBits p q s m).length) gP capP xs gs):=by
 cases hs:sameB p q s m with
 | true=>exact getBlock_same cap h hs hah
 | false=>exact getBlock_diff cap h hs hah
theorem size_u8 (w:World):(sizeOf 5).run Tryz.prog w=.ok 1 w:=by
 exact Tryz.sizeOf5 w
def sq0:Sq:=⟨0,0,0,0⟩
def DecPost (w:World) (q:PicD) (e:Ending) (w':World):Prop :=
 ∃ (gP capP:Nat) (xs:List Value) (gs:List Nat),e=.returned (.tuple #[picV q gP 0 capP,.int .i64 0])∧PicOwn w' q gP capP xs gs∧Chg [] w w'∧∀ x∈gP::gs,w.heap.size≤x
theorem decode_ok {w:World} {p q:PicD} {g o:Nat} {B:Nat→Option Addr} {c:Nat→Nat} {G:List Nat} (cap:Nat) (h:PicAt w p g o B c G) (hq:q.Ok) (ha:AlikeD p q) (hp:Pts w)
  (A:Option Addr) (capA:Nat) (ms:List (Int × Int)) (hml:ms.length=(gridL q.W q.H 8).length) (hmo:∀ i,i<ms.length→mvOk p.W p.H (sqAt (gridL q.W q.H 8) i) (ms.getD i (0,0))) (hbit:MvBits p q ms)
  (hc:Cells b8 w A (mvBytes p q ms)) (hcap:(mvBytes p q ms).length≤capA) (hcm:capA≤9223372036854775807) :
  Calls Tryz.prog 10 #[picV p g o cap,.slice A (mvBytes p q ms).length capA] w (DecPost w q):=by
 unfold DecPost
 have hok:=h.ok
 obtain ⟨ss,hss⟩:∃ ss,ss=gridL q.W q.H 8:=⟨_,rfl⟩
 have hssp:gridL p.W p.H 8=ss:=by rw [hss,ha.W,ha.H]
 have hs8:∀ s∈ss,1≤s.w∧s.w≤8∧1≤s.h∧s.h≤8:=by rw [hss];exact grid_ok (by decide)
 have hsin:∀ s∈ss,SqIn p.W p.H s:=fun s hs=>by
  rw [hss] at hs
  obtain ⟨a,b⟩:=grid_in (by decide) s hs
  exact ⟨by rw [ha.W];exact a,by rw [ha.H];exact b⟩
 have hn4:ss.length≤4096:=by rw [hss];exact grid8_len hq.w1 hq.h1
 rw [←hss] at hml hmo
 have hbit':∀ b∈moveBits p q ss ms ss.length,b<2:=by rw [hss];exact hbit
 obtain ⟨n,hn⟩:∃ n,n=ss.length:=⟨_,rfl⟩
 rw [←hn] at hbit' hn4
 have hbl:=moveBits_len p q (ss:=ss) ms hs8 hq.d0 hq.d1 hq.n1 n (by omega)
 have hn0:0<n:=by
  rcases Nat.eq_zero_or_pos n with h0 | h0
  ·exfalso
   have h1:=area_grid (w:=q.W) (h:=q.H) (s:=8) (by decide)
   rw [←hss,List.eq_nil_of_length_eq_zero (show ss.length=0 by omega)] at h1
   have h2:=hq.pos
   simp [area] at h1
   omega
  ·exact h0
 have hbp:=moveBits_pos p q ss ms n
 obtain ⟨body,hbody⟩:∃ body,body=packed (padF (moveBits p q ss ms n)):=⟨_,rfl⟩
 have hbt:mvBytes p q ms=body++sumL p body:=by
  unfold mvBytes mvBody
  rw [←hss,←hn,hbody]
 have hdig:∀ d∈body,d<256:=by rw [hbody];exact packed_dig (mem_padF hbit')
 have hblen:body.length=(moveBits p q ss ms n).length / 8+(if (moveBits p q ss ms n).length%8=0 then 0 else 1):=by
  rw [hbody,packed_len,padF_len]
  split<;>omega
 obtain ⟨m,hm⟩:∃ m,m=body.length:=⟨_,rfl⟩
 have hm0:0<m:=by rw [hm,hblen];split<;>omega
 have hm1:m≤1000000000:=by rw [hm,hblen];split<;>omega
 obtain ⟨N,hN⟩:∃ N,N=(mvBytes p q ms).length:=⟨_,rfl⟩
 have hNm:N=m+4:=by rw [hN,hbt,zC,sumL_len,hm]
 rw [←hN] at hcap ⊢
 rw [hbt] at hc
 have hcb:Cells b8 w A body:=by
  have h1:=hc.take body.length
  rw [List.take_left] at h1
  exact h1
 have eN:(N:Int)-4=(m:Int):=by omega
 have hsl1:=fun w'=>slice_to (P:=Tryz.prog) Tryz.underlying29 A N capA m (by omega) hcap w' (size_u8 w')
 obtain ⟨A',hsl2,-,hcl2⟩:=slice_from (P:=Tryz.prog) Tryz.underlying29 size_u8 A N capA m (by omega) hcap
 have hN4:N-m=4:=by omega
 rw [hN4] at hsl2
 have hct:Cells b8 w A' (sumL p body):=by
  have h1:=hcl2 Nat b8 w _ (by rw [←hbt];exact hN.symm) hc
  rw [hm,List.drop_left] at h1
  exact h1
 have hck:∀ w',Chg [] w w'→_:=fun w' (hc':Chg [] w w')=>checksum_ok cap (h.same hc') A capA body (hcb.same hc') hdig (by omega) (by omega)
 have heq:∀ w' g6 c6,Chg [] w w'→Cells b8 w' (some ⟨g6,0,none⟩) (sumL p body)→_:=fun w' g6 c6 hc' h6=>equal_b_ok w' A' (some ⟨g6,0,none⟩) (capA-m) c6 (sumL p body) (sumL p body) (hct.same hc') h6 rfl (by rw [sumL_len];omega)
 have hrn:∀ w',Chg [] w w'→_:=fun w' (hc':Chg [] w w')=>rnew_ok w' A capA body (hcb.same hc') hdig (by omega) (by omega) hcm
 have his:∀ w',Chg [] w w'→_:=fun w' (hc':Chg [] w w')=>is_yes cap (h.same hc')
 have hcp:∀ w',Chg [] w w'→_:=fun w' (hc':Chg [] w w')=>copy_ok cap (h.same hc')
 have hgr:=fun w'=>mgrid_ok hok g o cap w'
 rw [hssp] at hgr
 rw [←hm] at hck hrn
 have hsl:(sumL p body).length=4:=rfl
 rw [hsl] at heq
 have hgb:∀ w' i b F gP capP xs gs,i<n→Chg (b::gs) w w'→PicOwn w' (bwP p q (ss.take i) sq0 0) gP capP xs gs→IsRd w' b F body (moveBits p q ss ms i).length→(∀ x∈gP::gs,w.heap.size≤x)→(∀ x∈F,w.heap.size≤x)→(∀ x∈F,x∉gP::gs) →
   Calls Tryz.prog 36 #[.pointer (some ⟨b,0,none⟩),picV p g o cap,.agg #[.int .i64 p.W,.int .i64 p.H,.int .i64 p.d,.slice (some ⟨gP,0,none⟩) p.P.length capP],sqV (sqAt ss i)] w' (fun e w''=>e=.returned (.int .i64 0)∧IsRd w'' b F body (moveBits p q ss ms (i+1)).length∧PicOwn w'' (bwP p q (ss.take (i+1)) sq0 0) gP capP xs gs∧Chg (b::gs) w' w''):=by
  intro w' i b F gP capP xs gs hi hcw hown hrd hg hF hFG
  have hm8:=hs8 _ (sqAt_mem (i:=i) (ss:=ss) (by omega))
  have hbm:=hrd.mem
  have hin:GbIn w' p q g o B c G (ss.take i) (sqAt ss i) (ms.getD i (0,0)) b F body (moveBits p q ss ms i).length gP capP xs gs:=by
   have h0w:=hp.lt
   refine ⟨h.chg hcw ?_,by rw [bwP_any p q _ _ sq0];exact hown,hrd,hq,ha,hsin _ (sqAt_mem (by omega)),hmo i (by omega),hm8.1,hm8.2.1,hm8.2.2.1,hm8.2.2.2,hp.chg hcw ?_,?_,hFG,?_,?_⟩
   ·intro x hx hmm
    have h1:=h.lt x hx
    rcases List.mem_cons.1 hmm with rfl | h2
    ·have:=hF _ hbm;omega
    ·have:=hg x (by simp [h2]);omega
   ·intro hmm
    rcases List.mem_cons.1 hmm with e | h2
    ·have:=hF _ hbm;omega
    ·have:=hg 0 (by simp [h2]);omega
   ·intro x hx hmm
    have h1:=h.lt x hx
    rcases List.mem_cons.1 hmm with rfl | h2
    ·have:=hF _ hbm;omega
    ·have:=hg x (by simp [h2]);omega
   ·intro hmm
    have:=hF 0 hmm
    omega
   ·intro hmm
    have:=hg 0 (by simp [hmm])
    omega
  have hah:Ahead body (moveBits p q ss ms i).length (blockBits p q (sqAt ss i) (ms.getD i (0,0))):=by rw [hbody];exact body_block hbit' hi
  have h1:=getBlock_ok cap hin hah
  unfold picV at h1
  rw [bwP_len] at h1
  refine h1.mono ?_
  rintro e w'' ⟨rfl,h2,h3,h4⟩
  rw [←zC,←moveBits_succ] at h2
  rw [bwP_end p q _ _ sq0,←take_sq (by omega)] at h3
  exact ⟨rfl,h2,h3,h4⟩
 have hfin:bwP p q (ss.take n) sq0 0=q:=by
  rw [hn,List.take_length,←hssp]
  exact bwP_all hok hq ha sq0
 have hst:bwP p q (ss.take 0) sq0 0=p:=by rw [List.take_zero];exact bwP_start sq0
 have hleft:8*body.length-(moveBits p q ss ms n).length=(8-(moveBits p q ss ms n).length%8)%8:=by rw [hbody];exact body_left _
 obtain ⟨L,hL⟩:∃ L,L=(8-(moveBits p q ss ms n).length%8)%8:=⟨_,rfl⟩
 have hL7:L≤7:=by omega
 have hres:Ahead body (moveBits p q ss ms n).length (bitsOf 0 L):=by rw [hbody,hL];exact body_rest hbit'
 rw [←hL] at hleft
 have hqa:picV q=fun gP o' cap' => .agg #[.int .i64 p.W,.int .i64 p.H,.int .i64 p.d,.slice (some ⟨gP,o',none⟩) p.P.length cap']:=by
  funext gP o' cap'
  unfold picV
  rw [ha.W,ha.H,ha.d,ha.n]
 rw [hqa]
 unfold picV at his hck hcp hgr hgb ⊢
 unfold sqV at hgb
 obtain ⟨k,hk⟩:∃ k,k=p.P.length:=⟨_,rfl⟩
 rw [←hk] at his hck hcp hgr hgb ⊢
 have hk4:k≤4:=by rw [hk];exact hok.n1
 obtain ⟨w1,hw1⟩:∃ w1,w1=((w.alloc (.cells #[.int .i64 p.W,.int .i64 p.H,.int .i64 p.d,.slice (some ⟨g,o,none⟩) k cap] 25)).alloc (.cells #[.int .i64 0,.int .i64 0,.int .i64 0,.slice none 0 0] 25)):=⟨_,rfl⟩
 have hb1:Blk w1 w.heap.size 25 #[.int .i64 p.W,.int .i64 p.H,.int .i64 p.d,.slice (some ⟨g,o,none⟩) k cap]:=by rw [hw1];exact (Blk.new w _ _).alloc _
 have hb2:Blk w1 (w.heap.size+1) 25 #[.int .i64 0,.int .i64 0,.int .i64 0,.slice none 0 0]:=by rw [hw1];exact Blk.new2 w _ _ _
 have hC1:Chg [] w w1:=by rw [hw1];exact ((Chg.refl [] w).alloc _).alloc _
 have hz1:w1.heap.size=w.heap.size+1+1:=by rw [hw1,alloc_size,alloc_size]
 have hkeep:∀ (E:List Nat) wz,Chg E w1 wz→w.heap.size∉E→wz.cell? ⟨w.heap.size,0,none⟩=some (.int .i64 p.W)∧wz.cell? ⟨w.heap.size,1,none⟩=some (.int .i64 p.H)∧wz.cell? ⟨w.heap.size,2,none⟩=some (.int .i64 p.d)∧wz.cell? ⟨w.heap.size,3,none⟩=some (.slice (some ⟨g,o,none⟩) k cap):=fun E wz hz hE =>
  ⟨(hb1.chg hz hE).cell 0,(hb1.chg hz hE).cell 1,(hb1.chg hz hE).cell 2,(hb1.chg hz hE).cell 3⟩
 have hdl:∀ {α:Type} [DecidableEq α] (x:α),decide (x=x)=true:=by intros;simp
 have heq':∀ w' g6 c6,Chg [] w w'→Cells b8 w' (some ⟨g6,0,none⟩) (sumL p body)→Calls Tryz.prog 33 #[.slice A' 4 (capA-m),.slice (some ⟨g6,0,none⟩) 4 c6] w' fun e w''=>e=.returned (.bool true)∧Chg [] w' w'':=fun w' g6 c6 a b=>(heq w' g6 c6 a b).mono fun e w'' h=>⟨by rw [h.1];simp,h.2⟩
 have HW1:=hid hw1
 have HC1:=hid hC1
 have HZ:=hid hz1
 have HK:=hid hkeep
 have HB2:=hid hb2
 have HEQ:=hid heq'
 have HCK:=hid hck
 have HRN:=hid hrn
 have HIS:=hid his
 have HCP:=hid hcp
 have HGR:=hid hgr
 have HGB:=hid hgb
 have HFIN:=hid hfin
 have HST:=hid hst
 have HLEFT:=hid hleft
 have HRES:=hid hres
 have HN:=hid hn
 have HKP:=hid hk
 have HM:=hid hm
 have t0:decide ((N:Int)<4)=false:=zA (by omega)
 have hN9:N≤1000000004:=by omega
 clear hw1 hC1 hz1 hkeep hb2 heq heq' hck hrn his hcp hgr hgb hfin hst hleft hres hn hk hm hqa hL hb1 hssp hss hs8 hsin hml hmo hbit' hbl hn0 hbp hbody hbt hdig hblen hN hNm hcb hcl2 hct hsl hok h hq ha hp hc hbit hdl hN4
 go_enter Tryz.func10,Tryz.ntmps10
 go_wp2_with fail
 rw [←HW1.out]
 obtain ⟨k0,k1,k2,k3⟩:=HK.out [] w1 (Chg.refl _ _) (by simp)
 go_wp2_with fail
 refine (HIS.out w1 HC1.out).mono ?_
 rintro e w2 ⟨rfl,ch2⟩
 have HCH2:=hid ch2
 obtain ⟨k0,k1,k2,k3⟩:=HK.out [] w2 ch2 (by simp)
 have E2:Chg [] w1 w2.drew:=ch2.drew
 have D2:Chg [] w w2.drew:=(HC1.out.trans_same ch2).drew
 clear ch2
 go_wp2_with fail
 go_region_held3 (fun w'=>w'.cell? ⟨w.heap.size,0,none⟩=some (.int .i64 p.W)∧w'.cell? ⟨w.heap.size,1,none⟩=some (.int .i64 p.H)∧w'.cell? ⟨w.heap.size,2,none⟩=some (.int .i64 p.d)∧w'.cell? ⟨w.heap.size,3,none⟩=some (.slice (some ⟨g,o,none⟩) k cap))
  (first | (go_keep;done) | exact HK.out [] _ (by first | exact E2.trans_same ch6 | exact (E2.trans_same ch6).trans_same ch7) (by simp) | trivial)
  (first
   | (go_at_call 30;refine (HCK.out _ D2).mono ?_;rintro e w6 ⟨g6,c6,rfl,hrow6,ch6,hg6⟩)
   | (go_at_call 33;refine (HEQ.out _ _ _ (D2.trans_same ch6) (by obtain ⟨c',e',_,_,h6⟩ := Row.cells_b8 hrow6;exact h6)).mono ?_;rintro e w7 ⟨rfl,ch7⟩))
 have HC7:=hid ((D2.trans_same ch6).trans_same ch7)
 have HE7:=hid ((E2.trans_same ch6).trans_same ch7)
 have hrn:=HRN.out w7 HC7.out
 clear k0 k1 k2 k3 D2 E2 ch6 ch7 hrow6 hg6
 go_wp2_with fail
 refine hrn.mono ?_
 rintro e w8 ⟨b,F,rfl,hrd,ch8,hF⟩
 have HC8:=hid (HC7.out.trans_same ch8)
 have HE8:=hid (HE7.out.trans_same ch8)
 have hcp:=HCP.out w8 HC8.out
 obtain ⟨k0,k1,k2,k3⟩:=HK.out [] w8 HE8.out (by simp)
 have HRD:=hid hrd
 have HFN:Hid (∀ x∈F,w1.heap.size≤x∧x<w8.heap.size):=hid (fun x hx=>⟨by have:=hF x hx;have:=HE7.out.size;omega,hrd.lt x hx⟩)
 clear hrn hrd ch8 hF
 go_wp2_with fail
 refine hcp.mono ?_
 rintro e w9 ⟨gP,capP,xs,gs,rfl,hown,ch9,hgn⟩
 have HC9:=hid (HC8.out.trans_same ch9)
 have HE9:=hid (HE8.out.trans_same ch9)
 have HS89:=hid ch9.size
 have HRD9:=hid (HRD.out.chg ch9 (by simp))
 have HOWN:=hid hown
 have HGN:Hid (∀ x∈gP::gs,w8.heap.size≤x∧x<w9.heap.size):=hid (fun x hx=>⟨hgn x hx,by
  rcases List.mem_cons.1 hx with rfl | h1
  ·exact hown.ltP
  ·exact hown.pl.lt x h1⟩)
 clear hcp hown ch9 hgn k0 k1 k2 k3
 obtain ⟨nb,hnb⟩:∃ nb,nb=w9.heap.size:=⟨_,rfl⟩
 obtain ⟨wA,hwA⟩:∃ wA,wA=w9.alloc (.cells #[.int .i64 p.W,.int .i64 p.H,.int .i64 p.d,.slice (some ⟨gP,0,none⟩) k capP] 25):=⟨_,rfl⟩
 have chA:Chg [] w9 wA:=by rw [hwA];exact (Chg.refl [] w9).alloc _
 have hbn:Blk wA nb 25 #[.int .i64 p.W,.int .i64 p.H,.int .i64 p.d,.slice (some ⟨gP,0,none⟩) k capP]:=by rw [hwA,hnb];exact Blk.new w9 _ _
 have HWA:=hid hwA
 have HNB:=hid hnb
 have HBN:=hid hbn
 have HCA:=hid (HC9.out.trans_same chA)
 have HEA:=hid (HE9.out.trans_same chA)
 have HRDA:=hid (HRD9.out.chg chA (by simp))
 have HOWA:Hid (PicOwn wA (bwP p q (ss.take 0) sq0 0) gP capP xs gs):=hid (by rw [HST.out];exact HOWN.out.same chA)
 obtain ⟨k0,k1,k2,k3⟩:=HK.out [] wA HEA.out (by simp)
 rw [HWA.out] at k0 k1 k2 k3
 have hgr:=HGR.out wA
 clear hwA hnb hbn chA
 go_wp2_with fail
 rw [←HWA.out,←HNB.out]
 refine hgr.mono ?_
 rintro e wB ⟨v8,F8,rfl,hsq,chB,hF8⟩
 obtain ⟨A8,c8,rfl,h81,h82,hc8,h8o⟩:=OwnK.open_ hsq
 have HC8':=hid hc8
 have HCB:=hid (HCA.out.trans_same chB)
 have HEB:=hid (HEA.out.trans_same chB)
 have HRDB:=hid (HRDA.out.chg chB (by simp))
 have HOWB:=hid (HOWA.out.same chB)
 have hnB:=HBN.out.chg chB (by simp)
 have HBNB:=hid hnB
 have HA8:Hid (∀ ad,A8=some ad→wA.heap.size≤ad.block):=hid (fun ad e=>by
  obtain ⟨g8,rfl,hf,_⟩:=h8o ad e
  exact hF8 g8 (by rw [hf];simp))
 rw [←HN.out]
 clear hgr hsq chB hF8 hc8 h8o k0 k1 k2 k3 hnB
 go_wp2_with fail
 have hbig:∀ x∈b::(F++gs),w1.heap.size≤x∧x<nb:=by
  have hs7:=HE7.out.size
  have hs8:=HE8.out.size
  have hs9:=HE9.out.size
  have hnb:=HNB.out
  intro x hx
  have hF9:∀ y∈F,w1.heap.size≤y∧y<nb:=fun y hy=>by
   have:=HFN.out y hy
   have:=HS89.out
   omega
  rcases List.mem_cons.1 hx with rfl | hx
  ·exact hF9 _ HRD.out.mem
  ·rcases List.mem_append.1 hx with hx | hx
   ·exact hF9 x hx
   ·have:=HGN.out x (by simp [hx])
    have:=HS89.out
    omega
 have HBIG:=hid hbig
 clear hbig
 go_loopg [10,11,43] n (fun j v10 v11 v43 wr=>∃ i:Nat,v43=.int .i64 i∧i+j=n∧Hid (IsRd wr b F body (moveBits p q ss ms i).length)∧Hid (PicOwn wr (bwP p q (ss.take i) sq0 0) gP capP xs gs)∧Hid (Chg (b::gs) wB wr))
 case atStart=>exact ⟨0,rfl,by omega,hid (by simpa [moveBits] using HRDB.out),HOWB,hid (Chg.refl _ _)⟩
 case round =>
  obtain ⟨i,rfl,hij,HR,HO,HCH⟩:=hrel
  have HCW:Hid (Chg (b::gs) w wr):=hid ((HCB.out.mono (by simp)).trans_same HCH.out)
  have HEW:Hid (Chg (b::gs) w1 wr):=hid ((HEB.out.mono (by simp)).trans_same HCH.out)
  have hnin:∀ y,y<w1.heap.size→y∉b::gs:=fun y hy hm=>by
   rcases List.mem_cons.1 hm with e | h1
   ·have:=HBIG.out b (by simp);omega
   ·have:=HBIG.out y (by simp [h1]);omega
  obtain ⟨k0,k1,k2,k3⟩:=HK.out (b::gs) wr HEW.out (hnin _ (by have:=HZ.out;omega))
  have hnbn:nb∉b::gs:=fun hm=>by
   rcases List.mem_cons.1 hm with e | h1
   ·have:=HBIG.out b (by simp);omega
   ·have:=HBIG.out nb (by simp [h1]);omega
  have hnbb:=HBNB.out.chg HCH.out hnbn
  have n0:=hnbb.cell 0
  have n1:=hnbb.cell 1
  have n2:=hnbb.cell 2
  have n3:=hnbb.cell 3
  simp at n0 n1 n2 n3
  rcases gk with _ | j
  ·obtain rfl:i=n:=by omega
   have t1:decide (i<i)=false:=by simp
   have hlf:=left_ok wr b F body _ HR.out
   rw [HLEFT.out] at hlf
   have HNBB:=hid hnbb
   have HRBB:=hid (HB2.out.chg HEW.out (hnin _ (by have:=HZ.out;omega)))
   clear hnbb hnbn hnin
   go_wp2_with fail
   refine hlf.mono ?_
   rintro e wC ⟨rfl,nq,rfl⟩
   have t5:decide ((8:Int)≤(L:Int))=false:=zA (by omega)
   have hgt:=rget_ahead _ b F body _ L 0 (HR.out.chg ((Chg.refl [] wr).drewN nq) (by simp)) (by omega) (Nat.two_pow_pos L) HRES.out
   clear hlf
   go_wp2_with fail
   refine hgt.mono ?_
   rintro e wD ⟨rfl,hrD,chD⟩
   have chw:Chg [b] wr wD:=(((Chg.refl [] wr).drewN nq).mono (by simp)).trans_same chD
   have hnD:=HNBB.out.chg chw (fun hm=>by
    simp at hm
    have:=HBIG.out b (by simp)
    omega)
   have n0:=hnD.cell 0
   have n1:=hnD.cell 1
   have n2:=hnD.cell 2
   have n3:=hnD.cell 3
   simp at n0 n1 n2 n3
   have hrk:=HRBB.out.chg chw (fun hm=>by
    simp at hm
    have:=HBIG.out b (by simp)
    have:=HZ.out
    omega)
   have z0:=hrk.frozen 0
   have z1:=hrk.frozen 1
   have z2:=hrk.frozen 2
   have z3:=hrk.frozen 3
   have r0:=hrk.cell 0
   have r1:=hrk.cell 1
   have r2:=hrk.cell 2
   have r3:=hrk.cell 3
   simp at r0 r1 r2 r3
   have hnr:nb≠w.heap.size+1:=by have:=HZ.out;have:=HBIG.out b (by simp);omega
   have HRKK:=hid hrk
   have HCWW:=hid chw
   clear hgt hrD chD hnD hrk k0 k1 k2 k3 chw
   go_wp2_with fail
   obtain ⟨rb,hrb⟩:∃ rb,rb=w.heap.size+1:=⟨_,rfl⟩
   have hrk:=HRKK.out
   rw [←hrb] at hrk ⊢
   obtain ⟨wE,hwE⟩:∃ wE,wE=(((wD.setCell ⟨rb,0,none⟩ (.int .i64 p.W)).setCell ⟨rb,1,none⟩ (.int .i64 p.H)).setCell ⟨rb,2,none⟩ (.int .i64 p.d)).setCell ⟨rb,3,none⟩ (.slice (some ⟨gP,0,none⟩) k capP):=⟨_,rfl⟩
   have hk9:Blk wE rb 25 #[.int .i64 p.W,.int .i64 p.H,.int .i64 p.d,.slice (some ⟨gP,0,none⟩) k capP]:=by
    rw [hwE]
    have:=(((hrk.set_ 0 (.int .i64 p.W)).set_ 1 (.int .i64 p.H)).set_ 2 (.int .i64 p.d)).set_ 3 (.slice (some ⟨gP,0,none⟩) k capP)
    simpa using this
   have chE:Chg [rb] wD wE:=by
    rw [hwE]
    exact ((((Chg.refl [rb] wD).setCell (p:=⟨rb,0,none⟩) (.inl (by simp)) _).setCell (p:=⟨rb,1,none⟩) (.inl (by simp)) _).setCell (p:=⟨rb,2,none⟩) (.inl (by simp)) _).setCell (p:=⟨rb,3,none⟩) (.inl (by simp)) _
   have g0:=hk9.cell 0
   have g1:=hk9.cell 1
   have g2:=hk9.cell 2
   have g3:=hk9.cell 3
   simp at g0 g1 g2 g3
   rw [←hwE]
   refine bodyPost_ret (v:=.tuple #[.agg #[.int .i64 p.W,.int .i64 p.H,.int .i64 p.d,.slice (some ⟨gP,0,none⟩) k capP],.int .i64 0]) (by simp [results,Tryz.results10,go_sem,g0,g1,g2,g3]) rfl ?_
   have hbr:∀ x∈gP::gs,x∉[b]∧x∉[rb]:=fun x hx=>by
    have h1:=HGN.out x hx
    have h2:=HFN.out b HRD.out.mem
    have h3:=HZ.out
    have h4:=HE8.out.size
    refine ⟨?_,?_⟩
    ·simp
     omega
    ·simp
     omega
   have hoF:=HO.out
   rw [HFIN.out] at hoF
   refine ⟨gP,capP,xs,gs,rfl,?_,?_,fun x hx => ?_⟩
   ·exact (hoF.chg HCWW.out (hbr gP (by simp)).1 (fun x hx=>(hbr x (by simp [hx])).1)).chg chE (hbr gP (by simp)).2 (fun x hx=>(hbr x (by simp [hx])).2)
   ·refine (HCB.out.trans (HCH.out.trans_same (HCWW.out.mono (by simp))) ?_).trans chE ?_
    ·intro x hx
     right
     have h1:=HZ.out
     rcases List.mem_cons.1 hx with rfl | h2
     ·have:=HBIG.out x (by simp);omega
     ·have:=HBIG.out x (by simp [h2]);omega
    ·intro x hx
     simp at hx
     right
     omega
   ·have h1:=HGN.out x hx
    have h2:=HC8.out.size
    omega
  ·have hi:i<n:=by omega
   have t1:decide (i<n)=true:=zB hi
   have hil:i<ss.length:=by rw [←HN.out];exact hi
   have hc8:Cells (fun v=>v) wr A8 (ss.flatMap sqCells):=HC8'.out.chg HCH.out (fun ad e hm=>by
    have h1:=HA8.out ad e
    have h2:=HNB.out
    have h3:wA.heap.size=nb+1:=by rw [HWA.out,alloc_size,←h2]
    rcases List.mem_cons.1 hm with e2 | h4
    ·have:=HBIG.out b (by simp);omega
    ·have:=HBIG.out ad.block (by simp [h4]);omega)
   obtain ⟨g8,o8,hA8,x0,x1,x2,x3⟩:=sq_cell hc8 hil
   subst hA8
   have hal:Chg [] wr (wr.alloc (.cells #[.int .i64 ((sqAt ss i).x:Int),.int .i64 ((sqAt ss i).y:Int),.int .i64 ((sqAt ss i).w:Int),.int .i64 ((sqAt ss i).h:Int)] 45)):=(Chg.refl [] wr).alloc _
   obtain ⟨c0,c1,c2,c3⟩:=HK.out (b::gs) _ (HEW.out.trans_same (hal.mono (by simp))) (hnin _ (by have:=HZ.out;omega))
   have hnb2:=hnbb.chg hal (by simp)
   have d0:=hnb2.cell 0
   have d1:=hnb2.cell 1
   have d2:=hnb2.cell 2
   have d3:=hnb2.cell 3
   simp at d0 d1 d2 d3
   have hgb:=HGB.out _ i b F gP capP xs gs hi (HCW.out.trans_same (hal.mono (by simp))) (HO.out.same hal) (HR.out.chg hal (by simp)) (fun x hx=>by have:=HGN.out x hx;have:=HC8.out.size;omega) (fun x hx=>by have:=HFN.out x hx;have:=HC1.out.size;omega) (fun x hx hm=>by have:=HFN.out x hx;have:=HGN.out x hm;omega)
   have HGBB:=hid hgb
   have HAL:=hid hal
   clear hgb hal hnb2 hnbb hnbn hnin hc8 hil
   go_wp2_with fail
   refine HGBB.out.mono ?_
   rintro e w5 ⟨rfl,hr5,ho5,ch5⟩
   have HR5:=hid hr5
   have HO5:=hid ho5
   have HC5:Hid (Chg (b::gs) wB w5):=hid ((HCH.out.trans_same (HAL.out.mono (by simp))).trans_same ch5)
   clear hr5 ho5 ch5 k0 k1 k2 k3 n0 n1 n2 n3 c0 c1 c2 c3 d0 d1 d2 d3 x0 x1 x2 x3
   go_wp2_with fail
   go_roundg j
   case measure=>omega
   case rel=>exact ⟨i+1,by go_num,by omega,HR5,HO5,HC5⟩
theorem decode_sum {w:World} {p:PicD} {g o:Nat} {B:Nat→Option Addr} {c:Nat→Nat} {G:List Nat} (cap:Nat) (h:PicAt w p g o B c G)
  (A:Option Addr) (capA:Nat) (body tail:List Nat) (hdig:∀ d∈body,d<256) (hb0:0<body.length) (hb1:body.length≤1000000000) (ht:tail.length=4) (hne:tail≠sumL p body)
  (hc:Cells b8 w A (body++tail)) (hcap:(body++tail).length≤capA) (hcm:capA≤9223372036854775807) :
  Calls Tryz.prog 10 #[picV p g o cap,.slice A (body++tail).length capA] w fun e w'=>e=.returned (.tuple #[.agg #[.int .i64 0,.int .i64 0,.int .i64 0,.slice none 0 0],.int .i64 5])∧Chg [] w w':=by
 have hok:=h.ok
 obtain ⟨m,hm⟩:∃ m,m=body.length:=⟨_,rfl⟩
 have hm0:0<m:=by omega
 have hm1:m≤1000000000:=by omega
 obtain ⟨N,hN⟩:∃ N,N=(body++tail).length:=⟨_,rfl⟩
 have hNm:N=m+4:=by rw [hN,zC,ht,hm]
 rw [←hN] at hcap ⊢
 have hcb:Cells b8 w A body:=by
  have h1:=hc.take body.length
  rw [List.take_left] at h1
  exact h1
 have eN:(N:Int)-4=(m:Int):=by omega
 have hsl1:=fun w'=>slice_to (P:=Tryz.prog) Tryz.underlying29 A N capA m (by omega) hcap w' (size_u8 w')
 obtain ⟨A',hsl2,-,hcl2⟩:=slice_from (P:=Tryz.prog) Tryz.underlying29 size_u8 A N capA m (by omega) hcap
 have hN4:N-m=4:=by omega
 rw [hN4] at hsl2
 have hct:Cells b8 w A' tail:=by
  have h1:=hcl2 Nat b8 w _ hN.symm hc
  rw [hm,List.drop_left] at h1
  exact h1
 have hck:∀ w',Chg [] w w'→_:=fun w' (hc':Chg [] w w')=>checksum_ok cap (h.same hc') A capA body (hcb.same hc') hdig (by omega) (by omega)
 have heq:∀ w' g6 c6,Chg [] w w'→Cells b8 w' (some ⟨g6,0,none⟩) (sumL p body)→_:=fun w' g6 c6 hc' h6=>equal_b_ok w' A' (some ⟨g6,0,none⟩) (capA-m) c6 tail (sumL p body) (hct.same hc') h6 (by rw [ht];rfl) (by rw [ht];omega)
 have his:∀ w',Chg [] w w'→_:=fun w' (hc':Chg [] w w')=>is_yes cap (h.same hc')
 rw [←hm] at hck
 have hsl:(sumL p body).length=4:=rfl
 rw [hsl,ht] at heq
 unfold picV at his hck ⊢
 obtain ⟨k,hk⟩:∃ k,k=p.P.length:=⟨_,rfl⟩
 rw [←hk] at his hck ⊢
 have hk4:k≤4:=by rw [hk];exact hok.n1
 obtain ⟨w1,hw1⟩:∃ w1,w1=((w.alloc (.cells #[.int .i64 p.W,.int .i64 p.H,.int .i64 p.d,.slice (some ⟨g,o,none⟩) k cap] 25)).alloc (.cells #[.int .i64 0,.int .i64 0,.int .i64 0,.slice none 0 0] 25)):=⟨_,rfl⟩
 have hb1:Blk w1 w.heap.size 25 #[.int .i64 p.W,.int .i64 p.H,.int .i64 p.d,.slice (some ⟨g,o,none⟩) k cap]:=by rw [hw1];exact (Blk.new w _ _).alloc _
 have hb2:Blk w1 (w.heap.size+1) 25 #[.int .i64 0,.int .i64 0,.int .i64 0,.slice none 0 0]:=by rw [hw1];exact Blk.new2 w _ _ _
 have hC1:Chg [] w w1:=by rw [hw1];exact ((Chg.refl [] w).alloc _).alloc _
 have hz1:w1.heap.size=w.heap.size+1+1:=by rw [hw1,alloc_size,alloc_size]
 have hkeep:∀ (E:List Nat) wz,Chg E w1 wz→w.heap.size∉E→wz.cell? ⟨w.heap.size,0,none⟩=some (.int .i64 p.W)∧wz.cell? ⟨w.heap.size,1,none⟩=some (.int .i64 p.H)∧wz.cell? ⟨w.heap.size,2,none⟩=some (.int .i64 p.d)∧wz.cell? ⟨w.heap.size,3,none⟩=some (.slice (some ⟨g,o,none⟩) k cap):=fun E wz hz hE =>
  ⟨(hb1.chg hz hE).cell 0,(hb1.chg hz hE).cell 1,(hb1.chg hz hE).cell 2,(hb1.chg hz hE).cell 3⟩
 have heq':∀ w' g6 c6,Chg [] w w'→Cells b8 w' (some ⟨g6,0,none⟩) (sumL p body)→Calls Tryz.prog 33 #[.slice A' 4 (capA-m),.slice (some ⟨g6,0,none⟩) 4 c6] w' fun e w''=>e=.returned (.bool false)∧Chg [] w' w'':=fun w' g6 c6 a b=>(heq w' g6 c6 a b).mono fun e w'' h=>⟨by rw [h.1,zA hne],h.2⟩
 have HW1:=hid hw1
 have HC1:=hid hC1
 have HZ:=hid hz1
 have HK:=hid hkeep
 have HB2:=hid hb2
 have HEQ:=hid heq'
 have HCK:=hid hck
 have HIS:=hid his
 have t0:decide ((N:Int)<4)=false:=zA (by omega)
 have hN9:N≤1000000004:=by omega
 clear hw1 hC1 hz1 hkeep hb2 heq heq' hck his hk hm hb1 hN hNm hcb hcl2 hct hsl hok h hc hN4 hdig ht hne
 go_enter Tryz.func10,Tryz.ntmps10
 go_wp2_with fail
 rw [←HW1.out]
 obtain ⟨k0,k1,k2,k3⟩:=HK.out [] w1 (Chg.refl _ _) (by simp)
 go_wp2_with fail
 refine (HIS.out w1 HC1.out).mono ?_
 rintro e w2 ⟨rfl,ch2⟩
 have HCH2:=hid ch2
 obtain ⟨k0,k1,k2,k3⟩:=HK.out [] w2 ch2 (by simp)
 have E2:Chg [] w1 w2.drew:=ch2.drew
 have D2:Chg [] w w2.drew:=(HC1.out.trans_same ch2).drew
 clear ch2
 go_wp2_with fail
 go_region_held3 (fun w'=>w'.cell? ⟨w.heap.size,0,none⟩=some (.int .i64 p.W)∧w'.cell? ⟨w.heap.size,1,none⟩=some (.int .i64 p.H)∧w'.cell? ⟨w.heap.size,2,none⟩=some (.int .i64 p.d)∧w'.cell? ⟨w.heap.size,3,none⟩=some (.slice (some ⟨g,o,none⟩) k cap))
  (first | (go_keep;done) | exact HK.out [] _ (by first | exact E2.trans_same ch6 | exact (E2.trans_same ch6).trans_same ch7) (by simp) | trivial)
  (first
   | (go_at_call 30;refine (HCK.out _ D2).mono ?_;rintro e w6 ⟨g6,c6,rfl,hrow6,ch6,hg6⟩)
   | (go_at_call 33;refine (HEQ.out _ _ _ (D2.trans_same ch6) (by obtain ⟨c',e',_,_,h6⟩ := Row.cells_b8 hrow6;exact h6)).mono ?_;rintro e w7 ⟨rfl,ch7⟩))
 have HC7:=hid ((D2.trans_same ch6).trans_same ch7)
 have HE7:=hid ((E2.trans_same ch6).trans_same ch7)
 clear k0 k1 k2 k3 D2 E2 ch6 ch7 hrow6 hg6
 have hrk:=HB2.out.chg HE7.out (by simp)
 have z0:=hrk.frozen 0
 have z1:=hrk.frozen 1
 have z2:=hrk.frozen 2
 have z3:=hrk.frozen 3
 have r0:=hrk.cell 0
 have r1:=hrk.cell 1
 have r2:=hrk.cell 2
 have r3:=hrk.cell 3
 simp at r0 r1 r2 r3
 have HRKK:=hid hrk
 clear hrk
 go_wp2_with fail
 obtain ⟨rb,hrb⟩:∃ rb,rb=w.heap.size+1:=⟨_,rfl⟩
 have hrk:=HRKK.out
 rw [←hrb] at hrk ⊢
 obtain ⟨wE,hwE⟩:∃ wE,wE=(((w7.setCell ⟨rb,0,none⟩ (.int .i64 0)).setCell ⟨rb,1,none⟩ (.int .i64 0)).setCell ⟨rb,2,none⟩ (.int .i64 0)).setCell ⟨rb,3,none⟩ (.slice none 0 0):=⟨_,rfl⟩
 have hk9:Blk wE rb 25 #[.int .i64 0,.int .i64 0,.int .i64 0,.slice none 0 0]:=by
  rw [hwE]
  have:=(((hrk.set_ 0 (.int .i64 0)).set_ 1 (.int .i64 0)).set_ 2 (.int .i64 0)).set_ 3 (.slice none 0 0)
  simpa using this
 have chE:Chg [rb] w7 wE:=by
  rw [hwE]
  exact ((((Chg.refl [rb] w7).setCell (p:=⟨rb,0,none⟩) (.inl (by simp)) _).setCell (p:=⟨rb,1,none⟩) (.inl (by simp)) _).setCell (p:=⟨rb,2,none⟩) (.inl (by simp)) _).setCell (p:=⟨rb,3,none⟩) (.inl (by simp)) _
 have g0:=hk9.cell 0
 have g1:=hk9.cell 1
 have g2:=hk9.cell 2
 have g3:=hk9.cell 3
 simp at g0 g1 g2 g3
 rw [←hwE]
 refine bodyPost_ret (v:=.tuple #[.agg #[.int .i64 0,.int .i64 0,.int .i64 0,.slice none 0 0],.int .i64 5]) (by simp [results,Tryz.results10,go_sem,g0,g1,g2,g3]) rfl ?_
 exact ⟨rfl,HC7.out.trans chE (fun x hx=>by
  simp at hx
  right
  omega)⟩
end Go.Proofs.YtijpbkakncglgaaGreatDoor
