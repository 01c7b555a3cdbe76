/- parts.Get by its contract. -/
import Derived.Test.YtpkplhmdnjdmoaaGreatDoorMg53
import Derived.Test.YtpkplhmdnjdmoaaGreatDoorMg30
import Derived.Test.YtpkplhmdnjdmoaaGreatDoorMg27
import Derived.Test.YtpkplhmdnjdmoaaGreatDoorMg39
import Derived.Test.YtpkplhmdnjdmoaaGreatDoorMg29
import Derived.Test.YtpkplhmdnjdmoaaGreatDoorMg33
import Derived.Test.YtpkplhmdnjdmoaaGreatDoorMg37
import Derived.Test.YtpkplhmdnjdmoaaGreatDoorMg58
set_option linter.unusedVariables false
set_option linter.unusedSimpArgs false
namespace Go.Proofs.YtpkplhmdnjdmoaaGreatDoor
set_option linter.unusedSimpArgs false
set_option linter.unusedVariables false
open Go.RowKit

def tailP (ks : List Nat) (ps : List (List Int)) (i : Nat) : List Nat := ((ks.zip ps).drop i).flatMap fun p => partBits p.1 p.2
theorem tailP_split {ks : List Nat} {ps : List (List Int)} {i k : Nat} {q : List Int} (hk : ks[i]? = some k) (hq : ps[i]? = some q) : tailP ks ps i = partBits k q ++ tailP ks ps (i + 1) := by
  have hkl := (List.getElem?_eq_some_iff.1 hk).1
  have hql := (List.getElem?_eq_some_iff.1 hq).1
  have hl : i < (ks.zip ps).length := by rw [List.length_zip]; omega
  have hz : (ks.zip ps)[i] = (k, q) := by
    rw [List.getElem_zip, (List.getElem?_eq_some_iff.1 hk).2, (List.getElem?_eq_some_iff.1 hq).2]
  unfold tailP
  rw [List.drop_eq_getElem_cons hl, List.flatMap_cons, hz]
theorem tailP_end {ks : List Nat} {ps : List (List Int)} {i : Nat} (h : ks.length ≤ i) : tailP ks ps i = [] := by
  unfold tailP
  rw [List.drop_of_length_le (by rw [List.length_zip]; omega)]
  rfl
theorem bitsP_tail (o : Nat) (ks : List Nat) (ps : List (List Int)) : bitsP o ks ps = bitsOf o 4 ++ tailP ks ps 0 := rfl
set_option maxRecDepth 100000 in
set_option maxHeartbeats 4000000 in
theorem pget_ok (w : World) (b : Nat) (F ds : List Nat) (p o n warm : Nat) (ks : List Nat) (l : List Int) (h : IsRd w b F ds p) (ho : o ≤ 8) (h1 : 1 ≤ n) (h2 : n ≤ 4096) (h3 : warm ≤ n) (hne : sizesL o n warm ≠ []) (hkl : ks.length = (sizesL o n warm).length) (hks : KsOk ks)
    (hll : l.length = n - warm) (hw : ∀ x ∈ l, wideP x) (ha : Ahead ds p (bitsP o ks (splitL (sizesL o n warm) l))) :
    Calls Tryz.prog 119 #[.pointer (some ⟨b, 0, none⟩), .int .i64 n, .int .i64 warm] w fun e w' => ∃ (Ak : Option Addr) (nk ck : Nat) (v : Value) (G : List Nat), e = .returned (.tuple #[.agg #[.int .i64 o, .slice Ak nk ck], v, .int .i64 0]) ∧ Own w' 3 v G (l.map vi) ∧ IsRd w' b F ds (p + (bitsP o ks (splitL (sizesL o n warm) l)).length) ∧ Chg [b] w w' ∧ ∀ x ∈ G, w.heap.size ≤ x := by
  have hss := sizesL_sum hne
  have hN2 := sizesL_len hne
  rw [bitsP_tail] at ha ⊢
  have ho16 : o < 2 ^ 4 := by omega
  have hpr := fun w' => prow_yes n warm w' h1 h2 h3
  have hg1 := fun w' (hr : IsRd w' b F ds p) => rget_ahead w' b F ds p 4 o hr (by omega) ho16 ha.left
  have hsz := fun w' => sizes_ok o n warm w' ho h1 h2 h3
  have ha1 := ha.right
  rw [bitsOf_len] at ha1
  obtain ⟨ss, hsse⟩ : ∃ ss, ss = sizesL o n warm := ⟨_, rfl⟩
  rw [← hsse] at hss hN2 hkl hsz ha1 hne ⊢
  rw [List.length_append, bitsOf_len]
  have hbl := h.lt b h.mem
  have hN256 : ss.length ≤ 256 := by rw [hN2]; exact Nat.pow_le_pow_right (n := 2) (j := 8) (by decide) ho
  have hN1 : 1 ≤ ss.length := by rw [hN2]; exact Nat.two_pow_pos o
  obtain ⟨N, hN⟩ : ∃ N, N = ss.length := ⟨_, rfl⟩
  rw [← hN] at hN256 hN1 hkl
  have HSS := hid (hss.trans hll.symm)
  have hl4 : l.length ≤ 4096 := by rw [hll]; omega
  have HN := hid hN
  have HW := hid hw
  have HKS := hid hks
  have HKL := hid hkl
  have HA := hid ha1
  have HLT := hid h.lt
  have HL4 := hid hl4
  obtain ⟨br, hbr⟩ : ∃ br, br = w.heap.size := ⟨_, rfl⟩
  have HBR := hid hbr
  have h' := h
  clear hN hw hks hkl ha1 ha hss hN2 hsse hne hll hl4 hbr h1 h2 h3
  go_enter Tryz.func119, Tryz.ntmps119
  go_wp2_with (go_at_call 88; refine (hpr _).mono ?_; rintro e w' ⟨rfl, rfl⟩)
  obtain ⟨w0, hw0⟩ : ∃ w0, w0 = w.alloc (.cells #[.int .i64 0, .slice none 0 0] 46) := ⟨_, rfl⟩
  have hbr0 : Blk w0 br 46 #[.int .i64 0, .slice none 0 0] := by rw [hw0, HBR.out]; exact Blk.new w _ _
  have ch0 : Chg [] w w0 := by rw [hw0]; exact (Chg.refl [] w).alloc _
  rw [← hw0, ← HBR.out]
  have hg1 := hg1 w0 (h.same ch0)
  clear hw0 h
  refine hg1.mono ?_
  rintro e w1 ⟨rfl, hr1, ch1⟩
  have hbb : b ≠ br := by have := HBR.out; omega
  have hbr1 := hbr0.chg ch1 (by simpa using hbb.symm)
  have hsz := hsz w1
  have hch1 : Chg [b] w w1 := (ch0.mono (by simp)).trans_same ch1
  clear hg1 hbr0
  go_wp2_with (go_at_call 75; refine (err_ok _ b F ds _ hr1).mono ?_; rintro e w' ⟨rfl, rfl⟩)
  refine hsz.mono ?_
  rintro e w2 ⟨v2, G2, rfl, own2, ch2, hG2⟩
  obtain ⟨As, cs, rfl, hcs1, hcs2, hcS⟩ := own2.open_map
  rw [← HN.out]
  have t1 : ((N : Int) == 0) = false := by rw [beq_eq_false_iff_ne]; omega
  have hapS : Apt As ss [b, w2.heap.size] := own2.apt (fun x hx hm => by
    have h5 := hG2 x hx
    have h6 := own2.lt x hx
    have h7 := hr1.lt b hr1.mem
    simp at hm
    omega)
  have hr2 := hr1.same ch2
  have hbr2 := Blk.chg hbr1 ch2 (by simp)
  have hch2 := hch1.trans ch2 (by simp)
  clear own2 hsz hr1 hbr1 hch1
  obtain ⟨bp, hbp⟩ : ∃ bp, bp = w2.heap.size := ⟨_, rfl⟩
  rw [← hbp] at hapS
  have HAPS := hid hapS
  have HBP := hid hbp
  clear hapS
  have hrp : br < bp := by rw [hbp]; exact hbr2.lt
  have hbbp : b < bp := by rw [hbp]; have := hr2.lt b hr2.mem; exact this
  have hblk0 : Blk (w2.alloc (.cells #[.int .i64 (o : Int), .slice none 0 0] 46)) bp 46 #[.int .i64 (o : Int), .slice none 0 0] := by rw [hbp]; exact Blk.new w2 _ _
  have hr0 := hr2.same ((Chg.refl [] w2).alloc (.cells #[.int .i64 (o : Int), .slice none 0 0] 46))
  have hbrA := Blk.alloc hbr2 (.cells #[.int .i64 (o : Int), .slice none 0 0] 46)
  have hchA := hch2.alloc (.cells #[.int .i64 (o : Int), .slice none 0 0] 46)
  have hcA : Chg [] w2 (w2.alloc (.cells #[.int .i64 (o : Int), .slice none 0 0] 46)) := (Chg.refl [] w2).alloc _
  have hszA : (w2.alloc (.cells #[.int .i64 (o : Int), .slice none 0 0] 46)).heap.size = bp + 1 := by rw [hbp]; simp
  have hbpF : ∀ x ∈ F, x < bp := fun x hx => by rw [hbp]; exact hr2.lt x hx
  have HBPF := hid hbpF
  have HSZA := hid hszA
  have HCS := hid hcS
  have hch2' := hid hch2
  clear hbp hr2 hbr2 hch2 hszA hbpF hcS hG2
  go_wp2_with fail
  rw [← HBP.out]
  go_loopg [12, 14, 15, 16, 17, 44] N (fun j vo va vb vc vd iv wr => ∃ (i p' : Nat) (vk : Value) (Gk Go : List Nat), iv = .int .i64 (i : Int) ∧ i + j = N ∧ Blk wr bp 46 #[.int .i64 (o : Int), vk] ∧ Blk wr br 46 #[.int .i64 0, .slice none 0 0] ∧ Own wr 3 vk Gk ((ks.take i).map i64) ∧ Own wr 3 vo Go ((l.take (startOf ss i)).map vi) ∧ IsRd wr b F ds p' ∧ Hid (Ahead ds p' (tailP ks (splitL ss l) i)) ∧ Hid (p' + (tailP ks (splitL ss l) i).length = p + 4 + (tailP ks (splitL ss l) 0).length) ∧ Hid (Chg [b, bp] w2 wr) ∧ Hid (∀ x ∈ Gk, bp < x ∧ x ∉ Go) ∧ Hid (∀ x ∈ Go, bp < x))
  case atStart =>
    exact ⟨0, p + 4, .slice none 0 0, [], [], rfl, by omega, hblk0, hbrA, Own.nil _ _, by simpa [startOf] using Own.nil _ _, hr0, HA, hid rfl, hid (hcA.mono (by simp)), hid (by simp), hid (by simp)⟩
  case round =>
    clear hblk0 hr0 hbrA hcA
    obtain ⟨i, p', vk, Gk, Go, rfl, hij, hblk, hbrr, hok, hoo, hrd, Ha, Hp, HCH, HGk, HGo⟩ := hrel
    rcases gk with _ | j
    · obtain rfl : N = i := by omega
      have t2 : decide (N < N) = false := by simp
      obtain ⟨Ak, ck, rfl, hck1, hck2, hckc⟩ := hok.open_map
      obtain ⟨Ao, co, rfl, hco1, hco2, hcoc⟩ := hoo.open_map
      obtain ⟨kk, hkk⟩ : ∃ kk, kk = (ks.take N).length := ⟨_, rfl⟩
      rw [← hkk] at hblk
      have p0 := hblk.cell 0
      have p1 := hblk.cell 1
      have q0 := hbrr.cell 0
      have q1 := hbrr.cell 1
      have z0 := hbrr.frozen 0
      have z1 := hbrr.frozen 1
      simp at p0 p1 q0 q1
      have hsN : startOf ss N = l.length := by unfold startOf; rw [HN.out, List.take_length]; exact HSS.out
      rw [hsN, List.take_length] at hoo ⊢
      have hp := Hp.out
      rw [tailP_end (by rw [HKL.out]; exact Nat.le_refl _)] at hp
      have hp' : p' = p + (4 + (tailP ks (splitL ss l) 0).length) := by
        rw [List.length_nil] at hp
        omega
      have HP := hid hp'
      have hneq : bp ≠ br := by omega
      obtain ⟨wF, hwF⟩ : ∃ wF, wF = (wr.setCell ⟨br, 0, none⟩ (.int .i64 (o : Int))).setCell ⟨br, 1, none⟩ (.slice Ak kk ck) := ⟨_, rfl⟩
      have hfar : Chg [br] wr wF := by rw [hwF]; exact ((Chg.refl [br] wr).setCell (.inl (by simp)) _).setCell (.inl (by simp)) _
      have hbF : Blk wF br 46 #[.int .i64 (o : Int), .slice Ak kk ck] := by
        rw [hwF]
        simpa using (hbrr.set_ 0 (.int .i64 (o : Int))).set_ 1 (.slice Ak kk ck)
      have f0 := hbF.cell 0
      have f1 := hbF.cell 1
      simp at f0 f1
      have HWF := hid hwF
      clear hsN hp hp' hck1 hck2 hckc hco1 hco2 hcoc hok Ha Hp hkk hwF hbF
      go_wp2_with fail
      rw [← HWF.out]
      refine bodyPost_ret (v := .tuple #[.agg #[.int .i64 o, .slice Ak kk ck], .slice Ao l.length co, .int .i64 0]) (by simp [results, Tryz.results119, go_sem, f0, f1]) rfl ?_
      have hbrGo : br ∉ Go := fun hm => by have := HGo.out _ hm; omega
      have hbrF : br ∉ F := fun hm => by have := HLT.out _ hm; have := HBR.out; omega
      refine ⟨Ak, kk, ck, _, Go, rfl, hoo.chg hfar (fun x hx hm => by simp at hm; exact hbrGo (hm ▸ hx)), (hrd.cast HP.out).chg hfar (fun x hx hm => by simp at hm; exact hbrF (hm ▸ hx)), ?_, fun x hx => by have := HGo.out x hx; have := HBR.out; omega⟩
      refine (hch2'.out.trans HCH.out ?_).trans hfar ?_
      · intro x hx
        simp at hx
        rcases hx with hx | hx
        · left; simp [hx]
        · right; have := HBR.out; omega
      · intro x hx
        simp at hx
        right
        have := HBR.out
        omega
    · have hiN : i < N := by omega
      have t2 : decide (i < N) = true := decide_eq_true hiN
      have his : i < ss.length := by rw [← HN.out]; exact hiN
      obtain ⟨gs, os, rfl, hcell⟩ := (HCS.out.keep HAPS.out HCH.out).i64_at his
      have hkk : i < ks.length := by rw [HKL.out]; exact hiN
      have hget := splitL_get ss l i his
      have hfit := startOf_fit ss i his
      have hsuc := startOf_succ ss i his
      rw [HSS.out] at hfit
      have hkt := take_snoc' ks hkk
      have hsp := tailP_split (ks := ks) (List.getElem?_eq_getElem hkk) hget
      have hkv := HKS.out ks[i] (List.getElem_mem hkk)
      obtain ⟨k, hkd⟩ : ∃ k, k = ks[i] := ⟨_, rfl⟩
      obtain ⟨s, hsd⟩ : ∃ s, s = ss[i] := ⟨_, rfl⟩
      obtain ⟨q, hqd⟩ : ∃ q, q = startOf ss i := ⟨_, rfl⟩
      rw [← hsd] at hcell hsp hfit hsuc
      rw [← hqd] at hsp hfit hsuc hoo
      rw [← hkd] at hkt hsp hkv
      obtain ⟨part, hpd⟩ : ∃ part, part = (l.drop q).take s := ⟨_, rfl⟩
      have hpl : part.length = s := by rw [hpd, List.length_take, List.length_drop]; omega
      have hta : l.take (q + s) = l.take q ++ part := by rw [hpd, List.take_add]
      have hpw : ∀ x ∈ part, wideP x := fun x hx => HW.out x (List.mem_of_mem_drop (List.mem_of_mem_take (hpd ▸ hx)))
      rw [← hpd] at hsp
      have hA1 := Ha.out
      rw [hsp] at hA1
      have hone := pone_ok wr b F ds p' k part hrd hkv hpw (by have := HL4.out; omega) hA1.left
      rw [hpl] at hone
      have HA2 := hid hA1.right
      have hk32 : k < 32 := by omega
      have HSP := hid hsp
      have HKT := hid hkt
      have HTA := hid hta
      have HSU := hid hsuc
      have HQ := hid hqd
      have HPL := hid hpl
      have hs4 : s ≤ 4096 := by have := HL4.out; omega
      have hq4 : q ≤ 4096 := by have := HL4.out; omega
      clear hget hfit hsuc hkt hsp hkd hsd hqd hpd hta hpw hA1 hkv hkk his hpl Ha
      go_wp2_with fail
      refine hone.mono ?_
      rintro e w3 ⟨vp, Gp, rfl, hop, hrd3, ch3, hGp⟩
      obtain ⟨Ak, ck, rfl, hck1, hck2, hckc⟩ := hok.open_map
      have hkl : (ks.take i).length = i := by rw [List.length_take, HKL.out]; omega
      rw [hkl] at hok hblk
      obtain ⟨kd, hkd2⟩ : ∃ kd, kd = ks.take i := ⟨_, rfl⟩
      rw [← hkd2] at hok hkl
      have HKD := hid hkd2
      clear hkd2
      have hbpb : bp ∉ [b] := by simp; omega
      have hltk := hok.lt
      have hlto := hoo.lt
      have hblk3 := hblk.chg ch3 hbpb
      have hbrr3 := hbrr.chg ch3 (by simp; omega)
      have hok3 := hok.chg ch3 (fun x hx hm => by have := (HGk.out x hx).1; simp at hm; omega)
      have hoo3 := hoo.chg ch3 (fun x hx hm => by have := HGo.out x hx; simp at hm; omega)
      have p1 := (Blk.alloc hblk3 (.cells #[.int .i64 (k : Int)] 3)).cell 1
      simp at p1
      have p1' := hblk3.cell 1
      simp at p1'
      have HOO3 := hid hoo3
      have HBLK3 := hid hblk3
      have HBRR3 := hid hbrr3
      have HRD3 := hid hrd3
      have HOP := hid hop
      have HCH3 := hid ch3
      have HGP := hid hGp
      have HLTK := hid hltk
      have HLTO := hid hlto
      have HWRS := hid hblk.lt
      clear hoo hoo3 hblk hblk3 hbrr hbrr3 hrd hrd3 hop ch3 hGp hone hckc hck1 hck2 hltk hlto hcell
      go_wp2_with (at_builtin; refine wpList_append_o1 rfl rfl int_elem rfl rfl (hok3.alloc _) (.int .i64 (k : Int)) rfl ?c1 ?c2 ?c3 ?c4 ?_)
      case c1 => simp [go_sem]
      case c2 => rfl
      case c3 => rw [List.length_map, hkl]; omega
      case c4 => rw [List.length_map, hkl]; omega
      intro g2 cap2 w4 hr4 gr4
      have halS : (w3.alloc (.cells #[.int .i64 (k : Int)] 3)).heap.size = w3.heap.size + 1 := by simp
      have hblk4 := (HBLK3.out.alloc (.cells #[.int .i64 (k : Int)] 3)).chg gr4.chg (fun hm => by have := (HGk.out _ hm).1; omega)
      have d1 := hblk4.cell 1
      have z1 := hblk4.frozen 1
      simp at d1
      have hg2bp : g2 ≠ bp := fun he => by
        rcases gr4.new g2 (by simp) with h9 | h9
        · have := (HGk.out _ h9).1; omega
        · have := HCH3.out.size; have := HWRS.out; omega
      have hset : Chg [bp] w4 (w4.setCell ⟨bp, 1, none⟩ (.slice (some ⟨g2, 0, none⟩) (i + 1) cap2)) := (Chg.refl [bp] w4).setCell (.inl (by simp)) _
      have hop5 := ((((HOP.out.alloc (.cells #[.int .i64 (k : Int)] 3))).chg gr4.chg (fun x hx hm => by have := HGP.out x hx; have := HLTK.out x hm; omega))).chg hset (fun x hx hm => by simp at hm; have := HGP.out x hx; have := HWRS.out; omega)
      have hoo5 := (((HOO3.out.alloc (.cells #[.int .i64 (k : Int)] 3))).chg gr4.chg (fun x hx hm => (HGk.out x hm).2 hx)).chg hset (fun x hx hm => by simp at hm; have := HGo.out x hx; omega)
      obtain ⟨Ap, cp, rfl, hcp1, hcp2, hcpc, _⟩ := hop5.open_
      rw [List.length_map, HPL.out] at hcp1 ⊢
      go_wp2_with (at_builtin; refine wpList_append_s rfl rfl int_elem rfl rfl hoo5 (part.map vi) s rfl ?c1 hcpc ?c2 ?c3 ?c4 ?_)
      case c1 => rw [List.length_map, HPL.out]
      case c2 => intro u hu; obtain ⟨y, _, rfl⟩ := List.mem_map.1 hu; rfl
      case c3 => rw [List.length_map, List.length_map, HPL.out, List.length_take]; omega
      case c4 => rw [List.length_map, List.length_map, HPL.out, List.length_take]; omega
      intro v' F' w6 hown6 gr6
      go_wp2_with fail
      go_roundg j
      case measure => omega
      case rel =>
        have h5 := hblk4.set_ 1 (.slice (some ⟨g2, 0, none⟩) (i + 1) cap2)
        have hGof : ∀ x, x ∈ Go → x < w3.heap.size := fun x hx => by have := HLTO.out x hx; have := HCH3.out.size; omega
        have hg2Go : g2 ∉ Go := fun hm => by
          rcases gr4.new g2 (by simp) with h9 | h9
          · exact (HGk.out _ h9).2 hm
          · have := hGof _ hm; omega
        have hbpg2 : bp < g2 := by
          rcases gr4.new g2 (by simp) with h9 | h9
          · exact (HGk.out _ h9).1
          · have := HCH3.out.size; have := HWRS.out; omega
        have hs4 : w3.heap.size ≤ w4.heap.size := by have := gr4.size; omega
        have hs5 : (w4.setCell ⟨bp, 1, none⟩ (.slice (some ⟨g2, 0, none⟩) (i + 1) cap2)).heap.size = w4.heap.size := by simp
        have hbpw3 : bp < w3.heap.size := by have := HCH3.out.size; have := HWRS.out; omega
        have h6 := Blk.chg h5 gr6.chg (fun hm => by have := HGo.out _ hm; omega)
        have h7 := ((((HBRR3.out.alloc (.cells #[.int .i64 (k : Int)] 3)).chg gr4.chg (fun hm => by have := (HGk.out _ hm).1; omega)).chg hset (by simp; omega)).chg gr6.chg (fun hm => by have := HGo.out _ hm; omega))
        have h8 := ((hr4.toOwn.chg hset (fun x hx hm => by simp at hx hm; omega)).chg gr6.chg (fun x hx hm => by simp at hx; exact hg2Go (hx ▸ hm)))
        have h9 := ((((HRD3.out.same ((Chg.refl [] w3).alloc (.cells #[.int .i64 (k : Int)] 3))).chg gr4.chg (fun x hx hm => by have := HBPF.out x hx; have := (HGk.out _ hm).1; omega)).chg hset (fun x hx hm => by simp at hm; have := HBPF.out x hx; omega)).chg gr6.chg (fun x hx hm => by have := HBPF.out x hx; have := HGo.out _ hm; omega))
        refine ⟨i + 1, p' + (partBits k part).length, .slice (some ⟨g2, 0, none⟩) (i + 1) cap2, [g2], F', by go_num, by omega, by simpa using h6, h7, ?_, ?_, h9, HA2, hid ?_, hid ?_, hid ?_, hid ?_⟩
        · rw [HKT.out, ← HKD.out, List.map_append]
          exact h8
        · rw [HSU.out, HTA.out, List.map_append, List.map_take]
          exact hown6
        · have e1 := Hp.out
          rw [HSP.out, List.length_append] at e1
          omega
        · refine (((((HCH.out.trans HCH3.out (by simp)).alloc (.cells #[.int .i64 (k : Int)] 3)).trans gr4.chg ?_).trans hset (by simp)).trans gr6.chg ?_)
          · intro x hx
            right
            have := (HGk.out x hx).1
            have := HBP.out
            omega
          · intro x hx
            right
            have := HGo.out x hx
            have := HBP.out
            omega
        · intro x hx
          simp at hx
          subst hx
          refine ⟨hbpg2, gr6.out ?_ hg2Go⟩
          rw [hs5]
          exact hr4.lt
        · intro x hx
          rcases gr6.new x hx with h | h
          · exact HGo.out x h
          · rw [hs5] at h; omega
end Go.Proofs.YtpkplhmdnjdmoaaGreatDoor

/- Plain: the rests of all rows in one list; taking them back. -/
namespace Go.Proofs.YtpkplhmdnjdmoaaGreatDoor

theorem flatten_get {α : Type} {W x : Nat} (hx : x < W) : ∀ (L : List (List α)) (y : Nat), (∀ a ∈ L, a.length = W) → y < L.length → L.flatten[y * W + x]? = (L[y]?).bind (·[x]?)
  | [], y, _, h => by simp at h
  | a :: L, 0, h, _ => by
    have ha := h a (by simp)
    rw [List.flatten_cons, Nat.zero_mul, Nat.zero_add, List.getElem?_append_left (by omega)]
    simp
  | a :: L, y + 1, h, hy => by
    have ha := h a (by simp)
    rw [List.flatten_cons, List.getElem?_append_right (by rw [ha, Nat.succ_mul]; omega), ha, show (y + 1) * W + x - W = y * W + x by rw [Nat.succ_mul]; omega, flatten_get hx L y (fun b hb => h b (by simp [hb])) (by simpa using hy)]
    simp
theorem foreL_at (l : List Int) {W H : Nat} (d : Nat) (ks : List Nat) {x y : Nat} (hy : y < H) (hx : x < W) : (foreL l W H d ks).getD (y * W + x) 0 = restAt l W d (ks.getD y 0) y x := by
  have h := flatten_get hx ((List.range H).map fun y => rowL l W y d (ks.getD y 0)) y (fun a ha => by
    obtain ⟨z, _, rfl⟩ := List.mem_map.1 ha
    exact rowL_len _ _ _ _ _) (by simpa using hy)
  unfold foreL
  rw [List.getD_eq_getElem?_getD, List.flatMap_def, h, List.getElem?_map, List.getElem?_range hy]
  simp [rowL, hx]
/-- Rests that were folded and wrapped again are the rests. -/
theorem fore_back (l : List Int) (W H d : Nat) (ks : List Nat) : ((foreL l W H d ks).map fun v => foldI v d).map (fun v => wrapI v d) = foreL l W H d ks := by
  rw [List.map_map]
  refine (List.map_congr_left fun v hv => ?_).trans (List.map_id _)
  obtain ⟨h0, h1⟩ := foreL_ok l W H d ks v hv
  show wrapI (foldI v d) d = v
  rw [foldI_wrap, wrapI_in h0 h1]
end Go.Proofs.YtpkplhmdnjdmoaaGreatDoor

/- tile's readers by their contracts, the second part: getGuessed. -/
namespace Go.Proofs.YtpkplhmdnjdmoaaGreatDoor
set_option linter.unusedSimpArgs false
set_option linter.unusedVariables false
open Go.RowKit

theorem maxN_below {l : List Nat} {B : Nat} (h : ∀ x ∈ l, x ≤ B) : maxN l ≤ B := by
  unfold maxN
  suffices H : ∀ (l : List Nat) (m : Nat), m ≤ B → (∀ x ∈ l, x ≤ B) → l.foldl max m ≤ B from H l 0 (Nat.zero_le _) h
  intro l
  induction l with
  | nil => intro m hm _; exact hm
  | cons x l ih => intro m hm hl; exact ih _ (by have := hl x (by simp); omega) (fun y hy => hl y (by simp [hy]))
set_option maxRecDepth 100000 in
set_option maxHeartbeats 4000000 in
theorem getGuessed_ok (w : World) (b : Nat) (F ds : List Nat) (p : Nat) (l : List Int) (W H d : Nat) (h : IsRd w b F ds p) (hw0 : 1 ≤ W) (hw1 : W ≤ 16) (hh0 : 1 ≤ H) (hh1 : H ≤ 16) (h0 : 1 ≤ d) (h1 : d ≤ 16) (hl : l.length = W * H) (hs : SmpOk d l) (ha : Ahead ds p (guessedBits l W H d)) :
    Calls Tryz.prog 78 #[.pointer (some ⟨b, 0, none⟩), .int .i64 W, .int .i64 H, .int .i64 d] w fun e w' => ∃ v g, e = .returned (.tuple #[v, .int .i64 0]) ∧ Row w' 3 v g (l.map vi) ∧ IsRd w' b F ds (p + (guessedBits l W H d).length) ∧ Chg [b] w w' ∧ w.heap.size ≤ g := by
  have hgb : guessedBits l W H d = allOf (kindsI l W H d) 4 ++ planBits (foreF l W H d) (W * H) := rfl
  rw [hgb] at ha ⊢
  rw [List.length_append]
  have hki := kindsI_vi l W H d
  have hkl := kindsI_len l W H d
  have hko := kindsI_ok l W H d
  have hka := fun hr => getAll_ok w b F ds p 4 (kindsI l W H d) hr (by omega) hko (by rw [hkl]; omega) ha.left
  have ha2 := ha.right
  have hfl := foreF_len l W H d
  have hfw := foreF_wide l W H d h0 h1
  obtain ⟨m, hm⟩ : ∃ m, m = W * H := ⟨_, rfl⟩
  have hm1 : 1 ≤ m := by rw [hm]; exact Nat.mul_pos hw0 hh0
  have hm256 : m ≤ 256 := by rw [hm]; exact Nat.mul_le_mul hw1 hh1
  have hmI : (W : Int) * (H : Int) = (m : Int) := by rw [hm]; simp
  have hEF : foreF l W H d = (foreL l W H d (bestKinds l W H d)).map fun v => foldI v d := rfl
  have hEb := fore_back l W H d (bestKinds l W H d)
  rw [← hEF] at hEb
  have hEo := foreL_ok l W H d (bestKinds l W H d)
  have hEl := foreL_len l W H d (bestKinds l W H d)
  have hEa := fun y x (hy : y < H) (hx : x < W) => foreL_at l d (bestKinds l W H d) hy hx
  have hfi : ∀ x ∈ foreF l W H d, foldI x d = x := fun x hx => by
    rw [hEF] at hx
    obtain ⟨v, _, rfl⟩ := List.mem_map.1 hx
    obtain ⟨r0, r1⟩ := foldI_range v h0
    exact foldI_in h0 r0 r1
  have hbk := fun A AK cap capk w' (hc : Cells vi w' A (foreL l W H d (bestKinds l W H d))) (hk : Cells i64 w' AK (bestKinds l W H d)) =>
    gback_ok l (foreL l W H d (bestKinds l W H d)) (bestKinds l W H d) A AK cap capk W H d w' hw0 (by omega) hh0 (by omega) h0 h1 hl hs hEl hEo (fun y x hy hx => hEa y x hy hx) (bestKinds_len l W H d) (bestKinds_ok l W H d) hc hk
  rw [hEl, ← hm, bestKinds_len] at hbk
  have hck' : ∀ Ak w, Cells vi w Ak (kindsI l W H d) → Cells i64 w Ak (bestKinds l W H d) := fun Ak w h => Cells.map (f := vi) (k := Int.ofNat) h
  have hkmx : maxN (bestKinds l W H d) ≤ 9 := maxN_below (fun x hx => by have := bestKinds_ok l W H d x hx; omega)
  have hkne : bestKinds l W H d ≠ [] := fun e => by have := bestKinds_len l W H d; rw [e] at this; simp at this; omega
  have hmxn := maxOf_nat (bestKinds l W H d) hkne
  have hkI : kindsI l W H d = (bestKinds l W H d).map Int.ofNat := rfl
  rw [← hkI] at hmxn
  rw [← hm] at ha2 hfl ⊢
  have hpo := bestPlan_ok (n := m) (warm := 0) (most := 4) (by omega) (foreF l W H d)
  have hko' := ksOk_best (n := m) (foreF l W H d)
  have hkl' := ks_len_best (n := m) (foreF l W H d)
  have hpg := fun w' (hr : IsRd w' b F ds (p + (allOf (kindsI l W H d) 4).length)) => pget_ok w' b F ds (p + (allOf (kindsI l W H d) 4).length) _ m 0 _ (foreF l W H d) hr hpo.2.1 hm1 (by omega) (by omega) hpo.1.1 hkl' hko' hfl hfw ha2
  have hpe : planBits (foreF l W H d) m = bitsP (bestPlan m 0 4 (foreF l W H d)).order (bestPlan m 0 4 (foreF l W H d)).ks (splitL (sizesL (bestPlan m 0 4 (foreF l W H d)).order m 0) (foreF l W H d)) := rfl
  rw [← hpe] at hpg
  obtain ⟨E, hE⟩ : ∃ E, E = foreL l W H d (bestKinds l W H d) := ⟨_, rfl⟩
  obtain ⟨EF, hEFe⟩ : ∃ EF, EF = foreF l W H d := ⟨_, rfl⟩
  rw [← hE] at hEb hbk
  rw [← hEFe] at hEb hfi hfl hpg
  rw [← hEFe]
  obtain ⟨K, hK⟩ : ∃ K, K = kindsI l W H d := ⟨_, rfl⟩
  rw [← hK] at hka hkl hmxn hck' hpg
  rw [← hK]
  obtain ⟨mx, hmx⟩ : ∃ mx, mx = maxN (bestKinds l W H d) := ⟨_, rfl⟩
  rw [← hmx] at hkmx hmxn
  obtain ⟨a1, ha1⟩ : ∃ a1, a1 = (allOf K 4).length := ⟨_, rfl⟩
  obtain ⟨a2, ha2e⟩ : ∃ a2, a2 = (planBits EF m).length := ⟨_, rfl⟩
  rw [← ha1] at hka hpg ⊢
  rw [← ha2e] at hpg ⊢
  rw [hkl] at hka
  generalize (bestPlan m 0 4 EF).order = po at hpg
  have hka1 := hka h
  rw [show ((4 : Nat) : Int) = 4 from rfl] at hka1
  have t9 : decide ((9 : Int) < (mx : Int)) = false := decide_eq_false (by omega)
  have hbl := h.lt b h.mem
  have hlt := h.lt
  have HKL := hid hkl
  have HMX := hid hmxn
  have HCK := hid hck'
  have HPG := hid hpg
  have HEB := hid hEb
  have HFI := hid hfi
  have HBK := hid hbk
  have HFL := hid hfl
  have HLT := hid hlt
  clear hgb hki hkl hko hka ha ha2 hfl hfw hm hEF hEb hEo hEl hEa hfi hbk hck' hkne hkI hpo hko' hkl' hpg hpe hE hEFe hK hmx ha1 ha2e hmxn hs hl h hlt
  go_enter Tryz.func78, Tryz.ntmps78
  go_wp2_with fail
  refine hka1.mono ?_
  rintro e w1 ⟨vk, gk', rfl, hrowk, hr1, ch1, hgk⟩
  obtain ⟨ck, rfl, hck1, hck2, _, _⟩ := hrowk.open_map
  have hcK : Cells vi w1 (some ⟨gk', 0, none⟩) K := hrowk.toOwn.cells
  have hmax := Tryz.slices_Max_int gk' 0 H ck K w1 (by omega) (by rw [HKL.out]; exact Nat.le_refl _) (by omega) (Cells.getD_ hcK)
  rw [List.take_of_length_le (by rw [HKL.out]; exact Nat.le_refl _), HMX.out] at hmax
  rw [HKL.out]
  have hgklt := hrowk.lt
  have hpg := HPG.out w1 hr1
  rw [show ((0 : Nat) : Int) = 0 from rfl] at hpg
  clear hka1 hrowk
  go_wp2_with (go_at_call 75; refine (err_ok _ b F ds _ hr1).mono ?_; rintro e w' ⟨rfl, rfl⟩)
  refine hmax.mono ?_
  rintro e w' ⟨rfl, rfl⟩
  clear hmax
  go_wp2_with fail
  refine hpg.mono ?_
  rintro e w2 ⟨Ap, np, cp, v2, G2, rfl, own2, hr2, ch2, hG2⟩
  have hgkb : gk' ∉ [b] := by simp; omega
  have hcK2 : Cells vi w2 (some ⟨gk', 0, none⟩) K := hcK.keep (fun _ ad e => by injection e with e; subst e; exact hgkb) ch2
  rcases own2.cases with ⟨_, hnil, _⟩ | ⟨g, row2, rfl⟩
  · exfalso
    have := congrArg List.length hnil
    rw [List.length_map, HFL.out] at this
    simp at this
    omega
  obtain ⟨cg, rfl, hcg1, hcg2, _, _⟩ := row2.open_map
  rw [HFL.out] at hcg1 row2 ⊢
  have hg1 := hG2 g (by simp)
  have hch12 := ch1.trans_same ch2
  have hbp := hr2.lt
  obtain ⟨w3, hw3⟩ : ∃ w3, w3 = w2.alloc (.cells #[.int .i64 (po : Int), .slice Ap np cp] 46) := ⟨_, rfl⟩
  have ch3 : Chg [] w2 w3 := by rw [hw3]; exact (Chg.refl [] w2).alloc _
  have hr3 := hr2.same ch3
  have row3 := row2.chg ch3 (by simp)
  have hcK3 := hcK2.same ch3
  have hch3 := hch12.trans ch3 (by simp)
  have hggk : g ≠ gk' := by omega
  have HW3 := hid hw3
  have hfoldd := fun v w' => fold_ok v d w' h0 h1
  have hwrapd := fun v w' => wrap_ok v d w' h0 h1
  clear own2 row2 hr2 hcK hcK2 hpg hw3 hch12 ch2 hG2 hr1 ch1
  go_wp2_with fail
  rw [← HW3.out]
  go_loopg [15, 16, 42] m (fun j va vb iv wr => ∃ (i : Nat), iv = .int .i64 (i : Int) ∧ i + j = m ∧ Row wr 3 (.slice (some ⟨g, 0, none⟩) m cg) g ((mixL (fun v => wrapI v d) EF i).map vi) ∧ Chg [g] w3 wr)
  case atStart => exact ⟨0, rfl, by omega, by rw [mixL_zero]; exact row3, Chg.refl _ _⟩
  case round =>
    clear row3
    obtain ⟨i, rfl, hij, hrow, hch⟩ := hrel
    rcases gk with _ | j
    · obtain rfl : m = i := by omega
      have t1 : decide (m < m) = false := by simp
      rw [← HFL.out, mixL_full, HEB.out, HFL.out] at hrow
      have hcE : Cells vi wr (some ⟨g, 0, none⟩) E := hrow.toOwn.cells
      have hcK4 := HCK.out _ _ (hcK3.chg hch (fun ad e => by injection e with e; subst e; simp; omega))
      have hbk := HBK.out _ _ cg ck wr hcE hcK4
      have hr4 := hr3.chg hch (fun x hx hm => by simp at hm; have := HLT.out x hx; omega)
      have hch4 := hch3.trans hch (fun x hx => by simp at hx; right; omega)
      clear hcE hcK4 hcK3 hrow
      go_wp2_with fail
      refine hbk.mono ?_
      rintro e w5 ⟨v5, g5, rfl, hrow5, ch5, hg5⟩
      go_wp2
      go_ret2
      exact ⟨v5, g5, rfl, hrow5, (hr4.same ch5).cast (by omega), hch4.trans ch5 (by simp), by have := hch4.size; omega⟩
    · have him : i < m := by omega
      have t1 : decide (i < m) = true := decide_eq_true him
      have hiE : i < EF.length := by rw [HFL.out]; exact him
      obtain ⟨cap', heq, _, _, hcell, hfro⟩ := hrow.open_map
      have hce := hcell i _ (mixL_at (fun v => wrapI v d) EF hiE)
      have hfr := hfro i
      have hset := hrow.set_ (i := i) (by rw [List.length_map, mixL_len]; exact hiE) (vi (wrapI (EF.getD i 0) d))
      rw [← List.map_set, mixL_set (fun v => wrapI v d) EF hiE] at hset
      have hxf := HFI.out (EF.getD i 0) (by rw [List.getD_eq_getElem?_getD, List.getElem?_eq_getElem hiE]; exact List.getElem_mem hiE)
      have hfd := fun w => hfoldd (EF.getD i 0) w
      have hwd := fun w => hwrapd (EF.getD i 0) w
      rw [hxf] at hfd
      generalize EF.getD i 0 = x at *
      have t2 : (x != x) = false := by simp
      obtain ⟨y, hy⟩ : ∃ y, y = wrapI x d := ⟨_, rfl⟩
      rw [← hy] at hset hwd
      have hce' : wr.cell? ⟨g, i, none⟩ = some (.int .i64 x) := hce
      have hset' : Row (wr.setCell ⟨g, i, none⟩ (.int .i64 y)) _ _ _ _ := hset
      clear heq hcell hfro hce hset hy hrow hxf
      go_wp2_with (first | (go_at_call 18; refine (hfd _).mono ?_; rintro e w' ⟨rfl, rfl⟩) | (go_at_call 45; refine (hwd _).mono ?_; rintro e w' ⟨rfl, rfl⟩))
      go_roundg j
      case measure => omega
      case rel => exact ⟨i + 1, by go_num, by omega, hset', hch.setCell (.inl (by simp)) _⟩
end Go.Proofs.YtpkplhmdnjdmoaaGreatDoor

/- tile's readers by their contracts, the third part: getColoured. -/
namespace Go.Proofs.YtpkplhmdnjdmoaaGreatDoor
set_option linter.unusedSimpArgs false
set_option linter.unusedVariables false
open Go.RowKit

def pickD (D : List Int) (v : Int) : Int := D.getD v.toNat 0
theorem idx_back (l : List Int) : (idxL l).map (pickD (diffL l)) = l := by
  unfold idxL
  rw [List.map_map]
  refine (List.map_congr_left fun s hs => ?_).trans (List.map_id _)
  have h := (countP_index (diffL l) (diffL_lt l) ((mem_diffL l s).2 hs)).2
  show pickD (diffL l) ((diffL l).countP (· < s) : Int) = s
  unfold pickD
  rw [Int.toNat_natCast, List.getD_eq_getElem?_getD, h]
  rfl
set_option maxRecDepth 100000 in
set_option maxHeartbeats 2000000 in
theorem getColoured_ok (w : World) (b : Nat) (F ds : List Nat) (p : Nat) (l : List Int) (d : Nat) (h : IsRd w b F ds p) (h0 : 1 ≤ d) (h1 : d ≤ 16) (hl0 : 0 < l.length) (hl : l.length ≤ 256) (hs : SmpOk d l) (hk : (diffL l).length ≤ 16) (ha : Ahead ds p (colouredBits l d)) :
    Calls Tryz.prog 82 #[.pointer (some ⟨b, 0, none⟩), .int .i64 l.length, .int .i64 d] w fun e w' => ∃ v g, e = .returned (.tuple #[v, .int .i64 0]) ∧ Row w' 3 v g (l.map vi) ∧ IsRd w' b F ds (p + (colouredBits l d).length) ∧ Chg [b] w w' ∧ w.heap.size ≤ g := by
  have hdp := diffL_pos hl0
  have hdo := diffL_ok hs
  have hdlt := diffL_lt l
  have hci := fun x (hx : x ∈ l) => (countP_index (diffL l) (diffL_lt l) ((mem_diffL l x).2 hx)).1
  have hcb : colouredBits l d = bitsOf ((diffL l).length - 1) 4 ++ allOf (diffL l) d ++ allOf (idxL l) (bitsN (diffL l).length) := rfl
  rw [hcb] at ha ⊢
  have hib := idx_back l
  have hil := idxL_len l
  obtain ⟨D, hD⟩ : ∃ D, D = diffL l := ⟨_, rfl⟩
  obtain ⟨k, hkl⟩ : ∃ k, k = D.length := ⟨_, rfl⟩
  have hio : ∀ x ∈ idxL l, 0 ≤ x ∧ x < (k : Int) := fun x hx => by
    obtain ⟨s, hss, rfl⟩ := List.mem_map.1 hx
    have := hci s hss
    rw [hkl, hD]
    show (0 : Int) ≤ _ ∧ ((diffL l).countP (· < s) : Int) < ((diffL l).length : Int)
    omega
  rw [← hD] at hdp hdo hdlt hk hib ha ⊢
  have hbr := bitsN_room hk
  have hbl := bitsN_le hk
  have hpb := fun w => palBits_ok D.length w hdp (by omega)
  rw [← hkl] at hdp hk hbr hbl hpb ha ⊢
  obtain ⟨q, hq⟩ : ∃ q, q = bitsN k := ⟨_, rfl⟩
  rw [← hq] at hbr hbl hpb ha ⊢
  obtain ⟨I, hI⟩ : ∃ I, I = idxL l := ⟨_, rfl⟩
  rw [← hI] at hib hil hio ha ⊢
  obtain ⟨n, hn⟩ : ∃ n, n = l.length := ⟨_, rfl⟩
  rw [← hn] at hil hl hl0 ⊢
  have hg1 := rget_ahead w b F ds p 4 (k - 1) h (by omega) (by omega) ha.left.left
  have ha2 := ha.left.right
  have ha3 := ha.right
  rw [bitsOf_len] at ha2
  rw [List.length_append, bitsOf_len] at ha3
  have hga := fun w' (hr : IsRd w' b F ds (p + 4)) => getAll_ok w' b F ds (p + 4) d D hr h1 hdo (by rw [← hkl]; omega) ha2
  have hiq : SmpOk q I := fun x hx => by
    have := hio x hx
    have e : (2 : Int) ^ q = ((2 ^ q : Nat) : Int) := by simp
    rw [e]
    omega
  have hgb := fun w' (hr : IsRd w' b F ds (p + (4 + (allOf D d).length))) => getAll_ok w' b F ds (p + (4 + (allOf D d).length)) q I hr (by omega) hiq (by rw [hil]; omega) ha3
  rw [← hkl] at hga
  rw [hil] at hgb
  rw [List.length_append, List.length_append, bitsOf_len]
  generalize (allOf D d).length = a1 at *
  generalize (allOf I q).length = a2 at *
  obtain ⟨k1, hk1⟩ : ∃ k1, k1 = k - 1 := ⟨_, rfl⟩
  have ek : (k1 : Int) + 1 = (k : Int) := by omega
  rw [← hk1] at hg1
  have hw1 : IntKind.i64.wrap (k1 : Int) = (k1 : Int) := IntWalk.i64_in _ (by omega)
  have hbl' := h.lt b h.mem
  have HKL := hid hkl
  have HIB := hid hib
  have HIL := hid hil
  have HIO := hid hio
  have HGA := hid hga
  have HGB := hid hgb
  have HDLT := hid hdlt
  have HLT := hid h.lt
  clear hn hkl hib hil hio hga hgb hdlt hcb hD hI hq hs hci hdo ha ha2 ha3 hiq hk1 hbr h
  go_enter Tryz.func82, Tryz.ntmps82
  go_wp2_with fail
  refine hg1.mono ?_
  rintro e w1 ⟨rfl, hr1, ch1⟩
  clear hg1
  go_wp2_with fail
  refine (HGA.out w1 hr1).mono ?_
  rintro e w2 ⟨vD, gD, rfl, rowD, hr2, ch2, hgD⟩
  obtain ⟨cD, rfl, hcD1, hcD2, _, _⟩ := rowD.open_map
  rw [← HKL.out]
  have hgDlt := rowD.lt
  go_wp2_with fail
  refine (hpb w2).mono ?_
  rintro e w' ⟨rfl, rfl⟩
  go_wp2_with fail
  refine (HGB.out w2 (hr2.cast (by omega))).mono ?_
  rintro e w3 ⟨vI, gI, rfl, rowI, hr3, ch3, hgI⟩
  obtain ⟨cI, rfl, hcI1, hcI2, _, _⟩ := rowI.open_map
  rw [HIL.out] at hcI1 rowI ⊢
  have rowD3 := rowD.chg ch3 (by have := ch1.size; simp; omega)
  have hch3 := (ch1.trans_same ch2).trans_same ch3
  have hs2 := (ch1.trans_same ch2).size
  clear rowD hr1 hr2 ch1 ch2 ch3 hpb
  have hgw : w.heap.size ≤ gI := by omega
  have hgg : gD < gI := by omega
  go_wp2_with (go_at_call 75; refine (err_ok _ b F ds _ hr3).mono ?_; rintro e w' ⟨rfl, rfl⟩)
  have HR3 := hid hr3
  have HC3 := hid hch3
  have HRI := hid rowI
  have HRD := hid rowD3
  clear hr3 hch3 rowI rowD3
  go_loopg [11] (k - 1) (fun j iv wr => ∃ i q' : Nat, iv = .int .i64 (i : Int) ∧ 1 ≤ i ∧ i + j = k ∧ wr = w3.drewN q')
  case atStart => exact ⟨1, 0, rfl, Nat.le_refl _, by omega, rfl⟩
  case round =>
    obtain ⟨i, q', rfl, hi1, hij, rfl⟩ := hrel
    rcases gk with _ | j
    · obtain rfl : k = i := by omega
      have u1 : decide (k < k) = false := by simp
      have hrow0 := HRI.out.drewN q'
      have hrd0 := HRD.out.drewN q'
      have hr0 := HR3.out.same ((Chg.refl [] w3).drewN q')
      have hch0 := HC3.out.drewN q'
      generalize w3.drewN q' = w4 at *
      go_wp2_with fail
      go_loopg [12, 13, 50] n (fun j va vb iv wr => ∃ (i : Nat), iv = .int .i64 (i : Int) ∧ i + j = n ∧ Row wr 3 (.slice (some ⟨gI, 0, none⟩) n cI) gI ((mixL (pickD D) I i).map vi) ∧ Chg [gI] w4 wr)
      case atStart => exact ⟨0, rfl, by omega, by rw [mixL_zero]; exact hrow0, Chg.refl _ _⟩
      case round =>
        clear hrow0
        obtain ⟨i, rfl, hij, hrow, hch⟩ := hrel
        rcases gk with _ | j
        · obtain rfl : n = i := by omega
          have u2 : decide (n < n) = false := by simp
          rw [← HIL.out, mixL_full, HIB.out, HIL.out] at hrow
          have hr4 := hr0.chg hch (fun x hx hm => by simp at hm; have := HLT.out x hx; omega)
          have hch4 := hch0.trans hch (fun x hx => by simp at hx; right; omega)
          go_wp2_with fail
          go_ret2
          exact ⟨_, gI, rfl, hrow, hr4.cast (by omega), hch4, hgw⟩
        · have him : i < n := by omega
          have u2 : decide (i < n) = true := decide_eq_true him
          have hiI : i < I.length := by rw [HIL.out]; exact him
          obtain ⟨cap', heq, _, _, hcell, hfro⟩ := hrow.open_map
          have hce := hcell i _ (mixL_at (pickD D) I hiI)
          have hfr := hfro i
          have hset := hrow.set_ (i := i) (by rw [List.length_map, mixL_len]; exact hiI) (vi (pickD D (I.getD i 0)))
          rw [← List.map_set, mixL_set (pickD D) I hiI] at hset
          have hxo := HIO.out (I.getD i 0) (by rw [List.getD_eq_getElem?_getD, List.getElem?_eq_getElem hiI]; exact List.getElem_mem hiI)
          generalize I.getD i 0 = x at *
          obtain ⟨X, hX⟩ : ∃ X : Nat, X = x.toNat := ⟨_, rfl⟩
          have hxX : x = (X : Int) := by omega
          have hXk : X < k := by omega
          have hpk : pickD D x = D.getD X 0 := by unfold pickD; rw [hX]
          obtain ⟨cD', heqD, _, _, hcellD, _⟩ := (hrd0.chg hch (by simp; omega)).open_map
          have hXD : X < D.length := by rw [← HKL.out]; exact hXk
          have hcd := hcellD X (D.getD X 0) (by rw [List.getD_eq_getElem?_getD, List.getElem?_eq_getElem hXD]; rfl)
          rw [hpk] at hset
          generalize D.getD X 0 = y at *
          subst hxX
          have u3 : decide (k ≤ X) = false := decide_eq_false (by omega)
          have hce' : wr.cell? ⟨gI, i, none⟩ = some (.int .i64 (X : Int)) := hce
          have hcd' : wr.cell? ⟨gD, X, none⟩ = some (.int .i64 y) := hcd
          have hset' : Row (wr.setCell ⟨gI, i, none⟩ (.int .i64 y)) _ _ _ _ := hset
          clear heq hcell hfro hce hset hX hrow hxo hpk hcellD heqD hcd
          go_wp2
          go_roundg j
          case measure => omega
          case rel => exact ⟨i + 1, by go_num, by omega, hset', hch.setCell (.inl (by simp)) _⟩
    · have hik : i < k := by omega
      have u1 : decide (i < k) = true := decide_eq_true hik
      obtain ⟨i0, hi0⟩ : ∃ i0, i0 = i - 1 := ⟨_, rfl⟩
      have ei : (i : Int) - 1 = (i0 : Int) := by omega
      have hiD : i < D.length := by rw [← HKL.out]; exact hik
      have hlt := List.pairwise_iff_getElem.1 HDLT.out i0 i (by omega) hiD (by omega)
      obtain ⟨cD', heqD, _, _, hcellD, _⟩ := HRD.out.open_map
      have c1 := hcellD i0 _ (List.getElem?_eq_getElem (by omega))
      have c2 := hcellD i _ (List.getElem?_eq_getElem hiD)
      generalize D[i0] = x at *
      generalize D[i] = y at *
      have c1' : w3.cell? ⟨gD, i0, none⟩ = some (.int .i64 x) := c1
      have c2' : w3.cell? ⟨gD, i, none⟩ = some (.int .i64 y) := c2
      have u2 : decide (y ≤ x) = false := decide_eq_false (by omega)
      have hi0k : i0 < k := by omega
      clear hi0 hcellD heqD c1 c2 hlt hiD
      go_wp2
      go_quiet (fail)
      go_wp2
      go_roundg j
      case measure => omega
      case rel => exact ⟨i + 1, q' + nq, by go_num, by omega, by omega, by first | rfl | rw [World.drewN_drewN]⟩
end Go.Proofs.YtpkplhmdnjdmoaaGreatDoor

/- tile's readers by their contracts, the fourth part: unfolded, getRanged. -/
namespace Go.Proofs.YtpkplhmdnjdmoaaGreatDoor
set_option linter.unusedSimpArgs false
set_option linter.unusedVariables false
open Go.RowKit

theorem fut_first4 {n : Nat} {F : List Nat} (hF : Fut F (newCod n)) : valD (F.take 4) ≠ 4294967295 := by
  have := hF.hi
  simp [newCod, pre, valD] at this
  unfold valD
  simp
  omega
theorem newDec_okT (N : Nat) {F : List Nat} (hd : ∀ d ∈ F, d < 256) (h4 : 4 ≤ F.length) (hF : Fut F (newCod N)) : DecOk (newDec F N) := by
  have := hF.hi
  simp [newCod, pre, valD] at this
  refine ⟨hd, by simp [newDec], by simp [newDec], ?_, h4, by simp [newDec]⟩
  simp [newDec, valD]
  omega
theorem fold16 (l : List Int) (W : Nat) {d : Nat} (h0 : 1 ≤ d) (h1 : d ≤ 16) (i : Nat) : foldOf l W d i < 65536 :=
  Nat.lt_of_lt_of_le (foldOf_lt l W h0 i) (Nat.pow_le_pow_right (n := 2) (by decide) h1)
theorem codR_fit (l : List Int) (W : Nat) {d : Nat} (h0 : 1 ≤ d) (h1 : d ≤ 16) : ∀ i, CodFit (codR l W d i)
  | 0 => newCod_fit _
  | i + 1 => by
    have h := codR_ok l W h0 h1 i
    have hc := clsN_le l W d i
    have hf := fold16 l W h0 h1 i
    exact numL_fit h.1 (codR_fit l W h0 h1 i) (by omega) (by rw [h.2.1]; omega)
theorem fut_codR (l : List Int) (W : Nat) {d : Nat} (h0 : 1 ≤ d) (h1 : d ≤ 16) {F : List Nat} (hd : ∀ x ∈ F, x < 256) : ∀ (k i : Nat), Fut F (codR l W d (i + k)) → Fut F (codR l W d i)
  | 0, _, h => h
  | k + 1, i, h => by
    have hk := codR_ok l W h0 h1 (i + k)
    have hc := clsN_le l W d (i + k)
    have hf := fold16 l W h0 h1 (i + k)
    have h' : Fut F (numL (codR l W d (i + k)) (33 * clsN l W d (i + k)) (foldOf l W d (i + k))) := h
    exact fut_codR l W h0 h1 hd k i (fut_num (v := foldOf l W d (i + k)) (ctx := 33 * clsN l W d (i + k)) hd hk.1 (codR_fit l W h0 h1 _) (by omega) (by rw [hk.2.1]; omega) h')
theorem fold_back {l : List Int} {d : Nat} (hs : SmpOk d l) (W i : Nat) : wrapI (guessI 7 (nbrAt l W i) d + unfoldI (foldOf l W d i)) d = l.getD i 0 := by
  obtain ⟨h0, h1⟩ := getD_ok hs i
  unfold foldOf
  rw [unfoldI_rfold]
  exact unfold_fold h0 h1
theorem nbr_fillAt {l : List Int} {W i : Nat} (hW : 1 ≤ W) (hi : i ≤ l.length) : nbrAt (fillL (l.take i) l.length) W i = nbrAt l W i := by
  unfold nbrAt
  exact nbr_fill (Nat.mod_lt _ (by omega)) (by rw [Nat.mul_comm]; exact Nat.div_add_mod i W) hi
theorem fill_smpT {d : Nat} {l : List Int} (hs : SmpOk d l) (i n : Nat) : SmpOk d (fillL (l.take i) n) := by
  intro s h
  unfold fillL at h
  rcases List.mem_append.1 h with h | h
  · exact hs s (List.mem_of_mem_take h)
  · rw [List.eq_of_mem_replicate h]; exact ⟨Int.le_refl _, two_pow_pos' d⟩
set_option maxRecDepth 100000 in
theorem unfolded_ok (g : Int) (f d : Nat) (w : World) (h0 : 1 ≤ d) (h1 : d ≤ 16) (hg0 : 0 ≤ g) (hg1 : g < 65536) (hf : f < 65536) :
    Calls Tryz.prog 127 #[.int .i64 g, .int .i64 f, .int .i64 d] w fun e w' => e = .returned (.int .i64 (wrapI (g + unfoldI f) d)) ∧ w = w' := by
  have hu := unfold_ok f w (by omega)
  have hw1 : IntKind.u64.wrap (f : Int) = (f : Int) := IntWalk.u64_in _ (by omega)
  have hub : -65536 ≤ unfoldI f ∧ unfoldI f ≤ 65536 := by unfold unfoldI; split <;> omega
  have hwp := wrap_ok (g + unfoldI f) d w h0 h1
  generalize unfoldI f = u at *
  go_enter Tryz.func127, Tryz.ntmps127
  go_wp2_with fail
  refine hu.mono ?_
  rintro e w' ⟨rfl, rfl⟩
  go_wp2_with fail
  refine hwp.mono ?_
  rintro e w' ⟨rfl, rfl⟩
  go_wp2
  go_ret
  exact ⟨rfl, rfl⟩
theorem u8_elT : Elem Tryz.prog 35 5 (.int .u8 0) 1 1 := .mk' Tryz.underlying35 (by kernel_rfl)
/-- Bytes filled from the start on. -/
def fillB (done : List Nat) (n : Nat) : List Nat := done ++ List.replicate (n - done.length) 0
theorem fillB_full {l : List Nat} {n : Nat} (h : l.length = n) : fillB l n = l := by simp [fillB, h]
theorem fillB_get {done : List Nat} {n : Nat} (h : done.length < n) : (fillB done n)[done.length]? = some 0 := by
  unfold fillB
  rw [List.getElem?_append_right (Nat.le_refl _), Nat.sub_self, List.getElem?_replicate, if_pos (by omega)]
theorem fillB_set {done : List Nat} {n : Nat} (h : done.length < n) (x : Nat) : (fillB done n).set done.length x = fillB (done ++ [x]) n := by
  unfold fillB
  obtain ⟨k, hk⟩ : ∃ k, n - done.length = k + 1 := ⟨n - done.length - 1, by omega⟩
  rw [hk, List.set_append_right _ _ (Nat.le_refl _), Nat.sub_self, List.replicate_succ, List.set_cons_zero, List.length_append, List.length_singleton, show n - (done.length + 1) = k by omega]
  simp
theorem fillB_len {done : List Nat} {n : Nat} (h : done.length ≤ n) : (fillB done n).length = n := by simp [fillB]; omega
theorem bytes_split (R : List Nat) {m : Nat} (hm : m < R.length) : (R.drop m).flatMap (fun x => bitsOf x 8) = bitsOf R[m] 8 ++ (R.drop (m + 1)).flatMap (fun x => bitsOf x 8) := by
  rw [List.drop_eq_getElem_cons hm, List.flatMap_cons]
set_option maxRecDepth 100000 in
set_option maxHeartbeats 4000000 in
theorem getRanged_ok (w : World) (b : Nat) (F ds : List Nat) (p : Nat) (l : List Int) (W H d : Nat) (h : IsRd w b F ds p) (hw0 : 1 ≤ W) (hw1 : W ≤ 16) (hh0 : 1 ≤ H) (hh1 : H ≤ 16) (h0 : 1 ≤ d) (h1 : d ≤ 16) (hl : l.length = W * H) (hs : SmpOk d l) (ha : Ahead ds p (rangedBits l W d)) :
    Calls Tryz.prog 81 #[.pointer (some ⟨b, 0, none⟩), .int .i64 W, .int .i64 H, .int .i64 d] w fun e w' => ∃ v g, e = .returned (.tuple #[v, .int .i64 0]) ∧ Row w' 3 v g (l.map vi) ∧ IsRd w' b F ds (p + (rangedBits l W d).length) ∧ Chg [b] w w' ∧ w.heap.size ≤ g := by
  have hrb : rangedBits l W d = bitsOf (rangedL l W d).length 16 ++ (rangedL l W d).flatMap fun x => bitsOf x 8 := rfl
  have hrl := rangedL_len l W h0 h1
  have hrt := rangedL_lt l W h0 h1
  have hrd : rangedL l W d = (codR l W d l.length).low := rfl
  rw [hrb] at ha ⊢
  rw [List.length_append, bitsOf_len]
  obtain ⟨R, hR⟩ : ∃ R, R = rangedL l W d := ⟨_, rfl⟩
  rw [← hR] at hrl hrt hrd ha ⊢
  obtain ⟨n, hn⟩ : ∃ n, n = l.length := ⟨_, rfl⟩
  have hn256 : n ≤ 256 := by rw [hn, hl]; exact Nat.mul_le_mul hw1 hh1
  have hnW : n ≤ 64 * W := by rw [hn, hl, Nat.mul_comm]; exact Nat.mul_le_mul_right W (by omega)
  have hnI : (W : Int) * (H : Int) = (n : Int) := by rw [hn, hl]; simp
  rw [← hn] at hrl hrd
  have hself : Fut R (codR l W d n) := by rw [hrd]; exact fut_self (codR_ok l W h0 h1 n).1
  have hfut := fun i (hi : i ≤ n) => fut_codR l W h0 h1 hrt (n - i) i (by rw [show i + (n - i) = n by omega]; exact hself)
  have hf0 : Fut R (newCod 429) := hfut 0 (Nat.zero_le _)
  have hR4 : 4 ≤ R.length := by rw [hrd]; exact (codR_ok l W h0 h1 n).1.len
  have hff := fut_first4 hf0
  have hdok := newDec_okT 429 hrt hR4 hf0
  have hcok := fun i => codR_ok l W h0 h1 i
  have hcfit := fun i => codR_fit l W h0 h1 i
  have hcl := fun i => clsN_le l W d i
  have hf16 := fun i => fold16 l W h0 h1 i
  have hflt := fun i => foldOf_lt l W h0 i
  have hfb := fun i => fold_back hs W i
  obtain ⟨r, hr⟩ : ∃ r, r = R.length := ⟨_, rfl⟩
  rw [← hr] at hrl hR4 ha
  have hr16 : r < 2 ^ 16 := by omega
  have hg1 := rget_ahead w b F ds p 16 r h (by omega) hr16 ha.left
  have ha2 := ha.right
  rw [bitsOf_len] at ha2
  have hmkb := run_make1 (P := Tryz.prog) u8_elT rfl .i64 .i64 r (by omega) (by omega)
  have hmk := run_make1 (P := Tryz.prog) int_elem rfl .i64 .i64 n (by omega) (by omega)
  have hw1' : IntKind.i64.wrap (r : Int) = (r : Int) := IntWalk.i64_in _ (by omega)
  have hbl := h.lt b h.mem
  have HN := hid hn
  have HR := hid hr
  have HRT := hid hrt
  have HRD := hid hrd
  have HA := hid ha2
  have HFUT := hid hfut
  have HFF := hid hff
  have HDOK := hid hdok
  have HCOK := hid hcok
  have HCF := hid hcfit
  have HCL := hid hcl
  have HF16 := hid hf16
  have HFLT := hid hflt
  have HFB := hid hfb
  have HS := hid hs
  have HLT := hid h.lt
  clear hn hr hrt hrd ha ha2 hfut hff hdok hcok hcfit hcl hf16 hflt hfb hs hrb hR hself hf0 hl h
  go_enter Tryz.func81, Tryz.ntmps81
  go_wp2_with fail
  refine hg1.mono ?_
  rintro e w1 ⟨rfl, hr1, ch1⟩
  obtain ⟨B, hB⟩ : ∃ B, B = w1.heap.size := ⟨_, rfl⟩
  have hwB : w.heap.size ≤ B := by rw [hB]; exact ch1.size
  have chA : Chg [] w1 (w1.alloc (.cells (List.replicate r (Value.int .u8 0)).toArray 5)) := (Chg.refl [] w1).alloc _
  have hrow0 : Row (w1.alloc (.cells (List.replicate r (Value.int .u8 0)).toArray 5)) 5 (.slice (some ⟨B, 0, none⟩) r r) B ((fillB [] r).map b8) := by
    have := Row.made w1 5 (List.replicate r (Value.int .u8 0)) (by simp [maxLen]; omega)
    rw [← hB, List.length_replicate] at this
    have e : (fillB [] r).map b8 = List.replicate r (Value.int .u8 0) := by simp [fillB, b8]
    rw [e]
    exact this
  have hr1' := hr1.same chA
  have HB := hid hB
  have ch1A := (ch1.trans chA (by simp))
  clear hg1 hB hr1 ch1 chA
  go_wp2_with fail
  rw [← HB.out]
  go_loopg [11, 27] r (fun j va iv wr => ∃ (i p' : Nat), iv = .int .i64 (i : Int) ∧ i + j = r ∧ Row wr 5 (.slice (some ⟨B, 0, none⟩) r r) B ((fillB (R.take i) r).map b8) ∧ IsRd wr b F ds p' ∧ Hid (Ahead ds p' ((R.drop i).flatMap fun x => bitsOf x 8)) ∧ Hid (p' + ((R.drop i).flatMap fun x => bitsOf x 8).length = p + (16 + (R.flatMap fun x => bitsOf x 8).length)) ∧ Hid (Chg [b] w wr))
  case atStart => exact ⟨0, p + 16, rfl, by omega, hrow0, hr1', HA, hid (by rw [List.drop_zero]; omega), hid ch1A⟩
  case round =>
    clear hrow0 hr1' ch1A
    obtain ⟨i, p', rfl, hij, hrow, hrd, Ha, Hp, HCH⟩ := hrel
    rcases gk with _ | j
    · obtain rfl : r = i := by omega
      have u1 : decide ((r : Int) < (r : Int)) = false := by simp
      have u1' : decide (r < r) = false := by simp
      have e1 : R.take r = R := by rw [HR.out, List.take_length]
      have e2 : R.drop r = [] := by rw [HR.out, List.drop_length]
      rw [e1, fillB_full HR.out.symm] at hrow
      have hp := Hp.out
      rw [e2] at hp
      have HP2 : Hid (p' = p + (16 + (R.flatMap fun x => bitsOf x 8).length)) := hid (by
        rw [show (([] : List Nat).flatMap fun x => bitsOf x 8) = [] from rfl, List.length_nil] at hp
        omega)
      obtain ⟨cap', heq, _, _, hcell, _⟩ := hrow.open_map
      have hnd := newDecoder_ok B r R 429 wr (by decide) (by decide) (by rw [← HR.out]; exact Nat.le_refl _) (by omega) hcell HRT.out (by rw [← HR.out]; exact hR4) (by rw [← HR.out]; omega) HFF.out
      rw [← HR.out, show ((429 : Nat) : Int) = 429 from rfl] at hnd
      clear e1 e2 hp heq hcell Ha Hp hrow
      go_wp2_with (go_at_call 75; refine (err_ok _ b F ds _ hrd).mono ?_; rintro e w' ⟨rfl, rfl⟩)
      refine hnd.mono ?_
      rintro e w3 ⟨db, dg, dh, rfl, hdec, ch3, hdb, hdg, hdh⟩
      have hrow0 := Row.zeros w3 n (by omega)
      obtain ⟨G, hG⟩ : ∃ G, G = w3.heap.size := ⟨_, rfl⟩
      have chB : Chg [] w3 (w3.alloc (.cells (List.replicate n (Value.int .i64 0)).toArray 3)) := (Chg.refl [] w3).alloc _
      have hdec4 := hdec.same chB
      have hrd4 := (hrd.same ch3).same chB
      have hch4 := (HCH.out.trans ch3 (by simp)).trans chB (by simp)
      rw [← hG] at hrow0
      have hbwr := hrd.lt b hrd.mem
      have hs3 := ch3.size
      have hltD := hdec.lt
      rw [← hG] at hltD
      have hwwr := HCH.out.size
      have hFw := hrd.lt
      have HFW := hid hFw
      have HG := hid hG
      clear hnd hrd hdec ch3 chB hG hFw
      go_wp2_with fail
      rw [← HG.out]
      go_loopg [16, 17, 18, 19, 20, 56] n (fun j va vb vc vd ve iv w5 => ∃ (i : Nat) (D : Dec), iv = .int .i64 (i : Int) ∧ i + j = n ∧ Row w5 3 (.slice (some ⟨G, 0, none⟩) n n) G ((fillL (l.take i) n).map vi) ∧ IsDec 186 w5 db dg dh D ∧ DecOk D ∧ Syn D (codR l W d i) ∧ D.data = R ∧ IsRd w5 b F ds p' ∧ Hid (Chg [b] w w5))
      case atStart => exact ⟨0, newDec R 429, rfl, by omega, by simpa using hrow0, hdec4, HDOK.out, syn_new _ _, rfl, hrd4, hid hch4⟩
      case round =>
        clear hrow0 hdec4 hrd4 hch4
        obtain ⟨i, D, rfl, hij, hrow, hdec, hdk, hsy, hdat, hrd, HCH5⟩ := hrel
        rcases gk with _ | j
        · obtain rfl : n = i := by omega
          have u2 : decide ((n : Int) < (n : Int)) = false := by simp
          have u2' : decide (n < n) = false := by simp
          have e : fillL (l.take n) n = l := by
            have := fill_all l
            rw [← HN.out] at this
            exact this
          rw [e] at hrow
          have hle := left_any wr db dg dh D hdec hdk.pos
          have hz : D.data.length - D.pos = 0 := by rw [hsy.pos, hdat, ← HRD.out]; omega
          rw [hz] at hle
          clear hdec hdk hsy hdat hz e
          go_wp2_with fail
          refine hle.mono ?_
          rintro e w' ⟨rfl, n6, rfl⟩
          go_wp2_with fail
          go_ret2
          exact ⟨_, G, rfl, hrow.drewN n6, (hrd.same ((Chg.refl [] _).drewN n6)).cast HP2.out, HCH5.out.drewN n6, by have := HG.out; omega⟩
        · have hin : i < n := by omega
          have u2 : decide ((i : Int) < (n : Int)) = true := decide_eq_true (by omega)
          have u2' : decide (i < n) = true := decide_eq_true hin
          have hil : i < l.length := by rw [← HN.out]; exact hin
          have hnf := nbr_fillAt (l := l) hw0 (i := i) (by omega)
          rw [← HN.out] at hnf
          have hlen : (fillL (l.take i) n).length = n := fillL_len (by rw [List.length_take]; omega)
          have hnr := tnear_ok (fillL (l.take i) n) (some ⟨G, 0, none⟩) n W d i wr h0 h1 hw0 (by omega) (by rw [hlen]; omega) (by omega) (fill_smpT HS.out i n) hrow.toOwn.cells (by rw [hlen]; omega)
          have hck := HCOK.out i
          have hcl := HCL.out i
          have hfb := HFB.out i
          have hf16 := HF16.out i
          have hflt := HFLT.out i
          have hnx : codR l W d (i + 1) = numL (codR l W d i) (33 * clsN l W d i) (foldOf l W d i) := rfl
          have hF1 := HFUT.out (i + 1) (by omega)
          rw [hnx] at hF1
          have hp2 : 2 ^ d ≤ 65536 := Nat.pow_le_pow_right (n := 2) (by decide) h1
          have hp2' := Nat.two_pow_pos d
          have hdnum := fun w' (hq : IsDec 186 w' db dg dh D) => dnum_syn w' db dg dh D (codR l W d i) (33 * clsN l W d i) (foldOf l W d i) (2 ^ d - 1) hq hdk hsy hck.1 (HCF.out i) (by rw [hck.2.1]; omega) (by omega) (by omega) (by rw [hdat]; exact hF1)
          unfold NumPost at hdnum
          rw [if_pos (by omega : foldOf l W d i ≤ 2 ^ d - 1)] at hdnum
          rw [hnf, hlen, ← clsN_cast] at hnr
          have hgr := guessI_ok (d := d) (g := nbrAt l W i) (nbr_ok HS.out W _ _) 7
          obtain ⟨gs, hgs⟩ : ∃ gs, gs = guessI 7 (nbrAt l W i) d := ⟨_, rfl⟩
          rw [← hgs] at hnr hgr hfb
          obtain ⟨f, hf⟩ : ∃ f, f = foldOf l W d i := ⟨_, rfl⟩
          rw [← hf] at hdnum hfb hf16 hflt hnx
          obtain ⟨cx, hcx⟩ : ∃ cx, cx = 33 * clsN l W d i := ⟨_, rfl⟩
          have ecx : (33 : Int) * ((clsN l W d i : Nat) : Int) = (cx : Int) := by rw [hcx]; simp
          rw [← hcx] at hdnum hnx
          have hcx5 : cx ≤ 500 := by omega
          obtain ⟨cl, hcle⟩ : ∃ cl, cl = clsN l W d i := ⟨_, rfl⟩
          rw [← hcle] at ecx hnr hcl
          obtain ⟨mo, hmo⟩ : ∃ mo, mo = 2 ^ d - 1 := ⟨_, rfl⟩
          rw [← hmo] at hdnum
          have hgs65 : gs < 65536 := by
            have e : ((2 ^ d : Nat) : Int) = (2 : Int) ^ d := by simp
            have := hgr.2
            omega
          have hun := fun w' => unfolded_ok gs f d w' h0 h1 hgr.1 hgs65 hf16
          rw [hfb] at hun
          have hfm : f ≤ mo := by omega
          have htk := take_snoc' l hil
          have hxg : l[i] = l.getD i 0 := by rw [List.getD_eq_getElem?_getD, List.getElem?_eq_getElem hil]; rfl
          rw [hxg] at htk
          generalize l.getD i 0 = xv at *
          have hdl : (l.take i).length = i := by rw [List.length_take]; omega
          have hpI : ((2 ^ d : Nat) : Int) = (2 : Int) ^ d := by simp
          have hsh : IntKind.u64.wrap ((2 : Int) ^ d) = (2 : Int) ^ d := IntWalk.u64_in _ (by omega)
          have hsb : IntKind.u64.wrap ((2 : Int) ^ d - 1) = (mo : Int) := by rw [IntWalk.u64_in _ (by omega)]; omega
          have hwf : IntKind.i64.wrap (f : Int) = (f : Int) := IntWalk.i64_in _ (by omega)
          have HTK := hid htk
          have HDL := hid hdl
          have HDN := hid hdnum
          have HUN := hid hun
          have HNX := hid hnx
          have HROW := hid hrow
          have HMO := hid hmo
          have HDAT := hid hdat
          clear hnf hlen hck hfb hF1 hdnum hgs hf hcx hcle hmo hun htk hxg hdl hnx hrow hdk hsy hdat hil hflt hgr
          go_wp2_with fail
          refine hnr.mono ?_
          rintro e w6 ⟨rfl, ch6⟩
          have hdec6 := hdec.same ch6
          have hrd6 := hrd.same ch6
          have hch6 := HCH5.out.trans ch6 (by simp)
          have hrow6 := HROW.out.chg ch6 (by simp)
          have hdn6 := HDN.out w6 hdec6
          clear hnr hdec hrd
          go_wp2_with fail
          refine hdn6.mono ?_
          rintro e w7 ⟨rfl, D', hdec7, hx7, hdat7, ch7⟩
          rw [if_pos hfm] at hx7
          obtain ⟨hdk7, hsy7⟩ := hx7
          have her := err_any w7 db dg dh D' hdec7
          rw [hsy7.err, show ((0 : Nat) : Int) = 0 from rfl] at her
          have hnew : ∀ z ∈ F, z ∉ [db, dh] := fun z hz hm => by have := HFW.out z hz; simp at hm; omega
          have hrd7 := hrd6.chg ch7 hnew
          have hch7 := hch6.trans ch7 (fun z hz => .inr (by simp at hz; omega))
          have hrow7 := hrow6.chg ch7 (by simp; omega)
          obtain ⟨hce, hfr⟩ := hrow7.fill_cell (by rw [HDL.out]; exact hin)
          have hfill := hrow7.fill (by rw [HDL.out]; exact hin) xv
          rw [HDL.out] at hce hfr hfill
          have HFI := hid hfill
          have HDK := hid hdk7
          have HSY := hid hsy7
          have hun7 := HUN.out w7
          clear hdn6 hdec6 hrd6 hch6 hrow6 hrow7 hfill hdk7 hsy7 hnew
          go_wp2_with (first | (go_at_call 126; refine her.mono ?_; rintro e w' ⟨rfl, rfl⟩) | (go_at_call 127; refine hun7.mono ?_; rintro e w' ⟨rfl, rfl⟩))
          go_roundg j
          case measure => omega
          case rel =>
            have hst : Chg [G] w' (w'.setCell ⟨G, i, none⟩ (.int .i64 xv)) := (Chg.refl _ _).setCell (.inl (by simp)) _
            refine ⟨i + 1, D', by go_num, by omega, ?_, hdec7.chg hst (by simp; omega) (by simp; omega) (by simp; omega), HDK.out, by rw [HNX.out]; exact HSY.out, hdat7.trans HDAT.out, hrd7.chg hst (fun z hz hm => by simp at hm; have := HFW.out z hz; omega), hid (hch7.trans hst (fun z hz => .inr (by simp at hz; omega)))⟩
            rw [HTK.out]
            exact HFI.out
    · have hin : i < r := by omega
      have u1 : decide ((i : Int) < (r : Int)) = true := decide_eq_true (by omega)
      have u1' : decide (i < r) = true := decide_eq_true hin
      have hml : i < R.length := by rw [← HR.out]; exact hin
      have hsp := bytes_split R hml
      have htk := take_snoc' R hml
      have hxl := HRT.out R[i] (List.getElem_mem _)
      obtain ⟨x, hx⟩ : ∃ x, x = R[i] := ⟨_, rfl⟩
      rw [← hx] at hsp htk hxl
      have ha1 := Ha.out
      rw [hsp] at ha1
      have hget := rget_ahead wr b F ds p' 8 x hrd (by omega) (by omega) ha1.left
      have HA2 := hid ha1.right
      have hdn : (R.take i).length = i := by rw [List.length_take]; omega
      have hwx : IntKind.u8.wrap (x : Int) = (x : Int) := by rw [IntKind.wrap_u8]; omega
      have HSP := hid hsp
      have HTK := hid htk
      have HDN := hid hdn
      have HROW := hid hrow
      clear hsp htk hx ha1 hml hdn hrd hrow
      go_wp2_with fail
      refine hget.mono ?_
      rintro e w2 ⟨rfl, hr2, ch2⟩
      have hrow2 := HROW.out.chg ch2 (by simp; omega)
      obtain ⟨cap', heq, _, _, hcell, hfro⟩ := hrow2.open_map
      have hce := hcell i 0 (by have := fillB_get (done := R.take i) (n := r) (by rw [HDN.out]; exact hin); rw [HDN.out] at this; exact this)
      have hce' : w2.cell? ⟨B, i, none⟩ = some (.int .u8 0) := hce
      have hfr := hfro i
      have hset := hrow2.set_ (i := i) (by rw [List.length_map, fillB_len (by rw [HDN.out]; omega)]; exact hin) (b8 x)
      rw [← List.map_set] at hset
      have hfs := fillB_set (done := R.take i) (n := r) (by rw [HDN.out]; exact hin) x
      rw [HDN.out, ← HTK.out] at hfs
      rw [hfs] at hset
      have hset' : Row (w2.setCell ⟨B, i, none⟩ (.int .u8 (x : Int))) _ _ _ _ := hset
      clear hget hrow2 heq hcell hfro hce hset hfs
      go_wp2_with fail
      go_roundg j
      case measure => omega
      case rel =>
        have hst : Chg [B] w2 (w2.setCell ⟨B, i, none⟩ (.int .u8 (x : Int))) := (Chg.refl _ _).setCell (.inl (by simp)) _
        refine ⟨i + 1, p' + 8, by go_num, by omega, hset', hr2.chg hst (fun z hz hm => by simp at hm; have := HLT.out z hz; omega), hid ?_, hid ?_, hid ((HCH.out.trans_same ch2).trans hst (fun z hz => .inr (by simp at hz; omega)))⟩
        · have := HA2.out
          rw [bitsOf_len] at this
          exact this
        · have := Hp.out
          rw [HSP.out, List.length_append, bitsOf_len] at this
          omega
end Go.Proofs.YtpkplhmdnjdmoaaGreatDoor
