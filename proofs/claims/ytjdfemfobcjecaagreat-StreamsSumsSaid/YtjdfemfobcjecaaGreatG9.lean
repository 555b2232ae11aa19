/-
  Contracts and plain laws that the proofs of this seat share, part 9 of 11: StV, StU, Mid, StT, StS.
-/
import Derived.Test.YtjdfemfobcjecaaGreatG8
import Derived.Test.YtjdfemfobcjecaaGreatG7
import Derived.StillTail

/-
  streams, plain: what a set is stays so when a stream is turned.
-/
namespace Go.Proofs.YtjdfemfobcjecaaGreat
open Go.RowKit
set_option linter.unusedVariables false
set_option linter.unusedSimpArgs false
theorem sum_put {f : St → Nat} {x x' : St} (hid : x'.id = x.id) : ∀ {l : List St}, (l.map St.id).Nodup → x ∈ l → ((l.map fun y => if y.id = x'.id then x' else y).map f).sum + f x = (l.map f).sum + f x'
  | [], _, hx => by cases hx
  | y :: l, hn, hx => by
    rw [List.map_cons, List.nodup_cons] at hn
    have hrest : ∀ l : List St, (∀ z ∈ l, z.id ≠ x.id) → (l.map fun y => if y.id = x'.id then x' else y) = l := by
      intro l hl
      conv => rhs; rw [← List.map_id l]
      apply List.map_congr_left
      intro z hz
      rw [if_neg (by rw [hid]; exact hl z hz)]; rfl
    rcases List.mem_cons.1 hx with rfl | hx
    · have h1 := hrest l (fun z hz e => hn.1 (List.mem_map.2 ⟨z, hz, e⟩))
      rw [List.map_cons, if_pos hid.symm, h1]
      simp only [List.map_cons, List.sum_cons]
      omega
    · have hne : y.id ≠ x.id := fun e => hn.1 (List.mem_map.2 ⟨x, hx, e.symm⟩)
      have ih := sum_put (f := f) hid hn.2 hx
      rw [List.map_cons, if_neg (by rw [hid]; exact hne)]
      simp only [List.map_cons, List.sum_cons]
      omega
theorem Ss.mem_put_of {s : Ss} {x x' y : St} (hid : x'.id = x.id) (hx : x ∈ s.l) (hy : y ∈ s.l) : ∃ z ∈ (s.put x').l, z.id = y.id := by
  by_cases e : y.id = x'.id
  · exact ⟨x', Ss.put_mem hx hid, e.symm⟩
  · refine ⟨y, ?_, rfl⟩
    show y ∈ s.l.map _
    exact List.mem_map.2 ⟨y, hy, by rw [if_neg e]⟩
theorem Ss.WF.put {s : Ss} (h : s.WF) {x x' : St} (hx : x ∈ s.l) (hid : x'.id = x.id) (hi : x'.inn.isSome = x.inn.isSome) (ho : x'.out.isSome = x.out.isSome)
    (hv : x'.first ≤ mvar ∧ x'.stop.code ≤ mvar ∧ x'.rst.code ≤ 18446744073709551615 ∧ x'.final ≤ 65536) (hr : x'.raise = true → x'.inn.isSome = true) {limit sent read : Nat} {raise : Bool}
    (hlim : limit ≤ mvar) (hcame : s.came + x'.top ≤ limit + x.top) (hsent : sent + x.sent = s.sent + x'.sent) (hsl : sent ≤ s.other.data) (hread : read + x.taken = s.read + x'.taken) :
    ({ s.put x' with limit := limit, raise := raise, sent := sent, read := read } : Ss).WF := by
  have hn := h.ids
  have hl : (s.put x').l = s.l.map fun y => if y.id = x'.id then x' else y := rfl
  have hlow := h.low
  have hxi := h.inn x hx
  have hxo := h.out x hx
  refine ⟨h.side, h.own, h.other, by show ((s.put x').l.map St.id).Nodup; rw [Ss.put_ids]; exact hn, fun y hy => ?_, fun k j hk hj => ?_, fun y hy => ?_, fun y hy => ?_, ?_, ?_, hlim, ?_, ?_, hsl, ?_, fun y hy => ?_, fun y hy hyr => ?_⟩
  · rcases Ss.mem_put hy with rfl | ⟨hy, _⟩
    · show y.id / 4 < s.op (y.id % 4)
      rw [hid]; exact h.low x hx
    · exact h.low y hy
  · obtain ⟨y, hy, e⟩ := h.have_ k j hk hj
    obtain ⟨z, hz, e2⟩ := Ss.mem_put_of hid hx hy
    exact ⟨z, hz, e2.trans e⟩
  · rcases Ss.mem_put hy with rfl | ⟨hy, _⟩
    · rw [hi, hid]; exact hxi
    · exact h.inn y hy
  · rcases Ss.mem_put hy with rfl | ⟨hy, _⟩
    · rw [ho, hid]; exact hxo
    · exact h.out y hy
  · show (s.put x').l.length ≤ 100
    rw [hl, List.length_map]; exact h.len
  · show (s.put x').l.length = _
    rw [hl, List.length_map]; exact h.cnt
  · have := sum_put (f := St.top) hid hn hx
    show ((s.put x').l.map St.top).sum ≤ limit
    unfold Ss.came at hcame
    rw [hl]
    omega
  · have := sum_put (f := St.sent) hid hn hx
    have h2 := h.sent
    show sent = ((s.put x').l.map St.sent).sum
    rw [hl]
    omega
  · have := sum_put (f := St.taken) hid hn hx
    have h2 := h.read
    show read = ((s.put x').l.map St.taken).sum
    rw [hl]
    omega
  · rcases Ss.mem_put hy with rfl | ⟨hy, _⟩
    · exact ⟨by rw [hid]; exact (h.vals x hx).1, hv⟩
    · exact h.vals y hy
  · rcases Ss.mem_put hy with rfl | ⟨hy, _⟩
    · exact hr hyr
    · exact h.rais y hy hyr
/-- a stream's cells alone turned -/
theorem Ss.WF.cells {s : Ss} (h : s.WF) {x x' : St} (hx : x ∈ s.l) (hid : x'.id = x.id) (hi : x'.inn = x.inn) (ho : x'.out = x.out)
    (hv : x'.first ≤ mvar ∧ x'.stop.code ≤ mvar ∧ x'.rst.code ≤ 18446744073709551615 ∧ x'.final ≤ 65536) (hr : x'.raise = true → x'.inn.isSome = true) : (s.put x').WF := by
  have h1 : x'.top = x.top := by unfold St.top; rw [hi]
  have h2 : x'.sent = x.sent := by unfold St.sent; rw [ho]
  have h3 : x'.taken = x.taken := by unfold St.taken; rw [hi]
  exact h.put (limit := s.limit) (sent := s.sent) (read := s.read) (raise := s.raise) hx hid (by rw [hi]) (by rw [ho]) hv hr h.lim (by rw [h1]; have := h.came; omega) (by rw [h2]) h.sentl (by rw [h3])
/-- a stream's outbox turned -/
theorem Ss.WF.outs {s : Ss} (h : s.WF) {x : St} (hx : x ∈ s.l) {b : Nat} {dv sv dv' sv' : Value} {o o' : Ob} (ho : x.out = some (b, dv, sv, o)) (hs : o'.sent = o.sent) : (s.put (x.withOut b dv' sv' o')).WF := by
  have h2 : (x.withOut b dv' sv' o').sent = x.sent := by unfold St.sent St.withOut; rw [ho]; exact hs
  have hv := h.vals x hx
  exact h.put (x' := x.withOut b dv' sv' o') (limit := s.limit) (sent := s.sent) (read := s.read) (raise := s.raise) hx rfl rfl (by rw [ho]; try rfl) hv.2 (fun e => h.rais x hx e) h.lim (by have := h.came; show s.came + x.top ≤ s.limit + x.top; omega) (by omega) h.sentl rfl
structure Ss.OK (K : Nat) (s : Ss) : Prop where
  wf : s.WF
  good : ∀ x ∈ s.l, ∀ b dv sv o, x.out = some (b, dv, sv, o) → o.Good
  supp : ∀ x ∈ s.l, x.supp ≤ K
theorem Ss.OK.of_put {K : Nat} {s : Ss} (h : s.OK K) {x x' : St} (hx : x ∈ s.l) {t : Ss} (hl : t.l = (s.put x').l) (hw : t.WF) (hg : ∀ b dv sv o, x'.out = some (b, dv, sv, o) → o.Good) (hs : x'.supp ≤ K) : t.OK K := by
  refine ⟨hw, fun y hy => ?_, fun y hy => ?_⟩
  · rw [hl] at hy
    rcases Ss.mem_put hy with rfl | ⟨hy, _⟩
    · exact hg
    · exact h.good y hy
  · rw [hl] at hy
    rcases Ss.mem_put hy with rfl | ⟨hy, _⟩
    · exact hs
    · exact h.supp y hy
theorem St.ctlSt_same (x : St) : x.ctlSt.id = x.id ∧ x.ctlSt.xb = x.xb ∧ x.ctlSt.inn = x.inn ∧ x.ctlSt.out = x.out ∧ x.ctlSt.first = x.first ∧ x.ctlSt.stop.code = x.stop.code ∧ x.ctlSt.rst.code = x.rst.code ∧ x.ctlSt.final = x.final ∧ (x.ctlSt.raise = true → False) := by
  unfold St.ctlSt
  split
  · exact ⟨rfl, rfl, rfl, rfl, rfl, rfl, rfl, rfl, by intro h; cases h⟩
  · split
    · exact ⟨rfl, rfl, rfl, rfl, rfl, rfl, rfl, rfl, by intro h; cases h⟩
    · exact ⟨rfl, rfl, rfl, rfl, rfl, rfl, rfl, rfl, by intro h; cases h⟩
theorem Ss.OK.ctl {K : Nat} {s : Ss} (h : s.OK K) {x : St} (hx : x ∈ s.l) : (s.put x.ctlSt).OK K := by
  obtain ⟨e1, _, e2, e3, e4, e5, e6, e7, e8⟩ := x.ctlSt_same
  have hv := (h.wf.vals x hx).2
  refine h.of_put hx rfl (h.wf.cells hx e1 e2 e3 ⟨by rw [e4]; exact hv.1, by rw [e5]; exact hv.2.1, by rw [e6]; exact hv.2.2.1, by rw [e7]; exact hv.2.2.2⟩ (fun e => (e8 e).elim)) (fun b dv sv o ho => ?_) ?_
  · rw [e3] at ho; exact h.good x hx b dv sv o ho
  · have := h.supp x hx
    unfold St.supp at this ⊢
    rw [e2]; exact this
/-- new bytes are within what may go -/
theorem Ob.Good.next_sent {o : Ob} (h : o.Good) (most : Int) : (o.next most).sent - o.sent ≤ if o.again then 0 else (max most 0).toNat := by
  have ha := h.at_ most
  have hf := h.first
  unfold Ob.next
  split
  · omega
  · next hr =>
    split
    · have hs : (o.takeEnd o.first.1 (o.much most)).sent = max o.sent (o.first.1 + o.much most) := by
        unfold Ob.takeEnd
        split <;> rfl
      rw [hs]
      split
      · next hag =>
        have h0 : 0 ≤ o.lostAt := by unfold Ob.again at hag; simp at hag; exact hag.2
        have h1 : o.first = (o.lostAt.toNat, runAt o.st o.lostAt.toNat o.data.length 2) := by unfold Ob.first; rw [if_pos h0]
        obtain ⟨i, hi⟩ := Int.eq_ofNat_of_zero_le h0
        obtain ⟨h3, h4⟩ := lostAt_lt hi
        have h5 := h.un i 2 h3 h4
        have h6 : o.first.1 = i := by rw [h1, hi]; rfl
        have h7 : ¬ o.sent ≤ i := fun hle => by have := h5.2 hle; cases this
        rcases ha.2 with h8 | ⟨h8, _⟩
        · omega
        · omega
      · unfold Ob.much at ha ⊢
        have hfs : o.first.1 ≤ o.sent := by
          rcases hf with hf | hf
          · omega
          · omega
        omega
    · omega
theorem Ss.OK.piece {K : Nat} {s s' : Ss} (h : s.OK K) {x : St} (hx : x ∈ s.l) {most : Int} {f : Fr} {is : Bool} (hp : s.Pieces x most f is s') : s'.OK K := by
  cases hp with
  | none => exact h
  | goes b dv sv dv' sv' o ho =>
    have hg := h.good x hx b dv sv o ho
    have hle := o.next_sent_le (s.much o most)
    have hns := hg.next_sent (s.much o most)
    have hv := h.wf.vals x hx
    have hsl := h.wf.sentl
    have hxs : x.sent = o.sent := by unfold St.sent; rw [ho]
    refine h.of_put hx (x' := x.withOut b dv' sv' (o.next (s.much o most))) rfl ?_ (fun b2 dv2 sv2 o2 e => ?_) (h.supp x hx)
    · refine h.wf.put (x' := x.withOut b dv' sv' (o.next (s.much o most))) (limit := s.limit) (read := s.read) (raise := s.raise) (sent := s.sent + ((o.next (s.much o most)).sent - o.sent)) hx rfl rfl (by rw [ho]; try rfl) hv.2 (fun e => h.wf.rais x hx e) h.wf.lim (by have := h.wf.came; show s.came + x.top ≤ s.limit + x.top; omega) ?_ ?_ rfl
      · show s.sent + ((o.next (s.much o most)).sent - o.sent) + x.sent = s.sent + (o.next (s.much o most)).sent
        rw [hxs]; omega
      · have hq : o.again = false → (max (s.much o most) 0).toNat ≤ s.other.data - s.sent := by
          intro ha
          unfold Ss.much
          rw [ha]
          simp only [Bool.false_eq_true, if_false]
          omega
        split at hns
        · omega
        · next ha =>
          have := hq (by simpa using ha)
          omega
    · cases e; exact hg.next _
end Go.Proofs.YtjdfemfobcjecaaGreat

/-
  streams: Next.
-/
namespace Go.Proofs.YtjdfemfobcjecaaGreat
open Go.RowKit Go.Sort
set_option linter.unusedVariables false
set_option linter.unusedSimpArgs false
/-- what goes next of the streams of some ids, in that order -/
inductive Ss.Nexts (most : Int) : Ss → List Int → Fr → Bool → Ss → Prop
  | none (s : Ss) : Ss.Nexts most s [] fr0 false s
  | ctl {s : Ss} (x : St) (ids : List Int) (hx : x ∈ s.l) (h : x.ctlIs = true) : Ss.Nexts most s ((x.id : Int) :: ids) x.ctlFr true (s.put x.ctlSt)
  | piece {s s' : Ss} (x : St) (ids : List Int) {f : Fr} (hx : x ∈ s.l) (h : x.ctlIs = false) (hp : (s.put x.ctlSt).Pieces x.ctlSt most f true s') : Ss.Nexts most s ((x.id : Int) :: ids) f true s'
  | more {s s1 s' : Ss} (x : St) {ids : List Int} {f0 f : Fr} {is : Bool} (hx : x ∈ s.l) (h : x.ctlIs = false) (hp : (s.put x.ctlSt).Pieces x.ctlSt most f0 false s1) (hn : Ss.Nexts most s1 ids f is s') : Ss.Nexts most s ((x.id : Int) :: ids) f is s'
/-- what Next does -/
inductive Ss.NextOf (s : Ss) (most : Int) : Fr → Bool → Ss → Prop
  | data (h : s.raise = true) : s.NextOf most (fnum 16 s.limit 0 0) true { s with raise := false }
  | ids (h : s.raise = false) (ss : List Int) (hu : s.Up ss) {f : Fr} {is : Bool} {s' : Ss} (hn : Ss.Nexts most s ss f is s') : s.NextOf most f is s'
theorem Ss.Pieces.ids {s s' : Ss} {x : St} (hx : x ∈ s.l) {most : Int} {f : Fr} {is : Bool} (h : s.Pieces x most f is s') : s'.l.map St.id = s.l.map St.id ∧ s'.mb = s.mb := by
  cases h with
  | none => exact ⟨rfl, rfl⟩
  | goes b dv sv dv' sv' o ho => exact ⟨Ss.put_ids s _, rfl⟩
set_option maxRecDepth 100000 in
set_option maxHeartbeats 8000000 in
theorem stnext_any (K : Nat) (w : World) (sb : Nat) (s : Ss) (h : SBox w sb s) (hk : s.OK K) (most : Int) (hm1 : -9223372036854775808 ≤ most) (hm2 : most ≤ 9223372036854775807) :
    Calls Tryz.prog 14 #[.pointer (some ⟨sb, 0, none⟩), .int .i64 most] w fun e w' => ∃ f is s', e = .returned (.tuple #[fval none 0 0 f, .bool is]) ∧ s.NextOf most f is s' ∧ SStep w sb s s' w' := by
  have HB := hide h
  have HK := hide hk
  have hsl : sb < w.heap.size := h.blk.lt
  cases hra : s.raise with
  | true =>
    have HRa := hide hra
    have HSb := hide h.blk
    have v19 : w.cell? ⟨sb, 19, none⟩ = some (.bool true) := by rw [← hra]; exact h.blk.cell 19
    have g19 : w.frozen? ⟨sb, 19, none⟩ = false := h.blk.frozen 19
    have v18 : w.cell? ⟨sb, 18, none⟩ = some (.int .u64 (s.limit : Int)) := h.blk.cell 18
    clear h hk hra
    go_enter Tryz.func14, Tryz.ntmps14
    go_wp2_with fail
    have hm : Mod [sb] w (w.setCell ⟨sb, 19, none⟩ (.bool false)) := (Mod.refl [sb] w).setCell (p := ⟨sb, 19, none⟩) (.inl (by simp)) _
    have hr := HB.out.rootStep (s' := { s with raise := false }) hm (HSb.out.set_ 19 (.bool false)) rfl rfl
    refine bodyPost_ret (results_cell_tmp_row rfl _ _ w.heap.size 31 (fcs none 0 0 (fnum 16 s.limit 0 0)) _ rfl ?_ Tryz.underlying31 rfl (by kernel_rfl)) rfl ?_
    · have hb := Blk.new (w.setCell ⟨sb, 19, none⟩ (.bool false)) 31 (fcs none 0 0 (fnum 16 s.limit 0 0))
      rw [World.size_setCell] at hb
      exact hb
    · exact ⟨_, _, _, rfl, .data HRa.out, hr.trans (SStep.refl hr.1 ((Mod.refl [] _).alloc _))⟩
  | false =>
    have HRa := hide hra
    have v19 : w.cell? ⟨sb, 19, none⟩ = some (.bool false) := by rw [← hra]; exact h.blk.cell 19
    have hM0 : Mod [] w (w.alloc (.cells (fcs none 0 0 fr0) 31)) := (Mod.refl [] w).alloc _
    have HM0 := hide hM0
    have HId := hide (stids_any (w.alloc (.cells (fcs none 0 0 fr0) 31)) sb s (h.new hM0) hk.wf)
    have HFt := hide h.foot_lt
    have HA := hide (Blk.new w 31 (fcs none 0 0 fr0))
    clear h hk hra hM0
    go_enter Tryz.func14, Tryz.ntmps14
    go_wp2_with fail
    refine HId.out.mono ?_
    rintro e w1 ⟨v, ss, rfl, hup, hrow, hm1'⟩
    obtain ⟨Ad, cap, rfl, hn1, hn2, hn3, hat⟩ := urow_form hrow
    have HUp := hide hup
    have hln : ss.length ≤ 100 := by rw [hup.2.1]; exact HK.out.wf.len
    have HS0 : Hid (SStep (w.alloc (.cells (fcs none 0 0 fr0) 31)) sb s s w1) := hide (SStep.refl (HB.out.new HM0.out) hm1')
    have HBw1 := hide (HB.out.new (HM0.out.trans hm1' (by simp)))
    have HA1 : Hid (Blk w1 w.heap.size 31 (fcs none 0 0 fr0)) := hide (hm1'.blk HA.out (by simp))
    have HAt := hide hat
    have hz1 : w.heap.size + 1 ≤ w1.heap.size := by have := hm1'.size; rw [World.size_alloc] at this; exact this
    have HZ1 := hide hz1
    clear hup hrow hm1' hn3 hat hz1
    go_wp2_with fail
    go_loopw [28] (fun i wr => ∃ (k : Nat) (sk : Ss), i = .int .i64 (k : Int) ∧ k ≤ ss.length ∧ (∀ f is s', Ss.Nexts most sk (ss.drop k) f is s' → Ss.Nexts most s ss f is s') ∧ sk.OK K ∧ sk.l.map St.id = s.l.map St.id ∧ sk.mb = s.mb ∧ SStep w1 sb s sk wr) (fun i _ => ss.length - (intOf i).toNat)
    case atStart => exact ⟨0, s, rfl, Nat.zero_le _, fun f is s' hh => by simpa using hh, HK.out, rfl, rfl, SStep.refl HBw1.out (Mod.refl [] _)⟩
    case round =>
      obtain ⟨k, sk, rfl, hk, hco, hok, hids, hmb, hst⟩ := hrel
      have hfr : Blk wr w.heap.size 31 (fcs none 0 0 fr0) := hst.2.1.blk HA1.out (fun hm => by have := HFt.out _ hm; omega)
      have HCo := hide hco
      have HOk := hide hok
      have HIds := hide hids
      have HMb := hide hmb
      have HSt := hide hst
      have HFr := hide hfr
      have hrl := hfr.lt
      by_cases hlt : k < ss.length
      · obtain ⟨g, rfl, hg1, hg2, hcell⟩ := HAt.out k hlt
        have hgw : w.heap.size + 1 ≤ g := by have := hg1; rw [World.size_alloc] at this; exact this
        have hcell2 : wr.cell? ⟨g, k, none⟩ = some (.int .u64 ss[k]) := by
          rw [hst.2.1.cell (p := ⟨g, k, none⟩) hg2 (fun hm => by have h9 : g < w.heap.size := HFt.out _ hm; omega)]; exact hcell
        have hmem : ss[k] ∈ ss := List.getElem_mem _
        obtain ⟨y, hy, hyid⟩ := (HUp.out.2.2 _).1 hmem
        have : y.id ∈ sk.l.map St.id := by rw [hids]; exact List.mem_map.2 ⟨y, hy, rfl⟩
        obtain ⟨x, hx, hxid⟩ := List.mem_map.1 this
        have hxk : ss[k] = (x.id : Int) := by rw [← hyid, hxid]
        have hdrop : ss.drop k = (x.id : Int) :: ss.drop (k + 1) := by rw [List.drop_eq_getElem_cons hlt, hxk]
        rw [hxk] at hcell2
        have hlk := hst.1.map.lookup (P := Tryz.prog) (T := 66) Tryz.underlying66 Tryz.underlying22 (z := .pointer none) (by kernel_rfl) (x.id : Int)
        rw [Ss.look_of hok.wf.ids hx] at hlk
        simp only [Option.getD_some] at hlk
        have v13 : wr.cell? ⟨sb, 13, none⟩ = some (.map (some sk.mb)) := hst.1.blk.cell 13
        have HDr := hide hdrop
        have HX := hide hx
        have HCt := hide (stcontrol_any wr sb sk hst.1 hok.wf.ids x hx (hok.wf.rais x hx))
        have k0 : (0 : Int) ≤ (k : Int) := by omega
        have hlen1 : (k : Int) < (ss.length : Int) := by omega
        have hok2 := hok.ctl hx
        have hx2 : x.ctlSt ∈ (sk.put x.ctlSt).l := Ss.put_mem hx x.ctlSt_same.1
        have hids2 : (sk.put x.ctlSt).l.map St.id = s.l.map St.id := (Ss.put_ids sk x.ctlSt).trans hids
        have hxb2 : x.ctlSt.xb = x.xb := x.ctlSt_same.2.1
        have HOk2 := hide hok2
        have HX2 := hide hx2
        have HIds2 := hide hids2
        have HPi := hide (fun W (hb : SBox W sb (sk.put x.ctlSt)) => stpiece_any W sb (sk.put x.ctlSt) hb hok2.wf x.ctlSt hx2 most hm1 hm2)
        rw [hxb2] at HPi
        clear hco hok hids hmb hst hfr hg1 hg2 hcell hgw hmem hy hyid this hx hxid hxk hdrop hlt hok2 hx2 hids2 hxb2
        go_wp2_with fail
        refine HCt.out.mono ?_
        rintro e w2 ⟨rfl, hst2⟩
        have hs2 := HSt.out.trans hst2
        have hfr2 : Blk w2 w.heap.size 31 (fcs none 0 0 fr0) := hs2.2.1.blk HA1.out (fun hm => by have := HFt.out _ hm; omega)
        have HS2 := hide hs2
        have HFr2 := hide hfr2
        have hl2 := hfr2.lt
        have f0 : w2.frozen? ⟨w.heap.size, 0, none⟩ = false := hfr2.frozen 0
        have f1 : w2.frozen? ⟨w.heap.size, 1, none⟩ = false := hfr2.frozen 1
        have f2 : w2.frozen? ⟨w.heap.size, 2, none⟩ = false := hfr2.frozen 2
        have f3 : w2.frozen? ⟨w.heap.size, 3, none⟩ = false := hfr2.frozen 3
        have f4 : w2.frozen? ⟨w.heap.size, 4, none⟩ = false := hfr2.frozen 4
        have f5 : w2.frozen? ⟨w.heap.size, 5, none⟩ = false := hfr2.frozen 5
        have f6 : w2.frozen? ⟨w.heap.size, 6, none⟩ = false := hfr2.frozen 6
        have f7 : w2.frozen? ⟨w.heap.size, 7, none⟩ = false := hfr2.frozen 7
        have c0 : w2.cell? ⟨w.heap.size, 0, none⟩ = some (.int .u64 0) := hfr2.cell 0
        have c1 : w2.cell? ⟨w.heap.size, 1, none⟩ = some (.int .u64 0) := hfr2.cell 1
        have c2 : w2.cell? ⟨w.heap.size, 2, none⟩ = some (.int .u64 0) := hfr2.cell 2
        have c3 : w2.cell? ⟨w.heap.size, 3, none⟩ = some (.int .u64 0) := hfr2.cell 3
        have c4 : w2.cell? ⟨w.heap.size, 4, none⟩ = some (.bool false) := hfr2.cell 4
        have c5 : w2.cell? ⟨w.heap.size, 5, none⟩ = some (.string ⟨#[]⟩) := hfr2.cell 5
        have c6 : w2.cell? ⟨w.heap.size, 6, none⟩ = some (.string ⟨#[]⟩) := hfr2.cell 6
        have c7 : w2.cell? ⟨w.heap.size, 7, none⟩ = some (.slice none 0 0) := hfr2.cell 7
        clear hst2 hs2 hfr2 v13 hlk hcell2
        cases hci : x.ctlIs with
        | true =>
          have HCi := hide hci
          unfold fval fcs
          clear hci
          go_wp2_with fail
          refine bodyPost_ret (results_cell_tmp_row rfl _ _ w.heap.size 31 (fcs none 0 0 x.ctlFr) _ rfl ?_ Tryz.underlying31 rfl (by kernel_rfl)) rfl ?_
          · exact (put8_blk HFr2.out rfl _ _ _ _ _ _ _ _).alloc _
          · refine ⟨x.ctlFr, true, sk.put x.ctlSt, rfl, .ids HRa.out ss HUp.out (HCo.out _ _ _ (by rw [HDr.out]; exact .ctl x _ HX.out HCi.out)), ?_⟩
            exact SStep.beside HB.out (HS0.out.trans HS2.out) ((put8_mod (Mod.refl _ w2) (.inl (by simp)) _ _ _ _ _ _ _ _).alloc _)
        | false =>
          have HCi := hide hci
          unfold fval fcs
          clear hci
          clear f0 c0 f1 c1 f2 c2 f3 c3 f4 c4 f5 c5 f6 c6 f7 c7
          go_wp2_with fail
          refine (HPi.out _ (HS2.out.1.new ((Mod.refl [] w2).alloc _))).mono ?_
          rintro e w3 ⟨fq, is3, s3, rfl, hp3, hst3⟩
          have hs3 := HS2.out.trans ((SStep.refl HS2.out.1 ((Mod.refl [] w2).alloc _)).trans hst3)
          have hfr3 : Blk w3 w.heap.size 31 (fcs none 0 0 fr0) := hs3.2.1.blk HA1.out (fun hm => by have := HFt.out _ hm; omega)
          have HS3 := hide hs3
          have HFr3 := hide hfr3
          have HP3 := hide hp3
          have hl3 := hfr3.lt
          have f0 : w3.frozen? ⟨w.heap.size, 0, none⟩ = false := hfr3.frozen 0
          have f1 : w3.frozen? ⟨w.heap.size, 1, none⟩ = false := hfr3.frozen 1
          have f2 : w3.frozen? ⟨w.heap.size, 2, none⟩ = false := hfr3.frozen 2
          have f3 : w3.frozen? ⟨w.heap.size, 3, none⟩ = false := hfr3.frozen 3
          have f4 : w3.frozen? ⟨w.heap.size, 4, none⟩ = false := hfr3.frozen 4
          have f5 : w3.frozen? ⟨w.heap.size, 5, none⟩ = false := hfr3.frozen 5
          have f6 : w3.frozen? ⟨w.heap.size, 6, none⟩ = false := hfr3.frozen 6
          have f7 : w3.frozen? ⟨w.heap.size, 7, none⟩ = false := hfr3.frozen 7
          have c0 : w3.cell? ⟨w.heap.size, 0, none⟩ = some (.int .u64 0) := hfr3.cell 0
          have c1 : w3.cell? ⟨w.heap.size, 1, none⟩ = some (.int .u64 0) := hfr3.cell 1
          have c2 : w3.cell? ⟨w.heap.size, 2, none⟩ = some (.int .u64 0) := hfr3.cell 2
          have c3 : w3.cell? ⟨w.heap.size, 3, none⟩ = some (.int .u64 0) := hfr3.cell 3
          have c4 : w3.cell? ⟨w.heap.size, 4, none⟩ = some (.bool false) := hfr3.cell 4
          have c5 : w3.cell? ⟨w.heap.size, 5, none⟩ = some (.string ⟨#[]⟩) := hfr3.cell 5
          have c6 : w3.cell? ⟨w.heap.size, 6, none⟩ = some (.string ⟨#[]⟩) := hfr3.cell 6
          have c7 : w3.cell? ⟨w.heap.size, 7, none⟩ = some (.slice none 0 0) := hfr3.cell 7
          clear hst3 hs3 hfr3 hp3
          cases is3 with
          | true =>
            unfold fval fcs
            go_wp2_with fail
            refine bodyPost_ret (results_cell_tmp_row rfl _ _ w.heap.size 31 (fcs none 0 0 fq) _ rfl ?_ Tryz.underlying31 rfl (by kernel_rfl)) rfl ?_
            · exact (put8_blk HFr3.out rfl _ _ _ _ _ _ _ _).alloc _
            · refine ⟨fq, true, s3, rfl, .ids HRa.out ss HUp.out (HCo.out _ _ _ (by rw [HDr.out]; exact .piece x _ HX.out HCi.out HP3.out)), ?_⟩
              exact SStep.beside HB.out (HS0.out.trans HS3.out) ((put8_mod (Mod.refl _ w3) (.inl (by simp)) _ _ _ _ _ _ _ _).alloc _)
          | false =>
            unfold fval fcs
            clear f0 c0 f1 c1 f2 c2 f3 c3 f4 c4 f5 c5 f6 c6 f7 c7
            go_wp2_with fail
            go_roundw
            case rel =>
              refine ⟨k + 1, s3, by go_num, by omega, fun f is s' hh => HCo.out _ _ _ (by rw [HDr.out]; exact .more x HX.out HCi.out HP3.out hh), HOk2.out.piece HX2.out HP3.out, (HP3.out.ids HX2.out).1.trans HIds2.out, (HP3.out.ids HX2.out).2.trans HMb.out, ?_⟩
              exact HS3.out.trans (SStep.refl HS3.out.1 ((Mod.refl [] w3).alloc _))
            case measure => simp [intOf]; omega
      · have hdrop : ss.drop k = [] := List.drop_eq_nil_of_le (by omega)
        have HDr := hide hdrop
        have f0 : wr.frozen? ⟨w.heap.size, 0, none⟩ = false := hfr.frozen 0
        have f1 : wr.frozen? ⟨w.heap.size, 1, none⟩ = false := hfr.frozen 1
        have f2 : wr.frozen? ⟨w.heap.size, 2, none⟩ = false := hfr.frozen 2
        have f3 : wr.frozen? ⟨w.heap.size, 3, none⟩ = false := hfr.frozen 3
        have f4 : wr.frozen? ⟨w.heap.size, 4, none⟩ = false := hfr.frozen 4
        have f5 : wr.frozen? ⟨w.heap.size, 5, none⟩ = false := hfr.frozen 5
        have f6 : wr.frozen? ⟨w.heap.size, 6, none⟩ = false := hfr.frozen 6
        have f7 : wr.frozen? ⟨w.heap.size, 7, none⟩ = false := hfr.frozen 7
        have c0 : wr.cell? ⟨w.heap.size, 0, none⟩ = some (.int .u64 0) := hfr.cell 0
        have c1 : wr.cell? ⟨w.heap.size, 1, none⟩ = some (.int .u64 0) := hfr.cell 1
        have c2 : wr.cell? ⟨w.heap.size, 2, none⟩ = some (.int .u64 0) := hfr.cell 2
        have c3 : wr.cell? ⟨w.heap.size, 3, none⟩ = some (.int .u64 0) := hfr.cell 3
        have c4 : wr.cell? ⟨w.heap.size, 4, none⟩ = some (.bool false) := hfr.cell 4
        have c5 : wr.cell? ⟨w.heap.size, 5, none⟩ = some (.string ⟨#[]⟩) := hfr.cell 5
        have c6 : wr.cell? ⟨w.heap.size, 6, none⟩ = some (.string ⟨#[]⟩) := hfr.cell 6
        have c7 : wr.cell? ⟨w.heap.size, 7, none⟩ = some (.slice none 0 0) := hfr.cell 7
        clear hco hok hids hmb hst hfr hdrop
        go_wp2_with fail
        refine bodyPost_ret (results_cell_tmp_row rfl _ _ w.heap.size 31 (fcs none 0 0 fr0) _ rfl ?_ Tryz.underlying31 rfl (by kernel_rfl)) rfl ?_
        · exact put8_blk HFr.out rfl _ _ _ _ _ _ _ _
        · refine ⟨fr0, false, sk, rfl, .ids HRa.out ss HUp.out (HCo.out _ _ _ (by rw [HDr.out]; exact .none sk)), ?_⟩
          exact SStep.beside HB.out (HS0.out.trans HSt.out) (put8_mod (Mod.refl _ wr) (.inl (by simp)) _ _ _ _ _ _ _ _)
end Go.Proofs.YtjdfemfobcjecaaGreat

/-
  A drawn region: loads and calls that turn nothing, then one operation of any kind, then moves: walked once, in the text's order.
-/
namespace Go.Proofs.YtjdfemfobcjecaaGreat
open Go.Sort Go.RowKit
section
variable {P : Program} {ops : Array Oper} {md : Region.Mode} {C : World → Prop}
/-- each operation behind number n waits for one from n on -/
def behindB (md : Region.Mode) (ops : Array Oper) (n : Nat) : Bool :=
  (List.range ops.size).all fun t => decide (t ≤ n) || (List.range t).any fun j => decide (n ≤ j) && Region.waitsFor md ops t j
def headM (md : Region.Mode) (ops : Array Oper) (g : Nat) : Nat → Nat → Array Bool → Bool
  | 0, k, listed => decide (Region.ready md ops listed = [k]) && Region.lexFrom md ops g (k + 1) (listed.setIfInBounds k true)
  | f + 1, k, listed => (Region.ready md ops listed).contains k && Region.free md ops listed k && headM md ops g f (k + 1) (listed.setIfInBounds k true)
def midB (md : Region.Mode) (ops : Array Oper) (n : Nat) : Bool :=
  Region.noSelect ops && decide (n < ops.size) && Region.sinkB md ops n && behindB md ops n && headM md ops (ops.size - n - 1) n 0 (Array.replicate ops.size false)
theorem tail_later {n : Nat} {listed : Array Bool} (hs : Region.sinkB md ops n = true) (hc : behindB md ops n = true) (hn : n < ops.size) (inv : HeadInv md ops n listed) :
    ∀ (d i : Nat), n - i = d → i < n → listed.getD i true = false → ∀ t, n ≤ t → t ∉ Region.ready md ops listed := by
  intro d
  induction d using Nat.strongRecOn with
  | _ d ih =>
    intro i hd hi hun t ht hr
    obtain ⟨_, ot, hot, hall⟩ := mem_ready.1 hr
    have htlt : t < ops.size := (Array.getElem?_eq_some_iff.1 hot).1
    by_cases htn : t = n
    · subst htn
      have h1 := List.all_eq_true.1 hs i (List.mem_range.2 hi)
      obtain ⟨j, hj, hj2⟩ := List.any_eq_true.1 h1
      simp only [Bool.and_eq_true, decide_eq_true_eq] at hj2
      obtain ⟨oj, hoj, e, he, hb, hon⟩ := Region.waitsFor_spec hj2.2
      have hjle : j ≤ t := by have := List.mem_range.1 hj; omega
      by_cases hjt : j = t
      · subst hjt
        have : oj = ot := Option.some.inj (hoj.symm.trans hot)
        subst this
        have h2 := hall e he hb
        rw [hon, getD_both hun] at h2
        cases h2
      · cases hl : listed.getD j false with
        | true =>
          have h2 := inv.closed j oj hoj hl e he hb
          rw [hon, getD_both hun] at h2
          cases h2
        | false =>
          have hjs : j < listed.size := by rw [inv.size]; omega
          exact ih (t - j) (by omega) j rfl (by omega) (getD_in hjs hl) t (Nat.le_refl _) hr
    · have h1 := List.all_eq_true.1 hc t (List.mem_range.2 htlt)
      simp only [Bool.or_eq_true, decide_eq_true_eq] at h1
      rcases h1 with h1 | h1
      · omega
      · obtain ⟨j, hj, hj2⟩ := List.any_eq_true.1 h1
        simp only [Bool.and_eq_true, decide_eq_true_eq] at hj2
        obtain ⟨o', ho', e, he, hb, hon⟩ := Region.waitsFor_spec hj2.2
        have : o' = ot := Option.some.inj (ho'.symm.trans hot)
        subst this
        have h2 := hall e he hb
        rw [hon, getD_both (inv.tail j hj2.1 (by have := List.mem_range.1 hj; omega))] at h2
        cases h2
def wpAnyM (P : Program) (md : Region.Mode) (ops : Array Oper) (C : World → Prop) (n : Nat) (L : Array Bool → Act → Prop) : Nat → Array Bool → Act → Prop
  | 0, listed, a => L listed a
  | f + 1, listed, a =>
    Region.ready md ops listed ≠ [] ∧ ∀ i ∈ Region.ready md ops listed, i < n ∧ qOp P ops C i (wpAnyM P md ops C n L f (listed.setIfInBounds i true)) a
theorem wpAny_of_headM {n g : Nat} {L : Array Bool → Act → Prop} {Q' : Exit → Act → World → Prop} (hL : ∀ listed a w, C w → L listed a → wpAny P md ops Q' g listed a w) :
    ∀ (f : Nat) (listed : Array Bool) (a : Act) (w : World), C w → wpAnyM P md ops C n L f listed a → wpAny P md ops Q' (f + g) listed a w
  | 0, listed, a, w, hw, h => by rw [Nat.zero_add]; exact hL _ _ _ hw h
  | f + 1, listed, a, w, hw, h => by
    rw [show f + 1 + g = (f + g) + 1 by omega]
    exact ⟨fun h0 => absurd h0 h.1, fun i hi => wpOp_of_qOp hw (fun a' w' hw' h' => wpAny_of_headM hL f _ a' w' hw' h') (h.2 i hi).2⟩
theorem wpAnyM_first {n i : Nat} {oi : Oper} {v : Value} {L : Array Bool → Act → Prop} (hi : ops[i]? = some oi) (hsel : ∀ (j : Nat) (o : Oper) cs b, ops[j]? = some o → o.op ≠ .select cs b)
    (hs : Region.sinkB md ops n = true) (hc : behindB md ops n = true) (hn : n < ops.size) (hin : i < n)
    (hdone : ∀ listed a, L listed a → ∀ j ∈ Region.ready md ops listed, n ≤ j) :
    ∀ (f : Nat) (listed : Array Bool) (a : Act), HeadInv md ops n listed →
      (∀ j oj, ops[j]? = some oj → j ≠ i → listed.getD j true = false → (∀ e ∈ oj.after, Region.binds md e = true → e.on ≠ i) → oi.apart ops oj = true) →
      i ∈ Region.ready md ops listed → YieldsIn P ops C oi v a →
      wpAnyM P md ops C n L f (listed.setIfInBounds i true) (a.put oi.dst v) → wpAnyM P md ops C n L (f + 1) listed a := by
  intro f
  induction f with
  | zero =>
    intro listed a inv _ hr hy H
    have hun := (mem_ready.1 hr).1
    refine ⟨fun h => (by rw [h] at hr; cases hr), fun j hj => ?_⟩
    have hjn : j < n := by
      rcases Nat.lt_or_ge j n with h | h
      · exact h
      · exact absurd hj (tail_later hs hc hn inv _ i rfl hin hun j h)
    refine ⟨hjn, ?_⟩
    by_cases hji : j = i
    · subst hji; exact hy.qOp hi H
    · have := hdone _ _ H j (ready_mono hj hji)
      omega
  | succ f ih =>
    intro listed a inv hfree hr hy H
    have hun := (mem_ready.1 hr).1
    refine ⟨fun h => (by rw [h] at hr; cases hr), fun j hj => ?_⟩
    have hjn : j < n := by
      rcases Nat.lt_or_ge j n with h | h
      · exact h
      · exact absurd hj (tail_later hs hc hn inv _ i rfl hin hun j h)
    refine ⟨hjn, ?_⟩
    by_cases hji : j = i
    · subst hji; exact hy.qOp hi H
    · have h1 := (H.2 j (ready_mono hj hji)).2
      obtain ⟨hjun, oj, hoj, hall⟩ := mem_ready.1 hj
      have hnot : ∀ e ∈ oj.after, Region.binds md e = true → e.on ≠ i := fun e he hb heq => by
        have h1 := hall e he hb
        rw [heq, getD_both hun] at h1
        cases h1
      have h2 := qOp_put hoj (hfree j oj hoj hji hjun hnot) (fun cs b => hsel i oi cs b hi) (fun cs b => hsel j oj cs b hoj) hy h1
      have hfree' : ∀ k ok, ops[k]? = some ok → k ≠ i → (listed.setIfInBounds j true).getD k true = false →
          (∀ e ∈ ok.after, Region.binds md e = true → e.on ≠ i) → oi.apart ops ok = true := fun k ok hk hki hun hno => by
        refine hfree k ok hk hki ?_ hno
        by_cases hjk : j = k
        · subst hjk; exact hjun
        · rw [getD_set_ne true hjk] at hun; exact hun
      refine qOp_mono (fun a' h3 => ih (listed.setIfInBounds j true) a' (inv.set hj hjn) hfree' (ready_mono hr (Ne.symm hji)) h3.1 ?_) h2
      rw [Array.setIfInBounds_comm _ _ hji]
      exact h3.2
theorem wpAnyM_lex {n g : Nat} {Lq : Act → Prop} (hsel : Region.noSelect ops = true) (hs : Region.sinkB md ops n = true) (hc : behindB md ops n = true) (hn : n < ops.size) :
    ∀ (l : List Oper) (k : Nat) (listed : Array Bool) (a : Act), (∀ j, j < l.length → l[j]? = ops[k + j]?) → k + l.length = n → HeadInv md ops n listed →
    headM md ops g l.length k listed = true → wpQuiet P ops C Lq l a →
    wpAnyM P md ops C n (fun listed' a' => (Region.ready md ops listed' = [n] ∧ Region.lexFrom md ops g (n + 1) (listed'.setIfInBounds n true) = true) ∧ Lq a') l.length listed a
  | [], k, listed, a, _, hk, _, hB, h => by
    have : k = n := by simpa using hk
    subst this
    simp only [List.length_nil, headM, Bool.and_eq_true, decide_eq_true_eq] at hB
    exact ⟨hB, h⟩
  | o :: l, k, listed, a, hl, hk, inv, hB, h => by
    have h0 : ops[k]? = some o := by simpa using (hl 0 (by simp)).symm
    simp only [List.length_cons, headM, Bool.and_eq_true] at hB
    obtain ⟨⟨hr, hf⟩, hB'⟩ := hB
    have hkn : k < n := by simp only [List.length_cons] at hk; omega
    have hr' : k ∈ Region.ready md ops listed := by simpa using hr
    have hst : qOp P ops C k (wpQuiet P ops C Lq l) a := by unfold qOp; simp only [h0]; exact h
    obtain ⟨v, hy, hK⟩ := yieldsIn_of_qOp h0 hst
    exact wpAnyM_first h0 (Region.noSelect_spec hsel) hs hc hn hkn (fun listed' a' hL j hj => by rw [hL.1.1] at hj; simp at hj; omega) l.length listed a inv (Region.free_spec h0 hf) hr' hy
      (wpAnyM_lex hsel hs hc hn l (k + 1) _ _ (fun j hj => by have := hl (j + 1) (by simp; omega); simpa [Nat.add_assoc, Nat.add_comm 1 j] using this) (by simp only [List.length_cons] at hk; omega) (inv.set hr' hkn) hB' hK)
/-- what is asked behind that operation: the moves, in the world that it left -/
def Behind (P : Program) (ops : Array Oper) (Q : Exit → Act → World → Prop) (rest : List Oper) (x : Exit) (a : Act) (w : World) : Prop :=
  (x = .normal → wpQuiet P ops (fun w' => ∃ n, w' = w.drewN n) (fun a' => ∀ n, Q .normal a' (w.drewN n)) rest a) ∧ (x ≠ .normal → Q x a w)
theorem Behind.moves {Q : Exit → Act → World → Prop} {rest : List Oper} {a : Act} {w : World} (h : wpQuiet P ops (fun w' => ∃ n, w' = w.drewN n) (fun a' => ∀ n, Q .normal a' (w.drewN n)) rest a) : Behind P ops Q rest .normal a w := ⟨fun _ => h, fun h => absurd rfl h⟩
theorem Oper.wp_turn {o : Oper} {a : Act} {w : World} {K K' : Act → World → Prop} {Q Q' : Exit → Act → World → Prop} (h : ∀ a w, K a w → K' a w) (hq : ∀ x a w, x ≠ .normal → Q x a w → Q' x a w)
    (hh : o.wp P a w K Q) : o.wp P a w K' Q' := by
  unfold Oper.wp at *
  generalize (execOp a.eval o).run P w = r at *
  have hl : LetsOut Q → LetsOut Q' := fun ⟨a, w, h⟩ => ⟨a, w, hq _ _ _ (by intro e; cases e) h⟩
  cases r with
  | ok n w' =>
    cases n <;> simp only [Oper.upon] at hh ⊢ <;>
      first
        | exact h _ _ hh
        | exact Calls.mono hh (fun e w'' he => by cases e <;> first | exact h _ _ he | exact hl he | exact hq _ _ _ (by intro e; cases e) he)
        | exact Rows.mono hh (fun _ _ he => h _ _ he)
  | halt x w' => cases x <;> simp only [Oper.upon] at hh ⊢ <;> first | exact hh | exact hq _ _ _ (by intro e; cases e) hh
theorem wp_region_mid {id : Nat} {Q : Exit → Act → World → Prop} {a : Act} {w : World} {l : List Oper} (n : Nat) (hm : P.follows .mixedOrders = true) (hB : midB .any l.toArray n = true)
    (h : wpQuiet P l.toArray (fun w' => ∃ p : Regrown, w' = grow (redrawn w p.d) p.os) (fun a' => ∀ w', Go.RowKit.Below w.heap.size w w' → wpList P l.toArray (Behind P l.toArray Q (l.drop (n + 1))) ((l.drop n).take 1) a' w') (l.take n) a) : (Code.region id l.toArray true).wp P Q a w := by
  simp only [midB, Bool.and_eq_true, decide_eq_true_eq] at hB
  obtain ⟨⟨⟨⟨hsel, hn⟩, hs⟩, hc⟩, hlex⟩ := hB
  have hn' : n < l.length := by simpa using hn
  have htl : (l.take n).length = n := by simp; omega
  have inv0 : HeadInv .any l.toArray n (Array.replicate l.toArray.size false) :=
    ⟨by simp, fun j oj _ hl => (by rw [getD_replicate_false] at hl; cases hl), fun t _ ht => getD_in (by simpa using ht) (getD_replicate_false _ _)⟩
  have H := wpAnyM_lex (md := .any) (C := fun w' => ∃ p : Regrown, w' = grow (redrawn w p.d) p.os) (g := l.toArray.size - n - 1) hsel hs hc hn (l.take n) 0 _ a (fun j hj => by
    have hj' : j < n := by rw [htl] at hj; exact hj
    simp [hj']) (by simpa using htl) inv0 (by rw [htl]; exact hlex) h
  refine wp_region_any hm ?_
  have ho : (l.drop n).take 1 = [l[n]] := by rw [List.drop_eq_getElem_cons hn']; rfl
  have hon : l.toArray[n]? = some l[n] := by simp [hn']
  have := wpAny_of_headM (Q' := Q) (g := l.toArray.size - n - 1 + 1) (fun listed a' w' hC hL => by
    obtain ⟨⟨hr, hx⟩, hq⟩ := hL
    obtain ⟨p, rfl⟩ := hC
    have hq := hq _ (below_regrown w p.d p.os)
    refine ⟨fun h0 => (by rw [hr] at h0; cases h0), fun i hi => ?_⟩
    rw [hr] at hi
    have hin : i = n := by simpa using hi
    subst hin
    have hnext : ∀ a2 w2, Behind P l.toArray Q (l.drop (i + 1)) .normal a2 w2 → wpAny P .any l.toArray Q (l.toArray.size - i - 1) (listed.setIfInBounds i true) a2 w2 := fun a2 w2 hb => by
      have hb := hb.1 rfl
      have hlen : (l.drop (i + 1)).length = l.toArray.size - i - 1 := by simp; omega
      have h3 := wpAnyQ_lex (md := .any) hsel (l.drop (i + 1)) (i + 1) (listed.setIfInBounds i true) a2 (fun j => by simp [List.getElem?_drop]) (by rw [hlen]; exact hx) hb
      rw [hlen] at h3
      exact wpAny_of_quiet (Q' := Q) (fun a3 w3 hw3 hq3 => by obtain ⟨k, rfl⟩ := hw3; exact hq3 k) _ _ _ w2 ⟨0, rfl⟩ h3
    rw [ho] at hq
    unfold wpOp
    simp only [hon]
    unfold wpList at hq
    split
    · rename_i hw
      rw [if_pos hw] at hq
      rcases hq with hq | hq
      · exact .inl (Oper.wp_turn (fun a2 w2 h2 => hnext a2 w2 h2) (fun x a2 w2 hx2 h2 => h2.2 hx2) hq)
      · obtain ⟨h1, a2, w2, h2⟩ := hq
        exact .inr ⟨h1, a2, w2, h2.2 (by intro e; cases e)⟩
    · rename_i hw
      rw [if_neg hw] at hq
      exact hnext _ _ hq) _ _ _ _ ⟨⟨w.drawn + 1, #[]⟩, by rw [grow_empty]; try rfl⟩ H
  rw [htl, show n + (l.toArray.size - n - 1 + 1) = l.toArray.size by omega] at this
  exact this
end
end Go.Proofs.YtjdfemfobcjecaaGreat

/-
  streams: comes.
-/
namespace Go.Proofs.YtjdfemfobcjecaaGreat
open Go.RowKit Go.Sort
set_option linter.unusedVariables false
set_option linter.unusedSimpArgs false
/-- up to which place a frame's bytes go -/
def Fr.endOf (f : Fr) : Nat := if f.kind = 4 then f.c else min f.b 4611686018427387904 + f.data.size
/-- what comes does -/
inductive Ss.Comes (s : Ss) (f : Fr) : Int → Ss → Prop
  | names (v : Value) (c : Nat) (s' : Ss) (h : s.Names f.a (s.takes f.a) v c s') (hc : c ≠ 0) : s.Comes f (c : Int) s'
  | beyond (s' : Ss) (x : St) (h : s.Names f.a (s.takes f.a) (.pointer (some ⟨x.xb, 0, none⟩)) 0 s') (hx : x ∈ s'.l) (hid : x.id = f.a) (hb : s'.beyondB x f.endOf = true) : s.Comes f 20 s'
  | reset (s' : Ss) (x : St) (b m m' : Nat) (o : Ib) (h : s.Names f.a (s.takes f.a) (.pointer (some ⟨x.xb, 0, none⟩)) 0 s') (hx : x ∈ s'.l) (hid : x.id = f.a) (hb : s'.beyondB x f.endOf = false) (hi : x.inn = some (b, m, o)) (hk : f.kind = 4) : s.Comes f (o.resetErr f.c) (s'.put (x.withIn b m' (o.resetTo f.c)))
  | put (s' : Ss) (x : St) (b m m' : Nat) (o o' : Ib) (h : s.Names f.a (s.takes f.a) (.pointer (some ⟨x.xb, 0, none⟩)) 0 s') (hx : x ∈ s'.l) (hid : x.id = f.a) (hb : s'.beyondB x f.endOf = false) (hi : x.inn = some (b, m, o)) (hk : f.kind ≠ 4) (hp : Put o f.b f.data.data.toList f.fin o') : s.Comes f (o.putErr f.b f.data.size f.fin) (s'.put (x.withIn b m' o'))
/-- a stream that is named is there -/
theorem Ss.Names.ok {s s' : Ss} {id : Nat} {may : Bool} {v : Value} (h : s.Names id may v 0 s') : may = true ∧ ∃ x ∈ s'.l, x.id = id ∧ v = .pointer (some ⟨x.xb, 0, none⟩) := by
  cases h with
  | here x h hx hid => exact ⟨h, x, hx, hid, rfl⟩
  | made s' x n h hn hm hc hl hf hop hx hid => exact ⟨h, x, hx, hid, rfl⟩
theorem Ss.Names.side {s s' : Ss} {id : Nat} {may : Bool} {v : Value} {c : Nat} (h : s.Names id may v c s') : s'.side = s.side := by
  cases h with
  | made s' x n h hn hm hc hl hf hop hx hid => exact (hf.grew (Nat.mod_lt _ (by omega))).side
  | _ => rfl
theorem Ss.Names.supp {s s' : Ss} {id : Nat} {may : Bool} {v : Value} {c k : Nat} (h : s.Names id may v c s') (hb : ∀ x ∈ s.l, x.supp ≤ k) : ∀ x ∈ s'.l, x.supp ≤ k := by
  cases h with
  | made s' x n h hn hm hc hl hf hop hx hid =>
    obtain ⟨t, h1, _, h3⟩ := (hf.grew (Nat.mod_lt _ (by omega))).l
    intro y hy
    rw [h1, List.mem_append] at hy
    rcases hy with hy | hy
    · exact hb y hy
    · have := (h3 y hy).2.2.2.2.2.1; omega
  | _ => exact hb
theorem frame_stays {w w1 w3 : World} {sb : Nat} {s s' : Ss} {cs : Array Value} {t : TypeId} (h : SBox w sb s) (hN : Blk w1 w.heap.size t cs) (hst : SStep w1 sb s s' w3) : Blk w3 w.heap.size t cs :=
  hst.2.1.blk hN (fun hm => by have := h.foot_lt _ hm; omega)
set_option maxRecDepth 100000 in
set_option maxHeartbeats 8000000 in
theorem stcomes_any (w : World) (sb : Nat) (s : Ss) (h : SBox w sb s) (hw : s.WF) (hsu : ∀ x ∈ s.l, x.supp ≤ 65000) (A : Option Addr) (n c : Nat) (f : Fr) (hk : f.kind ≤ 18446744073709551615) (ha : f.a ≤ 18446744073709551615) (hb : f.b ≤ 18446744073709551615) (hc : f.c ≤ 18446744073709551615) (hd : f.data.size ≤ 65536) :
    Calls Tryz.prog 28 #[.pointer (some ⟨sb, 0, none⟩), fval A n c f] w fun e w' => ∃ r s', e = .returned (.int .i64 r) ∧ s.Comes f r s' ∧ SStep w sb s s' w' := by
  have HB := hide h
  have hM : Mod [] w (w.alloc (.cells (fcs A n c f) 31)) := (Mod.refl [] w).alloc _
  have hN := Blk.new w 31 (fcs A n c f)
  have hBM := h.new hM
  have hFw := h.foot_lt
  obtain ⟨w1, hw1⟩ : ∃ w1, w.alloc (.cells (fcs A n c f) 31) = w1 := ⟨_, rfl⟩
  rw [hw1] at hM hN hBM
  have c1 : w1.cell? ⟨w.heap.size, 1, none⟩ = some (.int .u64 (f.a : Int)) := hN.cell 1
  have HST : Hid (SStep w sb s s w1) := hide (SStep.refl h hM)
  have HBM := hide hBM
  have HW := hide hw
  have HN := hide hN
  have HFw := hide hFw
  have CT := hide (fun d os => Calls.regrown_of ((sttakes_any (grow (redrawn w1 d) os) sb s (HBM.out.new (Mod.of_below (F := []) (below_regrown w1 d os))) f.a ha _ rfl).mono fun _ _ hh => ⟨hh.1, by rw [hh.2]; exact Below.refl _ _⟩))
  have HNm := hide (fun W (m : Mod [] w1 W) => stnamed_any W sb s (HBM.out.new m) hw f.a ha (s.takes f.a))
  have yc1 := cell_regrown c1
  have HSu := hide hsu
  clear h hN hM hBM hFw hw hsu c1
  unfold fval
  unfold fcs at hw1 ⊢
  go_enter Tryz.func28, Tryz.ntmps28
  go_wp2_with fail
  clear hw1
  refine wp_region_mid 7 (by kernel_rfl) (by kernel_rfl) ?_
  simp only [List.take_succ_cons, List.take_zero, List.drop_succ_cons, List.drop_zero]
  repeat (go_big_quiet_step (with_reducible exact CT.out _ _))
  refine wpQuiet_nil ?_
  intro W hbw
  have HMw : Hid (Mod [] w1 W) := hide (Mod.of_below (F := []) hbw)
  clear hbw yc1
  go_wp2_with fail
  refine (HNm.out W HMw.out).mono ?_
  rintro e w3 ⟨v, cd, s', rfl, hnm, hst⟩
  have hs3 : SStep w1 sb s s' w3 := (SStep.refl HBM.out HMw.out).trans hst
  have HS3 := hide hs3
  have HNm2 := hide hnm
  clear hst hs3 hnm
  go_wp2_with fail
  refine Behind.moves ?_
  repeat (quiet_step (fail))
  refine wpQuiet_nil ?_
  intro k3
  have HS4 : Hid (SStep w1 sb s s' (w3.drewN k3)) := hide (HS3.out.trans (SStep.refl HS3.out.1 ((Mod.refl [] w3).drewN k3)))
  obtain ⟨w4, hw4⟩ : ∃ w4, w3.drewN k3 = w4 := ⟨_, rfl⟩
  rw [hw4] at HS4 ⊢
  clear hw4
  by_cases hcd : cd = 0
  · subst hcd
    obtain ⟨hmay, x, hx, hxid, rfl⟩ := HNm2.out.ok
    have hw' := HNm2.out.wf HW.out
    have hin : x.inn.isSome = true := by
      rw [hw'.inn x hx, hxid]
      have hsd := HNm2.out.side
      unfold Ss.takes at hmay ⊢
      rw [hsd]; exact hmay
    obtain ⟨p, hxi⟩ := Option.isSome_iff_exists.1 hin
    obtain ⟨b, m, o⟩ := p
    have hfr := frame_stays HB.out HN.out HS4.out
    have hxb := HS4.out.1.all x hx
    have x1 : w4.cell? ⟨x.xb, 1, none⟩ = some (.pointer (some ⟨b, 0, none⟩)) := by rw [hxb.blk.cell]; unfold St.cells St.inV; rw [hxi]; rfl
    have d0 : w4.cell? ⟨w.heap.size, 0, none⟩ = some (.int .u64 (f.kind : Int)) := hfr.cell 0
    have d2 : w4.cell? ⟨w.heap.size, 2, none⟩ = some (.int .u64 (f.b : Int)) := hfr.cell 2
    have d3 : w4.cell? ⟨w.heap.size, 3, none⟩ = some (.int .u64 (f.c : Int)) := hfr.cell 3
    have d4 : w4.cell? ⟨w.heap.size, 4, none⟩ = some (.bool f.fin) := hfr.cell 4
    have d5 : w4.cell? ⟨w.heap.size, 5, none⟩ = some (.string f.data) := hfr.cell 5
    obtain ⟨mb, hmb⟩ : ∃ mb, min f.b 4611686018427387904 = mb := ⟨_, rfl⟩
    have q1 : min (f.b : Int) 4611686018427387904 = (mb : Int) := by omega
    have hmbl : mb ≤ 4611686018427387904 := by omega
    obtain ⟨ee, hee⟩ : ∃ ee, f.endOf = ee := ⟨_, rfl⟩
    have hel : ee ≤ 18446744073709551615 := by rw [← hee]; unfold Fr.endOf; split <;> omega
    have HEE := hide hee
    have HMb := hide hmb
    have HX := hide hx
    have HXid := hide hxid
    have HXi := hide hxi
    have HW' := hide hw'
    have HBy := hide (stbeyond_any w4 sb s' HS4.out.1 hw' x hx b m o hxi ee hel)
    have hdz : (0 : Int) ≤ (f.data.size : Int) := by omega
    obtain ⟨by_, hby⟩ : ∃ by_, s'.beyondB x ee = by_ := ⟨_, rfl⟩
    have HBb := hide hby
    rw [hby] at HBy
    have hib := hxb.inn b m o hxi
    have HIb := hide hib
    clear hmay hw' hin hxb hfr hmb hee hx hxid hxi hby hib
    by_cases hk4 : f.kind = 4
    · have HK4 := hide hk4
      have hkk : ((f.kind : Int) == 4) = true := by rw [hk4]; rfl
      have hec : f.c = ee := by have := HEE.out; unfold Fr.endOf at this; rw [if_pos hk4] at this; exact this
      rw [← hec] at HBy
      clear hk4 hec
      go_wp2_with fail
      refine HBy.out.mono ?_
      rintro e w5 ⟨rfl, hm5⟩
      have HM5 := hide hm5
      have x1' : w5.cell? ⟨x.xb, 1, none⟩ = some (.pointer (some ⟨b, 0, none⟩)) := by rw [(HS4.out.1.new hm5).all x HX.out |>.blk.cell]; unfold St.cells St.inV; rw [HXi.out]; rfl
      have hfr5 := hm5.blk (frame_stays HB.out HN.out HS4.out) (by simp)
      have g0 : w5.cell? ⟨w.heap.size, 0, none⟩ = some (.int .u64 (f.kind : Int)) := hfr5.cell 0
      have g2 : w5.cell? ⟨w.heap.size, 2, none⟩ = some (.int .u64 (f.b : Int)) := hfr5.cell 2
      have g3 : w5.cell? ⟨w.heap.size, 3, none⟩ = some (.int .u64 (f.c : Int)) := hfr5.cell 3
      have HRs := hide (fun W (mm : Mod [] w5 W) => ireset_any W b m o (HIb.out.mod (HM5.out.trans mm (by simp)) (by simp) (by simp)) f.c f.b)
      clear hm5 hfr5 x1 d0 d2 d3 d4 d5
      cases by_ with
      | true =>
        go_wp2_with fail
        go_ret
        exact ⟨_, s', rfl, .beyond s' x HNm2.out HX.out HXid.out (by rw [HEE.out]; exact HBb.out), HST.out.trans (HS4.out.trans (SStep.refl HS4.out.1 HM5.out))⟩
      | false =>
        go_wp2_with fail
        have y1 := cell_regrown x1'
        have y2 := cell_regrown g2
        have y3 := cell_regrown g3
        clear x1' g0 g2 g3
        refine wp_region_mid 8 (by kernel_rfl) (by kernel_rfl) ?_
        simp only [List.take_succ_cons, List.take_zero, List.drop_succ_cons, List.drop_zero]
        repeat (go_big_quiet_step (fail))
        refine wpQuiet_nil ?_
        intro W5 hbw
        have HMw5 : Hid (Mod [] w5 W5) := hide (Mod.of_below (F := []) hbw)
        clear hbw y1 y2 y3
        go_wp2_with fail
        refine (HRs.out W5 HMw5.out).mono ?_
        rintro e w6 ⟨rfl, ho⟩
        obtain ⟨m6, hst6⟩ := (HS4.out.1.new (HM5.out.trans HMw5.out (by simp))).inStep HW'.out.ids HX.out HXi.out ho
        have HS6 := hide (HS4.out.trans ((SStep.refl HS4.out.1 (HM5.out.trans HMw5.out (by simp))).trans hst6))
        clear hst6 ho
        go_wp2_with fail
        refine Behind.moves ?_
        repeat (quiet_step (fail))
        refine wpQuiet_nil ?_
        intro k6
        go_wp2_with fail
        go_ret
        exact ⟨_, _, rfl, .reset s' x b m m6 o HNm2.out HX.out HXid.out (by rw [HEE.out]; exact HBb.out) HXi.out HK4.out, HST.out.trans (HS6.out.trans (SStep.refl HS6.out.1 ((Mod.refl [] w6).drewN k6)))⟩
    · have HK4 := hide hk4
      have hkk : ((f.kind : Int) == 4) = false := by rw [beq_eq_false_iff_ne]; omega
      have hec : (ee : Int) = (mb : Int) + (f.data.size : Int) := by have := HEE.out; unfold Fr.endOf at this; rw [if_neg hk4, HMb.out] at this; omega
      rw [hec] at HBy
      clear hk4 hec
      go_wp2_with fail
      refine HBy.out.mono ?_
      rintro e w5 ⟨rfl, hm5⟩
      have HM5 := hide hm5
      have x1' : w5.cell? ⟨x.xb, 1, none⟩ = some (.pointer (some ⟨b, 0, none⟩)) := by rw [(HS4.out.1.new hm5).all x HX.out |>.blk.cell]; unfold St.cells St.inV; rw [HXi.out]; rfl
      have hfr5 := hm5.blk (frame_stays HB.out HN.out HS4.out) (by simp)
      have g0 : w5.cell? ⟨w.heap.size, 0, none⟩ = some (.int .u64 (f.kind : Int)) := hfr5.cell 0
      have g2 : w5.cell? ⟨w.heap.size, 2, none⟩ = some (.int .u64 (f.b : Int)) := hfr5.cell 2
      have g4 : w5.cell? ⟨w.heap.size, 4, none⟩ = some (.bool f.fin) := hfr5.cell 4
      have g5 : w5.cell? ⟨w.heap.size, 5, none⟩ = some (.string f.data) := hfr5.cell 5
      have hsu : o.supp.length < 65536 := by
        have := HNm2.out.supp HSu.out x HX.out
        unfold St.supp at this
        rw [HXi.out] at this
        have h2 : o.supp.length ≤ 65000 := this
        omega
      have hpu := fun W (mm : Mod [] w5 W) => iput_any W b m o (HIb.out.mod (HM5.out.trans mm (by simp)) (by simp) (by simp)) f.b f.data.data.toList f.fin hb (by rw [Array.length_toList]; exact hd) hsu
      rw [show str f.data.data.toList = .string f.data by unfold str; rw [Array.toArray_toList], show f.data.data.toList.length = f.data.size from Array.length_toList] at hpu
      have HPu := hide hpu
      clear hm5 hfr5 x1 d0 d2 d3 d4 d5 hpu hsu
      cases by_ with
      | true =>
        go_wp2_with fail
        go_ret
        exact ⟨_, s', rfl, .beyond s' x HNm2.out HX.out HXid.out (by rw [HEE.out]; exact HBb.out), HST.out.trans (HS4.out.trans (SStep.refl HS4.out.1 HM5.out))⟩
      | false =>
        go_wp2_with fail
        have y1 := cell_regrown x1'
        have y2 := cell_regrown g2
        have y4 := cell_regrown g4
        have y5 := cell_regrown g5
        clear x1' g0 g2 g4 g5
        refine wp_region_mid 10 (by kernel_rfl) (by kernel_rfl) ?_
        simp only [List.take_succ_cons, List.take_zero, List.drop_succ_cons, List.drop_zero]
        repeat (go_big_quiet_step (fail))
        refine wpQuiet_nil ?_
        intro W5 hbw
        have HMw5 : Hid (Mod [] w5 W5) := hide (Mod.of_below (F := []) hbw)
        clear hbw y1 y2 y4 y5
        go_wp2_with fail
        refine (HPu.out W5 HMw5.out).mono ?_
        rintro e w6 ⟨rfl, o', hp, hib', hm'⟩
        obtain ⟨m6, hst6⟩ := (HS4.out.1.new (HM5.out.trans HMw5.out (by simp))).inStep HW'.out.ids HX.out HXi.out ⟨m, hib', hm', .inl rfl⟩
        have HS6 := hide (HS4.out.trans ((SStep.refl HS4.out.1 (HM5.out.trans HMw5.out (by simp))).trans hst6))
        have HP := hide hp
        clear hst6 hp hib' hm'
        go_wp2_with fail
        refine Behind.moves ?_
        repeat (quiet_step (fail))
        refine wpQuiet_nil ?_
        intro k6
        go_wp2_with fail
        go_ret
        exact ⟨_, _, rfl, .put s' x b m m6 o o' HNm2.out HX.out HXid.out (by rw [HEE.out]; exact HBb.out) HXi.out HK4.out HP.out, HST.out.trans (HS6.out.trans (SStep.refl HS6.out.1 ((Mod.refl [] w6).drewN k6)))⟩
  · have HCd := hide hcd
    have hcn : ((cd : Int) == 0) = false := by rw [beq_eq_false_iff_ne]; omega
    have hcn2 : ((cd : Int) != 0) = true := by rw [bne, hcn]; rfl
    clear hcd
    go_wp2_with fail
    go_ret
    exact ⟨_, s', rfl, .names v cd s' HNm2.out HCd.out, HST.out.trans HS4.out⟩
end Go.Proofs.YtjdfemfobcjecaaGreat

/-
  streams: Other.
-/
namespace Go.Proofs.YtjdfemfobcjecaaGreat
open Go.RowKit Go.Sort
set_option linter.unusedVariables false
set_option linter.unusedSimpArgs false
/-- a stream whose outbox' limit is raised -/
def St.raiseOut (x : St) (l : Nat) (dv sv : Value) : St := match x.out with
  | some p => x.withOut p.1 dv sv (p.2.2.2.raise l)
  | none => x
/-- the same stream, but for the rows of its outbox -/
structure St.Raised (x : St) (l : Nat) (y : St) : Prop where
  is : ∃ dv sv, y = x.raiseOut l dv sv
/-- limits that grew: each outbox is raised -/
structure Ss.Others (s : Ss) (l : Lm) (s' : Ss) : Prop where
  eq : s' = { s with other := s.other.more l.capped, l := s'.l }
  len : s'.l.length = s.l.length
  each : ∀ (i : Nat) (x : St), s.l[i]? = some x → ∃ y : St, s'.l[i]? = some y ∧ x.Raised (({ s with other := s.other.more l.capped } : Ss).wayOut x.id) y
/-- midway: those that are left stand as they were -/
structure Ss.Midway (s : Ss) (left : Int → Bool) (s' : Ss) : Prop where
  eq : s' = { s with l := s'.l }
  len : s'.l.length = s.l.length
  each : ∀ (i : Nat) (x : St), s.l[i]? = some x → ∃ y : St, s'.l[i]? = some y ∧ (if left (x.id : Int) then y = x else x.Raised (s.wayOut x.id) y)
theorem St.Raised.id {x y : St} {l : Nat} (h : x.Raised l y) : y.id = x.id ∧ y.xb = x.xb := by
  obtain ⟨dv, sv, rfl⟩ := h.is
  unfold St.raiseOut
  cases x.out <;> exact ⟨rfl, rfl⟩
theorem Ss.Midway.start (s : Ss) (left : Int → Bool) (h : ∀ x ∈ s.l, left (x.id : Int) = true) : s.Midway left s :=
  ⟨rfl, rfl, fun i x hx => ⟨x, hx, by rw [if_pos (h x (List.mem_of_getElem? hx))]⟩⟩
theorem Ss.Midway.ids {s s' : Ss} {left : Int → Bool} (h : s.Midway left s') : s'.l.map St.id = s.l.map St.id := by
  apply List.ext_getElem?
  intro i
  rw [List.getElem?_map, List.getElem?_map]
  cases hx : s.l[i]? with
  | none =>
    have : s'.l[i]? = none := by rw [List.getElem?_eq_none_iff] at hx ⊢; rw [h.len]; exact hx
    rw [this]
  | some x =>
    obtain ⟨y, hy, hr⟩ := h.each i x hx
    rw [hy]
    simp only [Option.map_some]
    split at hr
    · rw [hr]
    · rw [hr.id.1]
/-- the next one is raised -/
theorem Ss.Midway.step {s s' : Ss} {left : Int → Bool} (h : s.Midway left s') (hn : (s.l.map St.id).Nodup) {x : St} (hx : x ∈ s.l) (hl : left (x.id : Int) = true) {y : St} (hr : x.Raised (s.wayOut x.id) y) : x ∈ s'.l ∧ s.Midway (fun z => left z && !(z == (x.id : Int))) (s'.put y) := by
  obtain ⟨i, hi⟩ := List.mem_iff_getElem?.1 hx
  obtain ⟨x', hx', hr'⟩ := h.each i x hi
  rw [if_pos hl] at hr'
  subst hr'
  have hyid := hr.id.1
  refine ⟨List.mem_of_getElem? hx', ?_, ?_, fun j z hz => ?_⟩
  · rw [h.eq]; rfl
  · show ((s'.l.map _).length) = _
    rw [List.length_map, h.len]
  · obtain ⟨q, hq, hqr⟩ := h.each j z hz
    by_cases e : z.id = x'.id
    · have hzx : z = x' := ids_inj hn (List.mem_of_getElem? hz) hx e
      subst hzx
      rw [if_pos hl] at hqr
      refine ⟨y, ?_, ?_⟩
      · show (s'.l.map _)[j]? = _
        rw [List.getElem?_map, hq]
        simp only [Option.map_some]
        rw [hqr, if_pos hyid.symm]
      · have : (left (z.id : Int) && !((z.id : Int) == (z.id : Int))) = false := by simp
        rw [this]
        exact hr
    · have hqid : q.id = z.id := by
        split at hqr
        · rw [hqr]
        · exact hqr.id.1
      refine ⟨q, ?_, ?_⟩
      · show (s'.l.map _)[j]? = _
        rw [List.getElem?_map, hq]
        simp only [Option.map_some]
        rw [if_neg (by rw [hqid, hyid]; exact e)]
      · have hne : ((z.id : Int) == (x'.id : Int)) = false := by rw [beq_eq_false_iff_ne]; omega
        rw [hne]
        simpa using hqr
theorem Ss.Midway.skip {s s' : Ss} {left : Int → Bool} (h : s.Midway left s') (hn : (s.l.map St.id).Nodup) {x : St} (hx : x ∈ s.l) (hl : left (x.id : Int) = true) (ho : x.out = none) : s.Midway (fun z => left z && !(z == (x.id : Int))) s' := by
  refine ⟨h.eq, h.len, fun j z hz => ?_⟩
  obtain ⟨q, hq, hqr⟩ := h.each j z hz
  refine ⟨q, hq, ?_⟩
  by_cases e : z.id = x.id
  · have hzx : z = x := ids_inj hn (List.mem_of_getElem? hz) hx e
    subst hzx
    rw [if_pos hl] at hqr
    have : (left (z.id : Int) && !((z.id : Int) == (z.id : Int))) = false := by simp
    rw [this, hqr]
    exact ⟨.pointer none, .pointer none, by unfold St.raiseOut; rw [ho]⟩
  · have hne : ((z.id : Int) == (x.id : Int)) = false := by rw [beq_eq_false_iff_ne]; omega
    rw [hne]
    simpa using hqr
theorem Ss.Midway.done {s s' : Ss} {left : Int → Bool} (h : s.Midway left s') (hl : ∀ z, left z = false) : ∀ (i : Nat) (x : St), s.l[i]? = some x → ∃ y : St, s'.l[i]? = some y ∧ x.Raised (s.wayOut x.id) y := by
  intro i x hx
  obtain ⟨y, hy, hr⟩ := h.each i x hx
  rw [hl] at hr
  exact ⟨y, hy, hr⟩
theorem Ss.WF.grown {s : Ss} (h : s.WF) {l : Lm} (hl : l.WF) : ({ s with other := s.other.more l } : Ss).WF :=
  ⟨h.side, h.own, h.other.more hl, h.ids, h.low, h.have_, h.inn, h.out, h.len, h.cnt, h.lim, h.came, h.sent, Nat.le_trans h.sentl (Nat.le_max_left _ _), h.read, h.vals, h.rais⟩
theorem SStep.via {w w1 w2 : World} {sb r : Nat} {s s' : Ss} (h : SStep w sb s s' w1) (m : Mod [r] w1 w2) (hr : r ∉ s'.foot sb) (hrw : w.heap.size ≤ r) : SStep w sb s s' w2 :=
  ⟨h.1.mod m (fun k hk hm => by simp at hm; exact hr (hm ▸ hk)), h.2.1.trans m (fun k hk => by simp at hk; exact .inr (by omega)), h.2.2⟩
set_option maxRecDepth 100000 in
set_option maxHeartbeats 8000000 in
theorem stother_any (w : World) (sb : Nat) (s : Ss) (h : SBox w sb s) (hw : s.WF) (l : Lm) :
    Calls Tryz.prog 34 #[.pointer (some ⟨sb, 0, none⟩), l.val] w fun e w' => ∃ s', e = .returned (.tuple #[]) ∧ s.Others l s' ∧ SStep w sb s s' w' := by
  have hM : Mod [] w (w.alloc (.cells #[.int .u64 (l.data : Int), .int .u64 (l.bl : Int), .int .u64 (l.br : Int), .int .u64 (l.un : Int), .int .u64 (l.bidis : Int), .int .u64 (l.unis : Int)] 24)) := (Mod.refl [] w).alloc _
  have hN := Blk.new w 24 #[.int .u64 (l.data : Int), .int .u64 (l.bl : Int), .int .u64 (l.br : Int), .int .u64 (l.un : Int), .int .u64 (l.bidis : Int), .int .u64 (l.unis : Int)]
  have hBM := h.new hM
  obtain ⟨w1, hw1⟩ : ∃ w1, w.alloc (.cells #[.int .u64 (l.data : Int), .int .u64 (l.bl : Int), .int .u64 (l.br : Int), .int .u64 (l.un : Int), .int .u64 (l.bidis : Int), .int .u64 (l.unis : Int)] 24) = w1 := ⟨_, rfl⟩
  rw [hw1] at hM hN hBM
  have c0 : w1.cell? ⟨w.heap.size, 0, none⟩ = some (.int .u64 (l.data : Int)) := hN.cell 0
  have c1 : w1.cell? ⟨w.heap.size, 1, none⟩ = some (.int .u64 (l.bl : Int)) := hN.cell 1
  have c2 : w1.cell? ⟨w.heap.size, 2, none⟩ = some (.int .u64 (l.br : Int)) := hN.cell 2
  have c3 : w1.cell? ⟨w.heap.size, 3, none⟩ = some (.int .u64 (l.un : Int)) := hN.cell 3
  have c4 : w1.cell? ⟨w.heap.size, 4, none⟩ = some (.int .u64 (l.bidis : Int)) := hN.cell 4
  have c5 : w1.cell? ⟨w.heap.size, 5, none⟩ = some (.int .u64 (l.unis : Int)) := hN.cell 5
  have v7 : w1.cell? ⟨sb, 7, none⟩ = some (.int .u64 (s.other.data : Int)) := hBM.blk.cell 7
  have v8 : w1.cell? ⟨sb, 8, none⟩ = some (.int .u64 (s.other.bl : Int)) := hBM.blk.cell 8
  have v9 : w1.cell? ⟨sb, 9, none⟩ = some (.int .u64 (s.other.br : Int)) := hBM.blk.cell 9
  have v10 : w1.cell? ⟨sb, 10, none⟩ = some (.int .u64 (s.other.un : Int)) := hBM.blk.cell 10
  have v11 : w1.cell? ⟨sb, 11, none⟩ = some (.int .u64 (s.other.bidis : Int)) := hBM.blk.cell 11
  have v12 : w1.cell? ⟨sb, 12, none⟩ = some (.int .u64 (s.other.unis : Int)) := hBM.blk.cell 12
  have HST : Hid (SStep w sb s s w1) := hide (SStep.refl h hM)
  have HBM := hide hBM
  have HW := hide hw
  have cc : ∀ d os, Calls Tryz.prog 25 #[l.val] (grow (redrawn w1 d) os) fun e0 w'' => e0 = .returned l.capped.val ∧ ∃ p : Regrown, w'' = grow (redrawn w1 p.d) p.os := fun d os => Calls.regrown_of ((capped_any _ l).mono fun _ _ hh => ⟨hh.1, hh.2.below (Nat.le_refl _) (by simp)⟩)
  have cm : ∀ d os, Calls Tryz.prog 60 #[s.other.val, l.capped.val] (grow (redrawn w1 d) os) fun e0 w'' => e0 = .returned (s.other.more l.capped).val ∧ ∃ p : Regrown, w'' = grow (redrawn w1 p.d) p.os := fun d os => Calls.regrown_of ((stmore_any _ s.other l.capped).mono fun _ _ hh => ⟨hh.1, hh.2.below (Nat.le_refl _) (by simp)⟩)
  have CC := hide cc
  have CM := hide cm
  unfold Lm.val at CC CM
  have yc0 := cell_regrown c0
  have yv0 := cell_regrown v7
  have yc1 := cell_regrown c1
  have yv1 := cell_regrown v8
  have yc2 := cell_regrown c2
  have yv2 := cell_regrown v9
  have yc3 := cell_regrown c3
  have yv3 := cell_regrown v10
  have yc4 := cell_regrown c4
  have yv4 := cell_regrown v11
  have yc5 := cell_regrown c5
  have yv5 := cell_regrown v12
  clear h hw hM hN hBM cc cm
  unfold Lm.val
  go_enter Tryz.func34, Tryz.ntmps34
  go_wp2_with fail
  clear hw1 c0 c1 c2 c3 c4 c5 v7 v8 v9 v10 v11 v12
  refine wp_region_mid 10 (by kernel_rfl) (by kernel_rfl) ?_
  simp only [List.take_succ_cons, List.take_zero, List.drop_succ_cons, List.drop_zero]
  repeat (go_big_quiet_step (first | with_reducible exact CC.out _ _ | with_reducible exact CM.out _ _))
  refine wpQuiet_nil ?_
  intro W hbw
  have hmw : Mod [] w1 W := Mod.of_below (F := []) hbw
  have hbW := HBM.out.new hmw
  have u7 : W.cell? ⟨sb, 7, none⟩ = some (.int .u64 (s.other.data : Int)) := hbW.blk.cell 7
  have g7 : W.frozen? ⟨sb, 7, none⟩ = false := hbW.blk.frozen 7
  have u8 : W.cell? ⟨sb, 8, none⟩ = some (.int .u64 (s.other.bl : Int)) := hbW.blk.cell 8
  have g8 : W.frozen? ⟨sb, 8, none⟩ = false := hbW.blk.frozen 8
  have u9 : W.cell? ⟨sb, 9, none⟩ = some (.int .u64 (s.other.br : Int)) := hbW.blk.cell 9
  have g9 : W.frozen? ⟨sb, 9, none⟩ = false := hbW.blk.frozen 9
  have u10 : W.cell? ⟨sb, 10, none⟩ = some (.int .u64 (s.other.un : Int)) := hbW.blk.cell 10
  have g10 : W.frozen? ⟨sb, 10, none⟩ = false := hbW.blk.frozen 10
  have u11 : W.cell? ⟨sb, 11, none⟩ = some (.int .u64 (s.other.bidis : Int)) := hbW.blk.cell 11
  have g11 : W.frozen? ⟨sb, 11, none⟩ = false := hbW.blk.frozen 11
  have u12 : W.cell? ⟨sb, 12, none⟩ = some (.int .u64 (s.other.unis : Int)) := hbW.blk.cell 12
  have g12 : W.frozen? ⟨sb, 12, none⟩ = false := hbW.blk.frozen 12
  have hr := hbW.rootStep (s' := { s with other := s.other.more l.capped }) (((((((Mod.refl [sb] W).setCell (p := ⟨sb, 7, none⟩) (.inl (by simp)) (.int .u64 ((s.other.more l.capped).data : Int))).setCell (p := ⟨sb, 8, none⟩) (.inl (by simp)) (.int .u64 ((s.other.more l.capped).bl : Int))).setCell (p := ⟨sb, 9, none⟩) (.inl (by simp)) (.int .u64 ((s.other.more l.capped).br : Int))).setCell (p := ⟨sb, 10, none⟩) (.inl (by simp)) (.int .u64 ((s.other.more l.capped).un : Int))).setCell (p := ⟨sb, 11, none⟩) (.inl (by simp)) (.int .u64 ((s.other.more l.capped).bidis : Int))).setCell (p := ⟨sb, 12, none⟩) (.inl (by simp)) (.int .u64 ((s.other.more l.capped).unis : Int))) ((((((hbW.blk.set_ 7 (.int .u64 ((s.other.more l.capped).data : Int))).set_ 8 (.int .u64 ((s.other.more l.capped).bl : Int))).set_ 9 (.int .u64 ((s.other.more l.capped).br : Int))).set_ 10 (.int .u64 ((s.other.more l.capped).un : Int))).set_ 11 (.int .u64 ((s.other.more l.capped).bidis : Int))).set_ 12 (.int .u64 ((s.other.more l.capped).unis : Int))) rfl rfl
  have HR := hide ((SStep.refl HBM.out hmw).trans hr)
  obtain ⟨s1, hs1⟩ : ∃ s1 : Ss, s1 = { s with other := s.other.more l.capped } := ⟨_, rfl⟩
  rw [← hs1] at HR
  have HS1 := hide hs1
  have HW1 : Hid s1.WF := hide (by rw [hs1]; exact HW.out.grown (Lm.WF.capped l))
  have HMb : Hid (s1.mb = s.mb) := hide (by rw [hs1])
  clear yc0 yv0 yc1 yv1 yc2 yv2 yc3 yv3 yc4 yv4 yc5 yv5 hbw hmw hbW hr hs1
  go_wp2_with fail
  refine Behind.moves ?_
  refine wpQuiet_nil ?_
  intro k5
  have HQ : Hid (SStep w sb s s1 (((((((W.setCell ⟨sb, 7, none⟩ (.int .u64 ((s.other.more l.capped).data : Int))).setCell ⟨sb, 8, none⟩ (.int .u64 ((s.other.more l.capped).bl : Int))).setCell ⟨sb, 9, none⟩ (.int .u64 ((s.other.more l.capped).br : Int))).setCell ⟨sb, 10, none⟩ (.int .u64 ((s.other.more l.capped).un : Int))).setCell ⟨sb, 11, none⟩ (.int .u64 ((s.other.more l.capped).bidis : Int))).setCell ⟨sb, 12, none⟩ (.int .u64 ((s.other.more l.capped).unis : Int))).drewN k5)) := hide (HST.out.trans (HR.out.trans (SStep.refl HR.out.1 ((Mod.refl [] _).drewN k5))))
  obtain ⟨w6, hw6⟩ : ∃ w6, ((((((W.setCell ⟨sb, 7, none⟩ (.int .u64 ((s.other.more l.capped).data : Int))).setCell ⟨sb, 8, none⟩ (.int .u64 ((s.other.more l.capped).bl : Int))).setCell ⟨sb, 9, none⟩ (.int .u64 ((s.other.more l.capped).br : Int))).setCell ⟨sb, 10, none⟩ (.int .u64 ((s.other.more l.capped).un : Int))).setCell ⟨sb, 11, none⟩ (.int .u64 ((s.other.more l.capped).bidis : Int))).setCell ⟨sb, 12, none⟩ (.int .u64 ((s.other.more l.capped).unis : Int))).drewN k5 = w6 := ⟨_, rfl⟩
  rw [hw6] at HQ ⊢
  clear hw6 u7 g7 u8 g8 u9 g9 u10 g10 u11 g11 u12 g12 HR
  have v13 : w6.cell? ⟨sb, 13, none⟩ = some (.map (some s1.mb)) := HQ.out.1.blk.cell 13
  obtain ⟨w0, cnt0, hrun, hit, hm0, hs0⟩ := HQ.out.1.map.range (P := Tryz.prog) (T := 66) Tryz.underlying66
  have HIT := hide hit
  have HS0 : Hid (SStep w6 sb s1 s1 w0) := hide (SStep.refl HQ.out.1 hm0)
  have HZ := hide hs0
  have HFt := hide HQ.out.1.foot_lt
  clear hit hm0 hs0
  go_wp2_with fail
  go_loopw [] (fun wr => ∃ (left : Int → Bool) (c : Nat) (s' : Ss), s1.Midway left s' ∧ IIter wr s1.mb w6.heap.size .u64 s1.look left c ∧ SStep w6 sb s1 s' wr ∧ w6.heap.size ∉ s'.foot sb ∧ w6.heap.size < wr.heap.size) (fun wr => wr.rangeLeft s1.mb w6.heap.size)
  case atStart =>
    refine ⟨_, _, s1, Ss.Midway.start s1 _ (fun y hy => ?_), HIT.out, HS0.out, fun hk => by have := HFt.out _ hk; omega, by rw [HZ.out]; omega⟩
    rw [← s1.mem_ks]; exact List.mem_map.2 ⟨y, hy, rfl⟩
  case round =>
    obtain ⟨left, c, s', hmid, hit, hst, hrf, hrs⟩ := hrel
    have HMid := hide hmid
    have HSt := hide hst
    have HRf := hide hrf
    have HRs := hide hrs
    rcases hit.next (P := Tryz.prog) 0 with ⟨hz, hl0, hnx⟩ | ⟨x, v, w2, cnt2, hlx, hfx, hnx, hit2, hlt, hm2, hs2, hen⟩
    · have HL0 := hide hl0
      clear hit hmid hst hl0 hrf hrs
      go_wp2_with fail
      go_end0
      exact ⟨s', rfl, ⟨by rw [HMid.out.eq, HS1.out], by rw [HMid.out.len, HS1.out], fun i x hx => by
        have := HMid.out.done HL0.out i x (by rw [HS1.out]; exact hx)
        rw [HS1.out] at this
        exact this⟩, HQ.out.trans HSt.out⟩
    · obtain ⟨id, rfl⟩ : ∃ id : Nat, x = (id : Int) := by
        have := (s1.mem_ks x).2 (by rw [hfx]; rfl)
        obtain ⟨y, hy, rfl⟩ := List.mem_map.1 this
        exact ⟨y.id, rfl⟩
      obtain ⟨y, hy, hyid, rfl⟩ := Ss.look_some hfx
      have hl2 : left (y.id : Int) = true := by rw [hyid]; exact hlx
      obtain ⟨i, hi⟩ := List.mem_iff_getElem?.1 hy
      obtain ⟨y', hy', hyr⟩ := hmid.each i y hi
      rw [if_pos hl2] at hyr
      subst hyr
      have hys := List.mem_of_getElem? hy'
      have hst2 : SStep w6 sb s1 s' w2 := hst.via hm2 hrf (Nat.le_refl _)
      have hyb := hst2.1.all _ hys
      have y1 : w2.cell? ⟨y'.xb, 2, none⟩ = some y'.outV := hyb.blk.cell 2
      have HIT2 := hide hit2
      have HLe := hide hit.left_eq
      have HSt2 := hide hst2
      have HHy := hide hy
      have HHl := hide hl2
      have HYs := hide hys
      have hs2' : w6.heap.size < w2.heap.size := by rw [hs2]; exact hrs
      have HRs2 := hide hs2'
      cases hyo : y'.out with
      | none =>
        have y1' : w2.cell? ⟨y'.xb, 2, none⟩ = some (.pointer none) := by rw [y1]; unfold St.outV; rw [hyo]; rfl
        have HMid2 := hide (hmid.skip HW1.out.ids hy hl2 hyo)
        have HYi := hide hyid
        clear y1 hyb hit hm2 hit2 hst hst2 hfx hlx hl2 hmid hi hy' hys hyo hyid hrf hrs hs2 hs2'
        go_wp2_with fail
        go_roundw
        case rel => exact ⟨_, cnt2, s', by have := HMid2.out; rw [HYi.out] at this; exact this, HIT2.out, HSt2.out, HRf.out, HRs2.out⟩
        case measure => rw [HIT2.out.left_eq, HLe.out]; exact hlt
      | some p =>
        obtain ⟨b, dv, sv, o⟩ := p
        have y1' : w2.cell? ⟨y'.xb, 2, none⟩ = some (.pointer (some ⟨b, 0, none⟩)) := by rw [y1]; unfold St.outV; rw [hyo]; rfl
        have hidl : id ≤ 18446744073709551615 := by rw [← hyid]; have := (HW1.out.vals y' hy).1; unfold mvar at this; omega
        have HWy := hide (stway_any w2 sb s' hst2.1 id hidl)
        have hwo : s'.wayOut id = s1.wayOut id := by rw [hmid.eq]; rfl
        have hwl : s1.wayOut id ≤ 18446744073709551615 := by have := (Ss.way_le HW1.out id).2; unfold mvar at this; omega
        rw [hwo] at HWy
        have HRa := hide (fun W (m : Mod [] w2 W) => raise_any W b o dv sv ((hyb.out b dv sv o hyo).mod m (by simp)) (s1.wayOut id) hwl)
        have HYo := hide hyo
        have HYi := hide hyid
        clear y1 hyb hit hm2 hit2 hst hst2 hfx hlx hl2 hmid hi hy' hys hyo hyid hrf hrs hs2 hs2' hwo
        go_wp2_with fail
        refine HWy.out.mono ?_
        rintro e w3 ⟨rfl, n3, rfl⟩
        go_wp2_with fail
        refine (HRa.out _ ((Mod.refl [] w2).drewN n3)).mono ?_
        rintro e w4 ⟨rfl, ho⟩
        have hb3 := HSt2.out.1.new ((Mod.refl [] w2).drewN n3)
        have hids : (s'.l.map St.id).Nodup := by rw [HMid.out.ids]; exact HW1.out.ids
        have hof : ∀ k ∈ ofoot b dv sv, k ∈ y'.foot := fun k hk => by unfold St.foot St.ofoot; rw [HYo.out]; simp only [List.mem_cons, List.mem_append]; exact .inr (.inr hk)
        obtain ⟨dv', sv', hst3⟩ := hb3.outStep hids HYs.out HYo.out ho
        obtain ⟨dv9, sv9, hb9, hm9, hf9⟩ := ho
        have hmo : Mod (ofoot b dv sv) w2 w4 := ((Mod.refl (ofoot b dv sv) w2).drewN n3).trans hm9 (fun _ hk => .inl hk)
        have hmb : s'.mb = s1.mb := by rw [HMid.out.eq]
        have HIT3 := hide (HIT2.out.mod hmo (fun hk => (HSt2.out.1.sm.2 y' HYs.out).2 (by rw [hmb]; exact hof _ hk)) (fun hk => HRf.out (Ss.mem_foot.2 (.inr (.inr ⟨y', HYs.out, hof _ hk⟩)))))
        have HS4 := hide (HSt2.out.trans ((SStep.refl HSt2.out.1 ((Mod.refl [] w2).drewN n3)).trans hst3))
        have HR4 : Hid (w6.heap.size < w4.heap.size) := hide (Nat.lt_of_lt_of_le HRs2.out hmo.size)
        have HF4 : Hid (w6.heap.size ∉ (s'.put (y'.withOut b dv' sv' (o.raise (s1.wayOut id)))).foot sb) := hide (fun hk => by
          rcases hst3.2.2 _ hk with h1 | h1
          · exact HRf.out h1
          · have h2 := HRs2.out
            have h3 : w2.heap.size ≤ w6.heap.size := h1
            omega)
        have hmid4 := (HMid.out.step HW1.out.ids HHy.out HHl.out (y := y'.withOut b dv' sv' (o.raise (s1.wayOut id))) ⟨dv', sv', by unfold St.raiseOut; rw [HYo.out, HYi.out]⟩).2
        rw [HYi.out] at hmid4
        have HM4 := hide hmid4
        clear hst3 hb9 hm9 hf9 hmo hmb hmid4 hb3 hids hof
        go_wp2_with fail
        go_roundw
        case rel => exact ⟨_, cnt2, _, HM4.out, HIT3.out, HS4.out, HF4.out, HR4.out⟩
        case measure => rw [HIT3.out.left_eq, HLe.out]; exact hlt
end Go.Proofs.YtjdfemfobcjecaaGreat
