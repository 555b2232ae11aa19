/-
  Contracts and plain laws that the proofs of this seat share, part 11 of 11: StY, IbReady0, StLw, StAwP, StAwQ, FrRs, StAw.
-/
import Derived.Test.YtjdfemfobcjecaaGreatG9
import Derived.Test.YtjdfemfobcjecaaGreatG10
import Derived.Test.YtjdfemfobcjecaaGreatG4
import Derived.Test.YtjdfemfobcjecaaGreatG8

/-
  streams, plain: what a set is stays so, whatever is done.
-/
namespace Go.Proofs.YtjdfemfobcjecaaGreat
open Go.RowKit
set_option linter.unusedVariables false
set_option linter.unusedSimpArgs false
theorem Ss.OK.mono {K K' : Nat} {s : Ss} (h : s.OK K) (hk : K ≤ K') : s.OK K' := ⟨h.wf, h.good, fun x hx => Nat.le_trans (h.supp x hx) hk⟩
theorem newSt_good (s : Ss) (id xb ib im ob : Nat) : ∀ b dv sv o, (s.newSt id xb ib im ob).out = some (b, dv, sv, o) → o.Good := by
  intro b dv sv o h
  unfold Ss.newSt at h
  simp only at h
  split at h
  · cases h; exact Ob.Good.fresh _
  · cases h
theorem Ss.OK.opens {K k n e : Nat} {s s' : Ss} (h : s.OK K) (hk : k < 4) (ho : s.Opens k n e s') : s'.OK K := by
  refine ⟨h.wf.opens hk ho, ?_, ?_⟩
  · rcases ho with ⟨_, _, _, rfl⟩ | ⟨_, _, _, _, rfl⟩ | ⟨_, h2, h3, _, xb, ib, im, ob, rfl⟩
    · exact h.good
    · exact h.good
    · intro x hx
      have hx' : x ∈ s.l ++ [s.newSt n xb ib im ob] := hx
      rw [List.mem_append, List.mem_singleton] at hx'
      rcases hx' with hx | rfl
      · exact h.good x hx
      · exact newSt_good _ _ _ _ _ _
  · rcases ho with ⟨_, _, _, rfl⟩ | ⟨_, _, _, _, rfl⟩ | ⟨_, h2, h3, _, xb, ib, im, ob, rfl⟩
    · exact h.supp
    · exact h.supp
    · intro x hx
      have hx' : x ∈ s.l ++ [s.newSt n xb ib im ob] := hx
      rw [List.mem_append, List.mem_singleton] at hx'
      rcases hx' with hx | rfl
      · exact h.supp x hx
      · rw [(newSt_zero _ _ _ _ _ _).2.2.2]; omega
theorem Ss.OK.names {K id c : Nat} {s s' : Ss} {may : Bool} {v : Value} (h : s.OK K) (hn : s.Names id may v c s') : s'.OK K := by
  refine ⟨hn.wf h.wf, ?_, hn.supp h.supp⟩
  cases hn with
  | made s' x n h1 hn hm hc hl hf hop hx hid =>
    obtain ⟨t, h1, _, h3⟩ := (hf.grew (Nat.mod_lt _ (by omega))).l
    intro y hy
    rw [h1, List.mem_append] at hy
    rcases hy with hy | hy
    · exact h.good y hy
    · rw [(h3 y hy).2.2.2.2.2.2]; exact newSt_good _ _ _ _ _ _
  | _ => exact h.good
theorem Ob.write_sent (o : Ob) (d : List UInt8) (fin : Bool) : (o.write d fin).sent = o.sent := by unfold Ob.write; split <;> rfl
theorem Ss.OK.writes {K id : Nat} {s s' : Ss} {D : List UInt8} {fin : Bool} {c : Int} (h : s.OK K) (hw : s.Writes id D fin c s') : s'.OK K := by
  cases hw with
  | none => exact h
  | arg => exact h
  | goes x b dv sv dv' sv' o hg ho =>
    have hx := (Ss.get_mem hg).1
    refine h.of_put hx rfl (h.wf.outs hx ho (Ob.write_sent _ _ _)) (fun b2 dv2 sv2 o2 e => ?_) (h.supp x hx)
    cases e
    exact (h.good x hx _ _ _ _ ho).write _ _
theorem Ss.OK.acks {K : Nat} {s s' : Ss} {f : Fr} (h : s.OK K) (hw : s.Acks f s') : s'.OK K := by
  cases hw with
  | no => exact h
  | goes x b dv sv dv' sv' o hg hk ho =>
    have hx := (Ss.get_mem hg).1
    refine h.of_put hx rfl (h.wf.outs hx ho rfl) (fun b2 dv2 sv2 o2 e => ?_) (h.supp x hx)
    cases e
    exact (h.good x hx _ _ _ _ ho).each ack_low ack_zero _ _ _
theorem Ss.OK.raised {K : Nat} {s : Ss} (h : s.OK K) (b : Bool) : ({ s with raise := b } : Ss).OK K := by
  have w := h.wf
  exact ⟨⟨w.side, w.own, w.other, w.ids, w.low, w.have_, w.inn, w.out, w.len, w.cnt, w.lim, w.came, w.sent, w.sentl, w.read, w.vals, w.rais⟩, h.good, h.supp⟩
theorem Ss.OK.loses {K : Nat} {s s' : Ss} {f : Fr} (h : s.OK K) (hw : s.Loses f s') : s'.OK K := by
  cases hw with
  | data => exact h.raised true
  | none => exact h
  | noOut => exact h
  | goes x b dv sv dv' sv' o hg hk ho =>
    have hx := (Ss.get_mem hg).1
    refine h.of_put hx rfl (h.wf.outs hx ho rfl) (fun b2 dv2 sv2 o2 e => ?_) (h.supp x hx)
    cases e
    exact (h.good x hx _ _ _ _ ho).each lose_low lose_zero _ _ _
  | raise x hg hk =>
    have hx := (Ss.get_mem hg).1
    exact h.of_put hx rfl (h.wf.cells (x' := { x with raise := x.inn.isSome }) hx rfl rfl rfl (h.wf.vals x hx).2 (fun e => e)) (h.good x hx) (h.supp x hx)
  | stop x hg hk =>
    have hx := (Ss.get_mem hg).1
    exact h.of_put hx rfl (h.wf.cells (x' := { x with stop := { x.stop with must := x.stop.told } }) hx rfl rfl rfl (h.wf.vals x hx).2 (h.wf.rais x hx)) (h.good x hx) (h.supp x hx)
  | reset x hg hk =>
    have hx := (Ss.get_mem hg).1
    exact h.of_put hx rfl (h.wf.cells (x' := { x with rst := { x.rst with must := x.rst.told } }) hx rfl rfl rfl (h.wf.vals x hx).2 (h.wf.rais x hx)) (h.good x hx) (h.supp x hx)
  | other => exact h
theorem Ob.resetNow_sent (o : Ob) : o.resetNow.sent = o.sent := by unfold Ob.resetNow; split <;> rfl
theorem Ss.OK.resetBy {K b code : Nat} {s : Ss} {x : St} {dv sv dv' sv' : Value} {o : Ob} (h : s.OK K) (hx : x ∈ s.l) (ho : x.out = some (b, dv, sv, o)) (hc : code ≤ 18446744073709551615) : (s.put (x.resetBy b dv' sv' o code)).OK K := by
  have hg := h.good x hx _ _ _ _ ho
  have hv := (h.wf.vals x hx).2
  have h1 := h.of_put hx (x' := x.withOut b dv' sv' o.resetNow) rfl (h.wf.outs hx ho (Ob.resetNow_sent o)) (fun b2 dv2 sv2 o2 e => by cases e; exact hg.resetNow) (h.supp x hx)
  unfold St.resetBy
  split
  · have hx1 : x.withOut b dv' sv' o.resetNow ∈ (s.put (x.withOut b dv' sv' o.resetNow)).l := Ss.put_mem hx rfl
    have hfin : o.resetAt ≤ 65536 := by
      have h2 := hg.wf.sent
      have h3 := hg.wf.size
      unfold Ob.resetAt
      split <;> omega
    have e := Ss.put_put s (x.withOut b dv' sv' o.resetNow) { x.withOut b dv' sv' o.resetNow with final := o.resetAt, rst := ⟨code, true, true⟩ } rfl
    show (s.put { x.withOut b dv' sv' o.resetNow with final := o.resetAt, rst := ⟨code, true, true⟩ }).OK K
    rw [← e]
    exact h1.of_put hx1 (x' := { x.withOut b dv' sv' o.resetNow with final := o.resetAt, rst := ⟨code, true, true⟩ }) rfl (h1.wf.cells hx1 rfl rfl rfl ⟨hv.1, hv.2.1, hc, hfin⟩ (h.wf.rais x hx)) (by intro b2 dv2 sv2 o2 e; exact h1.good _ hx1 b2 dv2 sv2 o2 e) (by have := h1.supp _ hx1; exact this)
  · exact h1
theorem Ss.OK.resets {K id code : Nat} {s s' : Ss} {c : Int} (h : s.OK K) (hw : s.Resets id code c s') : s'.OK K := by
  cases hw with
  | goes hc x b dv sv dv' sv' o hg ho => exact h.resetBy (Ss.get_mem hg).1 ho (by unfold mvar at hc; omega)
  | _ => exact h
theorem Ss.OK.stops {K id code : Nat} {s s' : Ss} {c : Int} (h : s.OK K) (hw : s.Stops id code c s') : s'.OK K := by
  cases hw with
  | goes hc x b m o hg ho hv =>
    have hx := (Ss.get_mem hg).1
    have hvs := (h.wf.vals x hx).2
    exact h.of_put hx rfl (h.wf.cells (x' := { x with stop := ⟨code, true, true⟩ }) hx rfl rfl rfl ⟨hvs.1, hc, hvs.2.2⟩ (h.wf.rais x hx)) (h.good x hx) (h.supp x hx)
  | _ => exact h
theorem Ss.OK.raiseOut {K b : Nat} {s : Ss} {x : St} {dv sv dv' sv' : Value} {o : Ob} (h : s.OK K) (hx : x ∈ s.l) (ho : x.out = some (b, dv, sv, o)) (l : Nat) : (s.put (x.withOut b dv' sv' (o.raise l))).OK K := by
  refine h.of_put hx rfl (h.wf.outs hx ho rfl) (fun b2 dv2 sv2 o2 e => ?_) (h.supp x hx)
  cases e
  exact (h.good x hx _ _ _ _ ho).raise _
/-- a list of streams that are the same but for their outboxes' limits -/
theorem Ss.OK.others {K : Nat} {s s' : Ss} {l : Lm} (h : s.OK K) (ho : s.Others l s') : s'.OK K := by
  have hpt : ∀ i (x : St), s.l[i]? = some x → ∃ y : St, s'.l[i]? = some y ∧ ∃ lim dv sv, y = x.raiseOut lim dv sv := fun i x hx => by
    obtain ⟨y, hy, hr⟩ := ho.each i x hx
    obtain ⟨dv, sv, e⟩ := hr.is
    exact ⟨y, hy, _, dv, sv, e⟩
  have hmap : ∀ {α : Type} (f : St → α), (∀ (x : St) lim dv sv, f (x.raiseOut lim dv sv) = f x) → s'.l.map f = s.l.map f := by
    intro α f hf
    apply List.ext_getElem?
    intro i
    rw [List.getElem?_map, List.getElem?_map]
    cases hx : s.l[i]? with
    | none =>
      have : s'.l[i]? = none := by rw [List.getElem?_eq_none_iff] at hx ⊢; rw [ho.len]; exact hx
      rw [this]
    | some x =>
      obtain ⟨y, hy, lim, dv, sv, rfl⟩ := hpt i x hx
      rw [hy]
      simp only [Option.map_some, hf]
  have hmem : ∀ y ∈ s'.l, ∃ x ∈ s.l, ∃ lim dv sv, y = x.raiseOut lim dv sv := by
    intro y hy
    obtain ⟨i, hi⟩ := List.mem_iff_getElem?.1 hy
    have hlt : i < s.l.length := by rw [← ho.len]; exact (List.getElem?_eq_some_iff.1 hi).1
    obtain ⟨y2, hy2, hr⟩ := hpt i s.l[i] (List.getElem?_eq_getElem hlt)
    rw [hi] at hy2
    cases hy2
    exact ⟨_, List.getElem_mem hlt, hr⟩
  have same : ∀ (x : St) lim dv sv, (x.raiseOut lim dv sv).id = x.id ∧ (x.raiseOut lim dv sv).inn = x.inn ∧ (x.raiseOut lim dv sv).out.isSome = x.out.isSome ∧ (x.raiseOut lim dv sv).sent = x.sent ∧ (x.raiseOut lim dv sv).first = x.first ∧ (x.raiseOut lim dv sv).stop = x.stop ∧ (x.raiseOut lim dv sv).rst = x.rst ∧ (x.raiseOut lim dv sv).final = x.final ∧ (x.raiseOut lim dv sv).raise = x.raise := by
    intro x lim dv sv
    unfold St.raiseOut
    cases hx : x.out with
    | none => exact ⟨rfl, rfl, by rw [hx], rfl, rfl, rfl, rfl, rfl, rfl⟩
    | some p => exact ⟨rfl, rfl, rfl, by unfold St.sent; rw [hx]; rfl, rfl, rfl, rfl, rfl, rfl⟩
  have htop : ∀ (x : St) lim dv sv, (x.raiseOut lim dv sv).top = x.top := fun x lim dv sv => by unfold St.top; rw [(same x lim dv sv).2.1]
  have htak : ∀ (x : St) lim dv sv, (x.raiseOut lim dv sv).taken = x.taken := fun x lim dv sv => by unfold St.taken; rw [(same x lim dv sv).2.1]
  have hsup : ∀ (x : St) lim dv sv, (x.raiseOut lim dv sv).supp = x.supp := fun x lim dv sv => by unfold St.supp; rw [(same x lim dv sv).2.1]
  have hids := hmap St.id (fun x lim dv sv => (same x lim dv sv).1)
  have w := h.wf
  refine ⟨?_, ?_, ?_⟩
  · have hop : ∀ k, s'.op k = s.op k := fun k => by rw [ho.eq]; rfl
    have htk : ∀ k, s'.takes k = s.takes k := fun k => by rw [ho.eq]; rfl
    have hse : ∀ k, s'.sends k = s.sends k := fun k => by rw [ho.eq]; rfl
    refine ⟨?_, ?_, ?_, ?_, ?_, ?_, ?_, ?_, ?_, ?_, ?_, ?_, ?_, ?_, ?_, ?_, ?_⟩
    · rw [ho.eq]; exact w.side
    · rw [ho.eq]; exact w.own
    · rw [ho.eq]; exact w.other.more (Lm.WF.capped l)
    · rw [hids]; exact w.ids
    · intro y hy
      obtain ⟨x, hx, lim, dv, sv, rfl⟩ := hmem y hy
      rw [hop, (same x lim dv sv).1]; exact w.low x hx
    · intro k j hk hj
      rw [hop] at hj
      obtain ⟨x, hx, e⟩ := w.have_ k j hk hj
      have : x.id ∈ s'.l.map St.id := by rw [hids]; exact List.mem_map.2 ⟨x, hx, rfl⟩
      obtain ⟨y, hy, e2⟩ := List.mem_map.1 this
      exact ⟨y, hy, e2.trans e⟩
    · intro y hy
      obtain ⟨x, hx, lim, dv, sv, rfl⟩ := hmem y hy
      rw [htk, (same x lim dv sv).1, (same x lim dv sv).2.1]; exact w.inn x hx
    · intro y hy
      obtain ⟨x, hx, lim, dv, sv, rfl⟩ := hmem y hy
      rw [hse, (same x lim dv sv).1, (same x lim dv sv).2.2.1]; exact w.out x hx
    · rw [ho.len]; exact w.len
    · rw [ho.len, ho.eq]; exact w.cnt
    · rw [ho.eq]; exact w.lim
    · unfold Ss.came
      rw [hmap St.top htop, ho.eq]; exact w.came
    · rw [hmap St.sent (fun x lim dv sv => (same x lim dv sv).2.2.2.1), ho.eq]; exact w.sent
    · rw [ho.eq]; exact Nat.le_trans w.sentl (Nat.le_max_left _ _)
    · rw [hmap St.taken htak, ho.eq]; exact w.read
    · intro y hy
      obtain ⟨x, hx, lim, dv, sv, rfl⟩ := hmem y hy
      obtain ⟨e1, _, _, _, e5, e6, e7, e8, _⟩ := same x lim dv sv
      rw [e1, e5, e6, e7, e8]; exact w.vals x hx
    · intro y hy hr
      obtain ⟨x, hx, lim, dv, sv, rfl⟩ := hmem y hy
      rw [(same x lim dv sv).2.1]
      exact w.rais x hx ((same x lim dv sv).2.2.2.2.2.2.2.2 ▸ hr)
  · intro y hy b dv1 sv1 o1 e
    obtain ⟨x, hx, lim, dv, sv, rfl⟩ := hmem y hy
    unfold St.raiseOut at e
    cases hxo : x.out with
    | none => rw [hxo] at e; simp only [hxo] at e; cases e
    | some p =>
      obtain ⟨b2, dv2, sv2, o2⟩ := p
      rw [hxo] at e
      cases e
      exact (h.good x hx _ _ _ _ hxo).raise _
  · intro y hy
    obtain ⟨x, hx, lim, dv, sv, rfl⟩ := hmem y hy
    rw [hsup]; exact h.supp x hx
theorem Ss.OK.nexts {K : Nat} {most : Int} {s s' : Ss} {ids : List Int} {f : Fr} {is : Bool} (hn : Ss.Nexts most s ids f is s') : s.OK K → s'.OK K := by
  induction hn with
  | none s => exact fun h => h
  | ctl x ids hx h => exact fun hk => hk.ctl hx
  | piece x ids hx h hp => exact fun hk => (hk.ctl hx).piece (Ss.put_mem hx x.ctlSt_same.1) hp
  | more x hx h hp hn ih => exact fun hk => ih ((hk.ctl hx).piece (Ss.put_mem hx x.ctlSt_same.1) hp)
theorem Ss.OK.nextOf {K : Nat} {most : Int} {s s' : Ss} {f : Fr} {is : Bool} (h : s.OK K) (hn : s.NextOf most f is s') : s'.OK K := by
  cases hn with
  | data hr => exact h.raised false
  | ids hr ss hu hn => exact Ss.OK.nexts hn h
/-- an inbox that bytes came to: how far -/
theorem Put.top {o o' : Ib} {a : Nat} {D : List UInt8} {fin : Bool} (hp : Put o a D fin o') (h : o.WF) (h0 : o.putErr a D.length fin = 0) : o'.top ≤ max (a + D.length) o.top ∧ o'.taken = o.taken ∧ a + D.length ≤ o.limit := by
  have ha : ¬ 4611686018427387903 < a := fun hlt => by unfold Ib.putErr at h0; rw [if_pos hlt] at h0; cases h0
  have h1 : o.fitErr (a + D.length) fin = 0 := by unfold Ib.putErr at h0; rw [if_neg ha] at h0; exact h0
  obtain ⟨h2, h3, h4⟩ := Ib.fitErr_zero h1
  have key : ∀ {q : Ib}, q.far = (o.came (a + D.length) fin).far → q.final = (o.came (a + D.length) fin).final → q.known = (o.came (a + D.length) fin).known → q.taken = o.taken → q.top ≤ max (a + D.length) o.top ∧ q.taken = o.taken ∧ a + D.length ≤ o.limit := by
    intro q e1 e2 e3 e4
    refine ⟨?_, e4, h2⟩
    unfold Ib.top
    rw [e1, e2, e3]
    unfold Ib.came
    simp only
    cases hk : o.known with
    | true =>
      have := h3 hk
      cases fin with
      | true => have := this.2 rfl; simp; omega
      | false => simp; omega
    | false =>
      cases fin with
      | true => simp; omega
      | false => simp; omega
  cases hr : o.reset with
  | true => rw [hp.old h0 hr]; exact key rfl rfl rfl rfl
  | false => rw [(hp.new h0 hr).1]; exact key rfl rfl rfl rfl
theorem Put.suppLen {o o' : Ib} {a : Nat} {D : List UInt8} {fin : Bool} (hp : Put o a D fin o') : o'.supp.length ≤ o.supp.length + D.length := by
  by_cases h0 : o.putErr a D.length fin = 0
  · cases hr : o.reset with
    | true => rw [hp.old h0 hr]; show o.supp.length ≤ _; omega
    | false => rw [(hp.new h0 hr).1]; show (o.supp ++ _).length ≤ _; rw [List.length_append, List.length_range']; omega
  · rw [hp.bad h0]; omega
theorem Ib.resetTo_top {o : Ib} (h : o.WF) (fin : Nat) : (o.resetTo fin).taken = o.taken ∧ (o.resetTo fin).supp = o.supp ∧ (o.resetErr fin = 0 → (o.resetTo fin).top = fin ∧ o.top ≤ fin ∧ fin ≤ o.limit) ∧ (o.resetErr fin ≠ 0 → (o.resetTo fin) = o) := by
  unfold Ib.resetTo
  by_cases h0 : o.resetErr fin = 0
  · rw [if_pos h0]
    obtain ⟨h1, h2, h3⟩ := Ib.resetErr_zero h0
    have ht : o.top ≤ fin := by
      unfold Ib.top
      split
      · have := h2 (by assumption); omega
      · exact h3
    split
    · exact ⟨rfl, rfl, fun _ => ⟨rfl, ht, h1⟩, fun hn => absurd h0 hn⟩
    · exact ⟨rfl, rfl, fun _ => ⟨rfl, ht, h1⟩, fun hn => absurd h0 hn⟩
  · rw [if_neg h0]
    exact ⟨rfl, rfl, fun h => absurd h h0, fun _ => rfl⟩
/-- an inbox turned -/
theorem Ss.OK.inns {K K' : Nat} {s : Ss} (h : s.OK K) (hk : K ≤ K') {x : St} (hx : x ∈ s.l) {b m m' : Nat} {o o' : Ib} (hi : x.inn = some (b, m, o)) (hc : s.came + o'.top ≤ s.limit + o.top) (ht : o'.taken = o.taken) (hs : o'.supp.length ≤ K') : (s.put (x.withIn b m' o')).OK K' := by
  have h1 : x.top = o.top := by unfold St.top; rw [hi]
  have h3 : x.taken = o.taken := by unfold St.taken; rw [hi]
  have hv := h.wf.vals x hx
  refine (h.mono hk).of_put hx (x' := x.withIn b m' o') rfl ?_ (h.good x hx) hs
  refine h.wf.put (x' := x.withIn b m' o') (limit := s.limit) (sent := s.sent) (read := s.read) (raise := s.raise) hx rfl (by rw [hi]; try rfl) rfl hv.2 (fun _ => rfl) h.wf.lim ?_ rfl h.wf.sentl ?_
  · rw [h1]; exact hc
  · rw [h3]; show s.read + o.taken = s.read + o'.taken; rw [ht]
theorem Ss.beyond_no {s : Ss} (h : s.WF) {x : St} (hx : x ∈ s.l) {e : Nat} (hb : s.beyondB x e = false) (he : e ≤ 4611686018427387903) : s.came + max e x.top ≤ s.limit + x.top := by
  unfold Ss.beyondB at hb
  have h1 := of_decide_eq_false hb
  have h2 := St.top_le hx
  have h3 := h.came
  have h4 := h.lim
  unfold mvar at h4
  rw [Nat.mod_eq_of_lt (by omega)] at h1
  omega
theorem Ss.OK.comes {K : Nat} {s s' : Ss} {f : Fr} {r : Int} (h : s.OK K) (hI : ∀ s1 v c, s.Names f.a (s.takes f.a) v c s1 → ∀ x ∈ s1.l, ∀ b m o, x.inn = some (b, m, o) → o.WF) (hc : s.Comes f r s') : s'.OK (K + f.data.size) := by
  cases hc with
  | names v c s' hn hc => exact (h.names hn).mono (by omega)
  | beyond s' x hn => exact (h.names hn).mono (by omega)
  | reset s1 x b m m' o hn hx hid hb hi hk =>
    have hok := h.names hn
    have hw := hI _ _ _ hn x hx _ _ _ hi
    obtain ⟨h1, h2, h3, h4⟩ := Ib.resetTo_top hw f.c
    have hxt : x.top = o.top := by unfold St.top; rw [hi]
    have hsl : o.supp.length ≤ K := by have := hok.supp x hx; unfold St.supp at this; rw [hi] at this; exact this
    refine hok.inns (by omega) hx hi ?_ h1 (by rw [h2]; omega)
    by_cases h0 : o.resetErr f.c = 0
    · obtain ⟨e1, e2, e3⟩ := h3 h0
      have hlim := hw.lim
      have hee : f.endOf = f.c := by unfold Fr.endOf; rw [if_pos hk]
      have := Ss.beyond_no hok.wf hx hb (by rw [hee]; omega)
      rw [hee, hxt] at this
      rw [e1]; omega
    · rw [h4 h0]; have := hok.wf.came; omega
  | put s1 x b m m' o o' hn hx hid hb hi hk hp =>
    have hok := h.names hn
    have hw := hI _ _ _ hn x hx _ _ _ hi
    have hxt : x.top = o.top := by unfold St.top; rw [hi]
    have hsl : o.supp.length ≤ K := by have := hok.supp x hx; unfold St.supp at this; rw [hi] at this; exact this
    have hdl : f.data.data.toList.length = f.data.size := Array.length_toList
    have hsp := hp.suppLen
    rw [hdl] at hsp
    by_cases h0 : o.putErr f.b f.data.data.toList.length f.fin = 0
    · obtain ⟨e1, e2, e3⟩ := hp.top hw h0
      rw [hdl] at e1 e3
      have hlim := hw.lim
      have hee : f.endOf = f.b + f.data.size := by unfold Fr.endOf; rw [if_neg hk, Nat.min_eq_left (by omega)]
      have := Ss.beyond_no hok.wf hx hb (by rw [hee]; omega)
      rw [hee, hxt] at this
      exact hok.inns (by omega) hx hi (by omega) e2 (by omega)
    · have e := hp.bad h0
      rw [e]
      exact hok.inns (by omega) hx hi (by have := hok.wf.came; omega) rfl (by omega)
theorem Ss.OK.gots {K : Nat} {s s' : Ss} {f : Fr} {r : Int} (h : s.OK K) (hb : f.b ≤ 18446744073709551615) (hI : ∀ s1 v c, s.Names f.a (s.takes f.a) v c s1 → ∀ x ∈ s1.l, ∀ b m o, x.inn = some (b, m, o) → o.WF) (hc : s.Gots f r s') : s'.OK (K + f.data.size) := by
  cases hc with
  | comes r s' hk hc => exact h.comes hI hc
  | stopBad v c s' hk hn hc => exact (h.names hn).mono (by omega)
  | stop s' x b dv sv dv' sv' o hk hn hx hid ho => exact ((h.names hn).resetBy hx ho hb).mono (by omega)
  | raiseBad v c s' hk hn hc => exact (h.names hn).mono (by omega)
  | raise s' x b dv sv dv' sv' o hk hn hx hid ho => exact ((h.names hn).raiseOut hx ho _).mono (by omega)
  | blocked v c s' hk hn => exact (h.names hn).mono (by omega)
  | data s' hk ho => exact (h.others ho).mono (by omega)
  | bidis s' hk ho => exact (h.others ho).mono (by omega)
  | unis s' hk ho => exact (h.others ho).mono (by omega)
  | idle hk => exact h.mono (by omega)
  | bad hk => exact h.mono (by omega)
/-- how much is read -/
theorem Ib.read_taken {o : Ib} (h : o.WF) (most : Int) : (o.read most).taken = o.taken + (o.readS most).length ∧ (o.read most).top = o.top ∧ (o.read most).supp = o.supp := by
  unfold Ib.read Ib.readS
  cases hr : o.reset with
  | true => exact ⟨rfl, rfl, rfl⟩
  | false =>
    refine ⟨?_, rfl, rfl⟩
    simp only [Bool.false_eq_true, if_false]
    rw [run_length]
    omega
theorem Ss.OK.reads {K id : Nat} {most : Int} {s s' : Ss} {t : ByteArray} {d : Bool} {c : Int} (h : s.OK K) (hI : ∀ x ∈ s.l, ∀ b m o, x.inn = some (b, m, o) → o.WF) (hrc : s.read ≤ s.came) (hw : s.Reads id most t d c s') : s'.OK K := by
  cases hw with
  | none => exact h
  | arg => exact h
  | goes x b m m' o hg hi =>
    have hx := (Ss.get_mem hg).1
    obtain ⟨e1, e2, e3⟩ := Ib.read_taken (hI x hx _ _ _ hi) most
    have hxt : x.top = o.top := by unfold St.top; rw [hi]
    have hxk : x.taken = o.taken := by unfold St.taken; rw [hi]
    have hsl : o.supp.length ≤ K := by have := h.supp x hx; unfold St.supp at this; rw [hi] at this; exact this
    have hv := h.wf.vals x hx
    have hcl := h.wf.came
    have hll := h.wf.lim
    have hid : (x.readTo b m' (o.read most)).id = x.id := by unfold St.readTo; split <;> rfl
    have hin : (x.readTo b m' (o.read most)).inn.isSome = true := by unfold St.readTo; split <;> rfl
    have hout : (x.readTo b m' (o.read most)).out = x.out := by unfold St.readTo; split <;> rfl
    have hvv : (x.readTo b m' (o.read most)).first ≤ mvar ∧ (x.readTo b m' (o.read most)).stop.code ≤ mvar ∧ (x.readTo b m' (o.read most)).rst.code ≤ 18446744073709551615 ∧ (x.readTo b m' (o.read most)).final ≤ 65536 := by unfold St.readTo; split <;> exact hv.2
    have htop : (x.readTo b m' (o.read most)).top = o.top := by unfold St.readTo; split <;> exact e2
    have htak : (x.readTo b m' (o.read most)).taken = o.taken + (o.readS most).length := by unfold St.readTo; split <;> exact e1
    have hsup : (x.readTo b m' (o.read most)).supp = o.supp.length := by
      unfold St.readTo
      split
      · show (o.read most).supp.length = _; rw [e3]
      · show (o.read most).supp.length = _; rw [e3]
    have hsen : (x.readTo b m' (o.read most)).sent = x.sent := by unfold St.sent; rw [hout]
    have hg2 : ∀ b2 dv sv o2, (x.readTo b m' (o.read most)).out = some (b2, dv, sv, o2) → o2.Good := by rw [hout]; exact h.good x hx
    unfold Ss.readsTo
    split
    · next hlt =>
      refine h.of_put hx rfl ?_ hg2 (by rw [hsup]; exact hsl)
      refine h.wf.put (limit := min (s.read + (o.readS most).length + s.own.data) mvar) (sent := s.sent) (read := s.read + (o.readS most).length) (raise := true) hx hid (by rw [hin, hi]; rfl) (by rw [hout]) hvv (fun _ => hin) (Nat.min_le_right _ _) ?_ (by rw [hsen]) h.wf.sentl (by rw [htak, hxk]; omega)
      rw [htop, hxt]
      have : s.limit ≤ min (s.read + (o.readS most).length + s.own.data) mvar := by
        rw [Nat.le_min]
        omega
      omega
    · refine h.of_put hx rfl ?_ hg2 (by rw [hsup]; exact hsl)
      exact h.wf.put (limit := s.limit) (sent := s.sent) (read := s.read + (o.readS most).length) (raise := s.raise) hx hid (by rw [hin, hi]; rfl) (by rw [hout]) hvv (fun _ => hin) h.wf.lim (by rw [htop, hxt]; omega) (by rw [hsen]) h.wf.sentl (by rw [htak, hxk]; omega)
end Go.Proofs.YtjdfemfobcjecaaGreat

/-
  inbox, plain: what stands next is among what came.
-/
namespace Go.Proofs.YtjdfemfobcjecaaGreat
open Go.RowKit
theorem Ib.readyLe {o : Ib} (h : o.WF) : o.ready - o.taken ≤ o.supp.length := by
  have hn : ((List.range' o.taken (o.ready - o.taken)).map Int.ofNat).Nodup := by
    rw [List.nodup_iff_pairwise_ne, List.pairwise_map]
    exact (List.nodup_range' (step := 1)).imp fun hne e => hne (Int.ofNat.inj e)
  have := nodup_le _ (o.supp.map Int.ofNat) hn (fun x hx => by
    obtain ⟨k, hk, rfl⟩ := List.mem_map.1 hx
    rw [List.mem_range'_1] at hk
    exact List.mem_map.2 ⟨k, h.supp k (h.fill k (by omega)), rfl⟩)
  simpa using this
end Go.Proofs.YtjdfemfobcjecaaGreat

/-
  streams: a set that the statement made, and each of its calls.
-/
namespace Go.Proofs.YtjdfemfobcjecaaGreat
open Go.RowKit Go.Sort
set_option linter.unusedVariables false
set_option linter.unusedSimpArgs false
/-- a set that was made since W, of which W knows nothing -/
structure Own (K : Nat) (W w : World) (sb : Nat) (s : Ss) : Prop where
  box : SBox w sb s
  mod : Mod [] W w
  new : ∀ k ∈ s.foot sb, W.heap.size ≤ k
  ok : s.OK K
theorem Own.step {K K' : Nat} {W w w' : World} {sb : Nat} {s s' : Ss} (h : Own K W w sb s) (hst : SStep w sb s s' w') (hok : s'.OK K') : Own K' W w' sb s' :=
  ⟨hst.1, h.mod.trans hst.2.1 (fun k hk => .inr (h.new k hk)), fun k hk => (hst.2.2 k hk).elim (h.new k) (fun h2 => Nat.le_trans h.mod.size h2), hok⟩
theorem Own.next {K : Nat} {W w w' : World} {sb : Nat} {s : Ss} (h : Own K W w sb s) (m : Mod [] w w') : Own K W w' sb s :=
  ⟨h.box.new m, h.mod.trans m (by simp), h.new, h.ok⟩
theorem Own.mono {K K' : Nat} {W w : World} {sb : Nat} {s : Ss} (h : Own K W w sb s) (hk : K ≤ K') : Own K' W w sb s := ⟨h.box, h.mod, h.new, h.ok.mono hk⟩
theorem Own.ib {K : Nat} {W w : World} {sb : Nat} {s : Ss} (h : Own K W w sb s) : ∀ x ∈ s.l, ∀ b m o, x.inn = some (b, m, o) → o.WF := fun x hx b m o e => ((h.box.all x hx).inn b m o e).wf
theorem newSt_ib (s : Ss) (id xb ib im ob : Nat) : ∀ b m o, (s.newSt id xb ib im ob).inn = some (b, m, o) → o.WF := by
  intro b m o h
  unfold Ss.newSt at h
  simp only at h
  split at h
  · cases h; exact Ib.WF.fresh _
  · cases h
theorem Ss.Names.ib {s s' : Ss} {id c : Nat} {may : Bool} {v : Value} (h : s.Names id may v c s') (hb : ∀ x ∈ s.l, ∀ b m o, x.inn = some (b, m, o) → o.WF) : ∀ x ∈ s'.l, ∀ b m o, x.inn = some (b, m, o) → o.WF := by
  cases h with
  | made s' x n h1 hn hm hc hl hf hop hx hid =>
    obtain ⟨t, h1, _, h3⟩ := (hf.grew (Nat.mod_lt _ (by omega))).l
    intro y hy
    rw [h1, List.mem_append] at hy
    rcases hy with hy | hy
    · exact hb y hy
    · rw [(h3 y hy).2.2.2.2.2.2]; exact newSt_ib _ _ _ _ _ _
  | _ => exact hb
theorem Ss.OK.fresh (mb : Nat) (side : Int) (own other : Lm) : (Ss.fresh mb side own other).OK 0 := by
  refine ⟨⟨?_, Lm.WF.capped _, Lm.WF.capped _, by simp [Ss.fresh], by simp [Ss.fresh], ?_, by simp [Ss.fresh], by simp [Ss.fresh], by simp [Ss.fresh], by simp [Ss.fresh], (Lm.WF.capped own).data, by simp [Ss.fresh, Ss.came], by simp [Ss.fresh], by simp [Ss.fresh], by simp [Ss.fresh], by simp [Ss.fresh], by simp [Ss.fresh]⟩, by simp [Ss.fresh], by simp [Ss.fresh]⟩
  · show (if side = 1 then 1 else 0) ≤ 1
    split <;> omega
  · intro k j hk hj
    have : (Ss.fresh mb side own other).op k = 0 := by unfold Ss.op Ss.fresh; simp
    omega
section
variable {K : Nat} {W w : World} {sb : Nat} {s : Ss}
theorem kindOf_lt (h : s.WF) (uni : Bool) : kindOf s uni < 4 := by have := h.side; unfold kindOf; split <;> omega
theorem own_new (w : World) (side : Int) (own other : Lm) : Calls Tryz.prog 9 #[.int .i64 side, own.val, other.val] w fun e w' => ∃ sb mb, e = .returned (.pointer (some ⟨sb, 0, none⟩)) ∧ Own 0 w w' sb (Ss.fresh mb side own other) :=
  (stnew_any w side own other).mono fun e w' ⟨sb, mb, he, hb, hm, h1, h2⟩ => ⟨sb, mb, he, hb, hm, (fun k hk => by
    rcases Ss.mem_foot.1 hk with rfl | rfl | ⟨x, hx, _⟩
    · exact h1
    · exact h2
    · cases hx), Ss.OK.fresh _ _ _ _⟩
theorem own_open (h : Own K W w sb s) (uni : Bool) : Calls Tryz.prog 12 #[.pointer (some ⟨sb, 0, none⟩), .bool uni] w fun e w' => ∃ n c s', e = .returned (.tuple #[.int .u64 (n : Nat), .int .i64 (c : Nat)]) ∧ s.Opens (kindOf s uni) n c s' ∧ SStep w sb s s' w' ∧ Own K W w' sb s' :=
  (stopen_any w sb s h.box h.ok.wf uni).mono fun e w' ⟨n, c, s', he, ho, hst⟩ => ⟨n, c, s', he, ho, hst, h.step hst (h.ok.opens (kindOf_lt h.ok.wf uni) ho)⟩
theorem own_write (h : Own K W w sb s) (id : Nat) (t : ByteArray) (ht : t.size ≤ 9223372036854700000) (fin : Bool) : Calls Tryz.prog 13 #[.pointer (some ⟨sb, 0, none⟩), .int .u64 (id : Int), .string t, .bool fin] w fun e w' => ∃ c s', e = .returned (.int .i64 c) ∧ s.Writes id t.data.toList fin c s' ∧ SStep w sb s s' w' ∧ Own K W w' sb s' :=
  (stwrite_any w sb s h.box h.ok.wf id t ht fin).mono fun e w' ⟨c, s', he, ho, hst⟩ => ⟨c, s', he, ho, hst, h.step hst (h.ok.writes ho)⟩
theorem own_read (h : Own K W w sb s) (hk : K ≤ 65000) (id : Nat) (most : Int) : Calls Tryz.prog 22 #[.pointer (some ⟨sb, 0, none⟩), .int .u64 (id : Int), .int .i64 most] w fun e w' => ∃ t d c s', e = .returned (.tuple #[.string t, .bool d, .int .i64 c]) ∧ s.Reads id most t d c s' ∧ SStep w sb s s' w' ∧ Own K W w' sb s' :=
  (stread_any w sb s h.box h.ok.wf (fun x hx b m o e => by
    have h1 := Ib.readyLe (h.ib x hx b m o e)
    have h2 := h.ok.supp x hx
    unfold St.supp at h2
    rw [e] at h2
    have h3 : o.supp.length ≤ K := h2
    omega) id most).mono fun e w' ⟨t, d, c, s', he, ho, hst⟩ => ⟨t, d, c, s', he, ho, hst, h.step hst (h.ok.reads h.ib (Ss.read_le h.box h.ok.wf) ho)⟩
theorem own_reset (h : Own K W w sb s) (id code : Nat) : Calls Tryz.prog 41 #[.pointer (some ⟨sb, 0, none⟩), .int .u64 (id : Int), .int .u64 (code : Int)] w fun e w' => ∃ c s', e = .returned (.int .i64 c) ∧ s.Resets id code c s' ∧ SStep w sb s s' w' ∧ Own K W w' sb s' :=
  (streset_any w sb s h.box h.ok.wf id code).mono fun e w' ⟨c, s', he, ho, hst⟩ => ⟨c, s', he, ho, hst, h.step hst (h.ok.resets ho)⟩
theorem own_stop (h : Own K W w sb s) (id code : Nat) : Calls Tryz.prog 42 #[.pointer (some ⟨sb, 0, none⟩), .int .u64 (id : Int), .int .u64 (code : Int)] w fun e w' => ∃ c s', e = .returned (.int .i64 c) ∧ s.Stops id code c s' ∧ SStep w sb s s' w' ∧ Own K W w' sb s' :=
  (ststop_any w sb s h.box h.ok.wf id code).mono fun e w' ⟨c, s', he, ho, hst⟩ => ⟨c, s', he, ho, hst, h.step hst (h.ok.stops ho)⟩
theorem own_got (h : Own K W w sb s) (hK : K ≤ 65000) (A : Option Addr) (n c : Nat) (f : Fr) (hk : f.kind ≤ 18446744073709551615) (ha : f.a ≤ 18446744073709551615) (hb : f.b ≤ 18446744073709551615) (hc : f.c ≤ 18446744073709551615) (hd : f.data.size ≤ 65536) : Calls Tryz.prog 11 #[.pointer (some ⟨sb, 0, none⟩), fval A n c f] w fun e w' => ∃ r s', e = .returned (.int .i64 r) ∧ s.Gots f r s' ∧ SStep w sb s s' w' ∧ Own (K + f.data.size) W w' sb s' :=
  (stgot_any w sb s h.box h.ok.wf (fun x hx => Nat.le_trans (h.ok.supp x hx) hK) A n c f hk ha hb hc hd).mono fun e w' ⟨r, s', he, ho, hst⟩ => ⟨r, s', he, ho, hst, h.step hst (h.ok.gots hb (fun s1 v c hn => hn.ib h.ib) ho)⟩
theorem own_next (h : Own K W w sb s) (most : Int) (h1 : -9223372036854775808 ≤ most) (h2 : most ≤ 9223372036854775807) : Calls Tryz.prog 14 #[.pointer (some ⟨sb, 0, none⟩), .int .i64 most] w fun e w' => ∃ f is s', e = .returned (.tuple #[fval none 0 0 f, .bool is]) ∧ s.NextOf most f is s' ∧ SStep w sb s s' w' ∧ Own K W w' sb s' :=
  (stnext_any K w sb s h.box h.ok most h1 h2).mono fun e w' ⟨f, is, s', he, ho, hst⟩ => ⟨f, is, s', he, ho, hst, h.step hst (h.ok.nextOf ho)⟩
theorem own_acked (h : Own K W w sb s) (A : Option Addr) (n c : Nat) (f : Fr) (hk : f.kind ≤ 18446744073709551615) (ha : f.a ≤ 18446744073709551615) (hb : f.b ≤ 18446744073709551615) (hd : f.data.size ≤ maxLen) : Calls Tryz.prog 21 #[.pointer (some ⟨sb, 0, none⟩), fval A n c f] w fun e w' => ∃ s', e = .returned (.tuple #[]) ∧ s.Acks f s' ∧ SStep w sb s s' w' ∧ Own K W w' sb s' :=
  (stacked_any w sb s h.box h.ok.wf A n c f hk ha hb hd).mono fun e w' ⟨s', he, ho, hst⟩ => ⟨s', he, ho, hst, h.step hst (h.ok.acks ho)⟩
theorem own_lost (h : Own K W w sb s) (A : Option Addr) (n c : Nat) (f : Fr) (hk : f.kind ≤ 18446744073709551615) (ha : f.a ≤ 18446744073709551615) (hb : f.b ≤ 18446744073709551615) (hd : f.data.size ≤ maxLen) : Calls Tryz.prog 16 #[.pointer (some ⟨sb, 0, none⟩), fval A n c f] w fun e w' => ∃ s', e = .returned (.tuple #[]) ∧ s.Loses f s' ∧ SStep w sb s s' w' ∧ Own K W w' sb s' :=
  (stlost_any w sb s h.box h.ok.wf A n c f hk ha hb hd).mono fun e w' ⟨s', he, ho, hst⟩ => ⟨s', he, ho, hst, h.step hst (h.ok.loses ho)⟩
theorem own_other (h : Own K W w sb s) (l : Lm) : Calls Tryz.prog 34 #[.pointer (some ⟨sb, 0, none⟩), l.val] w fun e w' => ∃ s', e = .returned (.tuple #[]) ∧ s.Others l s' ∧ SStep w sb s s' w' ∧ Own K W w' sb s' :=
  (stother_any w sb s h.box h.ok.wf l).mono fun e w' ⟨s', he, ho, hst⟩ => ⟨s', he, ho, hst, h.step hst (h.ok.others ho)⟩
theorem own_ids (h : Own K W w sb s) : Calls Tryz.prog 10 #[.pointer (some ⟨sb, 0, none⟩)] w fun e w' => ∃ (v : Value) (ss : List Int), e = .returned v ∧ s.Up ss ∧ w'.ownsRow w.heap.size 22 1 v ss.length (ss.map U) ∧ Mod [] w w' ∧ Own K W w' sb s :=
  (stids_any w sb s h.box h.ok.wf).mono fun e w' ⟨v, ss, he, hu, hr, hm⟩ => ⟨v, ss, he, hu, hr, hm, h.next hm⟩
theorem own_sums (h : Own K W w sb s) : Calls Tryz.prog 19 #[.pointer (some ⟨sb, 0, none⟩)] w fun e w' => e = .returned (.tuple #[.int .u64 (s.sent : Int), .int .u64 (s.came : Int), .int .u64 (s.read : Int)]) ∧ Mod [] w w' ∧ Own K W w' sb s :=
  (stsums_any w sb s h.box h.ok.wf).mono fun e w' ⟨he, hm⟩ => ⟨he, hm, h.next hm⟩
theorem own_done (h : Own K W w sb s) (id : Nat) : Calls Tryz.prog 23 #[.pointer (some ⟨sb, 0, none⟩), .int .u64 (id : Int)] w fun e w' => e = .returned (.bool (s.doneOf id)) ∧ Mod [] w w' ∧ Own K W w' sb s :=
  (stdone_any w sb s h.box h.ok.wf id).mono fun e w' ⟨he, hm⟩ => ⟨he, hm, h.next hm⟩
theorem own_ready (h : Own K W w sb s) (id : Nat) : Calls Tryz.prog 24 #[.pointer (some ⟨sb, 0, none⟩), .int .u64 (id : Int)] w fun e w' => e = .returned (.int .i64 (s.readyOf id : Int)) ∧ Mod [] w w' ∧ Own K W w' sb s :=
  (stready_any w sb s h.box h.ok.wf id).mono fun e w' ⟨he, hm⟩ => ⟨he, hm, h.next hm⟩
end
end Go.Proofs.YtjdfemfobcjecaaGreat

/-
  streams, plain: what the calls of awake come to.
-/
namespace Go.Proofs.YtjdfemfobcjecaaGreat
open Go.RowKit
set_option linter.unusedVariables false
set_option linter.unusedSimpArgs false
/-- two lists that rise and hold the same are the same -/
theorem rise_unique : ∀ {a b : List Int}, a.Pairwise (· < ·) → b.Pairwise (· < ·) → (∀ x, x ∈ a ↔ x ∈ b) → a = b
  | [], [], _, _, _ => rfl
  | [], y :: b, _, _, h => by have := (h y).2 (by simp); cases this
  | x :: a, [], _, _, h => by have := (h x).1 (by simp); cases this
  | x :: a, y :: b, ha, hb, h => by
    rw [List.pairwise_cons] at ha hb
    have hxy : x = y := by
      rcases List.mem_cons.1 ((h x).1 (by simp)) with e | e
      · exact e
      · rcases List.mem_cons.1 ((h y).2 (by simp)) with e2 | e2
        · exact e2.symm
        · have h1 := hb.1 x e
          have h2 := ha.1 y e2
          omega
    subst hxy
    congr 1
    refine rise_unique ha.2 hb.2 fun z => ?_
    have := h z
    simp only [List.mem_cons] at this
    constructor
    · intro hz
      rcases this.1 (.inr hz) with e | e
      · have := ha.1 z hz; omega
      · exact e
    · intro hz
      rcases this.2 (.inr hz) with e | e
      · have := hb.1 z hz; omega
      · exact e
def lmS : Lm := ⟨100, 40, 30, 20, 3, 2⟩
theorem lmS_capped : lmS.capped = lmS := rfl
def aw (mb : Nat) (l : List St) (o0 o1 o2 sent read : Nat) : Ss := ⟨mb, 0, lmS, lmS, l, o0, o1, o2, 0, 100, false, sent, read⟩
def aS0 (xb ib im ob : Nat) (dv sv : Value) (o : Ob) : St := ⟨xb, 0, some (ib, im, Ib.fresh 40), some (ob, dv, sv, o), 40, false, nd0, nd0, 0⟩
def aS2 (xb ob : Nat) (dv sv : Value) : St := ⟨xb, 2, none, some (ob, dv, sv, ⟨20, [], [], 0, false, false⟩), 0, false, nd0, nd0, 0⟩
def aS1 (xb ib im ob : Nat) (o : Ib) : St := ⟨xb, 1, some (ib, im, o), some (ob, .slice none 0 0, .slice none 0 0, ⟨40, [], [], 0, false, false⟩), 30, false, nd0, nd0, 0⟩
def aS5 (xb ib im ob : Nat) (o : Ib) : St := ⟨xb, 5, some (ib, im, o), some (ob, .slice none 0 0, .slice none 0 0, ⟨40, [], [], 0, false, false⟩), 30, false, nd0, nd0, 0⟩
theorem aw_fresh (mb : Nat) : Ss.fresh mb 0 lmS lmS = aw mb [] 0 0 0 0 0 := rfl
theorem aw_open0 {mb n e : Nat} {s' : Ss} (h : (aw mb [] 0 0 0 0 0).Opens 0 n e s') : n = 0 ∧ e = 0 ∧ ∃ xb ib im ob, s' = aw mb [aS0 xb ib im ob (.slice none 0 0) (.slice none 0 0) ⟨30, [], [], 0, false, false⟩] 1 0 0 0 0 := by
  rcases h with ⟨h1, _⟩ | ⟨_, h1, _⟩ | ⟨_, _, rfl, rfl, xb, ib, im, ob, rfl⟩
  · exact absurd h1 (by show ¬ (3 ≤ 0); omega)
  · exact absurd h1 (by show ¬ (100 ≤ 0); omega)
  · refine ⟨rfl, rfl, xb, ib, im, ob, ?_⟩
    simp [aw, aS0, Ss.made, Ss.newSt, Ss.takes, Ss.sends, Ss.wayIn, Ss.wayOut, Ss.mine, Ss.op, Ob.fresh, lmS]
theorem aw_open2 {mb n e xb ib im ob : Nat} {dv sv : Value} {o : Ob} {s' : Ss} (h : (aw mb [aS0 xb ib im ob dv sv o] 1 0 0 0 0).Opens 2 n e s') : n = 2 ∧ e = 0 ∧ ∃ xb2 ob2, s' = aw mb [aS0 xb ib im ob dv sv o, aS2 xb2 ob2 (.slice none 0 0) (.slice none 0 0)] 1 0 1 0 0 := by
  rcases h with ⟨h1, _⟩ | ⟨_, h1, _⟩ | ⟨_, _, rfl, rfl, xb2, ib2, im2, ob2, rfl⟩
  · exact absurd h1 (by show ¬ (2 ≤ 0); omega)
  · exact absurd h1 (by show ¬ (100 ≤ 1); omega)
  · refine ⟨rfl, rfl, xb2, ob2, ?_⟩
    simp [aw, aS2, Ss.made, Ss.newSt, Ss.takes, Ss.sends, Ss.wayIn, Ss.wayOut, Ss.mine, Ss.op, Ob.fresh, lmS]
theorem aw_write {mb xb ib im ob xb2 ob2 : Nat} {dv sv dv2 sv2 : Value} {c : Int} {s' : Ss} (h : (aw mb [aS0 xb ib im ob dv sv ⟨30, [], [], 0, false, false⟩, aS2 xb2 ob2 dv2 sv2] 1 0 1 0 0).Writes 0 [97, 98] true c s') :
    c = 0 ∧ ∃ dv' sv', s' = aw mb [aS0 xb ib im ob dv' sv' ⟨30, [97, 98], [0, 0, 0], 0, true, false⟩, aS2 xb2 ob2 dv2 sv2] 1 0 1 0 0 := by
  cases h with
  | none h => cases h
  | arg x h ho => cases h; cases ho
  | goes x b dv sv dv' sv' o h ho =>
    cases h
    cases ho
    exact ⟨rfl, dv', sv', rfl⟩
theorem aw_up {mb xb ib im ob xb2 ob2 sent read : Nat} {dv sv dv2 sv2 : Value} {o : Ob} {ss : List Int} (h : (aw mb [aS0 xb ib im ob dv sv o, aS2 xb2 ob2 dv2 sv2] 1 0 1 sent read).Up ss) : ss = [0, 2] :=
  rise_unique h.1 (by decide) fun x => by
    rw [h.2.2]
    simp [aw, aS0, aS2]
    omega
theorem Ss.Pieces.inv {s s' : Ss} {x : St} {most : Int} {f : Fr} {is : Bool} (h : s.Pieces x most f is s') : (x.out = Option.none ∧ f = fr0 ∧ is = false ∧ s' = s) ∨
    ∃ b dv sv dv' sv' o, x.out = some (b, dv, sv, o) ∧ f = (o.nextTold (s.much o most)).fr x.id ∧ is = (o.nextTold (s.much o most)).is_ ∧ s' = s.pieced x b dv' sv' o most := by
  cases h with
  | none h => exact .inl ⟨h, rfl, rfl, rfl⟩
  | goes b dv sv dv' sv' o ho => exact .inr ⟨b, dv, sv, dv', sv', o, ho, rfl, rfl, rfl⟩
theorem Ss.Nexts.inv {s s' : Ss} {most id : Int} {ids : List Int} {f : Fr} {is : Bool} (h : Ss.Nexts most s (id :: ids) f is s') : ∃ x ∈ s.l, (x.id : Int) = id ∧ ((x.ctlIs = true ∧ f = x.ctlFr ∧ is = true ∧ s' = s.put x.ctlSt) ∨
    (x.ctlIs = false ∧ ∃ f0 is0 s1, (s.put x.ctlSt).Pieces x.ctlSt most f0 is0 s1 ∧ ((is0 = true ∧ f = f0 ∧ is = true ∧ s' = s1) ∨ (is0 = false ∧ Ss.Nexts most s1 ids f is s')))) := by
  generalize hq : id :: ids = q at h
  cases h with
  | none => cases hq
  | ctl x ids hx h => cases hq; exact ⟨x, hx, rfl, .inl ⟨h, rfl, rfl, rfl⟩⟩
  | piece x ids hx h hp => cases hq; exact ⟨x, hx, rfl, .inr ⟨h, _, _, _, hp, .inl ⟨rfl, rfl, rfl, rfl⟩⟩⟩
  | more x hx h hp hn => cases hq; exact ⟨x, hx, rfl, .inr ⟨h, _, _, _, hp, .inr ⟨rfl, hn⟩⟩⟩
theorem Ss.Nexts.nil {s s' : Ss} {most : Int} {f : Fr} {is : Bool} (h : Ss.Nexts most s [] f is s') : f = fr0 ∧ is = false ∧ s' = s := by
  generalize hq : ([] : List Int) = q at h
  cases h with
  | none => exact ⟨rfl, rfl, rfl⟩
  | ctl x ids hx h => cases hq
  | piece x ids hx h hp => cases hq
  | more x hx h hp hn => cases hq
/-- the first of two streams tells a piece -/
theorem aw_goes {mb xb ib im ob xb2 ob2 sent : Nat} {dv sv dv2 sv2 : Value} {o : Ob} {t : Told} {o' : Ob} {mm : Nat} {f : Fr} {is : Bool} {s' : Ss} (ht : ∀ m : Int, m = (mm : Int) → o.nextTold m = t) (ho' : ∀ m : Int, m = (mm : Int) → o.next m = o')
    (hm : (aw mb [aS0 xb ib im ob dv sv o, aS2 xb2 ob2 dv2 sv2] 1 0 1 sent 0).much o 9 = (mm : Int)) (his : t.is_ = true)
    (h : (aw mb [aS0 xb ib im ob dv sv o, aS2 xb2 ob2 dv2 sv2] 1 0 1 sent 0).NextOf 9 f is s') :
    f = t.fr 0 ∧ is = true ∧ ∃ dv' sv', s' = aw mb [aS0 xb ib im ob dv' sv' o', aS2 xb2 ob2 dv2 sv2] 1 0 1 (sent + (o'.sent - o.sent)) 0 := by
  cases h with
  | data h => cases h
  | ids h ss hu hn =>
    cases aw_up hu
    obtain ⟨x, hx, hid, hh⟩ := hn.inv
    simp [aw] at hx
    rcases hx with rfl | rfl
    · rcases hh with ⟨h1, _⟩ | ⟨_, f0, is0, s1, hp, hh⟩
      · cases h1
      · rcases hp.inv with ⟨h1, _⟩ | ⟨b, dv1, sv1, dv', sv', o1, ho, rfl, rfl, rfl⟩
        · cases h1
        · cases ho
          have hm' : ((aw mb [aS0 xb ib im ob dv sv o, aS2 xb2 ob2 dv2 sv2] 1 0 1 sent 0).put (aS0 xb ib im ob dv sv o).ctlSt).much o 9 = (mm : Int) := hm
          rw [ht _ hm'] at hh
          rcases hh with ⟨_, rfl, rfl, rfl⟩ | ⟨h1, _⟩
          · refine ⟨rfl, rfl, dv', sv', ?_⟩
            unfold Ss.pieced
            rw [ho' _ hm']
            rfl
          · rw [his] at h1; cases h1
    · cases hid
theorem aw_next1 {mb xb ib im ob xb2 ob2 : Nat} {dv sv dv2 sv2 : Value} {f : Fr} {is : Bool} {s' : Ss} (h : (aw mb [aS0 xb ib im ob dv sv ⟨30, [97, 98], [0, 0, 0], 0, true, false⟩, aS2 xb2 ob2 dv2 sv2] 1 0 1 0 0).NextOf 9 f is s') :
    f = ⟨8, 0, 0, 0, true, ⟨#[97, 98]⟩, ⟨#[]⟩, []⟩ ∧ is = true ∧ ∃ dv' sv', s' = aw mb [aS0 xb ib im ob dv' sv' ⟨30, [97, 98], [1, 1, 1], 2, true, false⟩, aS2 xb2 ob2 dv2 sv2] 1 0 1 2 0 :=
  aw_goes (mm := 9) (t := ⟨0, [97, 98], true, true⟩) (o' := ⟨30, [97, 98], [1, 1, 1], 2, true, false⟩) (by rintro m rfl; rfl) (by rintro m rfl; rfl) rfl rfl h
theorem aw_next3 {mb xb ib im ob xb2 ob2 : Nat} {dv sv dv2 sv2 : Value} {f : Fr} {is : Bool} {s' : Ss} (h : (aw mb [aS0 xb ib im ob dv sv ⟨30, [97, 98], [2, 2, 2], 2, true, false⟩, aS2 xb2 ob2 dv2 sv2] 1 0 1 2 0).NextOf 9 f is s') :
    f = ⟨8, 0, 0, 0, true, ⟨#[97, 98]⟩, ⟨#[]⟩, []⟩ ∧ is = true ∧ ∃ dv' sv', s' = aw mb [aS0 xb ib im ob dv' sv' ⟨30, [97, 98], [1, 1, 1], 2, true, false⟩, aS2 xb2 ob2 dv2 sv2] 1 0 1 2 0 :=
  aw_goes (mm := 9) (t := ⟨0, [97, 98], true, true⟩) (o' := ⟨30, [97, 98], [1, 1, 1], 2, true, false⟩) (by rintro m rfl; rfl) (by rintro m rfl; rfl) rfl rfl h
theorem aw_lost {mb xb ib im ob xb2 ob2 : Nat} {dv sv dv2 sv2 : Value} {s' : Ss} (h : (aw mb [aS0 xb ib im ob dv sv ⟨30, [97, 98], [1, 1, 1], 2, true, false⟩, aS2 xb2 ob2 dv2 sv2] 1 0 1 2 0).Loses ⟨8, 0, 0, 0, true, ⟨#[97, 98]⟩, ⟨#[]⟩, []⟩ s') :
    ∃ dv' sv', s' = aw mb [aS0 xb ib im ob dv' sv' ⟨30, [97, 98], [2, 2, 2], 2, true, false⟩, aS2 xb2 ob2 dv2 sv2] 1 0 1 2 0 := by
  cases h with
  | data hk => cases hk
  | none hk h => cases h
  | noOut x h hk ho => cases h; cases ho
  | goes x b dv0 sv0 dv' sv' o h hk ho => cases h; cases ho; exact ⟨dv', sv', rfl⟩
  | raise x h hk => cases hk
  | stop x h hk => cases hk
  | reset x h hk => cases hk
  | other x h h1 h2 h3 h4 h5 => exact absurd rfl h2
theorem aw_acked {mb xb ib im ob xb2 ob2 : Nat} {dv sv dv2 sv2 : Value} {s' : Ss} (h : (aw mb [aS0 xb ib im ob dv sv ⟨30, [97, 98], [1, 1, 1], 2, true, false⟩, aS2 xb2 ob2 dv2 sv2] 1 0 1 2 0).Acks ⟨8, 0, 0, 0, true, ⟨#[97, 98]⟩, ⟨#[]⟩, []⟩ s') :
    ∃ dv' sv', s' = aw mb [aS0 xb ib im ob dv' sv' ⟨30, [97, 98], [3, 3, 3], 2, true, false⟩, aS2 xb2 ob2 dv2 sv2] 1 0 1 2 0 := by
  cases h with
  | no h => exact absurd rfl (h _ _ _ _ _ rfl rfl)
  | goes x b dv0 sv0 dv' sv' o h hk ho => cases h; cases ho; exact ⟨dv', sv', rfl⟩
theorem aw_next2 {mb xb ib im ob xb2 ob2 : Nat} {dv sv dv2 sv2 : Value} {f : Fr} {is : Bool} {s' : Ss} (h : (aw mb [aS0 xb ib im ob dv sv ⟨30, [97, 98], [1, 1, 1], 2, true, false⟩, aS2 xb2 ob2 dv2 sv2] 1 0 1 2 0).NextOf 9 f is s') :
    is = false ∧ ∃ dv' sv' dv2' sv2', s' = aw mb [aS0 xb ib im ob dv' sv' ⟨30, [97, 98], [1, 1, 1], 2, true, false⟩, aS2 xb2 ob2 dv2' sv2'] 1 0 1 2 0 := by
  cases h with
  | data h => cases h
  | ids h ss hu hn =>
    cases aw_up hu
    obtain ⟨x, hx, hid, hh⟩ := hn.inv
    simp [aw] at hx
    rcases hx with rfl | rfl
    · rcases hh with ⟨h1, _⟩ | ⟨_, f0, is0, s1, hp, hh⟩
      · cases h1
      · rcases hp.inv with ⟨h1, _⟩ | ⟨b, dv1, sv1, dv', sv', o1, ho, rfl, rfl, rfl⟩
        · cases h1
        · cases ho
          rcases hh with ⟨h1, _⟩ | ⟨_, hn⟩
          · cases h1
          · have e : (((aw mb [aS0 xb ib im ob dv sv ⟨30, [97, 98], [1, 1, 1], 2, true, false⟩, aS2 xb2 ob2 dv2 sv2] 1 0 1 2 0).put (aS0 xb ib im ob dv sv ⟨30, [97, 98], [1, 1, 1], 2, true, false⟩).ctlSt).pieced (aS0 xb ib im ob dv sv ⟨30, [97, 98], [1, 1, 1], 2, true, false⟩).ctlSt ob dv' sv' ⟨30, [97, 98], [1, 1, 1], 2, true, false⟩ 9) = aw mb [aS0 xb ib im ob dv' sv' ⟨30, [97, 98], [1, 1, 1], 2, true, false⟩, aS2 xb2 ob2 dv2 sv2] 1 0 1 2 0 := rfl
            rw [e] at hn
            obtain ⟨x, hx, hid, hh⟩ := hn.inv
            simp [aw] at hx
            rcases hx with rfl | rfl
            · cases hid
            · rcases hh with ⟨h1, _⟩ | ⟨_, f0, is0, s1, hp, hh⟩
              · cases h1
              · rcases hp.inv with ⟨h1, _⟩ | ⟨b, dv1, sv1, dv3, sv3, o1, ho, rfl, rfl, rfl⟩
                · cases h1
                · cases ho
                  rcases hh with ⟨h1, _⟩ | ⟨_, hn⟩
                  · cases h1
                  · obtain ⟨_, rfl, rfl⟩ := hn.nil
                    exact ⟨rfl, dv', sv', dv3, sv3, rfl⟩
    · cases hid
end Go.Proofs.YtjdfemfobcjecaaGreat

/-
  streams, plain: what the calls of awake come to, the other half.
-/
namespace Go.Proofs.YtjdfemfobcjecaaGreat
open Go.RowKit
set_option linter.unusedVariables false
set_option linter.unusedSimpArgs false
def hello : List UInt8 := [104, 101, 108, 108, 111]
def ibH : Ib := ⟨30, 0, 5, 5, 0, false, false, over (fun _ => none) 0 hello, [0, 1, 2, 3, 4]⟩
def ibR : Ib := { ibH with taken := 5 }
theorem ib_hello {o' : Ib} (hp : Put (Ib.fresh 30) 0 hello false o') (hw : o'.WF) : o' = ibH := by
  obtain ⟨h1, h2⟩ := hp.new rfl rfl
  have hB : o'.B = over (fun _ => none) 0 hello := by rw [h1]; rfl
  have hs : ∀ n, (o'.B n).isSome = true ↔ n < 5 := by
    intro n
    rw [hB, over_isSome]
    simp [hello]
  have hr : o'.ready = 5 := by
    have h3 := hw.gap
    have h4 : ¬ (o'.ready < 5) := fun h => by
      have := (hs o'.ready).2 h
      rw [h3] at this
      cases this
    have h5 : ¬ (5 < o'.ready) := fun h => by
      have := (hs 5).1 (hw.fill 5 h)
      omega
    omega
  rw [h1, hr]
  rfl
theorem Ss.Gots.inv8 {s s' : Ss} {f : Fr} {r : Int} (h : s.Gots f r s') (hk : f.kind = 8) : s.Comes f r s' := by
  cases h with
  | comes r s' hk h => exact h
  | bad hk' => exact absurd hk hk'.1
  | idle hk' => omega
  | _ => omega
theorem Fills.inv {k n : Nat} {s s' : Ss} (h : Fills k s s' n) : (n = 0 ∧ s' = s) ∨ ∃ m t xb ib im ob, n = m + 1 ∧ Fills k s t m ∧ s' = t.made (t.newSt (t.op k * 4 + k) xb ib im ob) := by
  cases h with
  | none => exact .inl ⟨rfl, rfl⟩
  | more h xb ib im ob => exact .inr ⟨_, _, xb, ib, im, ob, rfl, h, rfl⟩
/-- streams that fill a kind, two of them -/
theorem Fills.two {k : Nat} {s s' : Ss} (h : Fills k s s' 2) : ∃ xb ib im ob xb2 ib2 im2 ob2, s' = (s.made (s.newSt (s.op k * 4 + k) xb ib im ob)).made ((s.made (s.newSt (s.op k * 4 + k) xb ib im ob)).newSt ((s.made (s.newSt (s.op k * 4 + k) xb ib im ob)).op k * 4 + k) xb2 ib2 im2 ob2) := by
  rcases h.inv with ⟨h1, _⟩ | ⟨m, t, xb2, ib2, im2, ob2, hm, hf, rfl⟩
  · omega
  · obtain rfl : m = 1 := by omega
    rcases hf.inv with ⟨h1, _⟩ | ⟨m, t, xb, ib, im, ob, hm, hf, rfl⟩
    · omega
    · obtain rfl : m = 0 := by omega
      rcases hf.inv with ⟨_, rfl⟩ | ⟨m, t, _, _, _, _, hm, _, _⟩
      · exact ⟨xb, ib, im, ob, xb2, ib2, im2, ob2, rfl⟩
      · omega
def oD : Ob := ⟨30, [97, 98], [3, 3, 3], 2, true, false⟩
theorem aw_got5 {mb xb ib im ob xb2 ob2 : Nat} {dv sv dv2 sv2 : Value} {r : Int} {s' : Ss} (h : (aw mb [aS0 xb ib im ob dv sv oD, aS2 xb2 ob2 dv2 sv2] 1 0 1 2 0).Gots ⟨8, 5, 0, 0, false, ⟨#[104, 101, 108, 108, 111]⟩, ⟨#[]⟩, []⟩ r s')
    (hW : ∀ x ∈ s'.l, ∀ b m o, x.inn = some (b, m, o) → o.WF) : r = 0 ∧ ∃ xb1 ib1 im1 ob1 xb5 ib5 im5 ob5, s' = aw mb [aS0 xb ib im ob dv sv oD, aS2 xb2 ob2 dv2 sv2, aS1 xb1 ib1 im1 ob1 (Ib.fresh 30), aS5 xb5 ib5 im5 ob5 ibH] 1 2 1 2 0 := by
  have hn : ∀ (v : Value) (s1 : Ss), (aw mb [aS0 xb ib im ob dv sv oD, aS2 xb2 ob2 dv2 sv2] 1 0 1 2 0).Names 5 true v 0 s1 → ∃ xb1 ib1 im1 ob1 xb5 ib5 im5 ob5, s1 = aw mb [aS0 xb ib im ob dv sv oD, aS2 xb2 ob2 dv2 sv2, aS1 xb1 ib1 im1 ob1 (Ib.fresh 30), aS5 xb5 ib5 im5 ob5 (Ib.fresh 30)] 1 2 1 2 0 := by
    intro v s1 hn
    generalize hc : 0 = c at hn
    cases hn with
    | state h => cases hc
    | here x h hx hid => simp [aw] at hx; rcases hx with rfl | rfl <;> cases hid
    | limit => cases hc
    | many => cases hc
    | made s1 x n h hn hm hcc hl hf hop hx hid =>
      have : n = 2 := by have h2 : 0 + n = 2 := hop; omega
      subst this
      obtain ⟨a1, a2, a3, a4, a5, a6, a7, a8, rfl⟩ := Fills.two hf
      refine ⟨a1, a2, a3, a4, a5, a6, a7, a8, ?_⟩
      simp [aw, aS1, aS5, Ss.made, Ss.newSt, Ss.takes, Ss.sends, Ss.wayIn, Ss.wayOut, Ss.mine, Ss.op, Ob.fresh, lmS]
  replace h := h.inv8 rfl
  cases h with
  | names v c s1 h hc =>
    have h2 : (aw mb [aS0 xb ib im ob dv sv oD, aS2 xb2 ob2 dv2 sv2] 1 0 1 2 0).Names 5 true v c s' := h
    cases h2 with
    | state hh => rcases hh with hh | hh; cases hh; cases hh.2
    | here => exact absurd rfl hc
    | limit h hn hm hcc => exact absurd hcc (by show ¬ (3 ≤ 1); omega)
    | many h hn hm hcc hl => exact absurd hl (by show ¬ (100 < 2 + 1 + 1 - 0); omega)
    | made => exact absurd rfl hc
  | beyond s1 x h hx hid hb =>
    obtain ⟨_, _, _, _, _, _, _, _, rfl⟩ := hn _ _ h
    simp [aw] at hx
    rcases hx with rfl | rfl | rfl | rfl
    · cases hid
    · cases hid
    · cases hid
    · cases hb
  | reset s1 x b m m' o h hx hid hb hi hk => cases hk
  | put s1 x b m m' o o' h hx hid hb hi hk hp =>
    obtain ⟨_, _, _, _, _, _, _, _, rfl⟩ := hn _ _ h
    have hx0 := hx
    simp [aw] at hx
    rcases hx with rfl | rfl | rfl | rfl
    · cases hid
    · cases hid
    · cases hid
    · cases hi
      have hw : o'.WF := hW _ (Ss.put_mem hx0 rfl) _ _ _ rfl
      have := ib_hello hp hw
      subst this
      exact ⟨rfl, _, _, _, _, _, _, _, _, rfl⟩
def aw4 (mb xb ib im ob xb2 ob2 xb1 ib1 im1 ob1 xb5 ib5 im5 ob5 : Nat) (dv sv dv2 sv2 : Value) (o : Ib) (read : Nat) : Ss := aw mb [aS0 xb ib im ob dv sv oD, aS2 xb2 ob2 dv2 sv2, aS1 xb1 ib1 im1 ob1 (Ib.fresh 30), aS5 xb5 ib5 im5 ob5 o] 1 2 1 2 read
section
variable {mb xb ib im ob xb2 ob2 xb1 ib1 im1 ob1 xb5 ib5 im5 ob5 : Nat} {dv sv dv2 sv2 : Value}
theorem aw4_mem {o : Ib} {n : Nat} {x : St} (hx : x ∈ (aw4 mb xb ib im ob xb2 ob2 xb1 ib1 im1 ob1 xb5 ib5 im5 ob5 dv sv dv2 sv2 o n).l) : x = aS0 xb ib im ob dv sv oD ∨ x = aS2 xb2 ob2 dv2 sv2 ∨ x = aS1 xb1 ib1 im1 ob1 (Ib.fresh 30) ∨ x = aS5 xb5 ib5 im5 ob5 o := by
  simpa [aw4, aw] using hx
theorem aw_got4 {r : Int} {s' : Ss} (h : (aw4 mb xb ib im ob xb2 ob2 xb1 ib1 im1 ob1 xb5 ib5 im5 ob5 dv sv dv2 sv2 ibH 0).Gots ⟨8, 4, 0, 0, false, ⟨#[]⟩, ⟨#[]⟩, []⟩ r s') : r = 22 ∧ s' = aw4 mb xb ib im ob xb2 ob2 xb1 ib1 im1 ob1 xb5 ib5 im5 ob5 dv sv dv2 sv2 ibH 0 := by
  have hn : ∀ (v : Value) (c : Nat) (s1 : Ss), (aw4 mb xb ib im ob xb2 ob2 xb1 ib1 im1 ob1 xb5 ib5 im5 ob5 dv sv dv2 sv2 ibH 0).Names 4 true v c s1 → c = 22 ∧ s1 = aw4 mb xb ib im ob xb2 ob2 xb1 ib1 im1 ob1 xb5 ib5 im5 ob5 dv sv dv2 sv2 ibH 0 := by
    intro v c s1 hn
    cases hn with
    | state h => exact ⟨rfl, rfl⟩
    | here x h hx hid => rcases aw4_mem hx with rfl | rfl | rfl | rfl <;> cases hid
    | limit h hn hm hc => cases hm
    | many h hn hm => cases hm
    | made s1 x n h hn hm => cases hm
  replace h := h.inv8 rfl
  cases h with
  | names v c s1 h hc => obtain ⟨rfl, rfl⟩ := hn v c s' h; exact ⟨rfl, rfl⟩
  | beyond s1 x h => cases (hn _ _ _ h).1
  | reset s1 x b m m' o h => cases (hn _ _ _ h).1
  | put s1 x b m m' o o' h => cases (hn _ _ _ h).1
theorem aw_got13 {r : Int} {s' : Ss} (h : (aw4 mb xb ib im ob xb2 ob2 xb1 ib1 im1 ob1 xb5 ib5 im5 ob5 dv sv dv2 sv2 ibH 0).Gots ⟨8, 13, 0, 0, false, ⟨#[]⟩, ⟨#[]⟩, []⟩ r s') : r = 21 ∧ s' = aw4 mb xb ib im ob xb2 ob2 xb1 ib1 im1 ob1 xb5 ib5 im5 ob5 dv sv dv2 sv2 ibH 0 := by
  have hn : ∀ (v : Value) (c : Nat) (s1 : Ss), (aw4 mb xb ib im ob xb2 ob2 xb1 ib1 im1 ob1 xb5 ib5 im5 ob5 dv sv dv2 sv2 ibH 0).Names 13 true v c s1 → c = 21 ∧ s1 = aw4 mb xb ib im ob xb2 ob2 xb1 ib1 im1 ob1 xb5 ib5 im5 ob5 dv sv dv2 sv2 ibH 0 := by
    intro v c s1 hn
    cases hn with
    | state h => rcases h with h | h; cases h; cases h.2
    | here x h hx hid => rcases aw4_mem hx with rfl | rfl | rfl | rfl <;> cases hid
    | limit h hn hm hc => exact ⟨rfl, rfl⟩
    | many h hn hm hc => exact absurd hc (by show ¬ (3 < 3); omega)
    | made s1 x n h hn hm hc => exact absurd hc (by show ¬ (3 < 3); omega)
  replace h := h.inv8 rfl
  cases h with
  | names v c s1 h hc => obtain ⟨rfl, rfl⟩ := hn v c s' h; exact ⟨rfl, rfl⟩
  | beyond s1 x h => cases (hn _ _ _ h).1
  | reset s1 x b m m' o h => cases (hn _ _ _ h).1
  | put s1 x b m m' o o' h => cases (hn _ _ _ h).1
theorem aw_got1 {r : Int} {s' : Ss} (h : (aw4 mb xb ib im ob xb2 ob2 xb1 ib1 im1 ob1 xb5 ib5 im5 ob5 dv sv dv2 sv2 ibH 0).Gots ⟨8, 1, 30, 0, false, ⟨#[120]⟩, ⟨#[]⟩, []⟩ r s') : r = 20 ∧ ∃ im1', s' = aw4 mb xb ib im ob xb2 ob2 xb1 ib1 im1' ob1 xb5 ib5 im5 ob5 dv sv dv2 sv2 ibH 0 := by
  have hn : ∀ (v : Value) (c : Nat) (s1 : Ss), (aw4 mb xb ib im ob xb2 ob2 xb1 ib1 im1 ob1 xb5 ib5 im5 ob5 dv sv dv2 sv2 ibH 0).Names 1 true v c s1 → c = 0 ∧ s1 = aw4 mb xb ib im ob xb2 ob2 xb1 ib1 im1 ob1 xb5 ib5 im5 ob5 dv sv dv2 sv2 ibH 0 := by
    intro v c s1 hn
    have hin : aS1 xb1 ib1 im1 ob1 (Ib.fresh 30) ∈ (aw4 mb xb ib im ob xb2 ob2 xb1 ib1 im1 ob1 xb5 ib5 im5 ob5 dv sv dv2 sv2 ibH 0).l := by simp [aw4, aw]
    cases hn with
    | state h => rcases h with h | h; cases h; exact absurd rfl (h.1 _ hin)
    | here x h hx hid => exact ⟨rfl, rfl⟩
    | limit h hn hm hc => exact absurd rfl (hn _ hin)
    | many h hn hm hc => exact absurd rfl (hn _ hin)
    | made s1 x n h hn hm hc => exact absurd rfl (hn _ hin)
  replace h := h.inv8 rfl
  cases h with
  | names v c s1 h hc => exact absurd (hn v c s' h).1 hc
  | beyond s1 x h hx hid hb =>
    obtain ⟨_, rfl⟩ := hn _ _ _ h
    rcases aw4_mem hx with rfl | rfl | rfl | rfl
    · cases hid
    · cases hid
    · cases hb
    · cases hid
  | reset s1 x b m m' o h hx hid hb hi hk => cases hk
  | put s1 x b m m' o o' h hx hid hb hi hk hp =>
    obtain ⟨_, rfl⟩ := hn _ _ _ h
    rcases aw4_mem hx with rfl | rfl | rfl | rfl
    · cases hid
    · cases hid
    · cases hi
      have := hp.bad (by decide)
      subst this
      exact ⟨rfl, m', rfl⟩
    · cases hid
theorem aw_read5 {t : ByteArray} {d : Bool} {c : Int} {s' : Ss} (h : (aw4 mb xb ib im ob xb2 ob2 xb1 ib1 im1 ob1 xb5 ib5 im5 ob5 dv sv dv2 sv2 ibH 0).Reads 5 9 t d c s') : t = ⟨#[104, 101, 108, 108, 111]⟩ ∧ d = false ∧ c = 0 ∧ ∃ im5', s' = aw4 mb xb ib im ob xb2 ob2 xb1 ib1 im1 ob1 xb5 ib5 im5' ob5 dv sv dv2 sv2 ibR 5 := by
  cases h with
  | none h => cases h
  | arg x h ho => cases h; cases ho
  | goes x b m m' o h ho =>
    cases h
    cases ho
    refine ⟨rfl, rfl, rfl, m', ?_⟩
    have h1 : (ibH.readS 9).length = 5 := rfl
    have h2 : ibH.read 9 = ibR := rfl
    unfold Ss.readsTo
    rw [h1, h2]
    have h3 : (aS5 xb5 ib5 im5 ob5 ibH).readTo ib5 m' ibR = aS5 xb5 ib5 m' ob5 ibR :=
      if_neg (show ¬ ((!false && decide (30 - 5 < 30 / 2)) = true) by decide)
    rw [h3]
    exact if_neg (show ¬ (100 - min 100 (0 + 5) < 100 / 2) by decide)
theorem aw_read2 {t : ByteArray} {d : Bool} {c : Int} {s' : Ss} (h : (aw4 mb xb ib im ob xb2 ob2 xb1 ib1 im1 ob1 xb5 ib5 im5 ob5 dv sv dv2 sv2 ibR 5).Reads 2 1 t d c s') : c = 1 ∧ s' = aw4 mb xb ib im ob xb2 ob2 xb1 ib1 im1 ob1 xb5 ib5 im5 ob5 dv sv dv2 sv2 ibR 5 := by
  cases h with
  | none h => cases h
  | arg x h ho => exact ⟨rfl, rfl⟩
  | goes x b m m' o h ho => cases h; cases ho
theorem aw_end : (aw4 mb xb ib im ob xb2 ob2 xb1 ib1 im1 ob1 xb5 ib5 im5 ob5 dv sv dv2 sv2 ibR 5).l.length = 4 ∧ (aw4 mb xb ib im ob xb2 ob2 xb1 ib1 im1 ob1 xb5 ib5 im5 ob5 dv sv dv2 sv2 ibR 5).sent = 2 ∧ (aw4 mb xb ib im ob xb2 ob2 xb1 ib1 im1 ob1 xb5 ib5 im5 ob5 dv sv dv2 sv2 ibR 5).came = 5 ∧ (aw4 mb xb ib im ob xb2 ob2 xb1 ib1 im1 ob1 xb5 ib5 im5 ob5 dv sv dv2 sv2 ibR 5).read = 5 ∧
    (aw4 mb xb ib im ob xb2 ob2 xb1 ib1 im1 ob1 xb5 ib5 im5 ob5 dv sv dv2 sv2 ibR 5).doneOf 0 = true ∧ (aw4 mb xb ib im ob xb2 ob2 xb1 ib1 im1 ob1 xb5 ib5 im5 ob5 dv sv dv2 sv2 ibR 5).readyOf 5 = 0 := ⟨rfl, rfl, rfl, rfl, rfl, rfl⟩
end
end Go.Proofs.YtjdfemfobcjecaaGreat

/-
  frames: the document's Same.
-/
namespace Go.Proofs.YtjdfemfobcjecaaGreat
open Go.RowKit
/-- the ranges are the same as far as j -/
def RSame (l k : List (Nat × Nat)) (j : Nat) : Prop := ∀ i (h1 : i < l.length) (h2 : i < k.length), i < j → l[i] = k[i]
set_option maxRecDepth 100000 in
set_option maxHeartbeats 8000000 in
theorem rsame_any (w : World) (A B : Option Addr) (n m c d : Nat) (f g : Fr) (hf : Rngs w A n f.list) (hg : Rngs w B m g.list) (v : Bool) (hv : fsame f g = v) :
    Calls Tryz.prog 15 #[fval A n c f, fval B m d g] w (RPost w v) := by
  have hn1 := hf.2.1
  have hm1 := hg.2.1
  have hbx1 := (Blk.new w 31 (fcs A n c f)).alloc (.cells (fcs B m d g) 31)
  have hbx2 : Blk ((w.alloc (.cells (fcs A n c f) 31)).alloc (.cells (fcs B m d g) 31)) (w.heap.size + 1) 31 (fcs B m d g) := by
    have := Blk.new (w.alloc (.cells (fcs A n c f) 31)) 31 (fcs B m d g)
    rw [World.size_alloc] at this
    exact this
  have hmo : Mod [] w ((w.alloc (.cells (fcs A n c f) 31)).alloc (.cells (fcs B m d g) 31)) := ((Mod.refl _ _).alloc _).alloc _
  have HB1 := hide hbx1
  have HB2 := hide hbx2
  have HMo := hide hmo
  have HF := hide (hf.new hmo)
  have HG := hide (hg.new hmo)
  have hsz : (w.alloc (.cells (fcs A n c f) 31)).heap.size = w.heap.size + 1 := World.size_alloc _ _
  clear hbx1 hbx2 hmo
  obtain ⟨k1, a1, b1, c1, i1, d1, m1, l1⟩ := f
  obtain ⟨k2, a2, b2, c2, i2, d2, m2, l2⟩ := g
  unfold fval fcs at *
  simp only at hf hg HF HG ⊢
  have HLn := hide (show l1.length = n from hf.1)
  have HLm := hide (show l2.length = m from hg.1)
  have HV := hide hv
  clear hv hf hg
  by_cases hnm : n = m
  rotate_left
  · have hvf : Hid (v = false) := hide (by rw [← HV.out]; exact fsame_ne (fun e => hnm (by rw [← HLn.out, ← HLm.out]; exact congrArg (fun f => f.list.length) e)))
    have q1 : ((n : Int) != (m : Int)) = true := by simp; omega
    have q2 : (n != m) = true := by simpa using hnm
    clear hnm HV HF HG HLn HLm
    go_enter Tryz.func15, Tryz.ntmps15
    go_wp2_with fail
    go_ret
    exact ⟨by rw [hvf.out]; rfl, HMo.out⟩
  subst hnm
  have hne : ∀ j (h1 : j < l1.length) (h2 : j < l2.length), l1[j] ≠ l2[j] → v = false := fun j h1 h2 hne => by
    rw [← HV.out]
    refine fsame_ne (fun e => hne ?_)
    have e2 : l1 = l2 := congrArg Fr.list e
    subst e2; rfl
  have hfin : RSame l1 l2 n → v = (decide (k1 = k2) && decide (a1 = a2) && decide (b1 = b2) && decide (c1 = c2) && decide (i1 = i2) && decide (d1 = d2) && decide (m1 = m2)) := fun h => by
    have e2 : l1 = l2 := by
      apply List.ext_getElem
      · rw [HLn.out, HLm.out]
      · intro i h1 h2
        exact h i h1 h2 (by have := HLn.out; omega)
    rw [← HV.out]
    unfold fsame
    simp only
    rw [decide_eq_true e2, Bool.and_true]
  have HNe := hide hne
  have HFin := hide hfin
  clear hne hfin HV
  go_enter Tryz.func15, Tryz.ntmps15
  go_wp2_with fail
  obtain ⟨W1, hW1⟩ : ∃ W1, (w.alloc (.cells #[.int .u64 (k1 : Nat), .int .u64 (a1 : Nat), .int .u64 (b1 : Nat), .int .u64 (c1 : Nat), .bool i1, .string d1, .string m1, .slice A n c] 31)).alloc (.cells #[.int .u64 (k2 : Nat), .int .u64 (a2 : Nat), .int .u64 (b2 : Nat), .int .u64 (c2 : Nat), .bool i2, .string d2, .string m2, .slice B n d] 31) = W1 := ⟨_, rfl⟩
  rw [hW1] at HB1 HB2 HMo HF HG ⊢
  clear hW1 hsz
  go_loopw [5] (fun iv wr => ∃ j : Nat, j ≤ n ∧ iv = .int .i64 (j : Int) ∧ Hid (RSame l1 l2 j) ∧ ∃ q, wr = W1.drewN q) (fun iv _ => n - (intOf iv).toNat)
  case atStart => exact ⟨0, by omega, rfl, hide (fun i h1 h2 h3 => by omega), 0, rfl⟩
  case round =>
    obtain ⟨j, hj, rfl, hC, q, rfl⟩ := hrel
    have hmq : Mod [] W1 (W1.drewN q) := (Mod.refl _ _).drewN _
    have B1 := hmq.blk HB1.out (by simp)
    have B2 := hmq.blk HB2.out (by simp)
    have hl1 := HB1.out.lt
    have hl2 := HB2.out.lt
    have x0 := HB1.out.cell 0
    have x1 := HB1.out.cell 1
    have x2 := HB1.out.cell 2
    have x3 := HB1.out.cell 3
    have x4 := HB1.out.cell 4
    have x5 := HB1.out.cell 5
    have x6 := HB1.out.cell 6
    have x7 := HB1.out.cell 7
    have y0 := HB2.out.cell 0
    have y1 := HB2.out.cell 1
    have y2 := HB2.out.cell 2
    have y3 := HB2.out.cell 3
    have y4 := HB2.out.cell 4
    have y5 := HB2.out.cell 5
    have y6 := HB2.out.cell 6
    have y7 := HB2.out.cell 7
    clear B1 B2 hmq
    by_cases h : j < n
    · obtain ⟨g, o, hjl, rfl, hgl, c0, c1⟩ := HF.out.at_ h
      obtain ⟨g', o', hjk, rfl, hgl', d0, d1⟩ := HG.out.at_ h
      have hbad := HNe.out j hjl hjk
      have hnext : l1[j] = l2[j] → RSame l1 l2 (j + 1) := fun he i h1 h2 h3 => by
        by_cases e : i = j
        · subst e; exact he
        · exact hC.out i h1 h2 (by omega)
      obtain ⟨x, hx⟩ : ∃ x, l1[j] = x := ⟨_, rfl⟩
      obtain ⟨y, hy⟩ : ∃ x, l2[j] = x := ⟨_, rfl⟩
      rw [hx] at c0 c1 hbad hnext
      rw [hy] at d0 d1 hbad hnext
      obtain ⟨u1, u2⟩ := x
      obtain ⟨v1, v2⟩ := y
      simp only at c0 c1 d0 d1
      have HBad := hide hbad
      have HNext := hide hnext
      clear hx hy hbad hnext hC hjl hjk
      by_cases h1 : u1 = v1
      · subst h1
        by_cases h2 : u2 = v2
        · subst h2
          have HN := hide (HNext.out rfl)
          clear HBad HNext
          go_wp2_with fail
          go_quiet (fail)
          go_wp2_with fail
          go_roundw
          case rel => exact ⟨j + 1, by omega, by go_num, HN, by first | exact ⟨_, rfl⟩ | exact ⟨_, World.drewN_drewN _ _ _⟩⟩
          case measure => simp [intOf]; omega
        · have hvf := HBad.out (fun e => h2 (by cases e; rfl))
          have b1 : ((u2 : Int) == (v2 : Int)) = false := by simp; omega
          have b2 : (u2 == v2) = false := by simpa using h2
          have b3 : ((u2 : Int) != (v2 : Int)) = true := by simp; omega
          have b4 : (u2 != v2) = true := by simpa using h2
          have HV := hide hvf
          clear HBad HNext hvf
          go_wp2_with fail
          go_quiet (fail)
          go_wp2_with fail
          go_ret
          exact ⟨by rw [HV.out]; rfl, by first | exact HMo.out.drewN _ | exact (HMo.out.drewN _).drewN _⟩
      · have hvf := HBad.out (fun e => h1 (by cases e; rfl))
        have b1 : ((u1 : Int) == (v1 : Int)) = false := by simp; omega
        have b2 : (u1 == v1) = false := by simpa using h1
        have HV := hide hvf
        clear HBad HNext hvf
        go_wp2_with fail
        go_quiet (fail)
        go_wp2_with fail
        go_ret
        exact ⟨by rw [HV.out]; rfl, by first | exact HMo.out.drewN _ | exact (HMo.out.drewN _).drewN _⟩
    · have hjn : j = n := by omega
      subst hjn
      have HVv := hide (HFin.out hC.out)
      clear hC h HF HG HFin
      by_cases h0 : k1 = k2
      rotate_left
      · have q1 : ((k1 : Int) == (k2 : Int)) = false := by simp; omega
        have q2 : (k1 == k2) = false := by simpa using h0
        have hvf : Hid (v = false) := hide (by rw [HVv.out]; simp [h0])
        clear h0 HVv
        go_wp2_with fail
        go_ret
        exact ⟨by rw [hvf.out]; rfl, HMo.out.drewN _⟩
      subst h0
      by_cases h1 : a1 = a2
      rotate_left
      · have q1 : ((a1 : Int) == (a2 : Int)) = false := by simp; omega
        have q2 : (a1 == a2) = false := by simpa using h1
        have hvf : Hid (v = false) := hide (by rw [HVv.out]; simp [h1])
        clear h1 HVv
        go_wp2_with fail
        go_ret
        exact ⟨by rw [hvf.out]; rfl, HMo.out.drewN _⟩
      subst h1
      by_cases h2 : b1 = b2
      rotate_left
      · have q1 : ((b1 : Int) == (b2 : Int)) = false := by simp; omega
        have q2 : (b1 == b2) = false := by simpa using h2
        have hvf : Hid (v = false) := hide (by rw [HVv.out]; simp [h2])
        clear h2 HVv
        go_wp2_with fail
        go_ret
        exact ⟨by rw [hvf.out]; rfl, HMo.out.drewN _⟩
      subst h2
      by_cases h3 : c1 = c2
      rotate_left
      · have q1 : ((c1 : Int) == (c2 : Int)) = false := by simp; omega
        have q2 : (c1 == c2) = false := by simpa using h3
        have hvf : Hid (v = false) := hide (by rw [HVv.out]; simp [h3])
        clear h3 HVv
        go_wp2_with fail
        go_ret
        exact ⟨by rw [hvf.out]; rfl, HMo.out.drewN _⟩
      subst h3
      by_cases h4 : i1 = i2
      rotate_left
      · have q1 : (i1 == i2) = false := by simpa using h4
        have hvf : Hid (v = false) := hide (by rw [HVv.out]; simp [h4])
        clear h4 HVv
        go_wp2_with fail
        go_ret
        exact ⟨by rw [hvf.out]; rfl, HMo.out.drewN _⟩
      subst h4
      by_cases h5 : d1 = d2
      rotate_left
      · have q1 := toList_ne h5
        have hvf : Hid (v = false) := hide (by rw [HVv.out]; simp [h5])
        clear h5 HVv
        go_wp2_with fail
        go_ret
        exact ⟨by rw [hvf.out]; rfl, HMo.out.drewN _⟩
      subst h5
      by_cases h6 : m1 = m2
      rotate_left
      · have q1 := toList_ne h6
        have hvf : Hid (v = false) := hide (by rw [HVv.out]; simp [h6])
        clear h6 HVv
        go_wp2_with fail
        go_ret
        exact ⟨by rw [hvf.out]; rfl, HMo.out.drewN _⟩
      subst h6
      have hvt : Hid (v = true) := hide (by rw [HVv.out]; simp)
      clear HVv
      go_wp2_with fail
      go_ret
      exact ⟨by rw [hvt.out]; rfl, HMo.out.drewN _⟩
end Go.Proofs.YtjdfemfobcjecaaGreat

/-
  the statements' own helpers over streams: some, awake.
-/
namespace Go.Proofs.YtjdfemfobcjecaaGreat
open Go.RowKit Go.Sort
set_option linter.unusedVariables false
set_option linter.unusedSimpArgs false
set_option maxHeartbeats 2000000 in
theorem stsome_any (w : World) : Calls Tryz.prog 20 #[] w fun e w' => e = .returned lmS.val ∧ Mod [] w w' := by
  go_enter Tryz.func20, Tryz.ntmps20
  go_wp2_with fail
  refine bodyPost_ret (results_cell_row rfl _ _ w.heap.size 24 (#[.int .u64 100, .int .u64 40, .int .u64 30, .int .u64 20, .int .u64 3, .int .u64 2]) (0, 0) _ rfl ?_ Tryz.underlying24 rfl (by kernel_rfl)) rfl ?_
  · exact Blk.new w 24 (#[.int .u64 100, .int .u64 40, .int .u64 30, .int .u64 20, .int .u64 3, .int .u64 2])
  · exact ⟨rfl, (Mod.refl [] w).alloc _⟩
/-- a block that lies beside a set, and stays as it is -/
theorem beside_keep {w w' : World} {sb g t : Nat} {s s' : Ss} {cs : Array Value} (hb : Blk w g t cs) (hf : g ∉ s.foot sb) (hst : SStep w sb s s' w') : Blk w' g t cs ∧ g ∉ s'.foot sb :=
  ⟨hst.2.1.blk hb hf, fun hk => (hst.2.2 g hk).elim hf (fun h => by have := hb.lt; omega)⟩
theorem beside_new {w : World} {sb : Nat} {s : Ss} (h : SBox w sb s) : w.heap.size ∉ s.foot sb := fun hk => by have := h.foot_lt _ hk; omega
set_option maxRecDepth 100000 in
set_option maxHeartbeats 16000000 in
theorem stawake_any (w : World) : Calls Tryz.prog 8 #[] w fun e w' => e = .returned (.bool true) ∧ Mod [] w w' := by
  go_enter Tryz.func8, Tryz.ntmps8
  go_wp2_with fail
  refine (stsome_any w).mono ?_
  rintro e w1 ⟨rfl, m1⟩
  have HM1 := hide m1
  clear m1
  go_wp2_with fail
  refine (stsome_any w1).mono ?_
  rintro e w2 ⟨rfl, m2⟩
  have HM2 := hide (HM1.out.trans m2 (by simp))
  clear m2
  go_wp2_with fail
  refine (own_new w2 0 lmS lmS).mono ?_
  rintro e w3 ⟨sb, mb, rfl, hO⟩
  have HO3 : Hid (Own 0 w2 w3 sb (aw mb [] 0 0 0 0 0)) := hide hO
  clear hO
  go_wp2_with fail
  refine (own_open HO3.out false).mono ?_
  rintro e w4 ⟨n, c, s', rfl, ho, hst, hO⟩
  obtain ⟨rfl, rfl, xb, ib, im, ob, rfl⟩ := aw_open0 ho
  have HO4 := hide hO
  clear ho hst hO
  go_wp2_with fail
  refine (own_open HO4.out true).mono ?_
  rintro e w5 ⟨n, c, s', rfl, ho, hst, hO⟩
  obtain ⟨rfl, rfl, xb2, ob2, rfl⟩ := aw_open2 ho
  have HO5 := hide hO
  clear ho hst hO
  go_wp2_with fail
  refine (own_write HO5.out 0 ⟨#[97, 98]⟩ (by decide) true).mono ?_
  rintro e w6 ⟨c, s', rfl, ho, hst, hO⟩
  obtain ⟨rfl, dv1, sv1, rfl⟩ := aw_write ho
  have HO6 := hide hO
  clear ho hst hO
  go_wp2_with fail
  refine (own_next HO6.out 9 (by decide) (by decide)).mono ?_
  rintro e w7 ⟨f, is, s', rfl, ho, hst, hO⟩
  obtain ⟨rfl, rfl, dv2, sv2, rfl⟩ := aw_next1 ho
  rw [show fval none 0 0 (⟨8, 0, 0, 0, true, ⟨#[97, 98]⟩, ⟨#[]⟩, []⟩ : Fr) = .agg #[.int .u64 8, .int .u64 0, .int .u64 0, .int .u64 0, .bool true, .string ⟨#[97, 98]⟩, .string ⟨#[]⟩, .slice none 0 0] from rfl]
  have HO7 := hide (hO.next ((Mod.refl [] w7).alloc (.cells #[.int .u64 8, .int .u64 0, .int .u64 0, .int .u64 0, .bool true, .string ⟨#[97, 98]⟩, .string ⟨#[]⟩, .slice none 0 0] 31)))
  have hx7 := Blk.new w7 31 #[.int .u64 8, .int .u64 0, .int .u64 0, .int .u64 0, .bool true, .string ⟨#[97, 98]⟩, .string ⟨#[]⟩, .slice none 0 0]
  have HX7 := hide hx7
  have HF7 := hide (beside_new hO.box)
  clear ho hst hO hx7
  go_wp2_with fail
  refine (own_next HO7.out 9 (by decide) (by decide)).mono ?_
  rintro e w8 ⟨f, is, s', rfl, ho, hst, hO⟩
  obtain ⟨rfl, dv3, sv3, dv4, sv4, rfl⟩ := aw_next2 ho
  have hx8 := beside_keep HX7.out HF7.out hst
  have HX8 := hide hx8
  have HO8 := hide hO
  unfold fval fcs
  have HO8' := hide (hO.next ((Mod.refl [] w8).alloc (.cells #[.int .u64 (f.kind : Nat), .int .u64 (f.a : Nat), .int .u64 (f.b : Nat), .int .u64 (f.c : Nat), .bool f.fin, .string f.data, .string f.more, .slice none 0 0] 31)))
  have x80 : w8.cell? ⟨w7.heap.size, 0, none⟩ = some (.int .u64 8) := hx8.1.cell 0
  have x81 : w8.cell? ⟨w7.heap.size, 1, none⟩ = some (.int .u64 0) := hx8.1.cell 1
  have x82 : w8.cell? ⟨w7.heap.size, 2, none⟩ = some (.int .u64 0) := hx8.1.cell 2
  have x83 : w8.cell? ⟨w7.heap.size, 3, none⟩ = some (.int .u64 0) := hx8.1.cell 3
  have x84 : w8.cell? ⟨w7.heap.size, 4, none⟩ = some (.bool true) := hx8.1.cell 4
  have x85 : w8.cell? ⟨w7.heap.size, 5, none⟩ = some (.string ⟨#[97, 98]⟩) := hx8.1.cell 5
  have x86 : w8.cell? ⟨w7.heap.size, 6, none⟩ = some (.string ⟨#[]⟩) := hx8.1.cell 6
  have x87 : w8.cell? ⟨w7.heap.size, 7, none⟩ = some (.slice none 0 0) := hx8.1.cell 7
  have hl8 := hx8.1.lt
  clear ho hst hO hx8
  go_wp2_with fail
  refine (own_lost HO8'.out none 0 0 (⟨8, 0, 0, 0, true, ⟨#[97, 98]⟩, ⟨#[]⟩, []⟩ : Fr) (by decide) (by decide) (by decide) (by decide)).mono ?_
  rintro e w9 ⟨s', rfl, ho, hst, hO⟩
  obtain ⟨dv5, sv5, rfl⟩ := aw_lost ho
  have hx9 := beside_keep (HX8.out.1.alloc _) HX8.out.2 hst
  have HX9 := hide hx9
  have HO9 := hide hO
  clear ho hst hO hx9 x80 x81 x82 x83 x84 x85 x86 x87 hl8
  go_wp2_with fail
  refine (own_next HO9.out 9 (by decide) (by decide)).mono ?_
  rintro e w10 ⟨f2, is, s', rfl, ho, hst, hO⟩
  obtain ⟨rfl, rfl, dv6, sv6, rfl⟩ := aw_next3 ho
  rw [show fval none 0 0 (⟨8, 0, 0, 0, true, ⟨#[97, 98]⟩, ⟨#[]⟩, []⟩ : Fr) = .agg #[.int .u64 8, .int .u64 0, .int .u64 0, .int .u64 0, .bool true, .string ⟨#[97, 98]⟩, .string ⟨#[]⟩, .slice none 0 0] from rfl]
  have hx10 := beside_keep HX9.out.1 HX9.out.2 hst
  have HO10 := hide (hO.next ((Mod.refl [] w10).alloc (.cells #[.int .u64 8, .int .u64 0, .int .u64 0, .int .u64 0, .bool true, .string ⟨#[97, 98]⟩, .string ⟨#[]⟩, .slice none 0 0] 31)))
  have hy10 := Blk.new w10 31 #[.int .u64 8, .int .u64 0, .int .u64 0, .int .u64 0, .bool true, .string ⟨#[97, 98]⟩, .string ⟨#[]⟩, .slice none 0 0]
  have HX10 : Hid (Blk (w10.alloc (.cells #[.int .u64 8, .int .u64 0, .int .u64 0, .int .u64 0, .bool true, .string ⟨#[97, 98]⟩, .string ⟨#[]⟩, .slice none 0 0] 31)) w7.heap.size 31 #[.int .u64 8, .int .u64 0, .int .u64 0, .int .u64 0, .bool true, .string ⟨#[97, 98]⟩, .string ⟨#[]⟩, .slice none 0 0] ∧ _) := hide ⟨hx10.1.alloc _, hx10.2⟩
  have HY10 := hide hy10
  have HG10 := hide (beside_new hO.box)
  clear ho hst hO hx10 hy10
  go_wp2_with fail
  refine (own_acked HO10.out none 0 0 (⟨8, 0, 0, 0, true, ⟨#[97, 98]⟩, ⟨#[]⟩, []⟩ : Fr) (by decide) (by decide) (by decide) (by decide)).mono ?_
  rintro e w11 ⟨s', rfl, ho, hst, hO⟩
  obtain ⟨dv7, sv7, rfl⟩ := aw_acked ho
  have hx11 := beside_keep HX10.out.1 HX10.out.2 hst
  have hy11 := beside_keep HY10.out HG10.out hst
  have HX11 := hide hx11
  have HY11 := hide hy11
  have HO11 := hide hO
  clear ho hst hO hx11 hy11
  go_wp2_with fail
  refine (own_got HO11.out (by omega) none 0 0 (⟨8, 5, 0, 0, false, ⟨#[104, 101, 108, 108, 111]⟩, ⟨#[]⟩, []⟩ : Fr) (by decide) (by decide) (by decide) (by decide) (by decide)).mono ?_
  rintro e w12 ⟨r, s', rfl, ho, hst, hO⟩
  obtain ⟨rfl, xb1, ib1, im1, ob1, xb5, ib5, im5, ob5, rfl⟩ := aw_got5 ho hO.ib
  have hx12 := beside_keep HX11.out.1 HX11.out.2 hst
  have hy12 := beside_keep HY11.out.1 HY11.out.2 hst
  have HX12 := hide hx12
  have HY12 := hide hy12
  have HO12 : Hid (Own 5 w2 w12 sb (aw4 mb xb ib im ob xb2 ob2 xb1 ib1 im1 ob1 xb5 ib5 im5 ob5 dv7 sv7 dv4 sv4 ibH 0)) := hide hO
  clear ho hst hO hx12 hy12
  go_wp2_with fail
  refine (own_got HO12.out (by omega) none 0 0 (⟨8, 4, 0, 0, false, ⟨#[]⟩, ⟨#[]⟩, []⟩ : Fr) (by decide) (by decide) (by decide) (by decide) (by decide)).mono ?_
  rintro e w13 ⟨r, s', rfl, ho, hst, hO⟩
  obtain ⟨rfl, rfl⟩ := aw_got4 ho
  have hx13 := beside_keep HX12.out.1 HX12.out.2 hst
  have hy13 := beside_keep HY12.out.1 HY12.out.2 hst
  have HX13 := hide hx13
  have HY13 := hide hy13
  have HO13 : Hid (Own 5 w2 w13 sb _) := hide hO
  clear ho hst hO hx13 hy13
  go_wp2_with fail
  refine (own_got HO13.out (by omega) none 0 0 (⟨8, 13, 0, 0, false, ⟨#[]⟩, ⟨#[]⟩, []⟩ : Fr) (by decide) (by decide) (by decide) (by decide) (by decide)).mono ?_
  rintro e w14 ⟨r, s', rfl, ho, hst, hO⟩
  obtain ⟨rfl, rfl⟩ := aw_got13 ho
  have hx14 := beside_keep HX13.out.1 HX13.out.2 hst
  have hy14 := beside_keep HY13.out.1 HY13.out.2 hst
  have HX14 := hide hx14
  have HY14 := hide hy14
  have HO14 : Hid (Own 5 w2 w14 sb _) := hide hO
  clear ho hst hO hx14 hy14
  go_wp2_with fail
  refine (own_got HO14.out (by omega) none 0 0 (⟨8, 1, 30, 0, false, ⟨#[120]⟩, ⟨#[]⟩, []⟩ : Fr) (by decide) (by decide) (by decide) (by decide) (by decide)).mono ?_
  rintro e w15 ⟨r, s', rfl, ho, hst, hO⟩
  obtain ⟨rfl, im1', rfl⟩ := aw_got1 ho
  have hx15 := beside_keep HX14.out.1 HX14.out.2 hst
  have hy15 := beside_keep HY14.out.1 HY14.out.2 hst
  have HX15 := hide hx15
  have HY15 := hide hy15
  have HO15 : Hid (Own 6 w2 w15 sb _) := hide hO
  clear ho hst hO hx15 hy15
  go_wp2_with fail
  refine (own_read HO15.out (by omega) 5 9).mono ?_
  rintro e w16 ⟨td, d, c, s', rfl, ho, hst, hO⟩
  obtain ⟨rfl, rfl, rfl, im5', rfl⟩ := aw_read5 ho
  have hx16 := beside_keep HX15.out.1 HX15.out.2 hst
  have hy16 := beside_keep HY15.out.1 HY15.out.2 hst
  have HX16 := hide hx16
  have HY16 := hide hy16
  have HO16 := hide hO
  clear ho hst hO hx16 hy16
  go_wp2_with fail
  refine (own_read HO16.out (by omega) 2 1).mono ?_
  rintro e w17 ⟨td2, d2, c, s', rfl, ho, hst, hO⟩
  obtain ⟨rfl, rfl⟩ := aw_read2 ho
  have hx17 := beside_keep HX16.out.1 HX16.out.2 hst
  have hy17 := beside_keep HY16.out.1 HY16.out.2 hst
  have HX17 := hide hx17
  have HY17 := hide hy17
  have HO17 := hide hO
  clear ho hst hO hx17 hy17
  go_wp2_with fail
  refine (own_ids HO17.out).mono ?_
  rintro e w18 ⟨v, ss, rfl, hu, hr, hm, hO⟩
  have hln : ss.length = 4 := hu.2.1
  obtain ⟨A, cap, rfl, _, hcap, _⟩ := urow_form hr
  rw [hln] at *
  have HX18 := hide (hm.blk HX17.out.1 (by simp))
  have HY18 := hide (hm.blk HY17.out.1 (by simp))
  have HO18 := hide hO
  clear hu hr hm hO hln
  go_wp2_with fail
  refine (own_sums HO18.out).mono ?_
  rintro e w19 ⟨rfl, hm, hO⟩
  rw [(aw_end (mb := mb)).2.1, (aw_end (mb := mb)).2.2.1, (aw_end (mb := mb)).2.2.2.1]
  have hx19 := hm.blk HX18.out (by simp)
  have hy19 := hm.blk HY18.out (by simp)
  have HO19 := hide hO
  clear hO
  have x0 : w19.cell? ⟨w7.heap.size, 0, none⟩ = some (.int .u64 8) := hx19.cell 0
  have x1 : w19.cell? ⟨w7.heap.size, 1, none⟩ = some (.int .u64 0) := hx19.cell 1
  have x2 : w19.cell? ⟨w7.heap.size, 2, none⟩ = some (.int .u64 0) := hx19.cell 2
  have x3 : w19.cell? ⟨w7.heap.size, 3, none⟩ = some (.int .u64 0) := hx19.cell 3
  have x4 : w19.cell? ⟨w7.heap.size, 4, none⟩ = some (.bool true) := hx19.cell 4
  have x5 : w19.cell? ⟨w7.heap.size, 5, none⟩ = some (.string ⟨#[97, 98]⟩) := hx19.cell 5
  have x6 : w19.cell? ⟨w7.heap.size, 6, none⟩ = some (.string ⟨#[]⟩) := hx19.cell 6
  have x7 : w19.cell? ⟨w7.heap.size, 7, none⟩ = some (.slice none 0 0) := hx19.cell 7
  have HX19 := hide hx19
  have HY19 := hide hy19
  clear hx19 hy19
  go_wp2_with fail
  refine (rsame_any w19 none none 0 0 0 0 (⟨8, 0, 0, 0, true, ⟨#[97, 98]⟩, ⟨#[]⟩, []⟩ : Fr) (⟨8, 0, 0, 0, true, ⟨#[97, 98]⟩, ⟨#[]⟩, []⟩ : Fr) (Rngs.nil _) (Rngs.nil _) true (by decide)).mono ?_
  rintro e w20 ⟨rfl, hm20⟩
  have hx20 := hm20.blk HX19.out (by simp)
  have hy20 := hm20.blk HY19.out (by simp)
  have HX20 := hide hx20
  have HY20 := hide hy20
  have HO20 := hide (HO19.out.next hm20)
  clear x0 x1 x2 x3 x4 x5 x6 x7
  have x0 : w20.cell? ⟨w7.heap.size, 0, none⟩ = some (.int .u64 8) := hx20.cell 0
  have x1 : w20.cell? ⟨w7.heap.size, 1, none⟩ = some (.int .u64 0) := hx20.cell 1
  have x2 : w20.cell? ⟨w7.heap.size, 2, none⟩ = some (.int .u64 0) := hx20.cell 2
  have x3 : w20.cell? ⟨w7.heap.size, 3, none⟩ = some (.int .u64 0) := hx20.cell 3
  have x4 : w20.cell? ⟨w7.heap.size, 4, none⟩ = some (.bool true) := hx20.cell 4
  have x5 : w20.cell? ⟨w7.heap.size, 5, none⟩ = some (.string ⟨#[97, 98]⟩) := hx20.cell 5
  have x6 : w20.cell? ⟨w7.heap.size, 6, none⟩ = some (.string ⟨#[]⟩) := hx20.cell 6
  have x7 : w20.cell? ⟨w7.heap.size, 7, none⟩ = some (.slice none 0 0) := hx20.cell 7
  have y0 : w20.cell? ⟨w10.heap.size, 0, none⟩ = some (.int .u64 8) := hy20.cell 0
  have y1 : w20.cell? ⟨w10.heap.size, 1, none⟩ = some (.int .u64 0) := hy20.cell 1
  have y2 : w20.cell? ⟨w10.heap.size, 2, none⟩ = some (.int .u64 0) := hy20.cell 2
  have y3 : w20.cell? ⟨w10.heap.size, 3, none⟩ = some (.int .u64 0) := hy20.cell 3
  have y4 : w20.cell? ⟨w10.heap.size, 4, none⟩ = some (.bool true) := hy20.cell 4
  have y5 : w20.cell? ⟨w10.heap.size, 5, none⟩ = some (.string ⟨#[97, 98]⟩) := hy20.cell 5
  have y6 : w20.cell? ⟨w10.heap.size, 6, none⟩ = some (.string ⟨#[]⟩) := hy20.cell 6
  have y7 : w20.cell? ⟨w10.heap.size, 7, none⟩ = some (.slice none 0 0) := hy20.cell 7
  clear hx20 hy20 hm20
  go_wp2_with fail
  refine (rsame_any w20 none none 0 0 0 0 (⟨8, 0, 0, 0, true, ⟨#[97, 98]⟩, ⟨#[]⟩, []⟩ : Fr) (⟨8, 0, 0, 0, true, ⟨#[97, 98]⟩, ⟨#[]⟩, []⟩ : Fr) (Rngs.nil _) (Rngs.nil _) true (by decide)).mono ?_
  rintro e w21 ⟨rfl, hm21⟩
  have HO21 := hide (HO20.out.next hm21)
  clear x0 x1 x2 x3 x4 x5 x6 x7
  clear y0 y1 y2 y3 y4 y5 y6 y7
  clear hm21
  go_wp2_with fail
  refine (own_done HO21.out 0).mono ?_
  rintro e w22 ⟨rfl, hm22, hO⟩
  rw [(aw_end (mb := mb)).2.2.2.2.1]
  have HO22 := hide hO
  clear hO hm22
  go_wp2_with fail
  refine (own_ready HO22.out 5).mono ?_
  rintro e w23 ⟨rfl, hm23, hO⟩
  rw [(aw_end (mb := mb)).2.2.2.2.2]
  have HO23 := hide hO
  clear hO hm23
  go_wp2_with fail
  go_ret
  exact ⟨rfl, HM2.out.trans HO23.out.mod (by simp)⟩
end Go.Proofs.YtjdfemfobcjecaaGreat
