/-
  InboxReady: the walk: as many bytes can be read as are ready; then none are, and as many more were taken.
-/
import Derived.Test.YtfbcbddfmiiilaaIbActs
namespace Go.Proofs.Ytfbcbddfmiiilaa
open Go.RowKit

theorem Ib.read_facts {o : Ib} (h : o.WF) (most : Int) (m : Nat) (hm : (o.readS most).length = m) :
    (o.read most).taken = o.taken + m ∧ m ≤ o.ready - o.taken ∧ (o.read most).ready = o.ready ∧ (o.reset = false → m = min (o.ready - o.taken) most.toNat) ∧ (o.reset = true → m = 0 ∧ o.ready = o.taken) ∧
      (o.read most).over = o.readD most ∧ (o.read most).supp = o.supp := by
  unfold Ib.readS at hm
  cases hr : o.reset
  · have htk := h.tk
    rw [hr] at hm
    simp only [Bool.false_eq_true, if_false, run_length] at hm
    have h1 : o.readN most ≤ o.ready - o.taken := Nat.min_le_right _ _
    have h2 : o.readN most = m := by omega
    have h3 : o.read most = { o with taken := o.taken + m } := by unfold Ib.read; rw [hr, h2]; rfl
    have h4 : o.readD most = (o.read most).done := by unfold Ib.readD; rw [hr]; rfl
    refine ⟨by rw [h3], by omega, by rw [h3], fun _ => by rw [← h2]; unfold Ib.readN; omega, fun hc => (by cases hc), ?_, by rw [h3]⟩
    rw [h4]
    unfold Ib.over
    rw [h3]
    show (o.reset || _) = _
    rw [hr]; rfl
  · rw [hr] at hm
    simp only [if_true, List.length_nil] at hm
    have h3 : o.read most = o := by unfold Ib.read; rw [hr]; rfl
    have h4 : o.readD most = true := by unfold Ib.readD; rw [hr]; rfl
    have h5 := (h.cut hr).1
    refine ⟨by rw [h3, ← hm]; rfl, by omega, by rw [h3], fun hc => (by cases hc), fun _ => ⟨hm.symm, h5⟩, ?_, by rw [h3]⟩
    rw [h4, h3]
    unfold Ib.over
    rw [hr]; rfl
theorem Ib.ready_supp {o : Ib} (h : o.WF) : o.ready - o.taken ≤ o.supp.length := by
  have hn : ((List.range' o.taken (o.ready - o.taken)).map Int.ofNat).Nodup := by
    rw [List.nodup_iff_pairwise_ne, List.pairwise_map]
    exact (List.nodup_range' (step := 1)).imp fun hne e => hne (Int.ofNat.inj e)
  have := nodup_le _ (o.supp.map Int.ofNat) hn (fun x hx => by
    obtain ⟨k, hk, rfl⟩ := List.mem_map.1 hx
    rw [List.mem_range'_1] at hk
    exact List.mem_map.2 ⟨k, h.supp k (h.fill k (by omega)), rfl⟩)
  simpa using this
theorem Put.supp {o o' : Ib} {a : Nat} {D : List UInt8} {fin : Bool} (h : Put o a D fin o') : o'.supp.length ≤ o.supp.length + D.length := by
  by_cases h0 : o.putErr a D.length fin = 0
  · cases hr : o.reset
    · rw [(h.new h0 hr).1]; simp
    · rw [h.old h0 hr]; simp [Ib.came]
  · rw [h.bad h0]; omega
theorem Ib.resetTo_supp (o : Ib) (f : Nat) : (o.resetTo f).supp = o.supp := by
  unfold Ib.resetTo
  repeat' split
  all_goals rfl

theorem IBox.far {w : World} {b m g : Nat} {o : Ib} {T : TypeId} {cs : Array Value} (h : IBox w b m o) (hg : Blk w g T cs) (hT : T ≠ 51) : g ∉ [b, m] := by
  obtain ⟨f, ⟨es, cl, hmm, _⟩, _⟩ := h.map
  have h1 : g ≠ b := Blk.ne_ hg h.blk hT
  have h2 : g ≠ m := by
    rintro rfl
    unfold Blk at hg
    rw [hg] at hmm
    cases hmm
  simp [h1, h2]
theorem imine_read_blk {W w : World} {b g : Nat} {o : Ib} {T : TypeId} {cs : Array Value} (h : IMine W w b o) (hg : Blk w g T cs) (hT : T ≠ 51) (most : Int) (hs : o.ready - o.taken ≤ 281474976710656) (s : List UInt8) (d : Bool) (v : Int) (o' : Ib) (h1 : o.readS most = s) (h2 : o.readD most = d) (h3 : o.readE = v) (h4 : o.read most = o') :
    Calls Try.prog 11 #[.pointer (some ⟨b, 0, none⟩), .int .i64 most] w fun e w' => e = .returned (.tuple #[.string ⟨s.toArray⟩, .bool d, .int .i64 v]) ∧ IMine W w' b o' ∧ Blk w' g T cs := by
  subst h1 h2 h3 h4
  obtain ⟨m, k1, k2, k3, k4⟩ := h
  exact (iread_any w b m o k1 most hs).mono fun e w' ⟨he, hst⟩ => ⟨he, IMine.step k2 k3 k4 hst, by obtain ⟨m', _, q, _⟩ := hst; exact q.blk hg (k1.far hg hT)⟩

set_option maxRecDepth 100000 in
set_option maxHeartbeats 4000000 in
theorem walkInboxReady (limit : Nat) (hl : limit ≤ 18446744073709551615) (a : Option Addr) (len cap : Nat) (l : List PAct) (W : World) (ha : IsActs W a len l) :
    Calls Try.prog 7 #[.int .u64 limit, .slice a len cap] W fun e w' => e = .returned (.bool true) ∧ Below W.heap.size W w' := by
  have hlen := ha.2.1
  go_enter Try.func7, Try.ntmps7
  go_wp2_with fail
  refine (iawake_any W).mono ?_
  rintro e w1 ⟨rfl, m1⟩
  go_wp2_with fail
  refine (imine_new w1 limit hl).mono ?_
  rintro e w2 ⟨b, rfl, h⟩
  go_wp2_with fail
  go_loopw [6] (fun i wr => ∃ (k : Nat) (o : Ib), k ≤ len ∧ k ≤ 60 ∧ i = .int .i64 (k : Int) ∧ o.supp.length ≤ 300 * k ∧ IMine w1 wr b o) (fun i _ => len - (intOf i).toNat)
  case atStart => exact ⟨0, _, by omega, by omega, rfl, Nat.le_refl _, h⟩
  case round =>
    obtain ⟨k, o, hk, hk60, rfl, hsu, hm⟩ := hrel
    clear h
    by_cases hlt : k < len ∧ k < 60
    · obtain ⟨h1, h2⟩ := hlt
      obtain ⟨b0, off, x, rfl, hx, hok, hlie⟩ := ha.at_ h1
      obtain ⟨hb0, c0, c1, c2, c3, c4⟩ := hlie.mod (m1.trans hm.frame (by simp))
      by_cases hd : 300 < x.data.size
      · have hlg : x.large = true := by simpa [PAct.large] using hd
        have hfr := m1.trans hm.frame (by simp)
        go_wp2_with fail
        refine (large_is _ x true hlg).mono ?_
        rintro e w3 ⟨rfl, m3⟩
        go_wp2_with fail
        go_ret
        exact ⟨rfl, ((hfr.alloc _).trans m3 (by simp)).below (Nat.le_refl _) (by simp)⟩
      have hlg : x.large = false := by simpa [PAct.large] using hd
      go_wp2_with fail
      refine (large_is _ x false hlg).mono ?_
      rintro e w3 ⟨rfl, m3⟩
      have hx3 := m3.blk (Blk.new wr 40 #[.int .i64 x.kind, .int .i64 x.num, .int .u64 (x.at_ : Nat), .string x.data, .bool x.fin]) (by simp)
      replace hm := hm.mod (((Mod.refl [] wr).alloc _).trans m3 (by simp))
      have d0 := hx3.cell 0
      have d1 := hx3.cell 1
      have d2 := hx3.cell 2
      have d3 := hx3.cell 3
      have d4 := hx3.cell 4
      clear m3 c0 c1 c2 c3 c4 hb0 hlg
      have hx4 := hx3.lt
      by_cases k0 : x.kind = 0
      · have e1 : (x.kind == 0) = true := by simpa using k0
        obtain ⟨v, hv⟩ : ∃ v, o.putErr x.at_ x.data.size x.fin = v := ⟨_, rfl⟩
        have Hd := hide (show x.data.size ≤ 300 by omega)
        clear k0 hd
        go_wp2_with fail
        refine (imine_put hm x.at_ x.data x.fin hok.a (by have := Hd.out; omega) (by omega) v hv).mono ?_
        rintro e w4 ⟨rfl, o', hp, hm'⟩
        have hsu' : o'.supp.length ≤ 300 * (k + 1) := by
          have h1 := hp.supp
          have h2 : x.data.data.toList.length = x.data.size := Array.length_toList
          have h3 := Hd.out
          omega
        clear hp hm d0 d1 d2 d3 d4
        go_wp2_with fail
        go_roundw
        case rel => exact ⟨k + 1, o', by omega, by omega, by go_num, hsu', hm'⟩
        case measure => simp [intOf]; omega
      have e1 : (x.kind == 0) = false := by simpa using k0
      by_cases k1 : x.kind = 1
      · have e2 : (x.kind == 1) = true := by simpa using k1
        have hwf := hm.wf
        have hst := hwf.rd
        have hst2 := hwf.top
        have hst3 := hwf.lim
        have htk := hwf.tk
        have hsp := Ib.ready_supp hwf
        obtain ⟨n, hn⟩ : ∃ n, o.ready - o.taken = n := ⟨_, rfl⟩
        obtain ⟨t, ht⟩ : ∃ t, o.taken = t := ⟨_, rfl⟩
        obtain ⟨m, hS⟩ : ∃ m, (o.readS x.num).length = m := ⟨_, rfl⟩
        obtain ⟨f1, f2, f3, f4, f5, f6, f7⟩ := Ib.read_facts hwf x.num m hS
        obtain ⟨S, hS2⟩ : ∃ S : ByteArray, S = ⟨(o.readS x.num).toArray⟩ := ⟨_, rfl⟩
        have hSs : S.size = m := by rw [hS2, ← hS]; rfl
        obtain ⟨o', ho'⟩ : ∃ o', o.read x.num = o' := ⟨_, rfl⟩
        have hsu' : o'.supp.length ≤ 300 * (k + 1) := by rw [← ho', f7]; omega
        have ht' : o'.taken = t + m := by rw [← ho', f1, ht]
        have hn' : o'.ready - o'.taken = n - m := by rw [← ho', f1, f3]; omega
        have hmn : m ≤ n := by omega
        have hrd := fun wz (hz : IMine w1 wz b o) v h3 (hg : Blk wz wr.heap.size 40 #[.int .i64 x.kind, .int .i64 x.num, .int .u64 (x.at_ : Nat), .string x.data, .bool x.fin]) => imine_read_blk hz hg (by decide) x.num (by omega) _ (o.readD x.num) v o' rfl rfl h3 ho'
        rw [← hS2] at hrd
        obtain ⟨D, hD⟩ : ∃ D, o.readD x.num = D := ⟨_, rfl⟩
        rw [hD] at hrd
        have hwt : IntKind.u64.wrap ((t : Int) + m) = ((t + m : Nat) : Int) := IntWalk.u64_in _ (by omega)
        have hwm : IntKind.u64.wrap (m : Int) = m := IntWalk.u64_in _ (by omega)
        have hnm : (n : Int) - (m : Int) = ((n - m : Nat) : Int) := by omega
        have q2 : (((t + m : Nat) : Int) != (t : Int) + m) = false := by simp
        have q3 : (((n - m : Nat) : Int) != (n : Int) - m) = false := by simp; omega
        rw [hn] at f2 f4
        have Hrd := hide hrd
        have Hn := hide hn
        have Ht := hide ht
        have Hsu := hide hsu'
        have Ht' := hide ht'
        have Hn' := hide hn'
        have hn48 : n ≤ 65536 := by omega
        clear k0 k1 hd hS2 hD f1 f3 f6 f7 hst hst2 hst3 htk hsp hn ht hsu' ht' hn' hrd
        cases hr : o.reset
        · have f4' := f4 hr
          have q1 : ((m : Int) != min (n : Int) (max x.num 0)) = false := by simp; omega
          have HR := hide (fun wz (hz : IMine w1 wz b o) => Hrd.out wz hz 0 (by unfold Ib.readE; rw [hr]; rfl))
          clear f4 f5 hr Hrd hwf f4'
          go_wp2_with fail
          refine (imine_ready hm n Hn.out).mono ?_
          rintro e w4 ⟨rfl, mm⟩
          replace hm := hm.mod mm
          replace hx3 := mm.blk hx3 (by simp)
          clear mm d0 d1 d2 d3 d4 hx4
          have d0 := hx3.cell 0
          have d1 := hx3.cell 1
          have hx4 := hx3.lt
          go_wp2_with fail
          refine (imine_taken hm t Ht.out).mono ?_
          rintro e w5 ⟨rfl, mm⟩
          replace hm := hm.mod mm
          replace hx3 := mm.blk hx3 (by simp)
          clear mm d0 d1 hx4
          have d0 := hx3.cell 0
          have d1 := hx3.cell 1
          have hx4 := hx3.lt
          go_wp2_with fail
          refine (HR.out _ hm hx3).mono ?_
          rintro e w6 ⟨rfl, hm', hx3'⟩
          clear hm hx3 d0 d1 hx4
          have d0 := hx3'.cell 0
          have d1 := hx3'.cell 1
          have hx4 := hx3'.lt
          go_wp2_with fail
          refine (imine_taken hm' (t + m) Ht'.out).mono ?_
          rintro e w7 ⟨rfl, mm⟩
          replace hm' := hm'.mod mm
          replace hx3' := mm.blk hx3' (by simp)
          clear mm d0 d1 hx4
          have d0 := hx3'.cell 0
          have d1 := hx3'.cell 1
          have hx4 := hx3'.lt
          go_wp2_with fail
          refine (imine_ready hm' (n - m) Hn'.out).mono ?_
          rintro e w8 ⟨rfl, mm⟩
          replace hm' := hm'.mod mm
          clear mm d0 d1 hx4 hx3'
          go_wp2_with fail
          go_roundw
          case rel => exact ⟨k + 1, o', by omega, by omega, by go_num, Hsu.out, hm'⟩
          case measure => simp [intOf]; omega
        · obtain ⟨f5', _⟩ := f5 hr
          have HR := hide (fun wz (hz : IMine w1 wz b o) => Hrd.out wz hz 22 (by unfold Ib.readE; rw [hr]; rfl))
          clear f4 f5 hr Hrd hwf f5'
          go_wp2_with fail
          refine (imine_ready hm n Hn.out).mono ?_
          rintro e w4 ⟨rfl, mm⟩
          replace hm := hm.mod mm
          replace hx3 := mm.blk hx3 (by simp)
          clear mm d0 d1 d2 d3 d4 hx4
          have d0 := hx3.cell 0
          have d1 := hx3.cell 1
          have hx4 := hx3.lt
          go_wp2_with fail
          refine (imine_taken hm t Ht.out).mono ?_
          rintro e w5 ⟨rfl, mm⟩
          replace hm := hm.mod mm
          replace hx3 := mm.blk hx3 (by simp)
          clear mm d0 d1 hx4
          have d0 := hx3.cell 0
          have d1 := hx3.cell 1
          have hx4 := hx3.lt
          go_wp2_with fail
          refine (HR.out _ hm hx3).mono ?_
          rintro e w6 ⟨rfl, hm', hx3'⟩
          clear hm hx3 d0 d1 hx4
          have d0 := hx3'.cell 0
          have d1 := hx3'.cell 1
          have hx4 := hx3'.lt
          go_wp2_with fail
          refine (imine_taken hm' (t + m) Ht'.out).mono ?_
          rintro e w7 ⟨rfl, mm⟩
          replace hm' := hm'.mod mm
          replace hx3' := mm.blk hx3' (by simp)
          clear mm d0 d1 hx4
          have d0 := hx3'.cell 0
          have d1 := hx3'.cell 1
          have hx4 := hx3'.lt
          go_wp2_with fail
          refine (imine_ready hm' (n - m) Hn'.out).mono ?_
          rintro e w8 ⟨rfl, mm⟩
          replace hm' := hm'.mod mm
          clear mm d0 d1 hx4 hx3'
          go_wp2_with fail
          go_roundw
          case rel => exact ⟨k + 1, o', by omega, by omega, by go_num, Hsu.out, hm'⟩
          case measure => simp [intOf]; omega
      have e2 : (x.kind == 1) = false := by simpa using k1
      by_cases k2 : x.kind = 2
      · have e3 : (x.kind == 2) = true := by simpa using k2
        clear k0 k1 k2 hd
        go_wp2_with fail
        refine (imine_reset hm x.at_ 7 _ _ rfl rfl).mono ?_
        rintro e w4 ⟨rfl, hm'⟩
        clear hm d0 d1 d2 d3 d4
        go_wp2_with fail
        go_roundw
        case rel => exact ⟨k + 1, _, by omega, by omega, by go_num, by rw [Ib.resetTo_supp]; omega, hm'⟩
        case measure => simp [intOf]; omega
      have e3 : (x.kind == 2) = false := by simpa using k2
      by_cases k3 : x.kind = 3
      · have e4 : (x.kind == 3) = true := by simpa using k3
        clear k0 k1 k2 k3 hd
        go_wp2_with fail
        refine (imine_raise hm x.at_ hok.a _ rfl).mono ?_
        rintro e w4 ⟨rfl, hm'⟩
        clear hm d0 d1 d2 d3 d4
        go_wp2_with fail
        go_roundw
        case rel => exact ⟨k + 1, _, by omega, by omega, by go_num, by show o.supp.length ≤ _; omega, hm'⟩
        case measure => simp [intOf]; omega
      have e4 : (x.kind == 3) = false := by simpa using k3
      clear k0 k1 k2 k3 hd
      go_wp2_with fail
      go_roundw
      case rel => exact ⟨k + 1, o, by omega, by omega, by go_num, by omega, hm⟩
      case measure => simp [intOf]; omega
    · have hwf := hm.wf
      have hsp := Ib.ready_supp hwf
      obtain ⟨n, hn⟩ : ∃ n, o.ready - o.taken = n := ⟨_, rfl⟩
      obtain ⟨m, hS⟩ : ∃ m, (o.readS 1048576).length = m := ⟨_, rfl⟩
      obtain ⟨f1, f2, f3, f4, f5, f6, f7⟩ := Ib.read_facts hwf 1048576 m hS
      have hmn : m = n := by
        cases hr : o.reset
        · have := f4 hr
          have e0 : (1048576 : Int).toNat = 1048576 := rfl
          omega
        · have := f5 hr; omega
      rw [hmn] at hS f1 f2 f4 f5
      clear hmn
      obtain ⟨S, hS2⟩ : ∃ S : ByteArray, S = ⟨(o.readS 1048576).toArray⟩ := ⟨_, rfl⟩
      have hSs : S.size = n := by rw [hS2, ← hS]; rfl
      obtain ⟨o', ho'⟩ : ∃ o', o.read 1048576 = o' := ⟨_, rfl⟩
      obtain ⟨D, hD⟩ : ∃ D, o.readD 1048576 = D := ⟨_, rfl⟩
      have hn' : o'.ready - o'.taken = 0 := by rw [← ho', f1, f3]; omega
      have hov : o'.over = D := by rw [← ho', f6, hD]
      have hrd := fun wz (hz : IMine w1 wz b o) v h3 => imine_read hz 1048576 (by omega) _ D v o' rfl hD h3 ho'
      rw [← hS2] at hrd
      have Hn := hide hn
      have Hn' := hide hn'
      have Hov := hide hov
      have hend : ¬ (k < len) ∨ (k < len ∧ ¬ (k < 60)) := by omega
      clear hlt hsu hwf hsp hn hn' hov ho' hS hD f1 f2 f3 f6 f7
      cases hr : o.reset
      · have HR := hide (fun wz (hz : IMine w1 wz b o) => hrd wz hz 0 (by unfold Ib.readE; rw [hr]; rfl))
        clear hS2 f4 f5
        rcases hend with hend | ⟨hend0, hend⟩
        all_goals
          clear hrd hr
          go_wp2_with fail
          refine (imine_ready hm n Hn.out).mono ?_
          rintro e w4 ⟨rfl, mm⟩
          replace hm := hm.mod mm
          clear mm
          go_wp2_with fail
          refine (HR.out _ hm).mono ?_
          rintro e w6 ⟨rfl, hm'⟩
          clear hm HR
          go_wp2_with fail
          refine (imine_ready hm' 0 Hn'.out).mono ?_
          rintro e w7 ⟨rfl, mm⟩
          replace hm' := hm'.mod mm
          clear mm
          go_wp2_with fail
          refine (imine_over hm' D Hov.out).mono ?_
          rintro e w8 ⟨rfl, mm⟩
          replace hm' := hm'.mod mm
          clear mm
          go_wp2_with fail
          go_ret
          exact ⟨ret_bool (by simp), (m1.trans hm'.frame (by simp)).below (Nat.le_refl _) (by simp)⟩
      · have HR := hide (fun wz (hz : IMine w1 wz b o) => hrd wz hz 22 (by unfold Ib.readE; rw [hr]; rfl))
        have hSe : S.toList.isEmpty = true := by
          have := (f5 hr).1
          have h2 : S.toList.length = S.size := by rw [Lib.toList_data]; exact Array.length_toList
          rw [List.isEmpty_iff, ← List.length_eq_zero_iff]; omega
        clear hS2 f4 f5
        rcases hend with hend | ⟨hend0, hend⟩
        all_goals
          clear hrd hr
          go_wp2_with fail
          refine (imine_ready hm n Hn.out).mono ?_
          rintro e w4 ⟨rfl, mm⟩
          replace hm := hm.mod mm
          clear mm
          go_wp2_with fail
          refine (HR.out _ hm).mono ?_
          rintro e w6 ⟨rfl, hm'⟩
          clear hm HR
          go_wp2_with fail
          refine (imine_ready hm' 0 Hn'.out).mono ?_
          rintro e w7 ⟨rfl, mm⟩
          replace hm' := hm'.mod mm
          clear mm
          go_wp2_with fail
          refine (imine_over hm' D Hov.out).mono ?_
          rintro e w8 ⟨rfl, mm⟩
          replace hm' := hm'.mod mm
          clear mm
          go_wp2_with fail
          go_ret
          exact ⟨ret_bool (by simp), (m1.trans hm'.frame (by simp)).below (Nat.le_refl _) (by simp)⟩
end Go.Proofs.Ytfbcbddfmiiilaa
