/-
  InboxOrder: the walk: in which order pieces of one text come doesn't matter.
-/
import Derived.Test.YtfbcbddfmiiilaaIbTells
namespace Go.Proofs.Ytfbcbddfmiiilaa
open Go.RowKit

def pLo (L : Nat) (p : Nat × Nat) : Nat := min (p.1 % (L + 1)) (p.2 % (L + 1))
def pHi (L : Nat) (p : Nat × Nat) : Nat := max (p.1 % (L + 1)) (p.2 % (L + 1))
theorem pLo_le (L : Nat) (p : Nat × Nat) : pLo L p ≤ pHi L p ∧ pHi L p ≤ L := by
  have h1 := Nat.mod_lt p.1 (show 0 < L + 1 by omega)
  have h2 := Nat.mod_lt p.2 (show 0 < L + 1 by omega)
  unfold pLo pHi
  omega

/-- the pieces J of l, and no others, came -/
structure Cover (L : Nat) (l : List (Nat × Nat)) (J : Nat → Prop) (o : Ib) : Prop where
  tk : o.taken = 0
  kn : o.known = false
  at_ : ∀ m, (o.B m).isSome = true ↔ ∃ j p, J j ∧ l[j]? = some p ∧ pLo L p ≤ m ∧ m < pHi L p
  far1 : ∀ j p, J j → l[j]? = some p → pHi L p ≤ o.far
  far2 : o.far = 0 ∨ ∃ j p, J j ∧ l[j]? = some p ∧ pHi L p = o.far

theorem Cover.start (L : Nat) (l : List (Nat × Nat)) (J : Nat → Prop) (hJ : ∀ j, ¬ J j) (z : Nat) : Cover L l J (Ib.fresh z) :=
  ⟨rfl, rfl, fun m => ⟨fun h => (by cases h), fun ⟨j, _, h, _⟩ => absurd h (hJ j)⟩, fun j _ h => absurd h (hJ j), .inl rfl⟩
theorem Cover.put {T : List UInt8} {L : Nat} {l : List (Nat × Nat)} {J J' : Nat → Prop} {o o' : Ib} (h : Cover L l J o) (ht : TextIn T o) (hL : T.length = L) (hT : T.length ≤ 300) {j : Nat} {p : Nat × Nat} (hj : l[j]? = some p) (hJ : ∀ i, J' i ↔ J i ∨ i = j)
    (hp : Put o (pLo L p) ((T.drop (pLo L p)).take (pHi L p - pLo L p)) false o') : TextIn T o' ∧ Cover L l J' o' ∧ o'.supp.length ≤ o.supp.length + 300 := by
  obtain ⟨h1, h2⟩ := pLo_le L p
  obtain ⟨ht', k1, k2, k3, k4, k5⟩ := ht.put hT h1 (by omega) (fun hf => by cases hf) hp
  refine ⟨ht', ⟨by rw [k1]; exact h.tk, by rw [k2, h.kn]; rfl, fun m => ?_, fun i q hi hq => ?_, ?_⟩, k4⟩
  · rw [k5, h.at_]
    constructor
    · rintro (⟨i, q, q1, q2, q3⟩ | q)
      · exact ⟨i, q, (hJ i).2 (.inl q1), q2, q3⟩
      · exact ⟨j, p, (hJ j).2 (.inr rfl), hj, q⟩
    · rintro ⟨i, q, q1, q2, q3⟩
      rcases (hJ i).1 q1 with q1 | rfl
      · exact .inl ⟨i, q, q1, q2, q3⟩
      · rw [hj] at q2; cases q2
        exact .inr q3
  · rw [k3]
    rcases (hJ i).1 hi with hi | rfl
    · have := h.far1 i q hi hq; omega
    · rw [hj] at hq; cases hq
      omega
  · rw [k3]
    by_cases hc : o.far ≤ pHi L p
    · exact .inr ⟨j, p, (hJ j).2 (.inr rfl), hj, by omega⟩
    · rcases h.far2 with h0 | ⟨i, q, q1, q2, q3⟩
      · omega
      · exact .inr ⟨i, q, (hJ i).2 (.inl q1), q2, by omega⟩
theorem Cover.same {T : List UInt8} {L : Nat} {l : List (Nat × Nat)} {J J' : Nat → Prop} {a b : Ib} (ha : Cover L l J a) (hb : Cover L l J' b) (hJ : ∀ j p, l[j]? = some p → (J j ↔ J' j)) (ta : TextIn T a) (tb : TextIn T b) (wa : a.WF) (wb : b.WF) :
    a.B = b.B ∧ a.far = b.far ∧ a.ready = b.ready := by
  have hB : a.B = b.B := by
    funext m
    have h1 : (a.B m).isSome = true ↔ (b.B m).isSome = true := by
      rw [ha.at_, hb.at_]
      exact ⟨fun ⟨j, p, q1, q2, q3⟩ => ⟨j, p, (hJ j p q2).1 q1, q2, q3⟩, fun ⟨j, p, q1, q2, q3⟩ => ⟨j, p, (hJ j p q2).2 q1, q2, q3⟩⟩
    cases hA : a.B m with
    | some c =>
      rw [hA] at h1
      obtain ⟨d, hd⟩ := Option.isSome_iff_exists.1 (h1.1 rfl)
      have e1 := ta.B _ _ hA
      have e2 := tb.B _ _ hd
      rw [e1] at e2
      rw [hd, e2]
    | none =>
      cases hD : b.B m with
      | none => rfl
      | some d =>
        rw [hA, hD] at h1
        simp at h1
  refine ⟨hB, ?_, wa.ready_eq b.ready (by rw [hB]; exact wb.fill) (by rw [hB]; exact wb.gap)⟩
  have f1 : a.far ≤ b.far := by
    rcases ha.far2 with h0 | ⟨j, p, q1, q2, q3⟩
    · omega
    · have := hb.far1 j p ((hJ j p q2).1 q1) q2; omega
  have f2 : b.far ≤ a.far := by
    rcases hb.far2 with h0 | ⟨j, p, q1, q2, q3⟩
    · omega
    · have := ha.far1 j p ((hJ j p q2).2 q1) q2; omega
  omega

set_option maxRecDepth 100000 in
set_option maxHeartbeats 4000000 in
theorem iordput_any (w : World) (b m : Nat) (o : Ib) (h : IBox w b m o) (T : List UInt8) (L : Nat) (hL : T.length = L) (hT : L ≤ 300) (ht : TextIn T o) (hroom : o.supp.length < 65536) (p : Nat × Nat) (hp1 : p.1 ≤ 65535) (hp2 : p.2 ≤ 65535) (nb tb : Nat) (x : ByteArray) (hx : x.data.toList = T)
    (hn : Blk w nb 28 #[.int .u16 ((L : Int) + 1)]) (ht' : Blk w tb 9 #[.string x]) :
    Calls Try.prog 14 #[.pointer (some ⟨b, 0, none⟩), .agg #[.int .u16 (p.1 : Nat), .int .u16 (p.2 : Nat)], .pointer (some ⟨nb, 0, none⟩), .pointer (some ⟨tb, 0, none⟩)] w fun e w' =>
      e = .returned (.int .i64 0) ∧ ∃ o', Put o (pLo L p) ((T.drop (pLo L p)).take (pHi L p - pLo L p)) false o' ∧ IBox w' b m o' ∧ Mod [b, m] w w' := by
  obtain ⟨q1, hq1⟩ : ∃ v, v = p.1 % (L + 1) := ⟨_, rfl⟩
  obtain ⟨q2, hq2⟩ : ∃ v, v = p.2 % (L + 1) := ⟨_, rfl⟩
  obtain ⟨g1, g2⟩ := pLo_le L p
  obtain ⟨lo, hlo⟩ : ∃ v, pLo L p = v := ⟨_, rfl⟩
  obtain ⟨hi, hhi⟩ : ∃ v, pHi L p = v := ⟨_, rfl⟩
  have hr1 : (p.1 : Int) % ((L : Int) + 1) = q1 := by rw [hq1]; simp
  have hr2 : (p.2 : Int) % ((L : Int) + 1) = q2 := by rw [hq2]; simp
  have e1 : min (q1 : Int) q2 = lo := by rw [← hlo]; unfold pLo; rw [← hq1, ← hq2]; omega
  have e2 : max (q1 : Int) q2 = hi := by rw [← hhi]; unfold pHi; rw [← hq1, ← hq2]; omega
  rw [hlo, hhi] at g1 ⊢
  rw [hhi] at g2
  have hxl : x.size = L := by rw [← hL, ← hx]; exact Array.length_toList.symm
  have hpl : (x.extract lo hi).size = hi - lo := by
    have e : (x.extract lo hi).data.toList.length = (x.extract lo hi).size := Array.length_toList
    rw [ext_list, hx, List.length_take, List.length_drop] at e
    omega
  have herr : o.putErr lo (x.extract lo hi).size false = 0 := by rw [hpl]; exact ht.err (by omega) (by omega) (by omega) (fun hf => by cases hf)
  have HErr := hide herr
  have HL := hide hL
  have HX := hide hx
  have hz : ((L : Int) + 1 == 0) = false := by simp; omega
  have hwl : IntKind.u64.wrap (lo : Int) = lo := IntWalk.u64_in _ (by omega)
  have hli : IntKind.i64.wrap (lo : Int) = lo := IntWalk.i64_in _ (by omega)
  have hhi' : IntKind.i64.wrap (hi : Int) = hi := IntWalk.i64_in _ (by omega)
  clear hq1 hq2 hlo hhi hL hx herr
  have d0 := hn.cell 0
  have d1 := ht'.cell 0
  have d2 := hn.lt
  have d3 := ht'.lt
  go_enter Try.func14, Try.ntmps14
  go_upto_region 1 with fail
  go_cut [7, 8] (fun u v wx => u = .int .i64 (lo : Int) ∧ v = .int .i64 (hi : Int) ∧ Mod [] w wx)
  case first =>
    go_quiet (fail)
    go_wp2_with fail
    go_meet
    exact ⟨rfl, rfl, (((Mod.refl [] w).alloc _).drewN _)⟩
  case rest =>
    obtain ⟨rfl, rfl, m1⟩ := hcut
    replace h := h.mod m1 (by simp) (by simp)
    replace ht' := m1.blk ht' (by simp)
    clear d0 d1 d2 d3 hr1 hr2 e1 e2 hz
    have d1 := ht'.cell 0
    have d3 := ht'.lt
    have hput := iput_any wc b m o h lo (x.extract lo hi).data.toList false (by omega) (by
      have e : (x.extract lo hi).data.toList.length = (x.extract lo hi).size := Array.length_toList
      omega) hroom
    rw [show (x.extract lo hi).data.toList.length = (x.extract lo hi).size from Array.length_toList, HErr.out] at hput
    have hstr : str (x.extract lo hi).data.toList = .string (x.extract lo hi) := rfl
    rw [hstr] at hput
    have HP := hide hput
    have M1 := hide m1
    clear hput hstr ht h hn m1
    go_wp2_with fail
    refine HP.out.mono ?_
    rintro e w3 ⟨rfl, o', hpp, hm', m2⟩
    rw [ext_list, HX.out] at hpp
    go_wp2_with fail
    go_ret
    exact ⟨rfl, o', hpp, hm', (M1.out.mono (G := [b, m]) (by simp)).trans m2 (by simp)⟩

set_option maxRecDepth 100000 in
set_option maxHeartbeats 8000000 in
theorem walkInboxOrder (x : ByteArray) (hx : x.size ≤ maxLen) (a : Option Addr) (len cap : Nat) (l : List (Nat × Nat)) (W : World) (ha : IsPcs W a len l) :
    Calls Try.prog 4 #[.string x, .slice a len cap] W fun e w' => e = .returned (.bool true) ∧ Below W.heap.size W w' := by
  have hlen := ha.2.1
  unfold maxLen at hx
  have hmW : Mod [] W (W.alloc (.cells #[.string x] 9)) := (Mod.refl _ _).alloc _
  have htW : Blk (W.alloc (.cells #[.string x] 9)) W.heap.size 9 #[.string x] := Blk.new W _ _
  by_cases h300 : 300 < x.size
  · have h300' : (300 : Int) < x.size := by omega
    go_enter Try.func4, Try.ntmps4
    go_wp2_with fail
    refine (iawake_any _).mono ?_
    rintro e w1 ⟨rfl, m1⟩
    have htx := m1.blk htW (by simp)
    have d1 := htx.cell 0
    have d3 := htx.lt
    have m2 := hmW.trans m1 (by simp)
    clear htW hmW
    go_wp2_with fail
    go_ret
    exact ⟨rfl, m2.below (Nat.le_refl _) (by simp)⟩
  obtain ⟨L, hL⟩ : ∃ L, x.size = L := ⟨_, rfl⟩
  obtain ⟨T, hT⟩ : ∃ T, x.data.toList = T := ⟨_, rfl⟩
  have hTl : T.length = L := by rw [← hT, ← hL]; exact Array.length_toList
  have h300' : ¬ (300 : Int) < L := by omega
  have hT300 : T.length ≤ 300 := by omega
  have hL300 : L ≤ 300 := by omega
  have HT := hide hT
  clear hT h300 hx
  have hwn : IntKind.u16.wrap ((L : Int) + 1) = (L : Int) + 1 := IntWalk.u16_in _ (by omega)
  go_enter Try.func4, Try.ntmps4
  go_wp2_with fail
  refine (iawake_any _).mono ?_
  rintro e w1 ⟨rfl, m1⟩
  have htx := m1.blk htW (by simp)
  have d1 := htx.cell 0
  have d3 := htx.lt
  have m2 := hmW.trans m1 (by simp)
  have hW1 : W.heap.size < w1.heap.size := d3
  clear htW hmW m1
  go_wp2_with fail
  refine (imine_new w1 1000 (by omega)).mono ?_
  rintro e w2 ⟨b, rfl, h⟩
  go_wp2_with fail
  refine (imine_new w2 1000 (by omega)).mono ?_
  rintro e w3 ⟨c, rfl, h'⟩
  obtain ⟨mb, ba, m3, hb1, hb2⟩ := h
  obtain ⟨mc, bb, m4, hc1, hc2⟩ := h'
  have s1 := ba.blk.lt
  have s2 := ba.mlt
  have s3 := bb.blk.lt
  have s4 := bb.mlt
  replace ba := (ba.mod m4 (by simp) (by simp)).mod ((Mod.refl [] w3).alloc (.cells #[.int .u16 ((L : Int) + 1)] 28)) (by simp) (by simp)
  replace bb := bb.mod ((Mod.refl [] w3).alloc (.cells #[.int .u16 ((L : Int) + 1)] 28)) (by simp) (by simp)
  have hnx := Blk.new w3 28 #[.int .u16 ((L : Int) + 1)]
  have m5 := m3.trans m4 (by simp)
  replace htx := m5.blk htx (by simp)
  clear d1 d3
  have d1 := htx.cell 0
  have d3 := htx.lt
  have sz1 := m2.size
  have sz2 := m3.size
  have sz3 := m4.size
  have m6 := (m2.trans m5 (by simp)).alloc (.cells #[.int .u16 ((L : Int) + 1)] 28)
  have hty := htx.alloc (.cells #[.int .u16 ((L : Int) + 1)] 28)
  obtain ⟨mn, hmn⟩ : ∃ v, v = min len 60 := ⟨_, rfl⟩
  have e1 : min (len : Int) 60 = mn := by omega
  have HMN := hide hmn
  clear m5 m2 m3 m4 hmn
  go_wp2_with fail
  go_loopw [10] (fun i wr => ∃ (k : Nat) (oa ob : Ib), k ≤ mn ∧ i = .int .i64 (k : Int) ∧ IBox wr b mb oa ∧ IBox wr c mc ob ∧ oa.supp.length ≤ 300 * k ∧ ob.supp.length ≤ 300 * k ∧ TextIn T oa ∧ TextIn T ob ∧
      Cover L l (fun j => j < k) oa ∧ Cover L l (fun j => mn - k ≤ j ∧ j < mn) ob ∧ Mod [b, mb, c, mc] (w3.alloc (.cells #[.int .u16 ((L : Int) + 1)] 28)) wr) (fun i _ => mn - (intOf i).toNat)
  case atStart => exact ⟨0, _, _, by omega, rfl, ba, bb, Nat.le_refl _, Nat.le_refl _, TextIn.fresh T, TextIn.fresh T, Cover.start _ _ _ (fun j => by omega) _, Cover.start _ _ _ (fun j => by omega) _, Mod.refl _ _⟩
  case round =>
    obtain ⟨k, oa, ob, hk, rfl, xa, xb, sa, sb, ta, tb, va, vb, mw⟩ := hrel
    clear ba bb d1 d3
    have hin : ∀ y ∈ [b, mb, c, mc], y ∈ ([] : List Nat) ∨ W.heap.size ≤ y := fun y hy => by
      simp at hy
      right
      rcases hy with rfl | rfl | rfl | rfl <;> omega
    have mfr := m6.trans mw hin
    have htz := mw.blk hty (by simp; omega)
    have hnz := mw.blk hnx (by simp; omega)
    have z1 := htz.lt
    have z2 := hnz.lt
    have hmn := HMN.out
    by_cases hlt : k < mn
    · obtain ⟨b0, off, p, rfl, hp, hp1, hp2, hb0, c0, c1⟩ := (ha.mod mfr).at_ (i := k) (by omega)
      obtain ⟨kk, hkk⟩ : ∃ v, v = mn - 1 - k := ⟨_, rfl⟩
      have e2 : (mn : Int) - 1 - k = kk := by omega
      have e3 : (k : Int) < mn := by omega
      have hkl : k < len := by omega
      have hkkl : kk < len := by omega
      have HKK := hide hkk
      have hk60 : k < 60 := by omega
      clear hmn hkk hlt hk
      have hput := iordput_any wr b mb oa xa T L hTl hL300 ta (by omega) p hp1 hp2 w3.heap.size W.heap.size x HT.out hnz htz
      have HP := hide hput
      clear hput
      go_wp2_with fail
      refine HP.out.mono ?_
      rintro e w5 ⟨rfl, oa', hpa, xa', m7⟩
      clear HP c0 c1 hb0 z1 z2
      replace hnz := m7.blk hnz (by simp; omega)
      replace htz := m7.blk htz (by simp; omega)
      replace xb := xb.mod m7 (by simp; omega) (by simp; omega)
      have mw5 := mw.trans m7 (fun y hy => .inl (by simp at hy ⊢; omega))
      have mfr5 := m6.trans mw5 hin
      obtain ⟨b0', off', p', heq, hp', hp1', hp2', hb0, c0, c1⟩ := (ha.mod mfr5).at_ (i := kk) hkkl
      cases heq
      have z1 := htz.lt
      have z2 := hnz.lt
      obtain ⟨ta', va', sa'⟩ := va.put ta hTl hT300 hp (J' := fun j => j < k + 1) (fun i => by omega) hpa
      have hput := iordput_any w5 c mc ob xb T L hTl hL300 tb (by omega) p' hp1' hp2' w3.heap.size W.heap.size x HT.out hnz htz
      have HP := hide hput
      clear hput xa ta va hpa
      go_wp2_with fail
      refine HP.out.mono ?_
      rintro e w6 ⟨rfl, ob', hpb, xb', m8⟩
      obtain ⟨tb', vb', sb'⟩ := vb.put tb hTl hT300 hp' (J' := fun j => mn - (k + 1) ≤ j ∧ j < mn) (fun i => by have := HKK.out; omega) hpb
      replace xa' := xa'.mod m8 (by simp; omega) (by simp; omega)
      have mw6 := mw5.trans m8 (fun y hy => .inl (by simp at hy ⊢; omega))
      have hkm : k + 1 ≤ mn := by omega
      have hms : mn - (k + 1) < mn - k := by omega
      have HK := hide hkm
      have HMS := hide hms
      clear HP c0 c1 hb0 z1 z2 hpb tb vb xb hkm hms
      go_wp2_with fail
      go_roundw
      case rel => exact ⟨k + 1, oa', ob', HK.out, by go_num, xa', xb', by omega, by omega, ta', tb', va', vb', mw6⟩
      case measure => simpa [intOf] using HMS.out
    · have wa := xa.wf
      have wb := xb.wf
      have hkk : k = mn := by omega
      obtain ⟨hB, hF, hR⟩ := va.same vb (fun j p hj => by omega) ta tb wa wb
      have hra := ta.ready_le wa
      have hrb := tb.ready_le wb
      have na : min (1000 : Int).toNat (oa.ready - oa.taken) = oa.ready := by rw [va.tk]; have : (1000 : Int).toNat = 1000 := rfl; omega
      have nb : min (1000 : Int).toNat (ob.ready - ob.taken) = oa.ready := by rw [vb.tk, ← hR]; have : (1000 : Int).toNat = 1000 := rfl; omega
      obtain ⟨p1, p2, _, _, _, _, p7, _, _⟩ := ta.read wa 1000 _ na
      obtain ⟨q1, q2, _, _, _, _, q7, _, _⟩ := tb.read wb 1000 _ nb
      have hfa : (oa.read 1000).far = oa.far := by unfold Ib.read; split <;> rfl
      have hfb : (ob.read 1000).far = ob.far := by unfold Ib.read; split <;> rfl
      have topa : (oa.read 1000).top = oa.far := by unfold Ib.top; rw [p7, va.kn]; exact hfa
      have topb : (ob.read 1000).top = oa.far := by unfold Ib.top; rw [q7, vb.kn, hF]; exact hfb
      rw [va.tk] at p1
      rw [vb.tk, ← p1] at q1
      have hr1 := iread_any wr b mb oa xa 1000 (by omega)
      have HR2 := hide (fun wz (hz : IBox wz c mc ob) => iread_any wz c mc ob hz 1000 (by omega))
      obtain ⟨S, hS⟩ : ∃ S : ByteArray, S = ⟨(oa.readS 1000).toArray⟩ := ⟨_, rfl⟩
      obtain ⟨Da, hDa⟩ : ∃ D, oa.readD 1000 = D := ⟨_, rfl⟩
      obtain ⟨Db, hDb⟩ : ∃ D, ob.readD 1000 = D := ⟨_, rfl⟩
      unfold str at hr1 HR2
      rw [q1, q2, ← hS, hDb] at HR2
      rw [p2, ← hS, hDa] at hr1
      have HR1 := hide hr1
      have TA := hide topa
      have TB := hide topb
      rw [hkk]
      clear hmn p1 p2 p7 q1 q2 q7 hfa hfb topa topb hr1 hS hDa hDb na nb hB hF hR hra hrb wa wb va vb ta tb hkk hlt sa sb
      go_wp2_with fail
      refine HR1.out.mono ?_
      rintro e w5 ⟨rfl, mb', xa', m7, hmb'⟩
      have s7 := m7.size
      have szw := mw.size
      have szr : w3.heap.size < wr.heap.size := z2
      replace xb := xb.mod m7 (by simp; omega) (by simp; omega)
      have mw5 := mw.trans m7 (fun y hy => .inl (by simp at hy ⊢; omega))
      clear HR1 xa
      go_wp2_with fail
      refine (HR2.out _ xb).mono ?_
      rintro e w6 ⟨rfl, mc', xb', m8, hmc'⟩
      have s8 := m8.size
      replace xa' := xa'.mod m8 (by simp; omega) (by simp; omega)
      have mw6 := m6.trans (mw5.trans m8 (fun y hy => .inl (by simp at hy ⊢; omega))) hin
      clear HR2 xb
      go_wp2_with fail
      refine (itop_any _ b mb' _ xa').mono ?_
      rintro e w7 ⟨rfl, n7, rfl⟩
      replace xb' := xb'.mod ((Mod.refl [] w6).drewN n7) (by simp) (by simp)
      rw [TA.out]
      go_wp2_with fail
      refine (itop_any _ c mc' _ xb').mono ?_
      rintro e w8 ⟨rfl, n8, rfl⟩
      rw [TB.out]
      go_wp2_with fail
      go_ret
      exact ⟨ret_bool (by simp), (mw6.drewN _).below (Nat.le_refl _) (by simp)⟩
end Go.Proofs.Ytfbcbddfmiiilaa
