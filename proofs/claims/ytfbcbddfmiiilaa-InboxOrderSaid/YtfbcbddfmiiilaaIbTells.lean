/-
  InboxTells: the walk: what is read is a beginning of what was sent, and at its end it is all.
-/
import Derived.Test.YtfbcbddfmiiilaaIbText
import Derived.Deep.CutBlock
import Derived.Deep.DeepCutAuto
namespace Go.Proofs.Ytfbcbddfmiiilaa
open Go.RowKit

/-- what a read tells of a text -/
theorem TextIn.read {T : List UInt8} {o : Ib} (h : TextIn T o) (hwf : o.WF) (most : Int) (n : Nat) (hn : min most.toNat (o.ready - o.taken) = n) :
    o.readS most = (T.drop o.taken).take n ∧ o.readE = 0 ∧ o.taken + n ≤ T.length ∧ TextIn T (o.read most) ∧ (o.read most).taken = o.taken + n ∧ (o.read most).supp = o.supp ∧ (o.read most).known = o.known ∧ (o.read most).reset = false ∧ (o.read most).final = o.final := by
  have h1 := hwf.tk
  have h2 := h.ready_le hwf
  have hr : o.read most = { o with taken := o.taken + n } := by unfold Ib.read Ib.readN; rw [h.rs, hn]; rfl
  refine ⟨?_, Ib.readE_of h.rs, by omega, ?_, by rw [hr], by rw [hr], by rw [hr], by rw [hr]; exact h.rs, by rw [hr]⟩
  · rw [Ib.readS_of h.rs rfl rfl hn, h.run hwf (by omega)]
    congr 1; omega
  · rw [hr]; exact ⟨h.lim, h.rs, h.kn, h.far, h.B⟩

theorem ext_list (x : ByteArray) (a z : Nat) : (x.extract a z).data.toList = (x.data.toList.drop a).take (z - a) := Lib.extract_data x a z
theorem bytes_eq {a b : ByteArray} (h : a.data.toList = b.data.toList) : a = b := ByteArray.ext (Array.ext' h)

set_option maxRecDepth 100000 in
set_option maxHeartbeats 4000000 in
theorem walkInboxTells (x : ByteArray) (hx : x.size ≤ maxLen) (a : Option Addr) (len cap : Nat) (l : List (Nat × Nat)) (a2 : Option Addr) (len2 cap2 : Nat) (l2 : List Nat) (W : World) (ha : IsPcs W a len l) (ha2 : IsBytes W a2 len2 l2) :
    Calls Try.prog 3 #[.string x, .slice a len cap, .slice a2 len2 cap2] W fun e w' => e = .returned (.bool true) ∧ Below W.heap.size W w' := by
  have hlen := ha.2.1
  have hlen2 := ha2.2.1
  unfold maxLen at hx
  by_cases h300 : 300 < x.size
  · have h300' : (300 : Int) < x.size := by omega
    go_enter Try.func3, Try.ntmps3
    go_wp2_with fail
    refine (iawake_any W).mono ?_
    rintro e w1 ⟨rfl, m1⟩
    go_wp2_with fail
    go_ret
    exact ⟨rfl, m1.below (Nat.le_refl _) (by simp)⟩
  obtain ⟨L, hL⟩ : ∃ L, x.size = L := ⟨_, rfl⟩
  obtain ⟨T, hT⟩ : ∃ T, x.data.toList = T := ⟨_, rfl⟩
  have hTl : T.length = L := by rw [← hT, ← hL]; exact Array.length_toList
  have h300' : ¬ (300 : Int) < L := by omega
  have hT300 : T.length ≤ 300 := by omega
  have hL300 : L ≤ 300 := by omega
  have HT := hide hT
  clear hT h300 hx
  have hwn : IntKind.u16.wrap ((L : Int) + 1) = (L : Int) + 1 := IntWalk.u16_in _ (by omega)
  have hz : ((L : Int) + 1 == 0) = false := by simp; omega
  go_enter Try.func3, Try.ntmps3
  go_wp2_with fail
  refine (iawake_any W).mono ?_
  rintro e w1 ⟨rfl, m1⟩
  go_wp2_with fail
  refine (imine_new w1 1000 (by omega)).mono ?_
  rintro e w2 ⟨b, rfl, h⟩
  go_wp2_with fail
  go_loopw [8, 10] (fun s i wr => ∃ (k : Nat) (o : Ib) (S : ByteArray), k ≤ len ∧ k ≤ 60 ∧ i = .int .i64 (k : Int) ∧ s = .string S ∧ S.data.toList = T.take o.taken ∧ TextIn T o ∧ o.supp.length ≤ 300 * k ∧ IMine w1 wr b o) (fun _ i _ => len - (intOf i).toNat)
  case atStart => exact ⟨0, _, ⟨#[]⟩, by omega, by omega, rfl, rfl, rfl, TextIn.fresh T, Nat.le_refl _, h⟩
  case round =>
    obtain ⟨k, o, S, hk, hk60, rfl, rfl, hS, ht, hsu, hm⟩ := hrel
    clear h
    by_cases hlt : k < len ∧ k < 60
    · obtain ⟨h1, h2⟩ := hlt
      have hfr := m1.trans hm.frame (by simp)
      obtain ⟨b0, off, p, rfl, hp, hp1, hp2, hb0, c0, c1⟩ := (ha.mod hfr).at_ h1
      obtain ⟨q1, hq1⟩ : ∃ v, v = p.1 % (L + 1) := ⟨_, rfl⟩
      obtain ⟨q2, hq2⟩ : ∃ v, v = p.2 % (L + 1) := ⟨_, rfl⟩
      have hl1 : q1 ≤ L := by rw [hq1]; have := Nat.mod_lt p.1 (show 0 < L + 1 by omega); omega
      have hl2 : q2 ≤ L := by rw [hq2]; have := Nat.mod_lt p.2 (show 0 < L + 1 by omega); omega
      have hr1 : (p.1 : Int) % ((L : Int) + 1) = q1 := by rw [hq1]; simp
      have hr2 : (p.2 : Int) % ((L : Int) + 1) = q2 := by rw [hq2]; simp
      clear hq1 hq2
      go_upto_region 10 with fail
      go_cut [11, 12] (fun u v wx => u = .int .i64 (q1 : Int) ∧ v = .int .i64 (q2 : Int) ∧ Mod [] wr wx)
      case first =>
        go_quiet (fail)
        go_wp2_with fail
        go_meet
        exact ⟨rfl, rfl, (Mod.refl _ _).drewN _⟩
      case rest =>
        obtain ⟨rfl, rfl, m2⟩ := hcut
        replace hm := hm.mod m2
        clear m2 c0 c1 hb0 hr1 hr2 hfr
        obtain ⟨lo, hlo⟩ : ∃ v, v = min q1 q2 := ⟨_, rfl⟩
        obtain ⟨hi, hhi⟩ : ∃ v, v = max q1 q2 := ⟨_, rfl⟩
        have e1 : min (q1 : Int) q2 = lo := by omega
        have e2 : max (q1 : Int) q2 = hi := by omega
        have hlh : lo ≤ hi := by omega
        have hhL : hi ≤ L := by omega
        have hwl : IntKind.u64.wrap (lo : Int) = lo := IntWalk.u64_in _ (by omega)
        obtain ⟨fin, hfin⟩ : ∃ f, ((hi : Int) == (L : Int)) = f := ⟨_, rfl⟩
        have hff : fin = true → hi = T.length := by rintro rfl; simp at hfin; omega
        have hpl : (x.extract lo hi).size = hi - lo := by
          have e : (x.extract lo hi).data.toList.length = (x.extract lo hi).size := Array.length_toList
          rw [ext_list, HT.out, List.length_take, List.length_drop] at e
          omega
        have herr : o.putErr lo (x.extract lo hi).size fin = 0 := by rw [hpl]; exact ht.err hT300 hlh (by omega) hff
        have HErr := hide herr
        clear hlo hhi hl1 hl2 herr
        go_wp2_with fail
        refine (imine_put hm lo (x.extract lo hi) fin (by omega) (by omega) (by omega) 0 HErr.out).mono ?_
        rintro e w3 ⟨rfl, o', hpp, hm'⟩
        rw [ext_list, HT.out] at hpp
        obtain ⟨ht', htk, hkn, hfar, hsu', _⟩ := ht.put hT300 hlh (by omega) hff hpp
        rw [← htk] at hS
        clear hm ht hpp htk hkn hfar e1 e2 hwl hfin hff hpl HErr
        by_cases h3 : k < len2
        · obtain ⟨b1, off1, y, rfl, hy, hyl, hb1, d0⟩ := (ha2.mod (m1.trans hm'.frame (by simp))).at_ h3
          obtain ⟨c, hc⟩ : ∃ v, v = y % 16 := ⟨_, rfl⟩
          have hyc : (y : Int) % 16 = c := by omega
          have hwf := hm'.wf
          obtain ⟨n, hn⟩ : ∃ n, min (c : Int).toNat (o'.ready - o'.taken) = n := ⟨_, rfl⟩
          obtain ⟨r1, r2, r3, r4, r5, r6, _⟩ := ht'.read hwf c n hn
          have hrt := ht'.ready_le hwf
          obtain ⟨o2, ho2⟩ : ∃ v, o'.read c = v := ⟨_, rfl⟩
          obtain ⟨D, hD⟩ : ∃ v, o'.readD c = v := ⟨_, rfl⟩
          rw [ho2] at r4 r5 r6
          obtain ⟨R, hR⟩ : ∃ R : ByteArray, R = ⟨((T.drop o'.taken).take n).toArray⟩ := ⟨_, rfl⟩
          have hRl : R.data.toList = (T.drop o'.taken).take n := by rw [hR]
          have hrd := imine_read hm' c (by omega) _ D 0 o2 r1 hD r2 ho2
          rw [← hR] at hrd
          have hSR : (S ++ R).data.toList = T.take o2.taken := by
            rw [ByteArray.data_append, Array.toList_append, hS, hRl, r5, List.take_add]
          have hSl : (S ++ R).size = S.size + R.size := by simp
          obtain ⟨G, hG⟩ : ∃ G, S ++ R = G := ⟨_, rfl⟩
          rw [hG] at hSR hSl
          have hGl : G.size = o2.taken := by
            have e : G.data.toList.length = G.size := Array.length_toList
            rw [hSR, List.length_take] at e
            omega
          obtain ⟨g, hg⟩ : ∃ g, G.size = g := ⟨_, rfl⟩
          have hgL : g ≤ L := by omega
          have hsum : S.size + R.size ≤ 9223372036854775807 := by omega
          have hex : x.extract 0 g = G := bytes_eq (by rw [ext_list, HT.out, hSR, List.drop_zero, Nat.sub_zero]; congr 1; omega)
          have HRd := hide hrd
          have HS2 := hide hSR
          have hsu2 : o2.supp.length ≤ 300 * (k + 1) := by rw [r6]; omega
          have h3' : ¬ ((len2 : Int) ≤ k) := by omega
          have hgL' : ¬ ((L : Int) < g) := by omega
          clear hS hrd hSR hR hRl r1 r2 r3 r5 r6 hD ho2 hn hc hrt hwf hSl hGl hsu'
          go_wp2_with fail
          refine HRd.out.mono ?_
          rintro e w4 ⟨rfl, hm2⟩
          clear hm' HRd d0 hb1
          go_wp2_with fail
          go_roundw
          case rel => exact ⟨k + 1, o2, G, by omega, by omega, by go_num, rfl, HS2.out, r4, hsu2, hm2⟩
          case measure => simp [intOf]; omega
        · go_wp2_with fail
          go_roundw
          case rel => exact ⟨k + 1, o', S, by omega, by omega, by go_num, rfl, hS, ht', by omega, hm'⟩
          case measure => simp [intOf]; omega
    · have hend : ¬ (k < len) ∨ (k < len ∧ ¬ (k < 60)) := by omega
      clear hlt
      have hxl : x.data.toList.length = L := by rw [HT.out]; exact hTl
      have hwf0 := hm.wf
      have herr : o.putErr 0 x.size true = 0 := by
        have := ht.err (lo := 0) (hi := L) (fin := true) hT300 (by omega) (by omega) (fun _ => hTl.symm)
        rw [hL]; exact this
      have HErr := hide herr
      have HTk := hide (hwf0.tk)
      clear herr hwf0
      have main : ∀ wz, IMine w1 wz b o → Calls Try.prog 10 #[.pointer (some ⟨b, 0, none⟩), .int .u64 0, .string x, .bool true] wz fun e w' => e = .returned (.int .i64 0) ∧ ∃ o', IMine w1 w' b o' ∧
          o'.ready - o'.taken ≤ 1000 ∧ ∃ R : ByteArray, S ++ R = x ∧ S.size + R.size ≤ 9223372036854775807 ∧ ⟨(o'.readS 1000).toArray⟩ = R ∧ o'.readD 1000 = true ∧ o'.readE = 0 ∧ (o'.read 1000).over = true ∧ (o'.read 1000).taken = L := fun wz hz => by
        refine (imine_put hz 0 x true (by omega) (by omega) (by omega) 0 HErr.out).mono ?_
        rintro e w3 ⟨rfl, o', hpp, hm'⟩
        rw [HT.out] at hpp
        have hpp2 : Put o 0 ((T.drop 0).take (L - 0)) true o' := by
          rw [List.drop_zero, Nat.sub_zero, ← hTl, List.take_length]; exact hpp
        obtain ⟨ht', htk, hkn, hfar, _, hB⟩ := ht.put hT300 (by omega) (by omega) (fun _ => hTl.symm) hpp2
        have hwf := hm'.wf
        have hrd : o'.ready = L := by
          refine hwf.ready_eq L (fun n hn => (hB n).2 (.inr ⟨by omega, hn⟩)) ?_
          cases hb : o'.B L with
          | none => rfl
          | some c =>
            have := ht'.B _ _ hb
            rw [List.getElem?_eq_none (by omega)] at this
            cases this
        have htL : o'.taken ≤ L := by rw [← hrd]; exact hwf.tk
        obtain ⟨r1, r2, r3, r4, r5, r6, r7, r8, r9⟩ := ht'.read hwf 1000 (L - o'.taken) (by rw [hrd]; have : (1000 : Int).toNat = 1000 := rfl; omega)
        have hk' : o'.known = true := by rw [hkn]; simp
        have hfi := ht'.kn hk'
        have hdn : (o'.read 1000).done = true := by
          unfold Ib.done
          rw [r7, r9, r5, hk', hfi]
          simp; omega
        have hRl : ((T.drop o'.taken).take (L - o'.taken)) = T.drop o'.taken := List.take_of_length_le (by rw [List.length_drop]; omega)
        rw [hRl] at r1
        refine ⟨rfl, o', hm', by omega, ⟨(T.drop o'.taken).toArray⟩, bytes_eq (by rw [ByteArray.data_append, Array.toList_append, hS, HT.out, ← htk]; exact List.take_append_drop _ _), ?_, by rw [r1], ?_, r2, ?_, by rw [r5]; omega⟩
        · have e : S.data.toList.length = S.size := Array.length_toList
          rw [hS, List.length_take] at e
          have e2 : (⟨(T.drop o'.taken).toArray⟩ : ByteArray).size = (T.drop o'.taken).length := rfl
          rw [e2, List.length_drop]
          omega
        · unfold Ib.readD; rw [ht'.rs]; exact hdn
        · unfold Ib.over; rw [hdn]; simp
      have MAIN := hide main
      have hwL : IntKind.u64.wrap (L : Int) = L := IntWalk.u64_in _ (by omega)
      clear main hS ht hsu HErr HTk
      rcases hend with hend | ⟨hend0, hend⟩
      all_goals
        go_wp2_with fail
        refine (MAIN.out _ hm).mono ?_
        rintro e w3 ⟨rfl, o', hm', hro, R, hSR, hsum, hR, hD, hE, hov, htk⟩
        have HOv := hide hov
        have HTk := hide htk
        have hrd := imine_read hm' 1000 (by omega) _ true 0 _ rfl hD hE rfl
        rw [hR] at hrd
        have HRd := hide hrd
        clear hrd hov htk hE hD hR hro hm MAIN
        go_wp2_with fail
        refine HRd.out.mono ?_
        rintro e w4 ⟨rfl, hm2⟩
        clear HRd hm'
        go_wp2_with fail
        refine (imine_over hm2 true HOv.out).mono ?_
        rintro e w5 ⟨rfl, mm⟩
        replace hm2 := hm2.mod mm
        clear mm
        go_wp2_with fail
        refine (imine_taken hm2 L HTk.out).mono ?_
        rintro e w6 ⟨rfl, mm⟩
        replace hm2 := hm2.mod mm
        clear mm
        go_wp2_with fail
        go_ret
        exact ⟨ret_bool (by simp), (m1.trans hm2.frame (by simp)).below (Nat.le_refl _) (by simp)⟩
end Go.Proofs.Ytfbcbddfmiiilaa
