/-
  InboxFirst: the walk: bytes that came first stay, whatever comes to their places later.
-/
import Derived.Test.YtfbcbddfmiiilaaIbMine
namespace Go.Proofs.Ytfbcbddfmiiilaa
open Go.RowKit

theorem over_empty (a : Nat) (D : List UInt8) (n : Nat) : over (fun _ => none) a D n = if a ≤ n then D[n - a]? else none := by simp [over]

theorem putErr_zero {o : Ib} {a len : Nat} {fin : Bool} (ha : a ≤ 4611686018427387903) (h1 : a + len ≤ o.limit) (h2 : o.known = true → a + len ≤ o.final ∧ (fin = true → a + len = o.final)) (h3 : fin = true → o.far ≤ a + len) : o.putErr a len fin = 0 := by
  unfold Ib.putErr Ib.fitErr
  rw [if_neg (by omega), if_neg (by omega), if_neg]
  rintro (⟨hk, h4 | ⟨h4, h5⟩⟩ | ⟨h4, h5⟩)
  · have := (h2 hk).1; omega
  · exact h5 ((h2 hk).2 h4)
  · have := h3 h4; omega

theorem run_get (B : Nat → Option UInt8) (a b i : Nat) : (run B a b)[i]? = if i < b - a then some ((B (a + i)).getD 0) else none := by
  by_cases h : i < b - a
  · rw [if_pos h, List.getElem?_eq_getElem (by rw [run_length]; exact h)]
    simp [run]
  · rw [if_neg h, List.getElem?_eq_none (by rw [run_length]; omega)]

section
variable {o : Ib} {t r n : Nat} {most : Int}
theorem Ib.readN_of (ht : o.taken = t) (hr : o.ready = r) (hn : min most.toNat (r - t) = n) : o.readN most = n := by rw [← hn, ← ht, ← hr]; rfl
theorem Ib.readS_of (h0 : o.reset = false) (ht : o.taken = t) (hr : o.ready = r) (hn : min most.toNat (r - t) = n) : o.readS most = run o.B t (t + n) := by
  unfold Ib.readS
  rw [h0, Ib.readN_of ht hr hn, ht]; rfl
theorem Ib.readD_of (h0 : o.reset = false) (ht : o.taken = t) (hr : o.ready = r) (hn : min most.toNat (r - t) = n) : o.readD most = (o.known && (t + n == o.final)) := by
  unfold Ib.readD Ib.read
  rw [h0, Ib.readN_of ht hr hn, ht]; rfl
theorem Ib.readE_of (h0 : o.reset = false) : o.readE = 0 := by
  unfold Ib.readE
  rw [h0]; rfl
end

/-- what two pieces leave: the first's bytes stay -/
theorem first_bytes {L a z : Nat} {X Y : List UInt8} (hX : X.length = L) (hY : Y.length = L) (haz : a ≤ z) (hz : z ≤ L) :
    let B := over (over (fun _ => none) a ((X.drop a).take (z - a))) 0 Y
    (∀ n, n < L → (B n).isSome = true) ∧ B L = none ∧ run B 0 L = Y.take a ++ ((X.drop a).take (z - a) ++ Y.drop z) := by
  simp only
  have hD : ((X.drop a).take (z - a)).length = z - a := by rw [List.length_take, List.length_drop]; omega
  have hat : ∀ n, over (over (fun _ => none) a ((X.drop a).take (z - a))) 0 Y n = if a ≤ n ∧ n < z then X[n]? else Y[n]? := fun n => by
    by_cases h1 : a ≤ n ∧ n < z
    · rw [if_pos h1]
      have : over (fun _ => none) a ((X.drop a).take (z - a)) n = X[n]? := by
        rw [over_empty, if_pos h1.1, List.getElem?_take, if_pos (by omega), List.getElem?_drop]
        congr 1; omega
      have hx : X[n]? = some X[n] := List.getElem?_eq_getElem (by omega)
      rw [hx] at this ⊢
      exact over_some this
    · rw [if_neg h1]
      have : over (fun _ => none) a ((X.drop a).take (z - a)) n = none := by
        rw [over_empty]
        by_cases h2 : a ≤ n
        · rw [if_pos h2, List.getElem?_eq_none (by omega)]
        · rw [if_neg h2]
      rw [over_none this, if_pos (Nat.zero_le _), Nat.sub_zero]
  refine ⟨fun n hn => ?_, ?_, ?_⟩
  · rw [hat]
    split
    · rw [List.getElem?_eq_getElem (by omega)]; rfl
    · rw [List.getElem?_eq_getElem (by omega)]; rfl
  · rw [hat, if_neg (by omega), List.getElem?_eq_none (by omega)]
  · apply List.ext_getElem?
    intro i
    have hYa : (Y.take a).length = a := by rw [List.length_take]; omega
    rw [run_get, hat, List.getElem?_append, hYa, List.getElem?_append, hD]
    simp only [Nat.zero_add, Nat.sub_zero]
    by_cases h1 : i < a
    · have hy : Y[i]? = some Y[i] := List.getElem?_eq_getElem (by omega)
      rw [if_pos (show i < L by omega), if_pos h1, List.getElem?_take, if_pos h1, if_neg (show ¬ (a ≤ i ∧ i < z) by omega), hy]; rfl
    · rw [if_neg h1]
      by_cases h2 : i < z
      · have hx : X[i]? = some X[i] := List.getElem?_eq_getElem (by omega)
        rw [if_pos (show i < L by omega), if_pos (show a ≤ i ∧ i < z by omega), if_pos (show i - a < z - a by omega), List.getElem?_take, if_pos (show i - a < z - a by omega), List.getElem?_drop, show a + (i - a) = i by omega, hx]; rfl
      · rw [if_neg (show ¬ i - a < z - a by omega), List.getElem?_drop, show z + (i - a - (z - a)) = i by omega]
        by_cases h3 : i < L
        · have hy : Y[i]? = some Y[i] := List.getElem?_eq_getElem (by omega)
          rw [if_pos h3, if_neg (show ¬ (a ≤ i ∧ i < z) by omega), hy]; rfl
        · rw [if_neg h3, List.getElem?_eq_none (by omega)]

set_option maxRecDepth 100000 in
set_option maxHeartbeats 4000000 in
theorem walkInboxFirst (x : ByteArray) (hx : x.size ≤ maxLen) (y : ByteArray) (_ : y.size ≤ maxLen) (low : Nat) (hlow : low ≤ 65535) (high : Nat) (hhigh : high ≤ 65535) (W : World) :
    Calls Try.prog 6 #[.string x, .string y, .int .u16 (low : Int), .int .u16 (high : Int)] W fun e w' => e = .returned (.bool true) ∧ Below W.heap.size W w' := by
  unfold maxLen at hx
  by_cases h300 : 300 < x.size
  · have h300' : (300 : Int) < x.size := by omega
    go_enter Try.func6, Try.ntmps6
    go_wp2_with fail
    refine (iawake_any W).mono ?_
    rintro e w1 ⟨rfl, m1⟩
    go_wp2_with fail
    go_ret
    exact ⟨rfl, m1.below (Nat.le_refl _) (by simp)⟩
  · by_cases hxy : x.size = y.size
    · obtain ⟨L, hL⟩ : ∃ L, x.size = L := ⟨_, rfl⟩
      have hyL : y.size = L := by rw [← hxy]; exact hL
      have h300' : ¬ (300 : Int) < L := by omega
      have h300'' : L ≤ 300 := by omega
      have hwn : IntKind.u16.wrap ((L : Int) + 1) = (L : Int) + 1 := IntWalk.u16_in _ (by omega)
      obtain ⟨q1, hq1⟩ : ∃ v, v = low % (L + 1) := ⟨_, rfl⟩
      obtain ⟨q2, hq2⟩ : ∃ v, v = high % (L + 1) := ⟨_, rfl⟩
      have hl1 : q1 ≤ L := by rw [hq1]; have := Nat.mod_lt low (show 0 < L + 1 by omega); omega
      have hl2 : q2 ≤ L := by rw [hq2]; have := Nat.mod_lt high (show 0 < L + 1 by omega); omega
      have hr1 : (low : Int) % ((L : Int) + 1) = q1 := by rw [hq1]; simp
      have hr2 : (high : Int) % ((L : Int) + 1) = q2 := by rw [hq2]; simp
      have hz : ((L : Int) + 1 == 0) = false := by simp; omega
      have Hxy := hide hxy
      clear hq1 hq2 hxy h300 hx
      go_enter Try.func6, Try.ntmps6
      go_wp2_with fail
      refine (iawake_any W).mono ?_
      rintro e w1 ⟨rfl, m1⟩
      go_upto_region 6 with fail
      go_cut [10, 11] (fun u v wx => u = .int .i64 ((min q1 q2 : Nat) : Int) ∧ v = .int .i64 ((max q1 q2 : Nat) : Int) ∧ Mod [] w1 wx)
      case first =>
        go_quiet (fail)
        go_wp2_with fail
        go_meet
        exact ⟨by congr 1; omega, by congr 1; omega, (Mod.refl _ _).drewN _⟩
      case rest =>
        obtain ⟨rfl, rfl, m2⟩ := hcut
        obtain ⟨a, ha⟩ : ∃ v, v = min q1 q2 := ⟨_, rfl⟩
        obtain ⟨z, hz2⟩ : ∃ v, v = max q1 q2 := ⟨_, rfl⟩
        have haz : a ≤ z := by omega
        have hzL : z ≤ L := by omega
        rw [← ha, ← hz2]
        clear ha hz2 hl1 hl2 hr1 hr2 hwn hz
        have m3 := m1.trans m2 (by simp)
        clear m1 m2
        obtain ⟨hf1, hf2, hf3⟩ := first_bytes (X := x.data.toList) (Y := y.data.toList) (by simpa using hL) (by simpa using hyL) haz hzL
        have HF1 := hide hf1
        have HF2 := hide hf2
        have HF3 := hide hf3
        have hpl : (x.extract a z).size = z - a := by
          have : (x.extract a z).data.toList.length = z - a := by
            rw [Lib.extract_data, List.length_take, List.length_drop]
            have : x.data.toList.length = L := by simpa using hL
            omega
          have e : (x.extract a z).data.toList.length = (x.extract a z).size := Array.length_toList
          omega
        have hwa : IntKind.u64.wrap (a : Int) = a := IntWalk.u64_in _ (by omega)
        clear hf1 hf2 hf3
        go_wp2_with fail
        refine (imine_new wc 300 (by omega)).mono ?_
        rintro e w2 ⟨b, rfl, h⟩
        go_wp2_with fail
        refine (imine_put h a (x.extract a z) false (by omega) (by omega) (by decide) 0 (putErr_zero (by omega) (by rw [hpl]; show a + (z - a) ≤ 300; omega) (by intro hk; cases hk) (by intro hk; cases hk))).mono ?_
        rintro e w3 ⟨rfl, o1, hp1, h⟩
        have hp1e := (hp1.new (putErr_zero (by omega) (by rw [Array.length_toList]; show a + (x.extract a z).size ≤ 300; omega) (by intro hk; cases hk) (by intro hk; cases hk)) rfl).1
        have hB1 : o1.B = over (fun _ => none) a ((x.data.toList.drop a).take (z - a)) := by rw [hp1e, Lib.extract_data]; rfl
        have hdl : (x.extract a z).data.toList.length = z - a := by rw [← hpl]; exact Array.length_toList
        have hfar : o1.far = z := by rw [hp1e, hdl]; show max 0 (a + (z - a)) = z; omega
        have hkn : o1.known = false := by rw [hp1e]; rfl
        have hlm : o1.limit = 300 := by rw [hp1e]; rfl
        have htk : o1.taken = 0 := by rw [hp1e]; rfl
        have hrs : o1.reset = false := by rw [hp1e]; rfl
        have hsp : o1.supp.length = z - a := by rw [hp1e]; simp [Ib.fresh]; omega
        have hyl : y.data.toList.length = L := by rw [← hyL]; exact Array.length_toList
        clear hp1 hp1e
        go_wp2_with fail
        refine (imine_put h 0 y true (by omega) (by omega) (by omega) 0 (putErr_zero (by omega) (by omega) (by rw [hkn]; intro hk; cases hk) (by intro _; omega))).mono ?_
        rintro e w4 ⟨rfl, o2, hp2, h⟩
        have hp2e := hp2.is (putErr_zero (by omega) (by omega) (by rw [hkn]; intro hk; cases hk) (by intro _; omega)) hrs L (by rw [hB1]; exact HF1.out) (by rw [hB1]; exact HF2.out)
        have kB : o2.B = over (over (fun _ => none) a ((x.data.toList.drop a).take (z - a))) 0 y.data.toList := by rw [hp2e, hB1]
        have kr : o2.ready = L := by rw [hp2e]
        have kt : o2.taken = 0 := by rw [hp2e]; exact htk
        have kk : o2.known = true := by rw [hp2e]; show (o1.known || true) = true; simp
        have kf : o2.final = L := by rw [hp2e]; show (if true = true then 0 + y.data.toList.length else o1.final) = L; rw [if_pos rfl, hyl]; omega
        have ks : o2.reset = false := by rw [hp2e]; exact hrs
        clear hp2 hp2e hB1 hfar hkn hlm htk hrs hsp hdl
        have hmin : min (300 : Int).toNat (L - 0) = L := by
          have : (300 : Int).toNat = 300 := rfl
          omega
        have hcat : (⟨(run o2.B 0 (0 + L)).toArray⟩ : ByteArray) = y.extract 0 a ++ x.extract a z ++ y.extract z L := by
          apply ByteArray.ext
          apply Array.ext'
          show run o2.B 0 (0 + L) = _
          rw [Nat.zero_add, kB, HF3.out, ByteArray.data_append, Array.toList_append, ByteArray.data_append, Array.toList_append, Lib.extract_data, Lib.extract_data, Lib.extract_data, List.append_assoc, List.drop_zero, Nat.sub_zero]
          congr 2
          rw [List.take_of_length_le (by rw [List.length_drop]; omega)]
        have hrd := imine_read h 300 (by omega) _ true 0 _ (Ib.readS_of ks kt kr hmin) (by rw [Ib.readD_of ks kt kr hmin, kk, kf]; simp) (Ib.readE_of ks) rfl
        rw [hcat] at hrd
        have HRD := hide hrd
        have hs1 : (y.extract 0 a).size + (x.extract a z).size ≤ 9223372036854775807 := by
          have e1 : (y.extract 0 a).data.toList.length = (y.extract 0 a).size := Array.length_toList
          rw [Lib.extract_data, List.length_take] at e1
          omega
        clear hrd hcat kB h
        go_wp2_with fail
        refine HRD.out.mono ?_
        rintro e w5 ⟨rfl, h⟩
        have hm := m3.trans h.frame (by simp)
        clear h HRD m3
        go_wp2_with fail
        go_quiet (fail)
        go_wp2_with fail
        go_ret
        exact ⟨ret_bool (by simp), (hm.drewN _).below (Nat.le_refl _) (by simp)⟩
    · have hxy' : ((x.size : Int) != y.size) = true := by simp; omega
      have h300' : ¬ (300 : Int) < x.size := by omega
      go_enter Try.func6, Try.ntmps6
      go_wp2_with fail
      refine (iawake_any W).mono ?_
      rintro e w1 ⟨rfl, m1⟩
      go_wp2_with fail
      go_ret
      exact ⟨rfl, m1.below (Nat.le_refl _) (by simp)⟩
end Go.Proofs.Ytfbcbddfmiiilaa
