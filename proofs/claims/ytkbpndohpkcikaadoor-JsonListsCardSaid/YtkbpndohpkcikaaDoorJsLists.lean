/-
  JsonLists: the walk.
-/
import Derived.Test.YtkbpndohpkcikaaDoorJsLs
namespace Go.Proofs.YtkbpndohpkcikaaDoor
open Go.RowKit Js Go.Sort
set_option linter.unusedVariables false
set_option linter.unusedSimpArgs false
set_option maxRecDepth 100000 in
set_option maxHeartbeats 16000000 in
theorem walkJsonLists (A0 : Option Addr) (c0 : Nat) (l0 : List JN) {W : World} (hx : JIn W (.mk 5 0 ⟨#[]⟩ A0 c0 l0 none 0 [])) (hr : jrng (JN.mk 5 0 ⟨#[]⟩ A0 c0 l0 none 0 []).v = true) (key : ByteArray) (_hs : key.size ≤ maxLen) (hj : JVars W.heap.size W) :
    Calls Tryd.prog 8 #[.slice A0 l0.length c0, .string key] W fun e w' => e = .returned (.bool true) ∧ Below W.heap.size W w' := by
  have HAw := hide (awake_any W W.heap.size (Nat.le_refl _) hj)
  have HWr := hide (fun (w' : World) (m : Mod [] W w') (u : JN) (hu : JIn w' u) (hr : jrng u.v = true) (hl : (jwr u.v).length ≤ 1099511627776) (hb : jmay 8 u.v = true) => writeL w' u hu hr hl W.heap.size m.size (hj.mod m (Nat.le_refl _) (by simp)) hb)
  have HWn := hide (fun (w' : World) (m : Mod [] W w') (u : JN) (hu : JIn w' u) (hr : jrng u.v = true) (hl : (jwr u.v).length ≤ 1099511627776) (hb : jmay 8 u.v = false) => writeN w' u hu hr hl W.heap.size m.size (hj.mod m (Nat.le_refl _) (by simp)) hb)
  have HLg := hide (fun (w' : World) (m : Mod [] W w') (b : Bool) (hb : decide (2048 ≤ jwt 21 (JN.mk 5 0 ⟨#[]⟩ A0 c0 l0 none 0 []).v) = b) => large_any w' _ (hx.new m) b hb)
  have HX := hide hx
  have HR := hide hr
  have hxi := hx
  rw [JIn] at hxi
  have HRow := hide hxi.2.2.1
  have HIns := hide hxi.2.2.2
  obtain ⟨n, hn⟩ : ∃ n, l0.length = n := ⟨_, rfl⟩
  have HN := hide hn
  have HXv : Hid ((JN.mk 5 0 ⟨#[]⟩ A0 c0 l0 none 0 []).v = JV.mk 5 0 ⟨#[]⟩ (JN.vs l0) []) := hide (by rw [JN.v])
  have hcx : (JN.mk 5 0 ⟨#[]⟩ A0 c0 l0 none 0 []).cells = #[.int .i64 5, .int .i64 0, .string ⟨#[]⟩, .slice A0 n c0, .slice none 0 0] := by simp only [JN.cells, hn, List.length_nil]
  have HCx := hide hcx
  rw [hcx] at HLg
  rw [hn]
  clear hx hr hj hxi hn hcx
  go_enter Tryd.func8, Tryd.ntmps8
  go_wp2_with fail
  refine HAw.out.mono ?_
  rintro en w1 ⟨rfl, m1⟩
  have HM1 := hide (m1.alloc (.cells #[.int .i64 5, .int .i64 0, .string ⟨#[]⟩, .slice A0 n c0, .slice none 0 0] 25))
  have HB1 := hide (Blk.new w1 25 #[.int .i64 5, .int .i64 0, .string ⟨#[]⟩, .slice A0 n c0, .slice none 0 0])
  obtain ⟨b, hb⟩ : ∃ b, decide (2048 ≤ jwt 21 (JN.mk 5 0 ⟨#[]⟩ A0 c0 l0 none 0 []).v) = b := ⟨_, rfl⟩
  have HL1 := hide (HLg.out _ HM1.out b hb)
  have HWt := hide hb
  clear hb HLg m1 HAw
  go_wp2_with fail
  refine HL1.out.mono ?_
  rintro en w2 ⟨rfl, m2⟩
  have HM2 := hide (HM1.out.trans m2 (by simp))
  have HB2 := hide (m2.blk HB1.out (by simp))
  clear m2 HL1
  cases b with
  | true =>
    go_wp2_with fail
    go_ret
    exact ⟨rfl, HM2.out.below (Nat.le_refl _) (by simp)⟩
  | false =>
    have hwt : jwt 21 (JN.mk 5 0 ⟨#[]⟩ A0 c0 l0 none 0 []).v < 2048 := by have := of_decide_eq_false HWt.out; omega
    have hsh := jwr_short hwt HR.out
    have HSh := hide hsh
    have hwt2 := hwt
    rw [HXv.out] at hwt2
    obtain ⟨_, hpt⟩ := jwt_parts hwt2
    have hws : jws 20 (JN.vs l0) < 2048 := by have : jws (21 - 1) (JN.vs l0) < 2048 := by omega
                                              exact this
    have hln : (JN.vs l0).length ≤ jws 20 (JN.vs l0) := jws_len (by omega)
    have hvn2 : n < 2048 := by have := HN.out; rw [JN.vs_len] at hln; omega
    have HWs := hide hws
    have hrs : jrngs (JN.vs l0) = true := by
      have h1 := HR.out
      rw [HXv.out, jrng, Bool.and_eq_true] at h1
      exact h1.2
    have HRs := hide hrs
    clear hwt hwt2 hpt hln hsh hws hrs
    by_cases hs1 : 2048 < key.size
    · have f1 : (2048 : Int) < (key.size : Int) := by omega
      clear hs1
      go_wp2_with fail
      go_ret
      exact ⟨rfl, HM2.out.below (Nat.le_refl _) (by simp)⟩
    have f1 : decide ((2048 : Int) < (key.size : Int)) = false := decide_eq_false (by omega)
    have f1n : decide (2048 < key.size) = false := decide_eq_false (by omega)
    have HS1 := hide hs1
    clear hs1
    have q0 : w2.cell? ⟨w1.heap.size, 0, none⟩ = some (.int .i64 5) := HB2.out.cell 0
    have q1 : w2.cell? ⟨w1.heap.size, 1, none⟩ = some (.int .i64 0) := HB2.out.cell 1
    have q2 : w2.cell? ⟨w1.heap.size, 2, none⟩ = some (.string ⟨#[]⟩) := HB2.out.cell 2
    have q3 : w2.cell? ⟨w1.heap.size, 3, none⟩ = some (.slice A0 n c0) := HB2.out.cell 3
    have q4 : w2.cell? ⟨w1.heap.size, 4, none⟩ = some (.slice none 0 0) := HB2.out.cell 4
    obtain ⟨bm, hbm⟩ : ∃ bm, jmay 8 (JN.mk 5 0 ⟨#[]⟩ A0 c0 l0 none 0 []).v = bm := ⟨_, rfl⟩
    cases bm with
    | false =>
      have HW2 := hide (HWn.out w2 HM2.out _ (HX.out.new HM2.out) HR.out (by have := HSh.out; omega) hbm)
      rw [HCx.out] at HW2
      clear hbm
      go_wp2_with fail
      refine HW2.out.mono ?_
      rintro en w3 ⟨rfl, m3⟩
      have HM3 := hide (HM2.out.trans m3 (by simp))
      clear m3
      go_wp2_with fail
      go_ret
      exact ⟨rfl, HM3.out.below (Nat.le_refl _) (by simp)⟩
    | true =>
      have HW2 := hide (HWr.out w2 HM2.out _ (HX.out.new HM2.out) HR.out (by have := HSh.out; omega) hbm)
      rw [HCx.out] at HW2
      have hms := hbm
      rw [HXv.out, jmay_list] at hms
      have HMs := hide hms
      clear hbm hms
      go_wp2_with fail
      refine HW2.out.mono ?_
      rintro en w3 ⟨P, rfl, hP, m3⟩
      have HM3 := hide (HM2.out.trans m3 (by simp))
      have HP := hide hP
      have HW3 := hide (HWr.out w3 HM3.out (JN.mk 4 0 key none 0 [] none 0 []) (JIn.plain _ _ _ _) (by rfl) (by
        rw [JN.v, JN.vs, jwr, if_neg (by decide), if_neg (by decide), if_neg (by decide), if_neg (by decide), if_pos rfl]
        have h1 := quo_le key.data.toList
        rw [bytes_len] at h1
        have := HS1.out
        omega) (by rw [JN.v, JN.vs, jmay, jmays]; simp))
      simp only [JN.cells, List.length_nil] at HW3
      clear m3 hP HW2 q0 q1 q2 q3 q4
      go_wp2_with fail
      refine HW3.out.mono ?_
      rintro en w4 ⟨KP, rfl, hKP, m4⟩
      rw [JN.v, JN.vs, jwr, if_neg (by decide), if_neg (by decide), if_neg (by decide), if_neg (by decide), if_pos rfl] at hKP
      have HKP := hide hKP
      have hkps : KP.size ≤ 6 * 2048 + 2 := by
        have h1 := quo_le key.data.toList
        have h2 := HS1.out
        have h3 : KP.data.toList.length = KP.size := bytes_len KP
        rw [hKP] at h3
        rw [bytes_len] at h1
        omega
      have HM4 := hide ((HM3.out.trans m4 (by simp)).alloc (.cells #[.int .i64 6, .int .i64 0, .string ⟨#[]⟩, .slice none 0 0, .slice none 0 0] 25))
      have HLP0 : Hid (LP W (w4.alloc (.cells #[.int .i64 6, .int .i64 0, .string ⟨#[]⟩, .slice none 0 0, .slice none 0 0] 25)) (w4.heap.size + 1) w4.heap.size none 0 [] none 0 [] none 0 [] none 0 []) := hide
        ⟨Blk.new w4 25 #[.int .i64 6, .int .i64 0, .string ⟨#[]⟩, .slice none 0 0, .slice none 0 0], World.ownsRow_nil _ _ _ _, World.ownsRow_nil _ _ _ _, HM4.out, (HM3.out.trans m4 (by simp)).size, Nat.lt_succ_self _, by simp⟩
      clear m4 hKP HW3
      go_wp2_with fail
      obtain ⟨ob, hob⟩ : ∃ ob, w4.heap.size = ob := ⟨_, rfl⟩
      obtain ⟨base, hbase⟩ : ∃ base, ob + 1 = base := ⟨_, rfl⟩
      rw [hob, hbase] at HLP0
      rw [hob]
      clear hob hbase
      go_loopw [10, 11, 47] (fun av ov iv wr => ∃ (j : Nat) (all obj : ByteArray) (A : Option Addr) (c : Nat) (l : List JN) (B : Option Addr) (d : Nat) (ks : List ByteArray), j ≤ n ∧ av = .string all ∧ ov = .string obj ∧ iv = .int .i64 (j : Int) ∧ Hid (l = l0.take j) ∧ Hid (ks = List.replicate j key) ∧ Hid (all.data.toList = 91 :: jwrs false ((JN.vs l0).take j) []) ∧ Hid (obj.data.toList = 123 :: jwrs true ((JN.vs l0).take j) (List.replicate n key)) ∧ Hid (LP W wr base ob A c l B d ks A c l B d ks)) (fun _ _ iv _ => n - (intOf iv).toNat)
      case atStart => exact ⟨0, _, _, none, 0, [], none, 0, [], by omega, rfl, rfl, rfl, hide rfl, hide rfl, hide (by rw [List.take_zero, jwrs]), hide (by rw [List.take_zero, jwrs]), HLP0⟩
      case round =>
        obtain ⟨j, all, obj, A, c, l, B, d, ks, hjn, rfl, rfl, rfl, hl, hks, hall, hobj, hlp⟩ := hrel
        have hsz : all.size ≤ 1000000 ∧ obj.size ≤ 1000000000 := by
          have h1 := jwrs_le false ((JN.vs l0).take j) [] 20 (Nat.lt_of_le_of_lt (jws_take _ _ _) HWs.out) (jrngs_take _ _ HRs.out)
          have h2 := jwrs_le true ((JN.vs l0).take j) (List.replicate n key) 20 (Nat.lt_of_le_of_lt (jws_take _ _ _) HWs.out) (jrngs_take _ _ HRs.out)
          have h3 := jws_take 20 (JN.vs l0) j
          have h4 := HWs.out
          have h5 : all.data.toList.length = all.size := bytes_len all
          have h6 : obj.data.toList.length = obj.size := bytes_len obj
          rw [hall.out, List.length_cons] at h5
          rw [hobj.out, List.length_cons] at h6
          rw [ksz_rep] at h2
          have h7 : n * key.size ≤ 2048 * 2048 := Nat.mul_le_mul (by omega) (by have := HS1.out; omega)
          have h8 : ksz ([] : List ByteArray) = 0 := rfl
          omega
        have HSz := hide hsz
        have HKs : Hid (ks.length = j) := hide (by rw [hks.out, List.length_replicate])
        have HLs : Hid (l.length = j) := hide (by rw [hl.out, List.length_take]; have := HN.out; omega)
        have HKl : Hid (ks.length ≤ 1000000) := hide (by rw [HKs.out]; omega)
        have HLl : Hid (l.length ≤ 1000000) := hide (by rw [HLs.out]; omega)
        by_cases h2 : j < n
        · obtain ⟨E, hE⟩ : ∃ E, l0[j]? = some E := ⟨_, List.getElem?_eq_getElem (by have := HN.out; omega)⟩
          obtain ⟨g, o, rfl, hg, hc⟩ := HRow.out.at_ hE
          obtain ⟨eA, ec, en', eB, ed, em, hce, -, -⟩ := E.open5
          generalize E.v.k = ek at hce
          generalize E.v.i = ei at hce
          generalize E.v.t = et at hce
          have hEv : (JN.vs l0)[j]? = some E.v := by rw [JN.vs_at, hE]; rfl
          have HEv := hide hEv
          have HEi := hide (HIns.out.at_ hE)
          have HEc := hide hce
          have HJl : Hid (l ++ [E] = l0.take (j + 1)) := hide (by rw [hl.out, take_snoc hE])
          have HJk : Hid (ks ++ [key] = List.replicate (j + 1) key) := hide (by rw [hks.out, List.replicate_succ'])
          rw [hce] at hc
          have c0' : W.cell? ⟨g, o + j * 5, none⟩ = some (.int .i64 ek) := hc 0 _ rfl
          have c1' : W.cell? ⟨g, o + j * 5 + 1, none⟩ = some (.int .i64 ei) := hc 1 _ rfl
          have c2' : W.cell? ⟨g, o + j * 5 + 2, none⟩ = some (.string et) := hc 2 _ rfl
          have c3' : W.cell? ⟨g, o + j * 5 + 3, none⟩ = some (.slice eA en' ec) := hc 3 _ rfl
          have c4' : W.cell? ⟨g, o + j * 5 + 4, none⟩ = some (.slice eB em ed) := hc 4 _ rfl
          have HCf := hide (fun (w' : World) (m : Mod [] W w') => And.intro ((m.cell (p := ⟨g, o + j * 5, none⟩) hg (by simp)).trans c0') (And.intro ((m.cell (p := ⟨g, o + j * 5 + 1, none⟩) hg (by simp)).trans c1') (And.intro ((m.cell (p := ⟨g, o + j * 5 + 2, none⟩) hg (by simp)).trans c2') (And.intro ((m.cell (p := ⟨g, o + j * 5 + 3, none⟩) hg (by simp)).trans c3') ((m.cell (p := ⟨g, o + j * 5 + 4, none⟩) hg (by simp)).trans c4')))))
          have HSf : Hid (∀ w' : World, Blk w' ob 25 (JN.mk 6 0 ⟨#[]⟩ A c l B d ks).cells → Mod [] W w' → (fun wq => (wq.cell? ⟨ob, 3, none⟩ = some (.slice A l.length c) ∧ wq.cell? ⟨ob, 4, none⟩ = some (.slice B ks.length d)) ∧ wq.cell? ⟨g, o + j * 5, none⟩ = some (.int .i64 ek) ∧ wq.cell? ⟨g, o + j * 5 + 1, none⟩ = some (.int .i64 ei) ∧ wq.cell? ⟨g, o + j * 5 + 2, none⟩ = some (.string et) ∧ wq.cell? ⟨g, o + j * 5 + 3, none⟩ = some (.slice eA en' ec) ∧ wq.cell? ⟨g, o + j * 5 + 4, none⟩ = some (.slice eB em ed)) w') := hide (fun w' hv m => ⟨⟨hv.cell 3, hv.cell 4⟩, HCf.out w' m⟩)
          obtain ⟨y0, y1, y2, y3, y4⟩ := HCf.out wr hlp.out.m
          have HEm : Hid (jmay 8 E.v = true) := hide (jmay_up 7 _ ((jmays_iff 7 _).1 HMs.out E.v (List.mem_of_getElem? hEv)))
          have hEr : jrng E.v = true := jrngs_at HRs.out hEv
          have hEl : (jwr E.v).length ≤ 61410 := by
            have h1 := jws_mem (d := 20) (List.mem_of_getElem? hEv)
            have h2 := HWs.out
            have h3 := jwr_le E.v 20 (by omega) hEr
            omega
          have HEl := hide hEl
          have HW5 := hide (HWr.out wr hlp.out.m E (HEi.out.new hlp.out.m) hEr (by omega) HEm.out)
          rw [hce] at HW5
          have hii : (j : Int) < (n : Int) := by omega
          have a1 : IntKind.i64.wrap ((j : Int) + 1) = (j : Int) + 1 := IntWalk.i64_in _ (by omega)
          clear hE hc hEv hce c0' c1' c2' c3' c4' hEr hEl hsz
          go_wp2_with fail
          refine HW5.out.mono ?_
          rintro en2 w6 ⟨Q, rfl, hQ, m6⟩
          have HL6 := hide (hlp.out.mod m6)
          have hqs : Q.size ≤ 61410 := by have h1 : Q.data.toList.length = Q.size := bytes_len Q; rw [hQ] at h1; have := HEl.out; omega
          have HQ := hide hQ
          have HDr : Hid ((List.replicate n key).drop j = key :: List.replicate (n - j - 1) key) := hide (by rw [List.drop_replicate, show n - j = (n - j - 1) + 1 by omega, List.replicate_succ, Nat.add_sub_cancel])
          have HTl : Hid (((JN.vs l0).take j).length = j) := hide (by rw [List.length_take, JN.vs_len]; have := HN.out; omega)
          clear m6 hQ HW5 y0 y1 y2 y3 y4
          by_cases hj0 : j = 0
          · have hj1 : decide ((0 : Int) < (j : Int)) = false := decide_eq_false (by omega)
            have hj1n : decide (0 < j) = false := decide_eq_false (by omega)
            have s1 : ¬ 9223372036854775807 < all.size + Q.size := by have := HSz.out; omega
            have s2 : ¬ 9223372036854775807 < KP.size + 1 := by omega
            have s3 : ¬ 9223372036854775807 < KP.size + 1 + Q.size := by omega
            have s4 : ¬ 9223372036854775807 < obj.size + (KP.size + 1 + Q.size) := by have := HSz.out; omega
            obtain ⟨all2, hall2⟩ : ∃ all2, all2 = all ++ Q := ⟨_, rfl⟩
            obtain ⟨obj2, hobj2⟩ : ∃ obj2, obj2 = obj ++ (KP ++ ⟨#[58]⟩ ++ Q) := ⟨_, rfl⟩
            have HAll2 : Hid (all2.data.toList = 91 :: jwrs false ((JN.vs l0).take (j + 1)) []) := hide (by
              rw [hall2, take_snoc HEv.out, jwrs_snoc, HTl.out, if_pos hj0]
              simp [hall.out, HQ.out, jkeyed])
            have HObj2 : Hid (obj2.data.toList = 123 :: jwrs true ((JN.vs l0).take (j + 1)) (List.replicate n key)) := hide (by
              rw [hobj2, take_snoc HEv.out, jwrs_snoc, HTl.out, if_pos hj0, HDr.out]
              simp [hobj.out, HQ.out, HKP.out, jkeyed])
            clear hj0 h2
            have HA2 := hide hall2
            have HO2 := hide hobj2
            clear hall2 hobj2
            go_wp2_with fail
            rw [← HA2.out, ← HO2.out]
            refine wp_region_until [14, 16] (fun wq => (wq.cell? ⟨ob, 3, none⟩ = some (.slice A l.length c) ∧ wq.cell? ⟨ob, 4, none⟩ = some (.slice B ks.length d)) ∧ wq.cell? ⟨g, o + j * 5, none⟩ = some (.int .i64 ek) ∧ wq.cell? ⟨g, o + j * 5 + 1, none⟩ = some (.int .i64 ei) ∧ wq.cell? ⟨g, o + j * 5 + 2, none⟩ = some (.string et) ∧ wq.cell? ⟨g, o + j * 5 + 3, none⟩ = some (.slice eA en' ec) ∧ wq.cell? ⟨g, o + j * 5 + 4, none⟩ = some (.slice eB em ed)) (by kernel_rfl) ?_
            have HLd := hide (HL6.out.mod ((Mod.refl [] w6).drew))
            refine takeU (i := 0) (v := ?_) 75 rfl rfl (by kernel_rfl) (by kernel_rfl) (by kernel_rfl) (by kernel_rfl) (fun _ _ _ h => h) (Or.inl ⟨by rfl, ?_⟩) (HSf.out _ HLd.out.v HLd.out.m) ?_
            rotate_left
            · intro wq hSw
              obtain ⟨⟨so3, so4⟩, se0, se1, se2, se3, se4⟩ := hSw
              go_simp
              first | done | (with_reducible rfl)
            simp only [Act.put, List.setIfInBounds_toArray, List.set_cons_zero, List.set_cons_succ]
            refine takeU (i := 1) (v := ?_) 76 rfl rfl (by kernel_rfl) (by kernel_rfl) (by kernel_rfl) (by kernel_rfl) (fun _ _ _ h => h) (Or.inl ⟨by rfl, ?_⟩) (HSf.out _ HLd.out.v HLd.out.m) ?_
            rotate_left
            · intro wq hSw
              obtain ⟨⟨so3, so4⟩, se0, se1, se2, se3, se4⟩ := hSw
              go_simp
              first | done | (with_reducible rfl)
            simp only [Act.put, List.setIfInBounds_toArray, List.set_cons_zero, List.set_cons_succ]
            refine takeU (i := 2) (v := ?_) 77 rfl rfl (by kernel_rfl) (by kernel_rfl) (by kernel_rfl) (by kernel_rfl) (fun _ _ _ h => h) (Or.inl ⟨by rfl, ?_⟩) (HSf.out _ HLd.out.v HLd.out.m) ?_
            rotate_left
            · intro wq hSw
              obtain ⟨⟨so3, so4⟩, se0, se1, se2, se3, se4⟩ := hSw
              go_simp
              first | done | (with_reducible rfl)
            simp only [Act.put, List.setIfInBounds_toArray, List.set_cons_zero, List.set_cons_succ]
            refine takeU (i := 5) (v := ?_) 80 rfl rfl (by kernel_rfl) (by kernel_rfl) (by kernel_rfl) (by kernel_rfl) (fun _ _ _ h => h) (Or.inl ⟨by rfl, ?_⟩) (HSf.out _ HLd.out.v HLd.out.m) ?_
            rotate_left
            · intro wq hSw
              obtain ⟨⟨so3, so4⟩, se0, se1, se2, se3, se4⟩ := hSw
              go_simp
              first | done | (with_reducible rfl)
            simp only [Act.put, List.setIfInBounds_toArray, List.set_cons_zero, List.set_cons_succ]
            refine takeU (i := 6) (v := ?_) 81 rfl rfl (by kernel_rfl) (by kernel_rfl) (by kernel_rfl) (by kernel_rfl) (fun _ _ _ h => h) (Or.inl ⟨by rfl, ?_⟩) (HSf.out _ HLd.out.v HLd.out.m) ?_
            rotate_left
            · intro wq hSw
              obtain ⟨⟨so3, so4⟩, se0, se1, se2, se3, se4⟩ := hSw
              go_simp
              first | done | (with_reducible rfl)
            simp only [Act.put, List.setIfInBounds_toArray, List.set_cons_zero, List.set_cons_succ]
            refine takeU (i := 7) (v := ?_) 82 rfl rfl (by kernel_rfl) (by kernel_rfl) (by kernel_rfl) (by kernel_rfl) (fun _ _ _ h => h) (Or.inl ⟨by rfl, ?_⟩) (HSf.out _ HLd.out.v HLd.out.m) ?_
            rotate_left
            · intro wq hSw
              obtain ⟨⟨so3, so4⟩, se0, se1, se2, se3, se4⟩ := hSw
              go_simp
              first | done | (with_reducible rfl)
            simp only [Act.put, List.setIfInBounds_toArray, List.set_cons_zero, List.set_cons_succ]
            refine takeU (i := 8) (v := ?_) 83 rfl rfl (by kernel_rfl) (by kernel_rfl) (by kernel_rfl) (by kernel_rfl) (fun _ _ _ h => h) (Or.inl ⟨by rfl, ?_⟩) (HSf.out _ HLd.out.v HLd.out.m) ?_
            rotate_left
            · intro wq hSw
              obtain ⟨⟨so3, so4⟩, se0, se1, se2, se3, se4⟩ := hSw
              go_simp
              first | done | (with_reducible rfl)
            simp only [Act.put, List.setIfInBounds_toArray, List.set_cons_zero, List.set_cons_succ]
            refine takeU (i := 9) (v := ?_) 84 rfl rfl (by kernel_rfl) (by kernel_rfl) (by kernel_rfl) (by kernel_rfl) (fun _ _ _ h => h) (Or.inl ⟨by rfl, ?_⟩) (HSf.out _ HLd.out.v HLd.out.m) ?_
            rotate_left
            · intro wq hSw
              obtain ⟨⟨so3, so4⟩, se0, se1, se2, se3, se4⟩ := hSw
              go_simp
              first | done | (with_reducible rfl)
            simp only [Act.put, List.setIfInBounds_toArray, List.set_cons_zero, List.set_cons_succ]
            refine takeU (i := 10) (v := ?_) 85 rfl rfl (by kernel_rfl) (by kernel_rfl) (by kernel_rfl) (by kernel_rfl) (fun _ _ _ h => h) (Or.inl ⟨by rfl, ?_⟩) (HSf.out _ HLd.out.v HLd.out.m) ?_
            rotate_left
            · intro wq hSw
              obtain ⟨⟨so3, so4⟩, se0, se1, se2, se3, se4⟩ := hSw
              go_simp
              first | done | (with_reducible rfl)
            simp only [Act.put, List.setIfInBounds_toArray, List.set_cons_zero, List.set_cons_succ]
            refine wpAnyU_ready (rs := [3, 11]) (by kernel_rfl) (by simp) ?_
            refine AllReadyU.cons rfl (fun K hK => ?_) (AllReadyU.cons rfl (fun K hK => ?_) AllReadyU.nil)
            · go_simp
              have HL_1 := hide (HLd.out.mod ((Mod.refl [] w6.drew).alloc (.cells #[.string key] 9)))
              have HZ_1 := hide (Blk.new w6.drew 9 #[.string key])
              refine hK.out _ _ (fun _ => HSf.out _ HL_1.out.v HL_1.out.m) ?_
              clear hK K
              try simp only [Act.put, List.setIfInBounds_toArray, List.set_cons_zero, List.set_cons_succ]
              refine wpAnyU_ready (rs := [4, 11]) (by kernel_rfl) (by simp) ?_
              refine AllReadyU.cons rfl (fun K hK => ?_) (AllReadyU.cons rfl (fun K hK => ?_) AllReadyU.nil)
              · obtain ⟨B_2, d_2, w_2, hrun, hl, hkeep⟩ := HL_1.out.key HKl.out key _ HZ_1.out
                have HRun := hide hrun
                have HL_2 := hide hl
                clear hrun hl hkeep
                refine step_append_runL rfl (.tmp 76) (.tmp 78) 23 23 rfl (.slice B ks.length d) (.slice (some ⟨w6.drew.heap.size, 0, none⟩) 1 1) (by simp [Act.eval]) (by simp [Act.eval]) HRun.out ?_
                refine hK.out _ _ (fun _ => HSf.out _ HL_2.out.v HL_2.out.m) ?_
                clear hK K
                try simp only [Act.put, List.setIfInBounds_toArray, List.set_cons_zero, List.set_cons_succ]
                refine takeU (i := 13) (v := ?_) 88 rfl rfl (by kernel_rfl) (by kernel_rfl) (by kernel_rfl) (by kernel_rfl) (fun _ _ _ h => h) (Or.inl ⟨by rfl, ?_⟩) (HSf.out _ HL_2.out.v HL_2.out.m) ?_
                rotate_left
                · intro wq hSw
                  obtain ⟨⟨so3, so4⟩, se0, se1, se2, se3, se4⟩ := hSw
                  go_simp
                  first | done | (with_reducible rfl)
                simp only [Act.put, List.setIfInBounds_toArray, List.set_cons_zero, List.set_cons_succ]
                refine wpAnyU_ready (rs := [11]) (by kernel_rfl) (by simp) ?_
                refine AllReadyU.cons rfl (fun K hK => ?_) AllReadyU.nil
                · go_simp
                  have HL_3 := hide (HL_2.out.mod ((Mod.refl [] w_2).alloc (.cells #[.int .i64 ek, .int .i64 ei, .string et, .slice eA en' ec, .slice eB em ed] 25)))
                  have HZ_3 := hide (Blk.new w_2 25 #[.int .i64 ek, .int .i64 ei, .string et, .slice eA en' ec, .slice eB em ed])
                  refine hK.out _ _ (fun _ => HSf.out _ HL_3.out.v HL_3.out.m) ?_
                  clear hK K
                  try simp only [Act.put, List.setIfInBounds_toArray, List.set_cons_zero, List.set_cons_succ]
                  refine wpAnyU_ready (rs := [12]) (by kernel_rfl) (by simp) ?_
                  refine AllReadyU.cons rfl (fun K hK => ?_) AllReadyU.nil
                  · obtain ⟨A_4, c_4, w_4, hrun, hl, hkeep⟩ := HL_3.out.val HLl.out E _ (by rw [HEc.out]; exact HZ_3.out)
                    have HRun := hide hrun
                    have HL_4 := hide hl
                    clear hrun hl hkeep
                    refine step_append_runL rfl (.tmp 81) (.tmp 86) 22 22 rfl (.slice A l.length c) (.slice (some ⟨w_2.heap.size, 0, none⟩) 1 1) (by simp [Act.eval]) (by simp [Act.eval]) HRun.out ?_
                    refine hK.out _ _ (fun _ => HSf.out _ HL_4.out.v HL_4.out.m) ?_
                    clear hK K
                    try simp only [Act.put, List.setIfInBounds_toArray, List.set_cons_zero, List.set_cons_succ]
                    have so3 : w_4.cell? ⟨ob, 3, none⟩ = some (.slice A l.length c) := HL_4.out.v.cell 3
                    have sf3 : w_4.frozen? ⟨ob, 3, none⟩ = false := HL_4.out.v.frozen 3
                    have so4 : w_4.cell? ⟨ob, 4, none⟩ = some (.slice B ks.length d) := HL_4.out.v.cell 4
                    have sf4 : w_4.frozen? ⟨ob, 4, none⟩ = false := HL_4.out.v.frozen 4
                    have sl := HL_4.out.v.lt
                    refine wpAnyU_ready (rs := [14]) (by kernel_rfl) (by simp) ?_
                    refine AllReadyU.cons rfl (fun K hK => ?_) AllReadyU.nil
                    go_simp
                    refine hK.out _ _ (fun h => by cases h) ?_
                    clear hK K
                    try simp only [Act.put, List.setIfInBounds_toArray, List.set_cons_zero, List.set_cons_succ]
                    refine wpAnyU_ready (rs := [15]) (by kernel_rfl) (by simp) ?_
                    refine AllReadyU.cons rfl (fun K hK => ?_) AllReadyU.nil
                    go_simp
                    refine hK.out _ _ (fun h => by cases h) ?_
                    clear hK K
                    try simp only [Act.put, List.setIfInBounds_toArray, List.set_cons_zero, List.set_cons_succ]
                    refine wpAnyU_ready (rs := [16]) (by kernel_rfl) (by simp) ?_
                    refine AllReadyU.cons rfl (fun K hK => ?_) AllReadyU.nil
                    go_simp
                    refine hK.out _ _ (fun h => by cases h) ?_
                    clear hK K
                    try simp only [Act.put, List.setIfInBounds_toArray, List.set_cons_zero, List.set_cons_succ]
                    have HE := hide (show LP W _ base ob A_4 c_4 (l ++ [E]) B_2 d_2 (ks ++ [key]) A_4 c_4 (l ++ [E]) B_2 d_2 (ks ++ [key]) from (HL_4.out.set4).set3)
                    refine wpAnyU_done (by kernel_rfl) ?_ _
                    have hl1 : (l ++ [E]).length = l.length + 1 := by simp
                    have hk1 : (ks ++ [key]).length = ks.length + 1 := by simp
                    rw [hl1, hk1] at HE
                    clear hl1 hk1
                    go_wp2_with fail
                    refine ⟨?rel, ?measure⟩
                    case rel => exact ⟨j + 1, all2, obj2, A_4, c_4, l ++ [E], B_2, d_2, ks ++ [key], by omega, rfl, rfl, by go_num, HJl, HJk, HAll2, HObj2, hide (by simpa using HE.out)⟩
                    case measure => simp [intOf]; omega
              · go_simp
                have HL_5 := hide (HL_1.out.mod ((Mod.refl [] (w6.drew.alloc (.cells #[.string key] 9))).alloc (.cells #[.int .i64 ek, .int .i64 ei, .string et, .slice eA en' ec, .slice eB em ed] 25)))
                have HZ_5 := hide (Blk.new (w6.drew.alloc (.cells #[.string key] 9)) 25 #[.int .i64 ek, .int .i64 ei, .string et, .slice eA en' ec, .slice eB em ed])
                have HY_5 := hide (HZ_1.out.alloc (.cells #[.int .i64 ek, .int .i64 ei, .string et, .slice eA en' ec, .slice eB em ed] 25))
                refine hK.out _ _ (fun _ => HSf.out _ HL_5.out.v HL_5.out.m) ?_
                clear hK K
                try simp only [Act.put, List.setIfInBounds_toArray, List.set_cons_zero, List.set_cons_succ]
                refine wpAnyU_ready (rs := [4]) (by kernel_rfl) (by simp) ?_
                refine AllReadyU.cons rfl (fun K hK => ?_) AllReadyU.nil
                · obtain ⟨B_6, d_6, w_6, hrun, hl, hkeep⟩ := HL_5.out.key HKl.out key _ HY_5.out
                  have HRun := hide hrun
                  have HL_6 := hide hl
                  have HY_6 := hide (hkeep _ _ HZ_5.out)
                  clear hrun hl hkeep
                  refine step_append_runL rfl (.tmp 76) (.tmp 78) 23 23 rfl (.slice B ks.length d) (.slice (some ⟨w6.drew.heap.size, 0, none⟩) 1 1) (by simp [Act.eval]) (by simp [Act.eval]) HRun.out ?_
                  refine hK.out _ _ (fun _ => HSf.out _ HL_6.out.v HL_6.out.m) ?_
                  clear hK K
                  try simp only [Act.put, List.setIfInBounds_toArray, List.set_cons_zero, List.set_cons_succ]
                  refine takeU (i := 13) (v := ?_) 88 rfl rfl (by kernel_rfl) (by kernel_rfl) (by kernel_rfl) (by kernel_rfl) (fun _ _ _ h => h) (Or.inl ⟨by rfl, ?_⟩) (HSf.out _ HL_6.out.v HL_6.out.m) ?_
                  rotate_left
                  · intro wq hSw
                    obtain ⟨⟨so3, so4⟩, se0, se1, se2, se3, se4⟩ := hSw
                    go_simp
                    first | done | (with_reducible rfl)
                  simp only [Act.put, List.setIfInBounds_toArray, List.set_cons_zero, List.set_cons_succ]
                  refine wpAnyU_ready (rs := [12]) (by kernel_rfl) (by simp) ?_
                  refine AllReadyU.cons rfl (fun K hK => ?_) AllReadyU.nil
                  · obtain ⟨A_7, c_7, w_7, hrun, hl, hkeep⟩ := HL_6.out.val HLl.out E _ (by rw [HEc.out]; exact HY_6.out)
                    have HRun := hide hrun
                    have HL_7 := hide hl
                    clear hrun hl hkeep
                    refine step_append_runL rfl (.tmp 81) (.tmp 86) 22 22 rfl (.slice A l.length c) (.slice (some ⟨(w6.drew.alloc (.cells #[.string key] 9)).heap.size, 0, none⟩) 1 1) (by simp [Act.eval]) (by simp [Act.eval]) HRun.out ?_
                    refine hK.out _ _ (fun _ => HSf.out _ HL_7.out.v HL_7.out.m) ?_
                    clear hK K
                    try simp only [Act.put, List.setIfInBounds_toArray, List.set_cons_zero, List.set_cons_succ]
                    have so3 : w_7.cell? ⟨ob, 3, none⟩ = some (.slice A l.length c) := HL_7.out.v.cell 3
                    have sf3 : w_7.frozen? ⟨ob, 3, none⟩ = false := HL_7.out.v.frozen 3
                    have so4 : w_7.cell? ⟨ob, 4, none⟩ = some (.slice B ks.length d) := HL_7.out.v.cell 4
                    have sf4 : w_7.frozen? ⟨ob, 4, none⟩ = false := HL_7.out.v.frozen 4
                    have sl := HL_7.out.v.lt
                    refine wpAnyU_ready (rs := [14]) (by kernel_rfl) (by simp) ?_
                    refine AllReadyU.cons rfl (fun K hK => ?_) AllReadyU.nil
                    go_simp
                    refine hK.out _ _ (fun h => by cases h) ?_
                    clear hK K
                    try simp only [Act.put, List.setIfInBounds_toArray, List.set_cons_zero, List.set_cons_succ]
                    refine wpAnyU_ready (rs := [15]) (by kernel_rfl) (by simp) ?_
                    refine AllReadyU.cons rfl (fun K hK => ?_) AllReadyU.nil
                    go_simp
                    refine hK.out _ _ (fun h => by cases h) ?_
                    clear hK K
                    try simp only [Act.put, List.setIfInBounds_toArray, List.set_cons_zero, List.set_cons_succ]
                    refine wpAnyU_ready (rs := [16]) (by kernel_rfl) (by simp) ?_
                    refine AllReadyU.cons rfl (fun K hK => ?_) AllReadyU.nil
                    go_simp
                    refine hK.out _ _ (fun h => by cases h) ?_
                    clear hK K
                    try simp only [Act.put, List.setIfInBounds_toArray, List.set_cons_zero, List.set_cons_succ]
                    have HE := hide (show LP W _ base ob A_7 c_7 (l ++ [E]) B_6 d_6 (ks ++ [key]) A_7 c_7 (l ++ [E]) B_6 d_6 (ks ++ [key]) from (HL_7.out.set4).set3)
                    refine wpAnyU_done (by kernel_rfl) ?_ _
                    have hl1 : (l ++ [E]).length = l.length + 1 := by simp
                    have hk1 : (ks ++ [key]).length = ks.length + 1 := by simp
                    rw [hl1, hk1] at HE
                    clear hl1 hk1
                    go_wp2_with fail
                    refine ⟨?rel, ?measure⟩
                    case rel => exact ⟨j + 1, all2, obj2, A_7, c_7, l ++ [E], B_6, d_6, ks ++ [key], by omega, rfl, rfl, by go_num, HJl, HJk, HAll2, HObj2, hide (by simpa using HE.out)⟩
                    case measure => simp [intOf]; omega
            · go_simp
              have HL_8 := hide (HLd.out.mod ((Mod.refl [] w6.drew).alloc (.cells #[.int .i64 ek, .int .i64 ei, .string et, .slice eA en' ec, .slice eB em ed] 25)))
              have HZ_8 := hide (Blk.new w6.drew 25 #[.int .i64 ek, .int .i64 ei, .string et, .slice eA en' ec, .slice eB em ed])
              refine hK.out _ _ (fun _ => HSf.out _ HL_8.out.v HL_8.out.m) ?_
              clear hK K
              try simp only [Act.put, List.setIfInBounds_toArray, List.set_cons_zero, List.set_cons_succ]
              refine wpAnyU_ready (rs := [3]) (by kernel_rfl) (by simp) ?_
              refine AllReadyU.cons rfl (fun K hK => ?_) AllReadyU.nil
              · go_simp
                have HL_9 := hide (HL_8.out.mod ((Mod.refl [] (w6.drew.alloc (.cells #[.int .i64 ek, .int .i64 ei, .string et, .slice eA en' ec, .slice eB em ed] 25))).alloc (.cells #[.string key] 9)))
                have HZ_9 := hide (Blk.new (w6.drew.alloc (.cells #[.int .i64 ek, .int .i64 ei, .string et, .slice eA en' ec, .slice eB em ed] 25)) 9 #[.string key])
                have HY_9 := hide (HZ_8.out.alloc (.cells #[.string key] 9))
                refine hK.out _ _ (fun _ => HSf.out _ HL_9.out.v HL_9.out.m) ?_
                clear hK K
                try simp only [Act.put, List.setIfInBounds_toArray, List.set_cons_zero, List.set_cons_succ]
                refine wpAnyU_ready (rs := [4]) (by kernel_rfl) (by simp) ?_
                refine AllReadyU.cons rfl (fun K hK => ?_) AllReadyU.nil
                · obtain ⟨B_10, d_10, w_10, hrun, hl, hkeep⟩ := HL_9.out.key HKl.out key _ HZ_9.out
                  have HRun := hide hrun
                  have HL_10 := hide hl
                  have HY_10 := hide (hkeep _ _ HY_9.out)
                  clear hrun hl hkeep
                  refine step_append_runL rfl (.tmp 76) (.tmp 78) 23 23 rfl (.slice B ks.length d) (.slice (some ⟨(w6.drew.alloc (.cells #[.int .i64 ek, .int .i64 ei, .string et, .slice eA en' ec, .slice eB em ed] 25)).heap.size, 0, none⟩) 1 1) (by simp [Act.eval]) (by simp [Act.eval]) HRun.out ?_
                  refine hK.out _ _ (fun _ => HSf.out _ HL_10.out.v HL_10.out.m) ?_
                  clear hK K
                  try simp only [Act.put, List.setIfInBounds_toArray, List.set_cons_zero, List.set_cons_succ]
                  refine takeU (i := 13) (v := ?_) 88 rfl rfl (by kernel_rfl) (by kernel_rfl) (by kernel_rfl) (by kernel_rfl) (fun _ _ _ h => h) (Or.inl ⟨by rfl, ?_⟩) (HSf.out _ HL_10.out.v HL_10.out.m) ?_
                  rotate_left
                  · intro wq hSw
                    obtain ⟨⟨so3, so4⟩, se0, se1, se2, se3, se4⟩ := hSw
                    go_simp
                    first | done | (with_reducible rfl)
                  simp only [Act.put, List.setIfInBounds_toArray, List.set_cons_zero, List.set_cons_succ]
                  refine wpAnyU_ready (rs := [12]) (by kernel_rfl) (by simp) ?_
                  refine AllReadyU.cons rfl (fun K hK => ?_) AllReadyU.nil
                  · obtain ⟨A_11, c_11, w_11, hrun, hl, hkeep⟩ := HL_10.out.val HLl.out E _ (by rw [HEc.out]; exact HY_10.out)
                    have HRun := hide hrun
                    have HL_11 := hide hl
                    clear hrun hl hkeep
                    refine step_append_runL rfl (.tmp 81) (.tmp 86) 22 22 rfl (.slice A l.length c) (.slice (some ⟨w6.drew.heap.size, 0, none⟩) 1 1) (by simp [Act.eval]) (by simp [Act.eval]) HRun.out ?_
                    refine hK.out _ _ (fun _ => HSf.out _ HL_11.out.v HL_11.out.m) ?_
                    clear hK K
                    try simp only [Act.put, List.setIfInBounds_toArray, List.set_cons_zero, List.set_cons_succ]
                    have so3 : w_11.cell? ⟨ob, 3, none⟩ = some (.slice A l.length c) := HL_11.out.v.cell 3
                    have sf3 : w_11.frozen? ⟨ob, 3, none⟩ = false := HL_11.out.v.frozen 3
                    have so4 : w_11.cell? ⟨ob, 4, none⟩ = some (.slice B ks.length d) := HL_11.out.v.cell 4
                    have sf4 : w_11.frozen? ⟨ob, 4, none⟩ = false := HL_11.out.v.frozen 4
                    have sl := HL_11.out.v.lt
                    refine wpAnyU_ready (rs := [14]) (by kernel_rfl) (by simp) ?_
                    refine AllReadyU.cons rfl (fun K hK => ?_) AllReadyU.nil
                    go_simp
                    refine hK.out _ _ (fun h => by cases h) ?_
                    clear hK K
                    try simp only [Act.put, List.setIfInBounds_toArray, List.set_cons_zero, List.set_cons_succ]
                    refine wpAnyU_ready (rs := [15]) (by kernel_rfl) (by simp) ?_
                    refine AllReadyU.cons rfl (fun K hK => ?_) AllReadyU.nil
                    go_simp
                    refine hK.out _ _ (fun h => by cases h) ?_
                    clear hK K
                    try simp only [Act.put, List.setIfInBounds_toArray, List.set_cons_zero, List.set_cons_succ]
                    refine wpAnyU_ready (rs := [16]) (by kernel_rfl) (by simp) ?_
                    refine AllReadyU.cons rfl (fun K hK => ?_) AllReadyU.nil
                    go_simp
                    refine hK.out _ _ (fun h => by cases h) ?_
                    clear hK K
                    try simp only [Act.put, List.setIfInBounds_toArray, List.set_cons_zero, List.set_cons_succ]
                    have HE := hide (show LP W _ base ob A_11 c_11 (l ++ [E]) B_10 d_10 (ks ++ [key]) A_11 c_11 (l ++ [E]) B_10 d_10 (ks ++ [key]) from (HL_11.out.set4).set3)
                    refine wpAnyU_done (by kernel_rfl) ?_ _
                    have hl1 : (l ++ [E]).length = l.length + 1 := by simp
                    have hk1 : (ks ++ [key]).length = ks.length + 1 := by simp
                    rw [hl1, hk1] at HE
                    clear hl1 hk1
                    go_wp2_with fail
                    refine ⟨?rel, ?measure⟩
                    case rel => exact ⟨j + 1, all2, obj2, A_11, c_11, l ++ [E], B_10, d_10, ks ++ [key], by omega, rfl, rfl, by go_num, HJl, HJk, HAll2, HObj2, hide (by simpa using HE.out)⟩
                    case measure => simp [intOf]; omega
          · have hj1 : (0 : Int) < (j : Int) := by omega
            have s0 : ¬ 9223372036854775807 < all.size + 1 := by have := HSz.out; omega
            have s0' : ¬ 9223372036854775807 < obj.size + 1 := by have := HSz.out; omega
            have s1 : ¬ 9223372036854775807 < all.size + 1 + Q.size := by have := HSz.out; omega
            have s2 : ¬ 9223372036854775807 < KP.size + 1 := by omega
            have s3 : ¬ 9223372036854775807 < KP.size + 1 + Q.size := by omega
            have s4 : ¬ 9223372036854775807 < obj.size + 1 + (KP.size + 1 + Q.size) := by have := HSz.out; omega
            obtain ⟨all2, hall2⟩ : ∃ all2, all2 = all ++ ⟨#[44]⟩ ++ Q := ⟨_, rfl⟩
            obtain ⟨obj2, hobj2⟩ : ∃ obj2, obj2 = obj ++ ⟨#[44]⟩ ++ (KP ++ ⟨#[58]⟩ ++ Q) := ⟨_, rfl⟩
            have HAll2 : Hid (all2.data.toList = 91 :: jwrs false ((JN.vs l0).take (j + 1)) []) := hide (by
              rw [hall2, take_snoc HEv.out, jwrs_snoc, HTl.out, if_neg hj0]
              simp [hall.out, HQ.out, jkeyed])
            have HObj2 : Hid (obj2.data.toList = 123 :: jwrs true ((JN.vs l0).take (j + 1)) (List.replicate n key)) := hide (by
              rw [hobj2, take_snoc HEv.out, jwrs_snoc, HTl.out, if_neg hj0, HDr.out]
              simp [hobj.out, HQ.out, HKP.out, jkeyed])
            have HA2 := hide hall2
            have HO2 := hide hobj2
            clear hall2 hobj2 hj0 h2
            go_wp2_with fail
            rw [← HA2.out, ← HO2.out]
            refine wp_region_until [14, 16] (fun wq => (wq.cell? ⟨ob, 3, none⟩ = some (.slice A l.length c) ∧ wq.cell? ⟨ob, 4, none⟩ = some (.slice B ks.length d)) ∧ wq.cell? ⟨g, o + j * 5, none⟩ = some (.int .i64 ek) ∧ wq.cell? ⟨g, o + j * 5 + 1, none⟩ = some (.int .i64 ei) ∧ wq.cell? ⟨g, o + j * 5 + 2, none⟩ = some (.string et) ∧ wq.cell? ⟨g, o + j * 5 + 3, none⟩ = some (.slice eA en' ec) ∧ wq.cell? ⟨g, o + j * 5 + 4, none⟩ = some (.slice eB em ed)) (by kernel_rfl) ?_
            have HLd := hide (HL6.out.mod ((Mod.refl [] w6).drew))
            refine takeU (i := 0) (v := ?_) 75 rfl rfl (by kernel_rfl) (by kernel_rfl) (by kernel_rfl) (by kernel_rfl) (fun _ _ _ h => h) (Or.inl ⟨by rfl, ?_⟩) (HSf.out _ HLd.out.v HLd.out.m) ?_
            rotate_left
            · intro wq hSw
              obtain ⟨⟨so3, so4⟩, se0, se1, se2, se3, se4⟩ := hSw
              go_simp
              first | done | (with_reducible rfl)
            simp only [Act.put, List.setIfInBounds_toArray, List.set_cons_zero, List.set_cons_succ]
            refine takeU (i := 1) (v := ?_) 76 rfl rfl (by kernel_rfl) (by kernel_rfl) (by kernel_rfl) (by kernel_rfl) (fun _ _ _ h => h) (Or.inl ⟨by rfl, ?_⟩) (HSf.out _ HLd.out.v HLd.out.m) ?_
            rotate_left
            · intro wq hSw
              obtain ⟨⟨so3, so4⟩, se0, se1, se2, se3, se4⟩ := hSw
              go_simp
              first | done | (with_reducible rfl)
            simp only [Act.put, List.setIfInBounds_toArray, List.set_cons_zero, List.set_cons_succ]
            refine takeU (i := 2) (v := ?_) 77 rfl rfl (by kernel_rfl) (by kernel_rfl) (by kernel_rfl) (by kernel_rfl) (fun _ _ _ h => h) (Or.inl ⟨by rfl, ?_⟩) (HSf.out _ HLd.out.v HLd.out.m) ?_
            rotate_left
            · intro wq hSw
              obtain ⟨⟨so3, so4⟩, se0, se1, se2, se3, se4⟩ := hSw
              go_simp
              first | done | (with_reducible rfl)
            simp only [Act.put, List.setIfInBounds_toArray, List.set_cons_zero, List.set_cons_succ]
            refine takeU (i := 5) (v := ?_) 80 rfl rfl (by kernel_rfl) (by kernel_rfl) (by kernel_rfl) (by kernel_rfl) (fun _ _ _ h => h) (Or.inl ⟨by rfl, ?_⟩) (HSf.out _ HLd.out.v HLd.out.m) ?_
            rotate_left
            · intro wq hSw
              obtain ⟨⟨so3, so4⟩, se0, se1, se2, se3, se4⟩ := hSw
              go_simp
              first | done | (with_reducible rfl)
            simp only [Act.put, List.setIfInBounds_toArray, List.set_cons_zero, List.set_cons_succ]
            refine takeU (i := 6) (v := ?_) 81 rfl rfl (by kernel_rfl) (by kernel_rfl) (by kernel_rfl) (by kernel_rfl) (fun _ _ _ h => h) (Or.inl ⟨by rfl, ?_⟩) (HSf.out _ HLd.out.v HLd.out.m) ?_
            rotate_left
            · intro wq hSw
              obtain ⟨⟨so3, so4⟩, se0, se1, se2, se3, se4⟩ := hSw
              go_simp
              first | done | (with_reducible rfl)
            simp only [Act.put, List.setIfInBounds_toArray, List.set_cons_zero, List.set_cons_succ]
            refine takeU (i := 7) (v := ?_) 82 rfl rfl (by kernel_rfl) (by kernel_rfl) (by kernel_rfl) (by kernel_rfl) (fun _ _ _ h => h) (Or.inl ⟨by rfl, ?_⟩) (HSf.out _ HLd.out.v HLd.out.m) ?_
            rotate_left
            · intro wq hSw
              obtain ⟨⟨so3, so4⟩, se0, se1, se2, se3, se4⟩ := hSw
              go_simp
              first | done | (with_reducible rfl)
            simp only [Act.put, List.setIfInBounds_toArray, List.set_cons_zero, List.set_cons_succ]
            refine takeU (i := 8) (v := ?_) 83 rfl rfl (by kernel_rfl) (by kernel_rfl) (by kernel_rfl) (by kernel_rfl) (fun _ _ _ h => h) (Or.inl ⟨by rfl, ?_⟩) (HSf.out _ HLd.out.v HLd.out.m) ?_
            rotate_left
            · intro wq hSw
              obtain ⟨⟨so3, so4⟩, se0, se1, se2, se3, se4⟩ := hSw
              go_simp
              first | done | (with_reducible rfl)
            simp only [Act.put, List.setIfInBounds_toArray, List.set_cons_zero, List.set_cons_succ]
            refine takeU (i := 9) (v := ?_) 84 rfl rfl (by kernel_rfl) (by kernel_rfl) (by kernel_rfl) (by kernel_rfl) (fun _ _ _ h => h) (Or.inl ⟨by rfl, ?_⟩) (HSf.out _ HLd.out.v HLd.out.m) ?_
            rotate_left
            · intro wq hSw
              obtain ⟨⟨so3, so4⟩, se0, se1, se2, se3, se4⟩ := hSw
              go_simp
              first | done | (with_reducible rfl)
            simp only [Act.put, List.setIfInBounds_toArray, List.set_cons_zero, List.set_cons_succ]
            refine takeU (i := 10) (v := ?_) 85 rfl rfl (by kernel_rfl) (by kernel_rfl) (by kernel_rfl) (by kernel_rfl) (fun _ _ _ h => h) (Or.inl ⟨by rfl, ?_⟩) (HSf.out _ HLd.out.v HLd.out.m) ?_
            rotate_left
            · intro wq hSw
              obtain ⟨⟨so3, so4⟩, se0, se1, se2, se3, se4⟩ := hSw
              go_simp
              first | done | (with_reducible rfl)
            simp only [Act.put, List.setIfInBounds_toArray, List.set_cons_zero, List.set_cons_succ]
            refine wpAnyU_ready (rs := [3, 11]) (by kernel_rfl) (by simp) ?_
            refine AllReadyU.cons rfl (fun K hK => ?_) (AllReadyU.cons rfl (fun K hK => ?_) AllReadyU.nil)
            · go_simp
              have HL_12 := hide (HLd.out.mod ((Mod.refl [] w6.drew).alloc (.cells #[.string key] 9)))
              have HZ_12 := hide (Blk.new w6.drew 9 #[.string key])
              refine hK.out _ _ (fun _ => HSf.out _ HL_12.out.v HL_12.out.m) ?_
              clear hK K
              try simp only [Act.put, List.setIfInBounds_toArray, List.set_cons_zero, List.set_cons_succ]
              refine wpAnyU_ready (rs := [4, 11]) (by kernel_rfl) (by simp) ?_
              refine AllReadyU.cons rfl (fun K hK => ?_) (AllReadyU.cons rfl (fun K hK => ?_) AllReadyU.nil)
              · obtain ⟨B_13, d_13, w_13, hrun, hl, hkeep⟩ := HL_12.out.key HKl.out key _ HZ_12.out
                have HRun := hide hrun
                have HL_13 := hide hl
                clear hrun hl hkeep
                refine step_append_runL rfl (.tmp 76) (.tmp 78) 23 23 rfl (.slice B ks.length d) (.slice (some ⟨w6.drew.heap.size, 0, none⟩) 1 1) (by simp [Act.eval]) (by simp [Act.eval]) HRun.out ?_
                refine hK.out _ _ (fun _ => HSf.out _ HL_13.out.v HL_13.out.m) ?_
                clear hK K
                try simp only [Act.put, List.setIfInBounds_toArray, List.set_cons_zero, List.set_cons_succ]
                refine takeU (i := 13) (v := ?_) 88 rfl rfl (by kernel_rfl) (by kernel_rfl) (by kernel_rfl) (by kernel_rfl) (fun _ _ _ h => h) (Or.inl ⟨by rfl, ?_⟩) (HSf.out _ HL_13.out.v HL_13.out.m) ?_
                rotate_left
                · intro wq hSw
                  obtain ⟨⟨so3, so4⟩, se0, se1, se2, se3, se4⟩ := hSw
                  go_simp
                  first | done | (with_reducible rfl)
                simp only [Act.put, List.setIfInBounds_toArray, List.set_cons_zero, List.set_cons_succ]
                refine wpAnyU_ready (rs := [11]) (by kernel_rfl) (by simp) ?_
                refine AllReadyU.cons rfl (fun K hK => ?_) AllReadyU.nil
                · go_simp
                  have HL_14 := hide (HL_13.out.mod ((Mod.refl [] w_13).alloc (.cells #[.int .i64 ek, .int .i64 ei, .string et, .slice eA en' ec, .slice eB em ed] 25)))
                  have HZ_14 := hide (Blk.new w_13 25 #[.int .i64 ek, .int .i64 ei, .string et, .slice eA en' ec, .slice eB em ed])
                  refine hK.out _ _ (fun _ => HSf.out _ HL_14.out.v HL_14.out.m) ?_
                  clear hK K
                  try simp only [Act.put, List.setIfInBounds_toArray, List.set_cons_zero, List.set_cons_succ]
                  refine wpAnyU_ready (rs := [12]) (by kernel_rfl) (by simp) ?_
                  refine AllReadyU.cons rfl (fun K hK => ?_) AllReadyU.nil
                  · obtain ⟨A_15, c_15, w_15, hrun, hl, hkeep⟩ := HL_14.out.val HLl.out E _ (by rw [HEc.out]; exact HZ_14.out)
                    have HRun := hide hrun
                    have HL_15 := hide hl
                    clear hrun hl hkeep
                    refine step_append_runL rfl (.tmp 81) (.tmp 86) 22 22 rfl (.slice A l.length c) (.slice (some ⟨w_13.heap.size, 0, none⟩) 1 1) (by simp [Act.eval]) (by simp [Act.eval]) HRun.out ?_
                    refine hK.out _ _ (fun _ => HSf.out _ HL_15.out.v HL_15.out.m) ?_
                    clear hK K
                    try simp only [Act.put, List.setIfInBounds_toArray, List.set_cons_zero, List.set_cons_succ]
                    have so3 : w_15.cell? ⟨ob, 3, none⟩ = some (.slice A l.length c) := HL_15.out.v.cell 3
                    have sf3 : w_15.frozen? ⟨ob, 3, none⟩ = false := HL_15.out.v.frozen 3
                    have so4 : w_15.cell? ⟨ob, 4, none⟩ = some (.slice B ks.length d) := HL_15.out.v.cell 4
                    have sf4 : w_15.frozen? ⟨ob, 4, none⟩ = false := HL_15.out.v.frozen 4
                    have sl := HL_15.out.v.lt
                    refine wpAnyU_ready (rs := [14]) (by kernel_rfl) (by simp) ?_
                    refine AllReadyU.cons rfl (fun K hK => ?_) AllReadyU.nil
                    go_simp
                    refine hK.out _ _ (fun h => by cases h) ?_
                    clear hK K
                    try simp only [Act.put, List.setIfInBounds_toArray, List.set_cons_zero, List.set_cons_succ]
                    refine wpAnyU_ready (rs := [15]) (by kernel_rfl) (by simp) ?_
                    refine AllReadyU.cons rfl (fun K hK => ?_) AllReadyU.nil
                    go_simp
                    refine hK.out _ _ (fun h => by cases h) ?_
                    clear hK K
                    try simp only [Act.put, List.setIfInBounds_toArray, List.set_cons_zero, List.set_cons_succ]
                    refine wpAnyU_ready (rs := [16]) (by kernel_rfl) (by simp) ?_
                    refine AllReadyU.cons rfl (fun K hK => ?_) AllReadyU.nil
                    go_simp
                    refine hK.out _ _ (fun h => by cases h) ?_
                    clear hK K
                    try simp only [Act.put, List.setIfInBounds_toArray, List.set_cons_zero, List.set_cons_succ]
                    have HE := hide (show LP W _ base ob A_15 c_15 (l ++ [E]) B_13 d_13 (ks ++ [key]) A_15 c_15 (l ++ [E]) B_13 d_13 (ks ++ [key]) from (HL_15.out.set4).set3)
                    refine wpAnyU_done (by kernel_rfl) ?_ _
                    have hl1 : (l ++ [E]).length = l.length + 1 := by simp
                    have hk1 : (ks ++ [key]).length = ks.length + 1 := by simp
                    rw [hl1, hk1] at HE
                    clear hl1 hk1
                    go_wp2_with fail
                    refine ⟨?rel, ?measure⟩
                    case rel => exact ⟨j + 1, all2, obj2, A_15, c_15, l ++ [E], B_13, d_13, ks ++ [key], by omega, rfl, rfl, by go_num, HJl, HJk, HAll2, HObj2, hide (by simpa using HE.out)⟩
                    case measure => simp [intOf]; omega
              · go_simp
                have HL_16 := hide (HL_12.out.mod ((Mod.refl [] (w6.drew.alloc (.cells #[.string key] 9))).alloc (.cells #[.int .i64 ek, .int .i64 ei, .string et, .slice eA en' ec, .slice eB em ed] 25)))
                have HZ_16 := hide (Blk.new (w6.drew.alloc (.cells #[.string key] 9)) 25 #[.int .i64 ek, .int .i64 ei, .string et, .slice eA en' ec, .slice eB em ed])
                have HY_16 := hide (HZ_12.out.alloc (.cells #[.int .i64 ek, .int .i64 ei, .string et, .slice eA en' ec, .slice eB em ed] 25))
                refine hK.out _ _ (fun _ => HSf.out _ HL_16.out.v HL_16.out.m) ?_
                clear hK K
                try simp only [Act.put, List.setIfInBounds_toArray, List.set_cons_zero, List.set_cons_succ]
                refine wpAnyU_ready (rs := [4]) (by kernel_rfl) (by simp) ?_
                refine AllReadyU.cons rfl (fun K hK => ?_) AllReadyU.nil
                · obtain ⟨B_17, d_17, w_17, hrun, hl, hkeep⟩ := HL_16.out.key HKl.out key _ HY_16.out
                  have HRun := hide hrun
                  have HL_17 := hide hl
                  have HY_17 := hide (hkeep _ _ HZ_16.out)
                  clear hrun hl hkeep
                  refine step_append_runL rfl (.tmp 76) (.tmp 78) 23 23 rfl (.slice B ks.length d) (.slice (some ⟨w6.drew.heap.size, 0, none⟩) 1 1) (by simp [Act.eval]) (by simp [Act.eval]) HRun.out ?_
                  refine hK.out _ _ (fun _ => HSf.out _ HL_17.out.v HL_17.out.m) ?_
                  clear hK K
                  try simp only [Act.put, List.setIfInBounds_toArray, List.set_cons_zero, List.set_cons_succ]
                  refine takeU (i := 13) (v := ?_) 88 rfl rfl (by kernel_rfl) (by kernel_rfl) (by kernel_rfl) (by kernel_rfl) (fun _ _ _ h => h) (Or.inl ⟨by rfl, ?_⟩) (HSf.out _ HL_17.out.v HL_17.out.m) ?_
                  rotate_left
                  · intro wq hSw
                    obtain ⟨⟨so3, so4⟩, se0, se1, se2, se3, se4⟩ := hSw
                    go_simp
                    first | done | (with_reducible rfl)
                  simp only [Act.put, List.setIfInBounds_toArray, List.set_cons_zero, List.set_cons_succ]
                  refine wpAnyU_ready (rs := [12]) (by kernel_rfl) (by simp) ?_
                  refine AllReadyU.cons rfl (fun K hK => ?_) AllReadyU.nil
                  · obtain ⟨A_18, c_18, w_18, hrun, hl, hkeep⟩ := HL_17.out.val HLl.out E _ (by rw [HEc.out]; exact HY_17.out)
                    have HRun := hide hrun
                    have HL_18 := hide hl
                    clear hrun hl hkeep
                    refine step_append_runL rfl (.tmp 81) (.tmp 86) 22 22 rfl (.slice A l.length c) (.slice (some ⟨(w6.drew.alloc (.cells #[.string key] 9)).heap.size, 0, none⟩) 1 1) (by simp [Act.eval]) (by simp [Act.eval]) HRun.out ?_
                    refine hK.out _ _ (fun _ => HSf.out _ HL_18.out.v HL_18.out.m) ?_
                    clear hK K
                    try simp only [Act.put, List.setIfInBounds_toArray, List.set_cons_zero, List.set_cons_succ]
                    have so3 : w_18.cell? ⟨ob, 3, none⟩ = some (.slice A l.length c) := HL_18.out.v.cell 3
                    have sf3 : w_18.frozen? ⟨ob, 3, none⟩ = false := HL_18.out.v.frozen 3
                    have so4 : w_18.cell? ⟨ob, 4, none⟩ = some (.slice B ks.length d) := HL_18.out.v.cell 4
                    have sf4 : w_18.frozen? ⟨ob, 4, none⟩ = false := HL_18.out.v.frozen 4
                    have sl := HL_18.out.v.lt
                    refine wpAnyU_ready (rs := [14]) (by kernel_rfl) (by simp) ?_
                    refine AllReadyU.cons rfl (fun K hK => ?_) AllReadyU.nil
                    go_simp
                    refine hK.out _ _ (fun h => by cases h) ?_
                    clear hK K
                    try simp only [Act.put, List.setIfInBounds_toArray, List.set_cons_zero, List.set_cons_succ]
                    refine wpAnyU_ready (rs := [15]) (by kernel_rfl) (by simp) ?_
                    refine AllReadyU.cons rfl (fun K hK => ?_) AllReadyU.nil
                    go_simp
                    refine hK.out _ _ (fun h => by cases h) ?_
                    clear hK K
                    try simp only [Act.put, List.setIfInBounds_toArray, List.set_cons_zero, List.set_cons_succ]
                    refine wpAnyU_ready (rs := [16]) (by kernel_rfl) (by simp) ?_
                    refine AllReadyU.cons rfl (fun K hK => ?_) AllReadyU.nil
                    go_simp
                    refine hK.out _ _ (fun h => by cases h) ?_
                    clear hK K
                    try simp only [Act.put, List.setIfInBounds_toArray, List.set_cons_zero, List.set_cons_succ]
                    have HE := hide (show LP W _ base ob A_18 c_18 (l ++ [E]) B_17 d_17 (ks ++ [key]) A_18 c_18 (l ++ [E]) B_17 d_17 (ks ++ [key]) from (HL_18.out.set4).set3)
                    refine wpAnyU_done (by kernel_rfl) ?_ _
                    have hl1 : (l ++ [E]).length = l.length + 1 := by simp
                    have hk1 : (ks ++ [key]).length = ks.length + 1 := by simp
                    rw [hl1, hk1] at HE
                    clear hl1 hk1
                    go_wp2_with fail
                    refine ⟨?rel, ?measure⟩
                    case rel => exact ⟨j + 1, all2, obj2, A_18, c_18, l ++ [E], B_17, d_17, ks ++ [key], by omega, rfl, rfl, by go_num, HJl, HJk, HAll2, HObj2, hide (by simpa using HE.out)⟩
                    case measure => simp [intOf]; omega
            · go_simp
              have HL_19 := hide (HLd.out.mod ((Mod.refl [] w6.drew).alloc (.cells #[.int .i64 ek, .int .i64 ei, .string et, .slice eA en' ec, .slice eB em ed] 25)))
              have HZ_19 := hide (Blk.new w6.drew 25 #[.int .i64 ek, .int .i64 ei, .string et, .slice eA en' ec, .slice eB em ed])
              refine hK.out _ _ (fun _ => HSf.out _ HL_19.out.v HL_19.out.m) ?_
              clear hK K
              try simp only [Act.put, List.setIfInBounds_toArray, List.set_cons_zero, List.set_cons_succ]
              refine wpAnyU_ready (rs := [3]) (by kernel_rfl) (by simp) ?_
              refine AllReadyU.cons rfl (fun K hK => ?_) AllReadyU.nil
              · go_simp
                have HL_20 := hide (HL_19.out.mod ((Mod.refl [] (w6.drew.alloc (.cells #[.int .i64 ek, .int .i64 ei, .string et, .slice eA en' ec, .slice eB em ed] 25))).alloc (.cells #[.string key] 9)))
                have HZ_20 := hide (Blk.new (w6.drew.alloc (.cells #[.int .i64 ek, .int .i64 ei, .string et, .slice eA en' ec, .slice eB em ed] 25)) 9 #[.string key])
                have HY_20 := hide (HZ_19.out.alloc (.cells #[.string key] 9))
                refine hK.out _ _ (fun _ => HSf.out _ HL_20.out.v HL_20.out.m) ?_
                clear hK K
                try simp only [Act.put, List.setIfInBounds_toArray, List.set_cons_zero, List.set_cons_succ]
                refine wpAnyU_ready (rs := [4]) (by kernel_rfl) (by simp) ?_
                refine AllReadyU.cons rfl (fun K hK => ?_) AllReadyU.nil
                · obtain ⟨B_21, d_21, w_21, hrun, hl, hkeep⟩ := HL_20.out.key HKl.out key _ HZ_20.out
                  have HRun := hide hrun
                  have HL_21 := hide hl
                  have HY_21 := hide (hkeep _ _ HY_20.out)
                  clear hrun hl hkeep
                  refine step_append_runL rfl (.tmp 76) (.tmp 78) 23 23 rfl (.slice B ks.length d) (.slice (some ⟨(w6.drew.alloc (.cells #[.int .i64 ek, .int .i64 ei, .string et, .slice eA en' ec, .slice eB em ed] 25)).heap.size, 0, none⟩) 1 1) (by simp [Act.eval]) (by simp [Act.eval]) HRun.out ?_
                  refine hK.out _ _ (fun _ => HSf.out _ HL_21.out.v HL_21.out.m) ?_
                  clear hK K
                  try simp only [Act.put, List.setIfInBounds_toArray, List.set_cons_zero, List.set_cons_succ]
                  refine takeU (i := 13) (v := ?_) 88 rfl rfl (by kernel_rfl) (by kernel_rfl) (by kernel_rfl) (by kernel_rfl) (fun _ _ _ h => h) (Or.inl ⟨by rfl, ?_⟩) (HSf.out _ HL_21.out.v HL_21.out.m) ?_
                  rotate_left
                  · intro wq hSw
                    obtain ⟨⟨so3, so4⟩, se0, se1, se2, se3, se4⟩ := hSw
                    go_simp
                    first | done | (with_reducible rfl)
                  simp only [Act.put, List.setIfInBounds_toArray, List.set_cons_zero, List.set_cons_succ]
                  refine wpAnyU_ready (rs := [12]) (by kernel_rfl) (by simp) ?_
                  refine AllReadyU.cons rfl (fun K hK => ?_) AllReadyU.nil
                  · obtain ⟨A_22, c_22, w_22, hrun, hl, hkeep⟩ := HL_21.out.val HLl.out E _ (by rw [HEc.out]; exact HY_21.out)
                    have HRun := hide hrun
                    have HL_22 := hide hl
                    clear hrun hl hkeep
                    refine step_append_runL rfl (.tmp 81) (.tmp 86) 22 22 rfl (.slice A l.length c) (.slice (some ⟨w6.drew.heap.size, 0, none⟩) 1 1) (by simp [Act.eval]) (by simp [Act.eval]) HRun.out ?_
                    refine hK.out _ _ (fun _ => HSf.out _ HL_22.out.v HL_22.out.m) ?_
                    clear hK K
                    try simp only [Act.put, List.setIfInBounds_toArray, List.set_cons_zero, List.set_cons_succ]
                    have so3 : w_22.cell? ⟨ob, 3, none⟩ = some (.slice A l.length c) := HL_22.out.v.cell 3
                    have sf3 : w_22.frozen? ⟨ob, 3, none⟩ = false := HL_22.out.v.frozen 3
                    have so4 : w_22.cell? ⟨ob, 4, none⟩ = some (.slice B ks.length d) := HL_22.out.v.cell 4
                    have sf4 : w_22.frozen? ⟨ob, 4, none⟩ = false := HL_22.out.v.frozen 4
                    have sl := HL_22.out.v.lt
                    refine wpAnyU_ready (rs := [14]) (by kernel_rfl) (by simp) ?_
                    refine AllReadyU.cons rfl (fun K hK => ?_) AllReadyU.nil
                    go_simp
                    refine hK.out _ _ (fun h => by cases h) ?_
                    clear hK K
                    try simp only [Act.put, List.setIfInBounds_toArray, List.set_cons_zero, List.set_cons_succ]
                    refine wpAnyU_ready (rs := [15]) (by kernel_rfl) (by simp) ?_
                    refine AllReadyU.cons rfl (fun K hK => ?_) AllReadyU.nil
                    go_simp
                    refine hK.out _ _ (fun h => by cases h) ?_
                    clear hK K
                    try simp only [Act.put, List.setIfInBounds_toArray, List.set_cons_zero, List.set_cons_succ]
                    refine wpAnyU_ready (rs := [16]) (by kernel_rfl) (by simp) ?_
                    refine AllReadyU.cons rfl (fun K hK => ?_) AllReadyU.nil
                    go_simp
                    refine hK.out _ _ (fun h => by cases h) ?_
                    clear hK K
                    try simp only [Act.put, List.setIfInBounds_toArray, List.set_cons_zero, List.set_cons_succ]
                    have HE := hide (show LP W _ base ob A_22 c_22 (l ++ [E]) B_21 d_21 (ks ++ [key]) A_22 c_22 (l ++ [E]) B_21 d_21 (ks ++ [key]) from (HL_22.out.set4).set3)
                    refine wpAnyU_done (by kernel_rfl) ?_ _
                    have hl1 : (l ++ [E]).length = l.length + 1 := by simp
                    have hk1 : (ks ++ [key]).length = ks.length + 1 := by simp
                    rw [hl1, hk1] at HE
                    clear hl1 hk1
                    go_wp2_with fail
                    refine ⟨?rel, ?measure⟩
                    case rel => exact ⟨j + 1, all2, obj2, A_22, c_22, l ++ [E], B_21, d_21, ks ++ [key], by omega, rfl, rfl, by go_num, HJl, HJk, HAll2, HObj2, hide (by simpa using HE.out)⟩
                    case measure => simp [intOf]; omega
        · have hii : decide ((j : Int) < (n : Int)) = false := decide_eq_false (by omega)
          have hiin : decide (j < n) = false := decide_eq_false (by omega)
          have hjn2 : j = n := by omega
          subst hjn2
          have hlv : JN.vs l = JN.vs l0 := by rw [hl.out, ← HN.out, List.take_length]
          have hku : ks.length = (JN.vs l0).length := by rw [HKs.out, JN.vs_len, HN.out]
          have hcu : (JN.mk 6 0 ⟨#[]⟩ A c l B d ks).v = JV.mk 6 0 ⟨#[]⟩ (JN.vs l0) ks := by rw [JN.v, hlv]
          have htk : (JN.vs l0).take j = JN.vs l0 := by rw [← HN.out, ← JN.vs_len, List.take_length]
          have hwo : jwr (JV.mk 6 0 ⟨#[]⟩ (JN.vs l0) ks) = 123 :: (jwrs true (JN.vs l0) ks ++ [125]) := by rw [jwr, if_neg (by decide), if_neg (by decide), if_neg (by decide), if_neg (by decide), if_neg (by decide), if_pos rfl]
          have hwl : jwr (JV.mk 5 0 ⟨#[]⟩ (JN.vs l0) []) = 91 :: (jwrs false (JN.vs l0) [] ++ [93]) := by rw [jwr, if_neg (by decide), if_neg (by decide), if_neg (by decide), if_neg (by decide), if_neg (by decide), if_neg (by decide)]
          have hjo := hlp.out.jin (by unfold jmax; have := HLl.out; omega) (by unfold jmax; have := HKl.out; omega) (fun x hx => by
            rw [hl.out] at hx
            obtain ⟨i, hi⟩ := List.getElem?_of_mem (List.mem_of_mem_take hx)
            exact (HIns.out.at_ hi).new hlp.out.m)
          have hol : (jwr (JV.mk 6 0 ⟨#[]⟩ (JN.vs l0) ks)).length ≤ 1000000001 := by
            have h6 : obj.data.toList.length = obj.size := bytes_len obj
            rw [hobj.out, htk, ← hks.out] at h6
            rw [hwo]
            simp only [List.length_cons, List.length_append, List.length_nil] at h6 ⊢
            omega
          have HWo := hide (HWr.out wr hlp.out.m _ hjo (by rw [hcu, jrng, HRs.out]; rfl) (by rw [hcu]; omega) (by rw [hcu, jmay_obj hku]; exact HMs.out))
          rw [hcu, hwo] at HWo
          have hoc : (JN.mk 6 0 ⟨#[]⟩ A c l B d ks).cells = #[.int .i64 6, .int .i64 0, .string ⟨#[]⟩, .slice A l.length c, .slice B ks.length d] := rfl
          rw [hoc] at HWo
          have o0 : wr.cell? ⟨ob, 0, none⟩ = some (.int .i64 6) := hlp.out.v.cell 0
          have o1 : wr.cell? ⟨ob, 1, none⟩ = some (.int .i64 0) := hlp.out.v.cell 1
          have o2 : wr.cell? ⟨ob, 2, none⟩ = some (.string ⟨#[]⟩) := hlp.out.v.cell 2
          have o3 : wr.cell? ⟨ob, 3, none⟩ = some (.slice A l.length c) := hlp.out.v.cell 3
          have o4 : wr.cell? ⟨ob, 4, none⟩ = some (.slice B ks.length d) := hlp.out.v.cell 4
          have s1 : ¬ 9223372036854775807 < all.size + 1 := by omega
          have s2 : ¬ 9223372036854775807 < obj.size + 1 := by omega
          have HTk := hide htk
          have HWl := hide hwl
          clear hlv hku hcu hwo hjo hol hoc h2 htk hwl hsz
          go_wp2_with fail
          refine HWo.out.mono ?_
          rintro en2 w6 ⟨Q, rfl, hQ, m6⟩
          have HM6 := hide (hlp.out.m.trans m6 (by simp))
          have g1 : (P.toList == (all ++ ⟨#[93]⟩).toList) = true := by
            have e : P = all ++ ⟨#[93]⟩ := ByteArray.ext (Array.ext' (by
              rw [HP.out, HXv.out, HWl.out]
              simp [hall.out, HTk.out]))
            rw [← e]; exact toList_same P
          have g2 : (Q.toList == (obj ++ ⟨#[125]⟩).toList) = true := by
            have e : Q = obj ++ ⟨#[125]⟩ := ByteArray.ext (Array.ext' (by
              rw [hQ]
              simp [hobj.out, HTk.out, hks.out]))
            rw [← e]; exact toList_same Q
          clear m6 hQ HWo o0 o1 o2 o3 o4
          go_wp2_with fail
          go_ret
          exact ⟨rfl, HM6.out.below (Nat.le_refl _) (by simp)⟩
end Go.Proofs.YtkbpndohpkcikaaDoor
