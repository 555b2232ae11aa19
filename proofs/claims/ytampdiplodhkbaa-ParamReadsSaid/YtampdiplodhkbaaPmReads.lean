/-
  ParamReads: the walk: the parameters that any bytes are, or that they are none, and which ids there are, is as the document says.
-/
import Derived.Test.YtampdiplodhkbaaPmRefR
import Derived.Test.YtampdiplodhkbaaPmWrites
namespace Go.Proofs.Ytampdiplodhkbaa
open Go.RowKit

theorem rwr_none {w w' : World} {s : Option PP} {e : Ending} (h : s = none) (k : RReadPost w s e w') : e = .returned (.tuple #[.agg #[.slice none 0 0, .bool false, .string ⟨#[]⟩], .int .i64 2]) ∧ Mod [] w w' := by subst h; exact ⟨k.2, k.1⟩
theorem rwr_some {w w' : World} {s : Option PP} {p : PP} {e : Ending} (h : s = some p) (k : RReadPost w s e w') : ∃ g, e = .returned (.tuple #[rval g p, .int .i64 0]) ∧ Blk w' g 23 (rcells p) ∧ Mod [] w w' := by
  subst h
  obtain ⟨k1, g, k2, k3⟩ := k
  exact ⟨g, k2, k3, k1⟩
theorem rids_none {w w' : World} {x : ByteArray} {e : Ending} (h : pitems x.data.toList = none) (k : RIdsPost w x e w') : e = .returned (.tuple #[.slice none 0 0, .slice none 0 0, .int .i64 2]) := by unfold RIdsPost at k; rw [h] at k; exact k
theorem rids_some {w w' : World} {x : ByteArray} {e : Ending} {l : List (Nat × List UInt8)} (h : pitems x.data.toList = some l) (k : RIdsPost w x e w') :
    ∃ A c B d, e = .returned (.tuple #[.slice A l.length c, .slice B l.length d, .int .i64 0]) ∧ w'.ownsRow w.heap.size 23 1 (.slice A l.length c) l.length (l.map fun x => ucell x.1) := by
  unfold RIdsPost at k; rw [h] at k
  obtain ⟨A, c, B, d, h1, h2, _⟩ := k
  exact ⟨A, c, B, d, h1, h2⟩

set_option maxRecDepth 100000 in
set_option maxHeartbeats 8000000 in
theorem reads_none (x : ByteArray) (hxs : x.size ≤ 9223372036854775807) (hbig : ¬ 1024 < x.size) (W : World) (hrd : pread x.data.toList = none) :
    Calls Try.prog 3 #[.string x] W fun e w' => e = .returned (.bool true) ∧ Below W.heap.size W w' := by
  have HRd := hide hrd
  have hx6 : x.size ≤ 65536 := by omega
  clear hrd
  go_enter Try.func3, Try.ntmps3
  go_wp2_with fail
  refine (awake_any _).mono ?_
  rintro e w1 ⟨rfl, m1⟩
  have HM1 := hide m1
  clear m1
  have HR1 := hide (read_any w1 x hx6)
  go_wp2_with fail
  refine HR1.out.mono ?_
  rintro e w2 h2
  obtain ⟨rfl, m2⟩ := wr_none HRd.out h2
  rw [pz_val]
  have HM2 := hide (HM1.out.trans m2 (by simp))
  clear h2 m2 HR1
  go_wp2_with fail
  have hb3 : Blk (w2.alloc (.cells (pcells pzero) 25)) w2.heap.size 25 (pcells pzero) := Blk.new _ _ _
  have hm3 := HM2.out.alloc (.cells (pcells pzero) 25)
  obtain ⟨w3, hw3⟩ : ∃ w3, w2.alloc (.cells (pcells pzero) 25) = w3 := ⟨_, rfl⟩
  rw [hw3] at hb3 hm3
  change Calls _ _ _ (w2.alloc (.cells (pcells pzero) 25)) _
  rw [hw3]
  refine (rread_any w3 x hx6).mono ?_
  rintro e w4 h4
  obtain ⟨rfl, m4⟩ := rwr_none HRd.out h4
  have HB4 := hide (m4.blk hb3 (by simp))
  have HM4 := hide (hm3.trans m4 (by simp))
  clear h4 m4 hb3 hm3 hw3
  go_wp2_with fail
  have HB5 := hide (HB4.out.alloc (.cells #[.slice none 0 0, .bool false, .string ⟨#[]⟩] 31))
  have HM5 := hide (HM4.out.alloc (.cells #[.slice none 0 0, .bool false, .string ⟨#[]⟩] 31))
  have HC5 : Hid (Blk (w4.alloc (.cells #[.slice none 0 0, .bool false, .string ⟨#[]⟩] 31)) w4.heap.size 31 #[.slice none 0 0, .bool false, .string ⟨#[]⟩]) := hide (Blk.new _ _ _)
  obtain ⟨w5, hw5⟩ : ∃ w5, w4.alloc (.cells #[.slice none 0 0, .bool false, .string ⟨#[]⟩] 31) = w5 := ⟨_, rfl⟩
  rw [hw5] at HB5 HM5 HC5 ⊢
  clear hw5 HB4 HM4
  refine (ids_any w5 x hx6).mono ?_
  rintro e w6 ⟨m6, h6⟩
  have HR6 := hide (rids_any w6 x hx6)
  cases hpi : pitems x.data.toList with
  | none =>
    have e6 := ids_none hpi h6
    subst e6
    clear h6
    have HB6 := hide (m6.blk HB5.out (by simp))
    have HC6 := hide (m6.blk HC5.out (by simp))
    have HM6 := hide (HM5.out.trans m6 (by simp))
    have HPi := hide hpi
    clear m6 hpi
    go_wp2_with fail
    refine HR6.out.mono ?_
    rintro e w7 ⟨m7, h7⟩
    have e7 := rids_none HPi.out h7
    subst e7
    clear h7
    have HB7 := hide (m7.blk HB6.out (by simp))
    have HC7 := hide (m7.blk HC6.out (by simp))
    have HM7 := hide (HM6.out.trans m7 (by simp))
    clear m7 HR6
    go_wp2_with fail
    go_loopw [46] (fun iv wr => iv = .int .i64 0 ∧ wr = w7) (fun _ _ => 0)
    case atStart => exact ⟨rfl, rfl⟩
    case round =>
      obtain ⟨rfl, hwr⟩ := hrel
      subst hwr
      have p0 : wr.cell? ⟨w2.heap.size, 0, none⟩ = some (.int .u64 0) := HB7.out.cell 0
      have p1 : wr.cell? ⟨w2.heap.size, 1, none⟩ = some (.int .u64 0) := HB7.out.cell 1
      have p2 : wr.cell? ⟨w2.heap.size, 2, none⟩ = some (.int .u64 0) := HB7.out.cell 2
      have p3 : wr.cell? ⟨w2.heap.size, 3, none⟩ = some (.int .u64 0) := HB7.out.cell 3
      have p4 : wr.cell? ⟨w2.heap.size, 4, none⟩ = some (.int .u64 0) := HB7.out.cell 4
      have p5 : wr.cell? ⟨w2.heap.size, 5, none⟩ = some (.int .u64 0) := HB7.out.cell 5
      have p6 : wr.cell? ⟨w2.heap.size, 6, none⟩ = some (.int .u64 0) := HB7.out.cell 6
      have p7 : wr.cell? ⟨w2.heap.size, 7, none⟩ = some (.int .u64 0) := HB7.out.cell 7
      have p8 : wr.cell? ⟨w2.heap.size, 8, none⟩ = some (.int .u64 0) := HB7.out.cell 8
      have p9 : wr.cell? ⟨w2.heap.size, 9, none⟩ = some (.int .u64 0) := HB7.out.cell 9
      have p10 : wr.cell? ⟨w2.heap.size, 10, none⟩ = some (.int .u64 0) := HB7.out.cell 10
      have p11 : wr.cell? ⟨w2.heap.size, 11, none⟩ = some (.bool false) := HB7.out.cell 11
      have p12 : wr.cell? ⟨w2.heap.size, 12, none⟩ = some (.string ⟨#[]⟩) := HB7.out.cell 12
      have q0 : wr.cell? ⟨w4.heap.size, 0, none⟩ = some (.slice none 0 0) := HC7.out.cell 0
      have q1 : wr.cell? ⟨w4.heap.size, 1, none⟩ = some (.bool false) := HC7.out.cell 1
      have q2 : wr.cell? ⟨w4.heap.size, 2, none⟩ = some (.string ⟨#[]⟩) := HC7.out.cell 2
      have pl : w2.heap.size < wr.heap.size := HB7.out.lt
      have ql : w4.heap.size < wr.heap.size := HC7.out.lt
      have HS := hide (same_zero wr)
      go_wp2_with fail
      refine HS.out.mono ?_
      rintro e w8 ⟨rfl, m8⟩
      have HM8 := hide (HM7.out.trans m8 (by simp))
      clear m8
      go_wp2_with fail
      go_ret
      exact ⟨by rfl, HM8.out.below (Nat.le_refl _) (by simp)⟩
  | some l =>
    obtain ⟨A, c, rfl, hua, _⟩ := ids_some hpi h6
    have HUA := hide hua
    clear h6 hua
    have HB6 := hide (m6.blk HB5.out (by simp))
    have HC6 := hide (m6.blk HC5.out (by simp))
    have HM6 := hide (HM5.out.trans m6 (by simp))
    have HPi := hide hpi
    clear m6 hpi
    obtain ⟨n, hn⟩ : ∃ n, l.length = n := ⟨_, rfl⟩
    rw [hn] at HUA ⊢
    have HN := hide hn
    clear hn
    go_wp2_with fail
    refine HR6.out.mono ?_
    rintro e w7 ⟨m7, h7⟩
    obtain ⟨B, d, B2, d2, rfl, hub⟩ := rids_some HPi.out h7
    rw [HN.out] at hub ⊢
    have HUB := hide hub
    have HUA7 := hide (m7.own HUA.out (by simp))
    have hn1 : ((n : Int) != (n : Int)) = false := by simp
    clear h7 hub HUA
    have HB7 := hide (m7.blk HB6.out (by simp))
    have HC7 := hide (m7.blk HC6.out (by simp))
    have HM7 := hide (HM6.out.trans m7 (by simp))
    clear m7 HR6
    have hlen : n ≤ 65536 := by
      have h1 := bytes_len x
      obtain ⟨h2, h3⟩ := pitems_back _ _ _ (Nat.le_refl _) (by omega) HPi.out
      have h4 : ∀ m : List (Nat × List UInt8), Small m → m.length ≤ (flat m).length := by
        intro m
        induction m with
        | nil => intro _; simp
        | cons y m ih =>
          intro hm
          have h5 := ih (fun z hz => hm z (by simp [hz]))
          have h6 := vputS_eq (hm y (by simp)).1
          have h7 := vput_ne y.1
          have h8 : 1 ≤ (vput y.1).length := by
            cases hv : vput y.1 with
            | nil => exact absurd hv h7
            | cons a b => simp
          rw [flat_cons, List.length_cons, List.length_append]
          unfold pone
          rw [h6, List.length_append]
          omega
      have h5 := h4 l h3
      rw [← h2, HN.out] at h5
      omega
    go_wp2_with fail
    go_loopw [46] (fun iv wr => ∃ j : Nat, j ≤ n ∧ iv = .int .i64 (j : Int) ∧ ∃ k, wr = w7.drewN k) (fun iv _ => n - (intOf iv).toNat)
    case atStart => exact ⟨0, by omega, rfl, 0, rfl⟩
    case round =>
      obtain ⟨j, hj, rfl, k, rfl⟩ := hrel
      by_cases h : j < n
      · have hjl : j < l.length := by rw [HN.out]; exact h
        obtain ⟨ga, rfl, hgal, ca, hca⟩ := ucell_at (ks := l.map (·.1)) (by rw [List.map_map]; exact HUA7.out) j l[j].1 (by rw [List.getElem?_map, List.getElem?_eq_getElem hjl]; rfl)
        obtain ⟨gb, rfl, hgbl, cb, hcb⟩ := ucell_at (ks := l.map (·.1)) (by rw [List.map_map]; exact HUB.out) j l[j].1 (by rw [List.getElem?_map, List.getElem?_eq_getElem hjl]; rfl)
        obtain ⟨z, hz⟩ : ∃ z, l[j].1 = z := ⟨_, rfl⟩
        rw [hz] at ca cb
        clear hz
        go_wp2_with fail
        go_quiet (fail)
        go_wp2_with fail
        go_roundw
        case rel => exact ⟨j + 1, by omega, by go_num, by first | exact ⟨_, rfl⟩ | exact ⟨_, World.drewN_drewN _ _ _⟩⟩
        case measure => simp [intOf]; omega
      · have hjn : j = n := by omega
        subst hjn
        have p0 : (w7.drewN k).cell? ⟨w2.heap.size, 0, none⟩ = some (.int .u64 0) := HB7.out.cell 0
        have p1 : (w7.drewN k).cell? ⟨w2.heap.size, 1, none⟩ = some (.int .u64 0) := HB7.out.cell 1
        have p2 : (w7.drewN k).cell? ⟨w2.heap.size, 2, none⟩ = some (.int .u64 0) := HB7.out.cell 2
        have p3 : (w7.drewN k).cell? ⟨w2.heap.size, 3, none⟩ = some (.int .u64 0) := HB7.out.cell 3
        have p4 : (w7.drewN k).cell? ⟨w2.heap.size, 4, none⟩ = some (.int .u64 0) := HB7.out.cell 4
        have p5 : (w7.drewN k).cell? ⟨w2.heap.size, 5, none⟩ = some (.int .u64 0) := HB7.out.cell 5
        have p6 : (w7.drewN k).cell? ⟨w2.heap.size, 6, none⟩ = some (.int .u64 0) := HB7.out.cell 6
        have p7 : (w7.drewN k).cell? ⟨w2.heap.size, 7, none⟩ = some (.int .u64 0) := HB7.out.cell 7
        have p8 : (w7.drewN k).cell? ⟨w2.heap.size, 8, none⟩ = some (.int .u64 0) := HB7.out.cell 8
        have p9 : (w7.drewN k).cell? ⟨w2.heap.size, 9, none⟩ = some (.int .u64 0) := HB7.out.cell 9
        have p10 : (w7.drewN k).cell? ⟨w2.heap.size, 10, none⟩ = some (.int .u64 0) := HB7.out.cell 10
        have p11 : (w7.drewN k).cell? ⟨w2.heap.size, 11, none⟩ = some (.bool false) := HB7.out.cell 11
        have p12 : (w7.drewN k).cell? ⟨w2.heap.size, 12, none⟩ = some (.string ⟨#[]⟩) := HB7.out.cell 12
        have q0 : (w7.drewN k).cell? ⟨w4.heap.size, 0, none⟩ = some (.slice none 0 0) := HC7.out.cell 0
        have q1 : (w7.drewN k).cell? ⟨w4.heap.size, 1, none⟩ = some (.bool false) := HC7.out.cell 1
        have q2 : (w7.drewN k).cell? ⟨w4.heap.size, 2, none⟩ = some (.string ⟨#[]⟩) := HC7.out.cell 2
        have pl : w2.heap.size < (w7.drewN k).heap.size := HB7.out.lt
        have ql : w4.heap.size < (w7.drewN k).heap.size := HC7.out.lt
        have HS := hide (same_zero (w7.drewN k))
        go_wp2_with fail
        refine HS.out.mono ?_
        rintro e w8 ⟨rfl, m8⟩
        have HM8 := hide ((HM7.out.drewN k).trans m8 (by simp))
        clear m8
        go_wp2_with fail
        go_ret
        exact ⟨by rfl, HM8.out.below (Nat.le_refl _) (by simp)⟩

set_option maxRecDepth 100000 in
set_option maxHeartbeats 8000000 in
theorem reads_some (x : ByteArray) (hxs : x.size ≤ 9223372036854775807) (hbig : ¬ 1024 < x.size) (W : World) (p : PP) (hrd : pread x.data.toList = some p) :
    Calls Try.prog 3 #[.string x] W fun e w' => e = .returned (.bool true) ∧ Below W.heap.size W w' := by
  have HRd := hide hrd
  have hx6 : x.size ≤ 65536 := by omega
  clear hrd
  go_enter Try.func3, Try.ntmps3
  go_wp2_with fail
  refine (awake_any _).mono ?_
  rintro e w1 ⟨rfl, m1⟩
  have HM1 := hide m1
  clear m1
  have HR1 := hide (read_any w1 x hx6)
  go_wp2_with fail
  refine HR1.out.mono ?_
  rintro e w2 h2
  obtain ⟨rfl, m2⟩ := wr_some HRd.out h2
  have HM2 := hide (HM1.out.trans m2 (by simp))
  clear h2 m2 HR1
  unfold pval pcells
  go_wp2_with fail
  have hb3 : Blk (w2.alloc (.cells (pcells p) 25)) w2.heap.size 25 (pcells p) := Blk.new _ _ _
  have hm3 := HM2.out.alloc (.cells (pcells p) 25)
  obtain ⟨w3, hw3⟩ : ∃ w3, w2.alloc (.cells (pcells p) 25) = w3 := ⟨_, rfl⟩
  rw [hw3] at hb3 hm3
  change Calls _ _ _ (w2.alloc (.cells (pcells p) 25)) _
  rw [hw3]
  refine (rread_any w3 x hx6).mono ?_
  rintro e w4 h4
  obtain ⟨g, rfl, hg4, m4⟩ := rwr_some HRd.out h4
  unfold rval
  have HG4 := hide hg4
  clear hg4
  have HB4 := hide (m4.blk hb3 (by simp))
  have HM4 := hide (hm3.trans m4 (by simp))
  clear h4 m4 hb3 hm3 hw3
  go_wp2_with fail
  have HB5 := hide (HB4.out.alloc (.cells #[.slice (some ⟨g, 0, none⟩) 15 15, .bool p.mig, .string p.src] 31))
  have HM5 := hide (HM4.out.alloc (.cells #[.slice (some ⟨g, 0, none⟩) 15 15, .bool p.mig, .string p.src] 31))
  have HC5 : Hid (Blk (w4.alloc (.cells #[.slice (some ⟨g, 0, none⟩) 15 15, .bool p.mig, .string p.src] 31)) w4.heap.size 31 #[.slice (some ⟨g, 0, none⟩) 15 15, .bool p.mig, .string p.src]) := hide (Blk.new _ _ _)
  have HG5 := hide (HG4.out.alloc (.cells #[.slice (some ⟨g, 0, none⟩) 15 15, .bool p.mig, .string p.src] 31))
  obtain ⟨w5, hw5⟩ : ∃ w5, w4.alloc (.cells #[.slice (some ⟨g, 0, none⟩) 15 15, .bool p.mig, .string p.src] 31) = w5 := ⟨_, rfl⟩
  rw [hw5] at HB5 HM5 HC5 HG5 ⊢
  clear hw5 HG4 HB4 HM4
  refine (ids_any w5 x hx6).mono ?_
  rintro e w6 ⟨m6, h6⟩
  have HR6 := hide (rids_any w6 x hx6)
  obtain ⟨l, hpi, _⟩ := Option.bind_eq_some_iff.1 HRd.out
  obtain ⟨A, c, rfl, hua, _⟩ := ids_some hpi h6
  have HUA := hide hua
  clear h6 hua
  have HB6 := hide (m6.blk HB5.out (by simp))
  have HC6 := hide (m6.blk HC5.out (by simp))
  have HG6 := hide (m6.blk HG5.out (by simp))
  have HM6 := hide (HM5.out.trans m6 (by simp))
  have HPi := hide hpi
  clear m6 hpi
  obtain ⟨n, hn⟩ : ∃ n, l.length = n := ⟨_, rfl⟩
  rw [hn] at HUA ⊢
  have HN := hide hn
  clear hn
  go_wp2_with fail
  refine HR6.out.mono ?_
  rintro e w7 ⟨m7, h7⟩
  obtain ⟨B, d, B2, d2, rfl, hub⟩ := rids_some HPi.out h7
  rw [HN.out] at hub ⊢
  have HUB := hide hub
  have HUA7 := hide (m7.own HUA.out (by simp))
  have hn1 : ((n : Int) != (n : Int)) = false := by simp
  clear h7 hub HUA
  have HB7 := hide (m7.blk HB6.out (by simp))
  have HC7 := hide (m7.blk HC6.out (by simp))
  have HG7 := hide (m7.blk HG6.out (by simp))
  have HM7 := hide (HM6.out.trans m7 (by simp))
  clear m7 HR6
  have hlen : n ≤ 65536 := by
    have h1 := bytes_len x
    obtain ⟨h2, h3⟩ := pitems_back _ _ _ (Nat.le_refl _) (by omega) HPi.out
    have h4 : ∀ m : List (Nat × List UInt8), Small m → m.length ≤ (flat m).length := by
      intro m
      induction m with
      | nil => intro _; simp
      | cons y m ih =>
        intro hm
        have h5 := ih (fun z hz => hm z (by simp [hz]))
        have h6 := vputS_eq (hm y (by simp)).1
        have h7 := vput_ne y.1
        have h8 : 1 ≤ (vput y.1).length := by
          cases hv : vput y.1 with
          | nil => exact absurd hv h7
          | cons a b => simp
        rw [flat_cons, List.length_cons, List.length_append]
        unfold pone
        rw [h6, List.length_append]
        omega
    have h5 := h4 l h3
    rw [← h2, HN.out] at h5
    omega
  go_wp2_with fail
  go_loopw [46] (fun iv wr => ∃ j : Nat, j ≤ n ∧ iv = .int .i64 (j : Int) ∧ ∃ k, wr = w7.drewN k) (fun iv _ => n - (intOf iv).toNat)
  case atStart => exact ⟨0, by omega, rfl, 0, rfl⟩
  case round =>
    obtain ⟨j, hj, rfl, k, rfl⟩ := hrel
    by_cases h : j < n
    · have hjl : j < l.length := by rw [HN.out]; exact h
      obtain ⟨ga, rfl, hgal, ca, hca⟩ := ucell_at (ks := l.map (·.1)) (by rw [List.map_map]; exact HUA7.out) j l[j].1 (by rw [List.getElem?_map, List.getElem?_eq_getElem hjl]; rfl)
      obtain ⟨gb, rfl, hgbl, cb, hcb⟩ := ucell_at (ks := l.map (·.1)) (by rw [List.map_map]; exact HUB.out) j l[j].1 (by rw [List.getElem?_map, List.getElem?_eq_getElem hjl]; rfl)
      obtain ⟨z, hz⟩ : ∃ z, l[j].1 = z := ⟨_, rfl⟩
      rw [hz] at ca cb
      clear hz
      go_wp2_with fail
      go_quiet (fail)
      go_wp2_with fail
      go_roundw
      case rel => exact ⟨j + 1, by omega, by go_num, by first | exact ⟨_, rfl⟩ | exact ⟨_, World.drewN_drewN _ _ _⟩⟩
      case measure => simp [intOf]; omega
    · have hjn : j = n := by omega
      subst hjn
      have p0 : (w7.drewN k).cell? ⟨w2.heap.size, 0, none⟩ = some (.int .u64 (p.N 1 : Nat)) := HB7.out.cell 0
      have p1 : (w7.drewN k).cell? ⟨w2.heap.size, 1, none⟩ = some (.int .u64 (p.N 3 : Nat)) := HB7.out.cell 1
      have p2 : (w7.drewN k).cell? ⟨w2.heap.size, 2, none⟩ = some (.int .u64 (p.N 4 : Nat)) := HB7.out.cell 2
      have p3 : (w7.drewN k).cell? ⟨w2.heap.size, 3, none⟩ = some (.int .u64 (p.N 5 : Nat)) := HB7.out.cell 3
      have p4 : (w7.drewN k).cell? ⟨w2.heap.size, 4, none⟩ = some (.int .u64 (p.N 6 : Nat)) := HB7.out.cell 4
      have p5 : (w7.drewN k).cell? ⟨w2.heap.size, 5, none⟩ = some (.int .u64 (p.N 7 : Nat)) := HB7.out.cell 5
      have p6 : (w7.drewN k).cell? ⟨w2.heap.size, 6, none⟩ = some (.int .u64 (p.N 8 : Nat)) := HB7.out.cell 6
      have p7 : (w7.drewN k).cell? ⟨w2.heap.size, 7, none⟩ = some (.int .u64 (p.N 9 : Nat)) := HB7.out.cell 7
      have p8 : (w7.drewN k).cell? ⟨w2.heap.size, 8, none⟩ = some (.int .u64 (p.N 10 : Nat)) := HB7.out.cell 8
      have p9 : (w7.drewN k).cell? ⟨w2.heap.size, 9, none⟩ = some (.int .u64 (p.N 11 : Nat)) := HB7.out.cell 9
      have p10 : (w7.drewN k).cell? ⟨w2.heap.size, 10, none⟩ = some (.int .u64 (p.N 14 : Nat)) := HB7.out.cell 10
      have p11 : (w7.drewN k).cell? ⟨w2.heap.size, 11, none⟩ = some (.bool p.mig) := HB7.out.cell 11
      have p12 : (w7.drewN k).cell? ⟨w2.heap.size, 12, none⟩ = some (.string p.src) := HB7.out.cell 12
      have q0 : (w7.drewN k).cell? ⟨w4.heap.size, 0, none⟩ = some (.slice (some ⟨g, 0, none⟩) 15 15) := HC7.out.cell 0
      have q1 : (w7.drewN k).cell? ⟨w4.heap.size, 1, none⟩ = some (.bool p.mig) := HC7.out.cell 1
      have q2 : (w7.drewN k).cell? ⟨w4.heap.size, 2, none⟩ = some (.string p.src) := HC7.out.cell 2
      have pl : w2.heap.size < (w7.drewN k).heap.size := HB7.out.lt
      have ql : w4.heap.size < (w7.drewN k).heap.size := HC7.out.lt
      have HS := hide (same_any (w7.drewN k) g p (pread_std HRd.out) HG7.out)
      go_wp2_with fail
      refine HS.out.mono ?_
      rintro e w8 ⟨rfl, m8⟩
      have HM8 := hide ((HM7.out.drewN k).trans m8 (by simp))
      clear m8
      go_wp2_with fail
      go_ret
      exact ⟨by rfl, HM8.out.below (Nat.le_refl _) (by simp)⟩

set_option maxHeartbeats 2000000 in
theorem walkParamReads (x : ByteArray) (hxs : x.size ≤ 9223372036854775807) (W : World) :
    Calls Try.prog 3 #[.string x] W fun e w' => e = .returned (.bool true) ∧ Below W.heap.size W w' := by
  by_cases hbig : 1024 < x.size
  · go_enter Try.func3, Try.ntmps3
    go_wp2_with fail
    refine (awake_any _).mono ?_
    rintro e w1 ⟨rfl, m1⟩
    go_wp2_with fail
    go_ret
    exact ⟨rfl, m1.below (Nat.le_refl _) (by simp)⟩
  · cases hrd : pread x.data.toList with
    | none => exact reads_none x hxs hbig W hrd
    | some p => exact reads_some x hxs hbig W p hrd
end Go.Proofs.Ytampdiplodhkbaa
