/-
  ParamRises: the walk: parameters' ids rise, in their bytes, and the source's is told always.
-/
import Derived.Test.YtampdiplodhkbaaPmOpen
namespace Go.Proofs.Ytampdiplodhkbaa
open Go.RowKit

theorem rises_ids (p : PP) : (ilist p).map (·.1) = (List.range 16).filter fun id : Nat => (pbytes p id).isSome := ilist_ids p
theorem rises_lt {p : PP} {j k : Nat} (hjk : j < k) {x y : Nat} (hx : ((ilist p).map (·.1))[j]? = some x) (hy : ((ilist p).map (·.1))[k]? = some y) : x < y := by
  rw [ilist_ids] at hx hy
  have hp : ((List.range 16).filter fun id : Nat => (pbytes p id).isSome).Pairwise (· < ·) := List.Pairwise.filter _ List.pairwise_lt_range
  obtain ⟨h1, rfl⟩ := List.getElem?_eq_some_iff.1 hx
  obtain ⟨h2, rfl⟩ := List.getElem?_eq_some_iff.1 hy
  exact List.pairwise_iff_getElem.1 hp j k h1 h2 hjk
theorem rises_le {p : PP} {j : Nat} {x : Nat} (hx : ((ilist p).map (·.1))[j]? = some x) : x ≤ 15 := by
  rw [ilist_ids] at hx
  have := List.mem_of_getElem? hx
  have := (List.mem_filter.1 this).1
  simp at this
  omega
theorem rises_last {p : PP} : ∃ n, (ilist p).length = n + 1 ∧ ((ilist p).map (·.1))[n]? = some 15 := by
  have h15 : (15, p.src.data.toList) ∈ ilist p := by rw [mem_ilist]; rfl
  obtain ⟨k, hk, he⟩ := List.getElem_of_mem h15
  have hpos : 0 < (ilist p).length := by omega
  refine ⟨(ilist p).length - 1, by omega, ?_⟩
  have hl : (ilist p).length - 1 < ((ilist p).map (·.1)).length := by simp; omega
  rw [List.getElem?_eq_getElem hl]
  congr 1
  have h1 := rises_le (p := p) (List.getElem?_eq_getElem hl)
  rcases Nat.lt_or_ge k ((ilist p).length - 1) with h2 | h2
  · have h3 : ((ilist p).map (·.1))[k]? = some 15 := by rw [List.getElem?_map, List.getElem?_eq_getElem hk, he]; rfl
    have := rises_lt h2 h3 (List.getElem?_eq_getElem hl)
    omega
  · have e : (ilist p).length - 1 = k := by omega
    simp only [List.getElem_map]
    simp only [e, he]
theorem ucell_at {w : World} {base n c : Nat} {A : Option Addr} {ks : List Nat} (h : w.ownsRow base 23 1 (.slice A n c) n (ks.map ucell)) (j x : Nat) (hx : ks[j]? = some x) :
    ∃ g, A = some ⟨g, 0, none⟩ ∧ g < w.heap.size ∧ w.cell? ⟨g, j, none⟩ = some (.int .u64 (x : Nat)) ∧ n ≤ c := by
  have hjl : j < ks.length := (List.getElem?_eq_some_iff.1 hx).1
  rcases h.2 with ⟨h0, hn⟩ | ⟨g, cap, cur, hv, hb, hg, hnc, _⟩
  · have h1 := h.1
    simp at h1
    omega
  · cases hv
    have r0 := h.cells (g := g) rfl j (ucell x) (by rw [List.getElem?_map, hx]; rfl)
    rw [Addr.add_lit, Nat.zero_add] at r0
    exact ⟨g, rfl, Blk.lt hg, r0, hnc⟩

set_option maxRecDepth 100000 in
set_option maxHeartbeats 8000000 in
theorem walkParamRises (p : PP) (W : World) (hok : p.OK) (hstd : p.Std) :
    Calls Try.prog 8 #[pval p] W fun e w' => e = .returned (.bool true) ∧ Below W.heap.size W w' := by
  have hb0 : Blk (W.alloc (.cells (pcells p) 25)) W.heap.size 25 (pcells p) := Blk.new _ _ _
  have hm0 : Mod [] W (W.alloc (.cells (pcells p) 25)) := (Mod.refl _ _).alloc _
  obtain ⟨w0, hw0⟩ : ∃ w0, W.alloc (.cells (pcells p) 25) = w0 := ⟨_, rfl⟩
  rw [hw0] at hb0 hm0
  have HB0 := hide hb0
  have hss := hok.s
  have HW0 := hide hw0
  have HStd := hide hstd
  clear hok hb0 hw0 hstd
  unfold pval pcells at *
  go_enter Try.func8, Try.ntmps8
  go_wp2_with fail
  have hw0 := HW0.out
  unfold pcells at hw0
  rw [hw0]
  refine (awake_any _).mono ?_
  rintro e w1 ⟨rfl, m1⟩
  have hb := m1.blk HB0.out (by simp)
  have hm := hm0.trans m1 (by simp)
  have hpl := hb.lt
  have HB := hide hb
  clear hw0 HW0 HB0 m1 hm0 hb
  have s12 : w1.cell? ⟨W.heap.size, 12, none⟩ = some (.string p.src) := HB.out.cell 12
  by_cases hbig : 1024 < p.src.size
  · have HM := hide hm
    clear hm
    go_wp2_with fail
    go_ret
    exact ⟨rfl, HM.out.below (Nat.le_refl _) (by simp)⟩
  have hsw := hide (show p.src.size ≤ 65536 by omega)
  have c0 : w1.cell? ⟨W.heap.size, 0, none⟩ = some (.int .u64 (p.N 1 : Nat)) := HB.out.cell 0
  have c1 : w1.cell? ⟨W.heap.size, 1, none⟩ = some (.int .u64 (p.N 3 : Nat)) := HB.out.cell 1
  have c2 : w1.cell? ⟨W.heap.size, 2, none⟩ = some (.int .u64 (p.N 4 : Nat)) := HB.out.cell 2
  have c3 : w1.cell? ⟨W.heap.size, 3, none⟩ = some (.int .u64 (p.N 5 : Nat)) := HB.out.cell 3
  have c4 : w1.cell? ⟨W.heap.size, 4, none⟩ = some (.int .u64 (p.N 6 : Nat)) := HB.out.cell 4
  have c5 : w1.cell? ⟨W.heap.size, 5, none⟩ = some (.int .u64 (p.N 7 : Nat)) := HB.out.cell 5
  have c6 : w1.cell? ⟨W.heap.size, 6, none⟩ = some (.int .u64 (p.N 8 : Nat)) := HB.out.cell 6
  have c7 : w1.cell? ⟨W.heap.size, 7, none⟩ = some (.int .u64 (p.N 9 : Nat)) := HB.out.cell 7
  have c8 : w1.cell? ⟨W.heap.size, 8, none⟩ = some (.int .u64 (p.N 10 : Nat)) := HB.out.cell 8
  have c9 : w1.cell? ⟨W.heap.size, 9, none⟩ = some (.int .u64 (p.N 11 : Nat)) := HB.out.cell 9
  have c10 : w1.cell? ⟨W.heap.size, 10, none⟩ = some (.int .u64 (p.N 14 : Nat)) := HB.out.cell 10
  have c11 : w1.cell? ⟨W.heap.size, 11, none⟩ = some (.bool p.mig) := HB.out.cell 11
  have c12 : w1.cell? ⟨W.heap.size, 12, none⟩ = some (.string p.src) := HB.out.cell 12
  clear s12
  go_wp2_with fail
  refine (write_any w1 p hsw.out).mono ?_
  clear c0 c1 c2 c3 c4 c5 c6 c7 c8 c9 c10 c11 c12
  rintro e w2 h2
  have hm2 : Mod [] w1 w2 := h2.1
  replace hm := hm.trans hm2 (by simp)
  have hb2 := hm2.blk HB.out (by simp)
  replace hpl := hb2.lt
  clear HB
  have HB := hide hb2
  clear hb2 hm2
  cases hmy : may p
  · obtain ⟨rfl, _⟩ := ww_no hmy h2
    have HM := hide hm
    clear hmy hm h2
    go_wp2_with fail
    go_ret
    exact ⟨rfl, HM.out.below (Nat.le_refl _) (by simp)⟩
  obtain ⟨rfl, _⟩ := ww_yes hmy h2
  obtain ⟨S, hS⟩ : ∃ S : ByteArray, S = ⟨(pwrite p).toArray⟩ := ⟨_, rfl⟩
  have hsS : str (pwrite p) = .string S := by rw [hS]; rfl
  have hSd : S.data.toList = pwrite p := by rw [hS]
  have hSz : S.size = (pwrite p).length := by rw [hS]; rfl
  have hle : (pwrite p).length ≤ 65536 := by
    unfold pwrite
    have e1 := flat_le (ppart p) 1100 (List.range 16) (fun x _ => by have := ppart_le p x; omega)
    rw [List.length_range] at e1
    omega
  have hit : pitems S.data.toList = some (ilist p) := by rw [hSd, pwrite_flat, pitems_flat' _ (ilist_small (by omega))]
  rw [hsS]
  have hids := hide (ids_any w2 S (by omega))
  have HIt := hide hit
  clear h2 hmy hS hsS hSd hSz hle hit
  go_wp2_with fail
  refine hids.out.mono ?_
  rintro e w3 ⟨m3, h3⟩
  obtain ⟨A, c, rfl, hown, _⟩ := ids_some HIt.out h3
  replace hm := hm.trans m3 (by simp)
  obtain ⟨n, hn, hlast⟩ := rises_last (p := p)
  have hown' : w3.ownsRow w2.heap.size 23 1 (.slice A (ilist p).length c) (ilist p).length (((ilist p).map (·.1)).map ucell) := by rw [List.map_map]; exact hown
  rw [hn] at hown' ⊢
  have hks : ((ilist p).map (·.1)).length = n + 1 := by simp [hn]
  obtain ⟨ks, hke⟩ : ∃ ks, (ilist p).map (·.1) = ks := ⟨_, rfl⟩
  have hlt : ∀ (j k x y : Nat), j < k → ks[j]? = some x → ks[k]? = some y → x < y := by rw [← hke]; exact fun j k x y h1 h2 h3 => rises_lt h1 h2 h3
  have hle : ∀ (j x : Nat), ks[j]? = some x → x ≤ 15 := by rw [← hke]; exact fun j x h => rises_le h
  rw [hke] at hown' hlast hks
  have hn16 : n ≤ 16 := by
    have h1 : ((List.range 16).filter fun id : Nat => (pbytes p id).isSome).length ≤ 16 := Nat.le_trans (List.length_filter_le _ _) (by simp)
    rw [← ilist_ids, hke, hks] at h1
    omega
  obtain ⟨g, rfl, hgl, hgc, hnc⟩ := ucell_at hown' n 15 hlast
  have HOwn := hide hown'
  have HLt := hide hlt
  have HLe := hide hle
  have HLast := hide hlast
  have HKs := hide hks
  have HM := hide hm
  clear h3 m3 hown hn hlast hown' hke hlt hle hks hids HIt hm HB
  go_wp2_with fail
  go_loopw [30] (fun iv wr => ∃ j : Nat, j ≤ n + 1 ∧ iv = .int .i64 (j : Int) ∧ ∃ k, wr = w3.drewN k) (fun iv _ => n + 1 - (intOf iv).toNat)
  case atStart => exact ⟨0, by omega, rfl, 0, rfl⟩
  case round =>
    obtain ⟨j, hj, rfl, k, rfl⟩ := hrel
    by_cases h : j < n + 1
    · obtain ⟨x, hx⟩ : ∃ x, ks[j]? = some x := ⟨_, List.getElem?_eq_getElem (by rw [HKs.out]; exact h)⟩
      obtain ⟨_, he, _, cx, _⟩ := ucell_at HOwn.out j x hx
      cases he
      have hx15 := HLe.out j x hx
      have hx15' : ¬ (15 : Int) < x := by omega
      by_cases h0 : 0 < j
      · obtain ⟨y, hy⟩ : ∃ y, ks[j - 1]? = some y := ⟨_, List.getElem?_eq_getElem (by rw [HKs.out]; omega)⟩
        obtain ⟨_, he, _, cy, _⟩ := ucell_at HOwn.out (j - 1) y hy
        cases he
        have hyx := HLt.out (j - 1) j y x (by omega) hy hx
        have hyx' : ¬ (x : Int) ≤ y := by omega
        have hyxd : decide ((x : Int) ≤ y) = false := by simpa using hyx'
        have hyxn : decide (x ≤ y) = false := by simp; omega
        have hx15d : decide ((15 : Int) < x) = false := by simpa using hx15'
        have e1 : (j : Int) - 1 = ((j - 1 : Nat) : Int) := by omega
        have hw1 : IntKind.i64.wrap ((j : Int) - 1) = ((j - 1 : Nat) : Int) := by rw [e1]; exact IntWalk.i64_in _ (by omega)
        have h0d : decide ((0 : Int) < j) = true := by simp; omega
        have h0n : decide (0 < j) = true := by simpa using h0
        clear hx hy
        go_wp2_with fail
        go_quiet (fail)
        go_wp2_with fail
        go_roundw
        case rel => exact ⟨j + 1, by omega, by go_num, by first | exact ⟨_, rfl⟩ | exact ⟨_, World.drewN_drewN _ _ _⟩⟩
        case measure => simp [intOf]; omega
      · have hj0 : j = 0 := by omega
        subst hj0
        have hx15d : decide ((15 : Int) < x) = false := by simpa using hx15'
        clear hx
        go_wp2_with fail
        go_quiet (fail)
        go_wp2_with fail
        go_roundw
        case rel => exact ⟨1, by omega, by go_num, by first | exact ⟨_, rfl⟩ | exact ⟨_, World.drewN_drewN _ _ _⟩⟩
        case measure => simp [intOf]
    · have hjn : j = n + 1 := by omega
      subst hjn
      have e1 : ((n + 1 : Nat) : Int) - 1 = n := by omega
      go_wp2_with fail
      go_ret
      exact ⟨by rfl, (HM.out.drewN _).below (Nat.le_refl _) (by simp)⟩
end Go.Proofs.Ytampdiplodhkbaa
