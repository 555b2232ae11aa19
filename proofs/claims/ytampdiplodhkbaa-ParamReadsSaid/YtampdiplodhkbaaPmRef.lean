/-
  parameters: the document's package: First, number, put, short, May.
-/
import Derived.Test.YtampdiplodhkbaaPmTake
namespace Go.Proofs.Ytampdiplodhkbaa
open Go.RowKit

/-- a parameter's number, as the document's package keeps it -/
def rcells (p : PP) : Array Value := #[.int .u64 0, .int .u64 (p.N 1 : Nat), .int .u64 0, .int .u64 (p.N 3 : Nat), .int .u64 (p.N 4 : Nat), .int .u64 (p.N 5 : Nat), .int .u64 (p.N 6 : Nat), .int .u64 (p.N 7 : Nat), .int .u64 (p.N 8 : Nat), .int .u64 (p.N 9 : Nat), .int .u64 (p.N 10 : Nat), .int .u64 (p.N 11 : Nat), .int .u64 0, .int .u64 0, .int .u64 (p.N 14 : Nat)]
def rval (g : Nat) (p : PP) : Value := .agg #[.slice (some ⟨g, 0, none⟩) 15 15, .bool p.mig, .string p.src]
theorem lt15 {i : Nat} (h : i < 15) : i = 0 ∨ i = 1 ∨ i = 2 ∨ i = 3 ∨ i = 4 ∨ i = 5 ∨ i = 6 ∨ i = 7 ∨ i = 8 ∨ i = 9 ∨ i = 10 ∨ i = 11 ∨ i = 12 ∨ i = 13 ∨ i = 14 := by omega
theorem rcells_at {p : PP} (hs : p.Std) {i : Nat} (hi : i < 15) : (rcells p)[i]? = some (.int .u64 (p.N i : Nat)) := by
  have h0 := hs 0 rfl
  have h2 := hs 2 rfl
  have h12 := hs 12 rfl
  have h13 := hs 13 rfl
  rcases lt15 hi with rfl | rfl | rfl | rfl | rfl | rfl | rfl | rfl | rfl | rfl | rfl | rfl | rfl | rfl | rfl
  · rw [h0]; rfl
  · rfl
  · rw [h2]; rfl
  · rfl
  · rfl
  · rfl
  · rfl
  · rfl
  · rfl
  · rfl
  · rfl
  · rfl
  · rw [h12]; rfl
  · rw [h13]; rfl
  · rfl
theorem rcells_set {p : PP} {id t : Nat} (h : pidx id = some t) (v : Nat) : (rcells p).setIfInBounds id (.int .u64 (v : Nat)) = rcells (p.setN id v) := by
  obtain ⟨ht, he⟩ := pidx_some h
  have e : id = nkey t := by omega
  subst e
  have : t = 0 ∨ t = 1 ∨ t = 2 ∨ t = 3 ∨ t = 4 ∨ t = 5 ∨ t = 6 ∨ t = 7 ∨ t = 8 ∨ t = 9 ∨ t = 10 := by omega
  rcases this with rfl | rfl | rfl | rfl | rfl | rfl | rfl | rfl | rfl | rfl | rfl <;> simp [rcells, PP.setN, nkey]
theorem setN_std {p : PP} (hs : p.Std) {id t : Nat} (h : pidx id = some t) (v : Nat) : (p.setN id v).Std := fun k hk => by
  show (if k = id then v else p.N k) = 0
  rw [if_neg (by rintro rfl; rw [h] at hk; cases hk)]
  exact hs k hk
theorem first_std (s : ByteArray) : (pfirst s).Std := fun id hid => by
  unfold pfirst
  simp only
  rw [if_neg (by rintro rfl; cases hid), if_neg (by rintro rfl; cases hid), if_neg (by rintro rfl; cases hid), if_neg (by rintro rfl; cases hid)]

set_option maxHeartbeats 1000000 in
theorem rfirst_any (w : World) (s : ByteArray) :
    Calls Try.prog 21 #[.string s] w fun e w' => ∃ g, e = .returned (rval g (pfirst s)) ∧ Blk w' g 23 (rcells (pfirst s)) ∧ w.heap.size ≤ g ∧ Mod [] w w' := by
  have hbk := Blk.new w 31 #[.slice none 0 0, .bool false, .string ⟨#[]⟩]
  go_enter Try.func21, Try.ntmps21
  go_wp2_with fail
  refine bodyPost_ret (results_cell_row rfl _ _ w.heap.size 31 #[.slice (some ⟨w.heap.size + 1, 0, none⟩) 15 15, .bool false, .string s] (0, 0) _ rfl ?_ Try.underlying31 rfl (by kernel_rfl)) rfl ⟨w.heap.size + 1, rfl, ?_, by omega, ?_⟩
  · exact (Below.heap_alloc _ _ _ (by simp)).trans (heap_alloc_new _ _)
  · have := Blk.new (w.alloc (.cells #[.slice (some ⟨w.heap.size + 1, 0, none⟩) 15 15, .bool false, .string s] 31)) 23 (rcells (pfirst s))
    rw [World.size_alloc] at this
    exact this
  · exact ((Mod.refl _ _).alloc _).alloc _

set_option maxHeartbeats 2000000 in
theorem rnumber_any (w : World) (id : Nat) (v : Bool) (hv : (pidx id).isSome = v) :
    Calls Try.prog 26 #[.int .u64 id] w fun e w' => e = .returned (.bool v) ∧ w' = w := by
  have key : v = (decide (id = 1) || (decide (3 ≤ id) && decide (id ≤ 11)) || decide (id = 14)) := by
    rw [← hv, Bool.eq_iff_iff]
    constructor
    · intro h
      obtain ⟨t, ht⟩ := Option.isSome_iff_exists.1 h
      obtain ⟨h1, h2⟩ := pidx_some ht
      have : t = 0 ∨ t = 1 ∨ t = 2 ∨ t = 3 ∨ t = 4 ∨ t = 5 ∨ t = 6 ∨ t = 7 ∨ t = 8 ∨ t = 9 ∨ t = 10 := by omega
      simp only [Bool.or_eq_true, Bool.and_eq_true, decide_eq_true_eq]
      rcases this with rfl | rfl | rfl | rfl | rfl | rfl | rfl | rfl | rfl | rfl | rfl <;> (simp only [nkey] at h2; omega)
    · intro h
      simp only [Bool.or_eq_true, Bool.and_eq_true, decide_eq_true_eq] at h
      have : id = 1 ∨ id = 3 ∨ id = 4 ∨ id = 5 ∨ id = 6 ∨ id = 7 ∨ id = 8 ∨ id = 9 ∨ id = 10 ∨ id = 11 ∨ id = 14 := by omega
      rcases this with rfl | rfl | rfl | rfl | rfl | rfl | rfl | rfl | rfl | rfl | rfl <;> rfl
  have HK := hide key
  clear key hv
  by_cases h1 : id = 1
  · subst h1
    go_enter Try.func26, Try.ntmps26
    go_wp2_with fail
    go_ret
    exact ⟨by rw [HK.out]; rfl, rfl⟩
  have b1 : ((id : Int) == 1) = false := by simp; omega
  by_cases h3 : 3 ≤ id
  · have d3 : decide ((3 : Int) ≤ id) = true := by simp; omega
    by_cases h11 : id ≤ 11
    · have d11 : decide ((id : Int) ≤ 11) = true := by simp; omega
      have hv : v = true := by rw [HK.out]; simp [h3, h11]
      clear h1 HK
      go_enter Try.func26, Try.ntmps26
      go_wp2_with fail
      go_ret
      exact ⟨by rw [hv]; rfl, rfl⟩
    · have d11 : decide ((id : Int) ≤ 11) = false := by simp; omega
      by_cases h14 : id = 14
      · subst h14
        have hv : v = true := by rw [HK.out]; rfl
        have HV := hide hv
        clear h1 HK hv
        go_enter Try.func26, Try.ntmps26
        go_wp2_with fail
        go_ret
        exact ⟨by rw [HV.out]; rfl, rfl⟩
      · have b14 : ((id : Int) == 14) = false := by simp; omega
        have hv : v = false := by rw [HK.out]; simp [h1, h3, h11, h14]
        have HV := hide hv
        clear h1 HK hv h14
        go_enter Try.func26, Try.ntmps26
        go_wp2_with fail
        go_ret
        exact ⟨by rw [HV.out]; rfl, rfl⟩
  · have d3 : decide ((3 : Int) ≤ id) = false := by simp; omega
    have b14 : ((id : Int) == 14) = false := by simp; omega
    have hv : v = false := by rw [HK.out]; simp [h1, h3]; omega
    have HV := hide hv
    clear h1 HK hv
    go_enter Try.func26, Try.ntmps26
    go_wp2_with fail
    go_ret
    exact ⟨by rw [HV.out]; rfl, rfl⟩

set_option maxHeartbeats 1000000 in
theorem rpput_any (w : World) (n : Nat) : Calls Try.prog 35 #[.int .u64 n] w fun e w' => e = .returned (str (vputS n)) ∧ Mod [] w w' := by
  go_enter Try.func35, Try.ntmps35
  go_wp2_with fail
  refine (rput_any w n).mono ?_
  rintro e w1 ⟨rfl, m1⟩
  go_wp2_with fail
  go_ret
  exact ⟨rfl, m1⟩

theorem vputS_size {n : Nat} : (vputS n).length = vsizeS n := by
  unfold vputS vsizeS
  split
  · rfl
  · exact vput_length n

set_option maxHeartbeats 1000000 in
theorem rshort_any (w : World) (x : ByteArray) (hx : x.size ≤ 4611686018427387903) :
    Calls Try.prog 27 #[.string x] w fun e w' => e = .returned (.tuple #[.int .u64 ((short x.data.toList).n : Nat), str (short x.data.toList).rest, .bool (short x.data.toList).ok]) ∧ Mod [] w w' := by
  have el : x.data.toList.length = x.size := Array.length_toList
  have hr := vtake_rest x.data.toList
  have hT := rtake_any w x
  obtain ⟨n, hn⟩ : ∃ n, (vtake x.data.toList).n = n := ⟨_, rfl⟩
  obtain ⟨R, hR⟩ : ∃ R : ByteArray, R = ⟨(vtake x.data.toList).rest.toArray⟩ := ⟨_, rfl⟩
  obtain ⟨ev, hev⟩ : ∃ e, (vtake x.data.toList).e = e := ⟨_, rfl⟩
  have hRs : R.size = (vtake x.data.toList).rest.length := by rw [hR]; rfl
  have hsr : str (vtake x.data.toList).rest = .string R := by rw [hR]; rfl
  have H1 : Hid ((short x.data.toList).n = n ∧ str (short x.data.toList).rest = .string R ∧ (short x.data.toList).ok = (decide (ev = 0) && (vsizeS n == x.size - R.size))) := hide ⟨hn, hsr, by unfold short; rw [hn, hev, el, hRs]⟩
  rw [hn, hsr, hev] at hT
  obtain ⟨Z, hZ⟩ : ∃ Z : ByteArray, Z = ⟨(vputS n).toArray⟩ := ⟨_, rfl⟩
  have hzs : str (vputS n) = .string Z := by rw [hZ]; rfl
  have hz : vsizeS n = Z.size := by rw [hZ]; exact vputS_size.symm
  rw [hz] at H1
  have hS := fun w => rpput_any w n
  rw [hzs] at hS
  have HT := hide hT
  have HS := hide hS
  have hRle : R.size ≤ x.size := by omega
  have hZs : Z.size ≤ 8 := by rw [← hz, ← vputS_size]; exact vputS_le n
  clear hT hS hz hn hR hsr el hr hRs hZ hzs
  by_cases h0 : ev = 0
  · have h0' : (ev == 0) = true := by simpa using h0
    have Hev := hide h0
    clear h0 hev
    go_enter Try.func27, Try.ntmps27
    go_wp2_with fail
    refine HT.out.mono ?_
    rintro e w1 ⟨rfl, m1⟩
    go_wp2_with fail
    refine (HS.out w1).mono ?_
    rintro e w2 ⟨rfl, m2⟩
    go_wp2_with fail
    all_goals
      refine bodyPost_ret (results_tmp3 rfl _ _ _) rfl ?_
      refine ⟨?_, m1.trans m2 (by simp)⟩
      rw [H1.out.1, H1.out.2.1, H1.out.2.2, Hev.out]
      simp
      try (rw [Bool.eq_iff_iff]; simp only [beq_iff_eq]; omega)
  · have h0' : (ev == 0) = false := by simpa using h0
    have Hev := hide h0
    clear h0 hev
    go_enter Try.func27, Try.ntmps27
    go_wp2_with fail
    refine HT.out.mono ?_
    rintro e w1 ⟨rfl, m1⟩
    go_wp2_with fail
    refine bodyPost_ret (results_tmp3 rfl _ _ _) rfl ?_
    refine ⟨?_, m1⟩
    rw [H1.out.1, H1.out.2.1, H1.out.2.2]
    simp [Hev.out]
end Go.Proofs.Ytampdiplodhkbaa
