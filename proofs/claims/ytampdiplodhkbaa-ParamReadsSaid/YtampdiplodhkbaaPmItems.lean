/-
  parameters: put, one, num, items, Ids.
-/
import Derived.Test.YtampdiplodhkbaaPmMay
import Derived.Test.YtampdiplodhkbaaApp
namespace Go.Proofs.Ytampdiplodhkbaa
open Go.RowKit

structure Short where
  n : Nat
  rest : List UInt8
  ok : Bool
def short (s : List UInt8) : Short := ⟨(vtake s).n, (vtake s).rest, decide ((vtake s).e = 0) && (vsizeS (vtake s).n == s.length - (vtake s).rest.length)⟩

theorem vtake_rest (s : List UInt8) : (vtake s).rest.length ≤ s.length := by
  unfold vtake
  split
  · simp
  · split
    · simp
    · simp; omega
theorem vtake_rest_lt (s : List UInt8) (h : s ≠ []) : (vtake s).rest.length < s.length := by
  unfold vtake
  split
  · exact absurd rfl h
  · split
    · simp
    · simp; omega
theorem vtake_n_lt (s : List UInt8) : (vtake s).n < 4611686018427387904 := by
  rcases vtake_e s with h | h
  · obtain ⟨k, _, _, h2, _⟩ := vtake_some (n := (vtake s).n) (r := (vtake s).rest) (s := s) (by rw [← h])
    exact h2
  · omega

/-- ids and values -/
def pitems (s : List UInt8) : Option (List (Nat × List UInt8)) :=
  if _h : s = [] then some []
  else if !(short s).ok || !(short (short s).rest).ok || decide ((short (short s).rest).rest.length < (short (short s).rest).n) then none
  else (pitems ((short (short s).rest).rest.drop (short (short s).rest).n)).map (((short s).n, (short (short s).rest).rest.take (short (short s).rest).n) :: ·)
termination_by s.length
decreasing_by
  have h1 := vtake_rest_lt s (by assumption)
  have h2 := vtake_rest (vtake s).rest
  simp only [short, List.length_drop]
  omega

set_option maxHeartbeats 1000000 in
theorem pput_any (w : World) (n : Nat) : Calls Try.prog 29 #[.int .u64 n] w fun e w' => e = .returned (str (vputS n)) ∧ Mod [] w w' := by
  go_enter Try.func29, Try.ntmps29
  go_wp2_with fail
  refine (vput_any w n).mono ?_
  rintro e w1 ⟨rfl, m1⟩
  go_wp2_with fail
  go_ret
  exact ⟨rfl, m1⟩

def pone (id : Nat) (v : List UInt8) : List UInt8 := vputS id ++ (vputS v.length ++ v)
theorem vputS_le (n : Nat) : (vputS n).length ≤ 8 := by
  unfold vputS
  split
  · simp
  · rw [vput_length]; exact (vsize_pos n).2

set_option maxHeartbeats 1000000 in
theorem pone_any (w : World) (id : Nat) (v : ByteArray) (hv : v.size ≤ 4611686018427387903) :
    Calls Try.prog 33 #[.int .u64 id, .string v] w fun e w' => e = .returned (str (pone id v.data.toList)) ∧ Mod [] w w' := by
  obtain ⟨A, hA⟩ : ∃ A : ByteArray, A = ⟨(vputS id).toArray⟩ := ⟨_, rfl⟩
  obtain ⟨B, hB⟩ : ∃ B : ByteArray, B = ⟨(vputS v.size).toArray⟩ := ⟨_, rfl⟩
  have hAs : A.size ≤ 8 := by rw [hA]; exact vputS_le _
  have hBs : B.size ≤ 8 := by rw [hB]; exact vputS_le _
  have H1 : Hid (str (vputS id) = .string A) := hide (by rw [hA]; rfl)
  have H2 : Hid (str (vputS v.size) = .string B) := hide (by rw [hB]; rfl)
  have H3 : Hid (A ++ B ++ v = ⟨(pone id v.data.toList).toArray⟩) := hide (by
    have e : v.data.toList.length = v.size := Array.length_toList
    apply ByteArray.ext
    apply Array.ext'
    rw [hA, hB]
    simp [pone, e])
  have hsum : A.size + B.size ≤ 9223372036854775807 := by omega
  have hsum2 : (A ++ B).size + v.size ≤ 9223372036854775807 := by simp; omega
  clear hA hB
  go_enter Try.func33, Try.ntmps33
  go_wp2_with fail
  refine (pput_any w id).mono ?_
  rintro e w1 ⟨rfl, m1⟩
  rw [H1.out]
  go_wp2_with fail
  refine (pput_any w1 v.size).mono ?_
  rintro e w2 ⟨rfl, m2⟩
  rw [H2.out]
  go_wp2_with fail
  go_ret
  exact ⟨by show Ending.returned (.string (A ++ B ++ v)) = _; rw [H3.out]; rfl, m1.trans m2 (by simp)⟩

set_option maxHeartbeats 1000000 in
theorem num_any (w : World) (x : ByteArray) (hx : x.size ≤ 4611686018427387903) :
    Calls Try.prog 38 #[.string x] w fun e w' => e = .returned (.tuple #[.int .u64 ((short x.data.toList).n : Nat), str (short x.data.toList).rest, .bool (short x.data.toList).ok]) ∧ Mod [] w w' := by
  have el : x.data.toList.length = x.size := Array.length_toList
  have hr := vtake_rest x.data.toList
  have hT := vtake_any w x
  obtain ⟨n, hn⟩ : ∃ n, (vtake x.data.toList).n = n := ⟨_, rfl⟩
  obtain ⟨R, hR⟩ : ∃ R : ByteArray, R = ⟨(vtake x.data.toList).rest.toArray⟩ := ⟨_, rfl⟩
  obtain ⟨ev, hev⟩ : ∃ e, (vtake x.data.toList).e = e := ⟨_, rfl⟩
  have hRs : R.size = (vtake x.data.toList).rest.length := by rw [hR]; rfl
  have hsr : str (vtake x.data.toList).rest = .string R := by rw [hR]; rfl
  have H1 : Hid ((short x.data.toList).n = n ∧ str (short x.data.toList).rest = .string R ∧ (short x.data.toList).ok = (decide (ev = 0) && (vsizeS n == x.size - R.size))) := hide ⟨hn, hsr, by unfold short; rw [hn, hev, el, hRs]⟩
  rw [hn, hsr, hev] at hT
  obtain ⟨z, hz⟩ : ∃ z, vsizeS n = z := ⟨_, rfl⟩
  rw [hz] at H1
  have hS := fun w => vsize_any w n
  rw [hz] at hS
  have HT := hide hT
  have HS := hide hS
  have hRle : R.size ≤ x.size := by omega
  clear hT hS hz hn hR hsr el hr hRs
  by_cases h0 : ev = 0
  · have h0' : (ev == 0) = true := by simpa using h0
    have Hev := hide h0
    clear h0 hev
    go_enter Try.func38, Try.ntmps38
    go_wp2_with fail
    refine HT.out.mono ?_
    rintro e w1 ⟨rfl, m1⟩
    go_wp2_with fail
    refine (HS.out w1).mono ?_
    rintro e w2 ⟨rfl, rfl⟩
    go_wp2_with fail
    all_goals
      refine bodyPost_ret (results_tmp3 rfl _ _ _) rfl ?_
      refine ⟨?_, m1⟩
      rw [H1.out.1, H1.out.2.1, H1.out.2.2, Hev.out]
      simp
      try (rw [Bool.eq_iff_iff]; simp only [beq_iff_eq]; omega)
  · have h0' : (ev == 0) = false := by simpa using h0
    have Hev := hide h0
    clear h0 hev
    go_enter Try.func38, Try.ntmps38
    go_wp2_with fail
    refine HT.out.mono ?_
    rintro e w1 ⟨rfl, m1⟩
    go_wp2_with fail
    refine bodyPost_ret (results_tmp3 rfl _ _ _) rfl ?_
    refine ⟨?_, m1⟩
    rw [H1.out.1, H1.out.2.1, H1.out.2.2]
    simp [Hev.out]

theorem pitems_nil : pitems [] = some [] := by rw [pitems]; simp
theorem pitems_step {s : List UInt8} (h : s ≠ []) : pitems s = if !(short s).ok || !(short (short s).rest).ok || decide ((short (short s).rest).rest.length < (short (short s).rest).n) then none
    else (pitems ((short (short s).rest).rest.drop (short (short s).rest).n)).map (((short s).n, (short (short s).rest).rest.take (short (short s).rest).n) :: ·) := by
  rw [pitems, dif_neg h]
theorem short_rest_le (s : List UInt8) : (short s).rest.length ≤ s.length := vtake_rest s
theorem short_rest_lt (s : List UInt8) (h : s ≠ []) : (short s).rest.length < s.length := vtake_rest_lt s h
theorem short_n_lt (s : List UInt8) : (short s).n < 4611686018427387904 := vtake_n_lt s

def icells (x : Nat × List UInt8) : List Value := [.int .u64 (x.1 : Nat), str x.2]
theorem itemInfo : (Try.prog.info? 60).map (fun i => (i.zero, i.size, i.bytes)) = some (some (.agg #[.int .u64 0, .string ⟨#[]⟩]), 2, 24) := by kernel_rfl

theorem flat_len {α : Type} (f : α → List Value) (k : Nat) (hf : ∀ x, (f x).length = k) (l : List α) : (l.flatMap f).length = l.length * k := by
  induction l with
  | nil => simp
  | cons x l ih => simp [hf, ih, Nat.add_mul]; omega

def ItemsPost (w : World) (x : ByteArray) (e : Ending) (w' : World) : Prop := match pitems x.data.toList with
      | none => e = .returned (.tuple #[.slice none 0 0, .bool false])
      | some l => ∃ A c, e = .returned (.tuple #[.slice A l.length c, .bool true]) ∧ w'.ownsRow w.heap.size 60 2 (.slice A l.length c) l.length (l.flatMap icells) ∧ l.length ≤ x.size
theorem ItemsPost.none_ {w w' : World} {x : ByteArray} {e : Ending} (h : pitems x.data.toList = none) (he : e = .returned (.tuple #[.slice none 0 0, .bool false])) : ItemsPost w x e w' := by
  unfold ItemsPost; rw [h]; exact he
theorem ItemsPost.some_ {w w' : World} {x : ByteArray} {e : Ending} {l : List (Nat × List UInt8)} (h : pitems x.data.toList = some l)
    (he : ∃ A c, e = .returned (.tuple #[.slice A l.length c, .bool true]) ∧ w'.ownsRow w.heap.size 60 2 (.slice A l.length c) l.length (l.flatMap icells) ∧ l.length ≤ x.size) : ItemsPost w x e w' := by
  unfold ItemsPost; rw [h]; exact he
def strLen (v : Value) : Nat := match v with | .string s => s.size | _ => 0

set_option maxRecDepth 100000 in
set_option maxHeartbeats 4000000 in
theorem items_any (w : World) (x : ByteArray) (hx : x.size ≤ 65536) :
    Calls Try.prog 24 #[.string x] w fun e w' => Mod [] w w' ∧ ItemsPost w x e w' := by
  go_enter Try.func24, Try.ntmps24
  go_wp2_with fail
  go_loopw [0, 4] (fun sv lv wr => ∃ (s : ByteArray) (l : List (Nat × List UInt8)) (A : Option Addr) (c : Nat), sv = .string s ∧ lv = .slice A l.length c ∧ wr.ownsRow w.heap.size 60 2 (.slice A l.length c) l.length (l.flatMap icells) ∧
      pitems x.data.toList = (pitems s.data.toList).map (l ++ ·) ∧ s.size + l.length ≤ x.size ∧ Mod [] w wr) (fun sv _ _ => strLen sv)
  case atStart => exact ⟨x, [], none, 0, rfl, rfl, World.ownsRow_nil _ _ _ _, by cases pitems x.data.toList <;> rfl, by simp, Mod.refl _ _⟩
  case round =>
    obtain ⟨s, l, A, c, rfl, rfl, hown, hpi, hsz, hm⟩ := hrel
    have hes := empty_size s
    have els : s.data.toList.length = s.size := Array.length_toList
    by_cases h0 : s.size = 0
    · rw [decide_eq_true h0] at hes
      have hs : s.data.toList = [] := List.eq_nil_of_length_eq_zero (by omega)
      rw [hs, pitems_nil] at hpi
      have Hpi : Hid (pitems x.data.toList = some l) := hide (by rw [hpi]; simp)
      clear hpi hs els
      go_wp2_with fail
      go_ret2
      exact ⟨hm, ItemsPost.some_ Hpi.out ⟨A, c, rfl, hown, by omega⟩⟩
    · rw [decide_eq_false h0] at hes
      have hs : s.data.toList ≠ [] := by intro h; rw [h] at els; simp at els; omega
      rw [pitems_step hs] at hpi
      have hN1 := num_any wr s (by omega)
      have l1 := short_rest_lt s.data.toList hs
      have b1 := short_n_lt s.data.toList
      obtain ⟨n1, hn1⟩ : ∃ n, (short s.data.toList).n = n := ⟨_, rfl⟩
      obtain ⟨R1, hR1⟩ : ∃ R : ByteArray, R = ⟨(short s.data.toList).rest.toArray⟩ := ⟨_, rfl⟩
      obtain ⟨k1, hk1⟩ : ∃ k, (short s.data.toList).ok = k := ⟨_, rfl⟩
      have hr1 : (short s.data.toList).rest = R1.data.toList := by rw [hR1]
      have hs1 : str (short s.data.toList).rest = .string R1 := by rw [hR1]; rfl
      have e1 : R1.data.toList.length = R1.size := Array.length_toList
      rw [hn1, hs1, hk1] at hN1
      rw [hr1] at hpi l1
      rw [hn1] at b1 hpi
      rw [hk1] at hpi
      clear hn1 hR1 hk1 hr1 hs1
      have hN2 := fun w => num_any w R1 (by omega)
      have l2 := short_rest_le R1.data.toList
      have b2 := short_n_lt R1.data.toList
      obtain ⟨n2, hn2⟩ : ∃ n, (short R1.data.toList).n = n := ⟨_, rfl⟩
      obtain ⟨R2, hR2⟩ : ∃ R : ByteArray, R = ⟨(short R1.data.toList).rest.toArray⟩ := ⟨_, rfl⟩
      obtain ⟨k2, hk2⟩ : ∃ k, (short R1.data.toList).ok = k := ⟨_, rfl⟩
      have hr2 : (short R1.data.toList).rest = R2.data.toList := by rw [hR2]
      have hs2 : str (short R1.data.toList).rest = .string R2 := by rw [hR2]; rfl
      have e2 : R2.data.toList.length = R2.size := Array.length_toList
      rw [hn2, hs2, hk2] at hN2
      rw [hr2] at hpi l2
      rw [hn2] at b2 hpi
      rw [hk2, e2] at hpi
      clear hn2 hR2 hk2 hr2 hs2 hs
      have HN1 := hide hN1
      have HN2 := hide hN2
      have HPi := hide hpi
      have hR2s : R2.size ≤ 65536 := by omega
      clear hN1 hN2 hpi
      cases k1
      · have HP2 : Hid (pitems x.data.toList = none) := hide (by rw [HPi.out]; rfl)
        go_wp2_with fail
        refine HN1.out.mono ?_
        rintro e w3 ⟨rfl, m3⟩
        go_wp2_with fail
        refine (HN2.out _).mono ?_
        rintro e w4 ⟨rfl, m4⟩
        go_wp2_with fail
        go_ret2
        exact ⟨(hm.trans m3 (by simp)).trans m4 (by simp), ItemsPost.none_ HP2.out rfl⟩
      · cases k2
        · have HP2 : Hid (pitems x.data.toList = none) := hide (by rw [HPi.out]; rfl)
          go_wp2_with fail
          refine HN1.out.mono ?_
          rintro e w3 ⟨rfl, m3⟩
          go_wp2_with fail
          refine (HN2.out _).mono ?_
          rintro e w4 ⟨rfl, m4⟩
          go_wp2_with fail
          go_ret2
          exact ⟨(hm.trans m3 (by simp)).trans m4 (by simp), ItemsPost.none_ HP2.out rfl⟩
        · by_cases hlt : R2.size < n2
          · have HP2 : Hid (pitems x.data.toList = none) := hide (by rw [HPi.out]; simp [hlt])
            have hlt' : (R2.size : Int) < n2 := by omega
            go_wp2_with fail
            refine HN1.out.mono ?_
            rintro e w3 ⟨rfl, m3⟩
            go_wp2_with fail
            refine (HN2.out _).mono ?_
            rintro e w4 ⟨rfl, m4⟩
            go_wp2_with fail
            go_ret2
            exact ⟨(hm.trans m3 (by simp)).trans m4 (by simp), ItemsPost.none_ HP2.out rfl⟩
          · have hlt' : ¬ (R2.size : Int) < n2 := by omega
            have hv : (⟨(R2.data.toList.take n2).toArray⟩ : ByteArray) = R2.extract 0 n2 := by
              apply ByteArray.ext; apply Array.ext'; rw [Lib.extract_data]; simp
            have hrest : (R2.extract n2 R2.size).data.toList = R2.data.toList.drop n2 := by
              rw [Lib.extract_data, List.take_of_length_le (by rw [List.length_drop, e2]; omega)]
            have HP2 : Hid (pitems x.data.toList = (pitems (R2.extract n2 R2.size).data.toList).map ((l ++ [(n1, R2.data.toList.take n2)]) ++ ·)) := hide (by
              rw [HPi.out, hrest]
              simp only [Bool.not_true, Bool.or_self, Bool.false_or, decide_eq_true_eq, if_neg hlt, Option.map_map]
              congr 1
              funext z
              simp)
            have hrs : (R2.extract n2 R2.size).size = R2.size - n2 := by
              have e : (R2.extract n2 R2.size).data.toList.length = (R2.extract n2 R2.size).size := Array.length_toList
              rw [hrest, List.length_drop, e2] at e
              omega
            have HV := hide hv
            clear HPi hlt hv hrest
            go_wp2_with fail
            refine HN1.out.mono ?_
            rintro e w3 ⟨rfl, m3⟩
            go_wp2_with fail
            refine (HN2.out _).mono ?_
            rintro e w4 ⟨rfl, m4⟩
            have m5 := (hm.trans m3 (by simp)).trans m4 (by simp)
            replace hown := (m3.trans m4 (by simp)).own hown (fun k hk h => by simp at h)
            have hown5 : (w4.alloc (.cells #[.int .u64 (n1 : Nat), .string (R2.extract 0 n2)] 60)).ownsRow w.heap.size 60 2 (.slice A l.length c) l.length (l.flatMap icells) := ((Mod.refl [] w4).alloc _).own hown (fun k hk h => by simp at h)
            have hsz4 := m5.size
            obtain ⟨A', c', w6, hrun, hown6, m6, hb6⟩ := app_one (P := Try.prog) Try.underlying55 itemInfo rfl (w4.alloc (.cells #[.int .u64 (n1 : Nat), .string (R2.extract 0 n2)] 60)) 55 w.heap.size _ l.length _ hown5 (by simp; omega)
              [.int .u64 (n1 : Nat), .string (R2.extract 0 n2)] rfl (by intro u hu; simp at hu; rcases hu with rfl | rfl <;> rfl) (by omega) (by omega) w4.heap.size (fun j u hu => by rw [(Blk.new w4 _ _).cell j]; simpa using hu)
            have m7 := (m5.alloc (.cells #[.int .u64 (n1 : Nat), .string (R2.extract 0 n2)] 60)).keep m6 hown5 (Nat.le_refl _)
            clear HN1 HN2 hown hown5 m6 hb6 m5 m3 m4
            have hownF : w6.ownsRow w.heap.size 60 2 (.slice A' (l.length + 1) c') (l ++ [(n1, R2.data.toList.take n2)]).length ((l ++ [(n1, R2.data.toList.take n2)]).flatMap icells) := by
              have e : (l ++ [(n1, R2.data.toList.take n2)]).length = l.length + 1 := by simp
              rw [e, List.flatMap_append]
              have e2 : [(n1, R2.data.toList.take n2)].flatMap icells = [.int .u64 (n1 : Nat), .string (R2.extract 0 n2)] := by
                simp [icells, str, HV.out]
              rw [e2]; exact hown6
            have HOF := hide hownF
            have HRS := hide hrs
            have HRun := hide hrun
            clear hown6 hownF hrs hsz4 hrun
            go_wp2_with (at_builtin; refine Lib.wpList_append_run _ rfl (.tmp 37) (.tmp 43) 55 55 rfl (.slice A l.length c) (.slice (some ⟨w4.heap.size, 0, none⟩) 1 1) rfl rfl _ w6 HRun.out ?_)
            go_roundw
            case rel => exact ⟨_, l ++ [(n1, R2.data.toList.take n2)], A', c', rfl, by simp, by simpa using HOF.out, HP2.out, by have := HRS.out; simp; omega, m7⟩
            case measure => simp [strLen]; omega
end Go.Proofs.Ytampdiplodhkbaa
