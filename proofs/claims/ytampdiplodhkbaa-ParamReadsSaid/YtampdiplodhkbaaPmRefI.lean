/-
  parameters: the document's Ids.
-/
import Derived.Test.YtampdiplodhkbaaPmRefW
namespace Go.Proofs.Ytampdiplodhkbaa
open Go.RowKit

theorem own_own_ne {w : World} {base base' : Nat} {e e' : TypeId} {size size' n n' : Nat} {v v' : Value} {xs xs' : List Value} (h : w.ownsRow base e size v n xs) (h' : w.ownsRow base' e' size' v' n' xs') (hne : e ≠ e') :
    ∀ k, v.ownBlock = some k → v'.ownBlock ≠ some k := by
  intro k hk hk'
  rcases h.2 with ⟨rfl, _⟩ | ⟨g, cap, cur, rfl, _, hg, _⟩
  · simp [Value.ownBlock] at hk
  · rcases h'.2 with ⟨rfl, _⟩ | ⟨g', cap', cur', rfl, _, hg', _⟩
    · simp [Value.ownBlock] at hk'
    · simp [Value.ownBlock] at hk hk'
      subst hk hk'
      rw [hg] at hg'
      injection hg' with h1
      injection h1 with _ h2
      exact hne h2
theorem strinfo : (Try.prog.info? 9).map (fun i => (i.zero, i.size, i.bytes)) = some (some (.string ⟨#[]⟩), 1, 16) := by kernel_rfl
def scell (l : List UInt8) : Value := .string ⟨l.toArray⟩

def RIdsPost (w : World) (x : ByteArray) (e : Ending) (w' : World) : Prop := match pitems x.data.toList with
      | none => e = .returned (.tuple #[.slice none 0 0, .slice none 0 0, .int .i64 2])
      | some l => ∃ A c B d, e = .returned (.tuple #[.slice A l.length c, .slice B l.length d, .int .i64 0]) ∧ w'.ownsRow w.heap.size 23 1 (.slice A l.length c) l.length (l.map fun x => ucell x.1) ∧
          w'.ownsRow w.heap.size 9 1 (.slice B l.length d) l.length (l.map fun x => scell x.2) ∧ l.length ≤ x.size
theorem RIdsPost.none_ {w w' : World} {x : ByteArray} {e : Ending} (h : pitems x.data.toList = none) (he : e = .returned (.tuple #[.slice none 0 0, .slice none 0 0, .int .i64 2])) : RIdsPost w x e w' := by
  unfold RIdsPost; rw [h]; exact he
theorem RIdsPost.some_ {w w' : World} {x : ByteArray} {e : Ending} {l : List (Nat × List UInt8)} (h : pitems x.data.toList = some l)
    (he : ∃ A c B d, e = .returned (.tuple #[.slice A l.length c, .slice B l.length d, .int .i64 0]) ∧ w'.ownsRow w.heap.size 23 1 (.slice A l.length c) l.length (l.map fun x => ucell x.1) ∧
          w'.ownsRow w.heap.size 9 1 (.slice B l.length d) l.length (l.map fun x => scell x.2) ∧ l.length ≤ x.size) : RIdsPost w x e w' := by
  unfold RIdsPost; rw [h]; exact he

set_option maxRecDepth 100000 in
set_option maxHeartbeats 8000000 in
theorem rids_any (w : World) (x : ByteArray) (hx : x.size ≤ 65536) :
    Calls Try.prog 13 #[.string x] w fun e w' => Mod [] w w' ∧ RIdsPost w x e w' := by
  go_enter Try.func13, Try.ntmps13
  go_wp2_with fail
  have hu0 : ((w.alloc (.cells #[] 23)).alloc (.cells #[] 9)).ownsRow w.heap.size 23 1 (.slice (some ⟨w.heap.size, 0, none⟩) 0 0) 0 [] := by
    have := World.ownsRow_made (base := w.heap.size) (size := 1) (e := 23) w #[] 0 (Nat.le_refl _) (by simp [maxLen]) rfl
    exact ((Mod.refl [] _).alloc _).own this (by simp)
  have hs0 : ((w.alloc (.cells #[] 23)).alloc (.cells #[] 9)).ownsRow w.heap.size 9 1 (.slice (some ⟨w.heap.size + 1, 0, none⟩) 0 0) 0 [] := by
    have := World.ownsRow_made (base := w.heap.size) (size := 1) (e := 9) (w.alloc (.cells #[] 23)) #[] 0 (by simp) (by simp [maxLen]) rfl
    rw [World.size_alloc] at this
    exact this
  have hm0 : Mod [] w ((w.alloc (.cells #[] 23)).alloc (.cells #[] 9)) := ((Mod.refl _ _).alloc _).alloc _
  go_loopw [0, 5, 6] (fun sv uv vv wr => ∃ (s : ByteArray) (l : List (Nat × List UInt8)) (A B : Option Addr) (c d : Nat), sv = .string s ∧ uv = .slice A l.length c ∧ vv = .slice B l.length d ∧
      wr.ownsRow w.heap.size 23 1 (.slice A l.length c) l.length (l.map fun x => ucell x.1) ∧ wr.ownsRow w.heap.size 9 1 (.slice B l.length d) l.length (l.map fun x => scell x.2) ∧
      pitems x.data.toList = (pitems s.data.toList).map (l ++ ·) ∧ s.size + l.length ≤ x.size ∧ Mod [] w wr) (fun sv _ _ _ => strLen sv)
  case atStart => exact ⟨x, [], _, _, 0, 0, rfl, rfl, rfl, hu0, hs0, by cases pitems x.data.toList <;> rfl, by simp, hm0⟩
  case round =>
    clear hu0 hs0 hm0
    obtain ⟨s, l, A, B, c, d, rfl, rfl, rfl, hownu, howns, hpi, hsz, hm⟩ := hrel
    have els : s.data.toList.length = s.size := Array.length_toList
    by_cases h0 : s.size = 0
    · have hs : s.data.toList = [] := List.eq_nil_of_length_eq_zero (by omega)
      rw [hs, pitems_nil] at hpi
      have Hpi : Hid (pitems x.data.toList = some l) := hide (by rw [hpi]; simp)
      have hs0 : decide ((0 : Int) < s.size) = false := decide_eq_false (by omega)
      have hs1 : decide (0 < s.size) = false := decide_eq_false (by omega)
      have HU := hide hownu
      have HS := hide howns
      clear hpi hs els h0 hownu howns
      go_wp2_with fail
      refine bodyPost_ret (results_tmp3 rfl _ _ _) rfl ?_
      exact ⟨hm, RIdsPost.some_ Hpi.out ⟨A, c, B, d, rfl, HU.out, HS.out, by omega⟩⟩
    · have hs : s.data.toList ≠ [] := by intro h; rw [h] at els; simp at els; omega
      have hs0 : decide ((0 : Int) < s.size) = true := decide_eq_true (by omega)
      have hs1 : 0 < s.size := by omega
      rw [pitems_step hs] at hpi
      have hN1 := rshort_any wr s (by omega)
      have l1 := short_rest_lt s.data.toList hs
      have b1 := short_n_lt s.data.toList
      obtain ⟨n1, hn1⟩ : ∃ n, (short s.data.toList).n = n := ⟨_, rfl⟩
      obtain ⟨R1, hR1⟩ : ∃ R : ByteArray, R = ⟨(short s.data.toList).rest.toArray⟩ := ⟨_, rfl⟩
      obtain ⟨k1, hk1⟩ : ∃ k, (short s.data.toList).ok = k := ⟨_, rfl⟩
      have hr1 : (short s.data.toList).rest = R1.data.toList := by rw [hR1]
      have hs1' : str (short s.data.toList).rest = .string R1 := by rw [hR1]; rfl
      have e1 : R1.data.toList.length = R1.size := Array.length_toList
      rw [hn1, hs1', hk1] at hN1
      rw [hr1] at hpi l1
      rw [hn1] at b1 hpi
      rw [hk1] at hpi
      clear hn1 hR1 hk1 hr1 hs1'
      have hN2 := fun w => rshort_any w R1 (by omega)
      have l2 := short_rest_le R1.data.toList
      have b2 := short_n_lt R1.data.toList
      obtain ⟨n2, hn2⟩ : ∃ n, (short R1.data.toList).n = n := ⟨_, rfl⟩
      obtain ⟨R2, hR2⟩ : ∃ R : ByteArray, R = ⟨(short R1.data.toList).rest.toArray⟩ := ⟨_, rfl⟩
      obtain ⟨k2, hk2⟩ : ∃ k, (short R1.data.toList).ok = k := ⟨_, rfl⟩
      have hr2 : (short R1.data.toList).rest = R2.data.toList := by rw [hR2]
      have hs2 : str (short R1.data.toList).rest = .string R2 := by rw [hR2]; rfl
      have e2 : R2.data.toList.length = R2.size := Array.length_toList
      rw [hn2, hs2, hk2] at hN2
      rw [hr2] at hpi l2
      rw [hn2] at b2 hpi
      rw [hk2, e2] at hpi
      clear hn2 hR2 hk2 hr2 hs2 hs
      have HN1 := hide hN1
      have HN2 := hide hN2
      have HPi := hide hpi
      have hR2s : R2.size ≤ 65536 := by omega
      clear hN1 hN2 hpi
      cases k1
      · have HP2 : Hid (pitems x.data.toList = none) := hide (by rw [HPi.out]; rfl)
        go_wp2_with fail
        refine HN1.out.mono ?_
        rintro e w3 ⟨rfl, m3⟩
        go_wp2_with fail
        refine bodyPost_ret (results_tmp3 rfl _ _ _) rfl ?_
        exact ⟨hm.trans m3 (by simp), RIdsPost.none_ HP2.out rfl⟩
      · cases k2
        · have HP2 : Hid (pitems x.data.toList = none) := hide (by rw [HPi.out]; rfl)
          go_wp2_with fail
          refine HN1.out.mono ?_
          rintro e w3 ⟨rfl, m3⟩
          go_wp2_with fail
          refine (HN2.out _).mono ?_
          rintro e w4 ⟨rfl, m4⟩
          go_wp2_with fail
          refine bodyPost_ret (results_tmp3 rfl _ _ _) rfl ?_
          exact ⟨(hm.trans m3 (by simp)).trans m4 (by simp), RIdsPost.none_ HP2.out rfl⟩
        · by_cases hlt : R2.size < n2
          · have HP2 : Hid (pitems x.data.toList = none) := hide (by rw [HPi.out]; simp [hlt])
            have hlt' : (R2.size : Int) < n2 := by omega
            go_wp2_with fail
            refine HN1.out.mono ?_
            rintro e w3 ⟨rfl, m3⟩
            go_wp2_with fail
            refine (HN2.out _).mono ?_
            rintro e w4 ⟨rfl, m4⟩
            go_wp2_with fail
            refine bodyPost_ret (results_tmp3 rfl _ _ _) rfl ?_
            exact ⟨(hm.trans m3 (by simp)).trans m4 (by simp), RIdsPost.none_ HP2.out rfl⟩
          · have hlt' : ¬ (R2.size : Int) < n2 := by omega
            have hv : (⟨(R2.data.toList.take n2).toArray⟩ : ByteArray) = R2.extract 0 n2 := by
              apply ByteArray.ext; apply Array.ext'; rw [Lib.extract_data]; simp
            have hrest : (R2.extract n2 R2.size).data.toList = R2.data.toList.drop n2 := by
              rw [Lib.extract_data, List.take_of_length_le (by rw [List.length_drop, e2]; omega)]
            have HP2 : Hid (pitems x.data.toList = (pitems (R2.extract n2 R2.size).data.toList).map ((l ++ [(n1, R2.data.toList.take n2)]) ++ ·)) := hide (by
              rw [HPi.out, hrest]
              simp only [Bool.not_true, Bool.or_self, Bool.false_or, decide_eq_true_eq, if_neg hlt, Option.map_map]
              congr 1
              funext z
              simp)
            have hrs : (R2.extract n2 R2.size).size = R2.size - n2 := by
              have e : (R2.extract n2 R2.size).data.toList.length = (R2.extract n2 R2.size).size := Array.length_toList
              rw [hrest, List.length_drop, e2] at e
              omega
            have HV := hide hv
            have hwn : IntKind.i64.wrap (n2 : Int) = n2 := IntWalk.i64_in _ (by omega)
            clear HPi hlt hv hrest
            go_wp2_with fail
            refine HN1.out.mono ?_
            rintro e w3 ⟨rfl, m3⟩
            go_wp2_with fail
            refine (HN2.out _).mono ?_
            rintro e w4 ⟨rfl, m4⟩
            have m5 := (hm.trans m3 (by simp)).trans m4 (by simp)
            have m34 := m3.trans m4 (by simp)
            have hu4 := ((Mod.refl [] w4).alloc (.cells #[.int .u64 (n1 : Nat)] 23)).own (m34.own hownu (by simp)) (by simp)
            have hs4 := ((Mod.refl [] w4).alloc (.cells #[.int .u64 (n1 : Nat)] 23)).own (m34.own howns (by simp)) (by simp)
            have hsz4 := m5.size
            obtain ⟨A', c', w6, hrun, hu6, m6, hb6⟩ := app_one (P := Try.prog) Try.underlying29 u64info rfl (w4.alloc (.cells #[.int .u64 (n1 : Nat)] 23)) 29 w.heap.size _ l.length _ hu4 (by simp; omega)
              [.int .u64 (n1 : Nat)] rfl (by intro u hu; simp at hu; subst hu; rfl) (by omega) (by omega) w4.heap.size (fun j u hu => by rw [(Blk.new w4 _ _).cell j]; simpa using hu)
            have hs6 := m6.own hs4 (fun k hk hf => own_own_ne hs4 hu4 (by decide) k hk (by simpa using hf))
            have m7 := (m5.alloc (.cells #[.int .u64 (n1 : Nat)] 23)).keep m6 hu4 (Nat.le_refl _)
            have hu7 := ((Mod.refl [] w6).alloc (.cells #[.string (R2.extract 0 n2)] 9)).own hu6 (by simp)
            have hs7 := ((Mod.refl [] w6).alloc (.cells #[.string (R2.extract 0 n2)] 9)).own hs6 (by simp)
            have hsz7 := m7.size
            obtain ⟨B', d', w8, hrun8, hs8, m8, hb8⟩ := app_one (P := Try.prog) Try.underlying36 strinfo rfl (w6.alloc (.cells #[.string (R2.extract 0 n2)] 9)) 36 w.heap.size _ l.length _ hs7 (by simp; omega)
              [.string (R2.extract 0 n2)] rfl (by intro u hu; simp at hu; subst hu; rfl) (by omega) (by omega) w6.heap.size (fun j u hu => by rw [(Blk.new w6 _ _).cell j]; simpa using hu)
            have hu8 := m8.own hu7 (fun k hk hf => own_own_ne hu7 hs7 (by decide) k hk (by simpa using hf))
            have m9 := (m7.alloc (.cells #[.string (R2.extract 0 n2)] 9)).keep m8 hs7 (Nat.le_refl _)
            have hl1 : (l ++ [(n1, R2.data.toList.take n2)]).length = l.length + 1 := by simp
            have HUF : Hid (w8.ownsRow w.heap.size 23 1 (.slice A' (l ++ [(n1, R2.data.toList.take n2)]).length c') (l ++ [(n1, R2.data.toList.take n2)]).length ((l ++ [(n1, R2.data.toList.take n2)]).map fun x => ucell x.1)) := hide (by
              rw [hl1, List.map_append]; exact hu8)
            have HSF : Hid (w8.ownsRow w.heap.size 9 1 (.slice B' (l ++ [(n1, R2.data.toList.take n2)]).length d') (l ++ [(n1, R2.data.toList.take n2)]).length ((l ++ [(n1, R2.data.toList.take n2)]).map fun x => scell x.2)) := hide (by
              rw [hl1, List.map_append]
              have : [(n1, R2.data.toList.take n2)].map (fun x => scell x.2) = [.string (R2.extract 0 n2)] := by simp [scell, HV.out]
              rw [this]; exact hs8)
            have HRS := hide hrs
            have HRun := hide hrun
            have HRun8 := hide hrun8
            have HL1 := hide hl1
            clear HN1 HN2 hownu howns hu4 hs4 hu6 hs6 hu7 hs7 hu8 hs8 m5 m34 m3 m4 m6 m8 hrun hrun8 hb6 hb8 hsz4 hsz7 hrs hl1 m7
            go_wp2_with (first
              | (at_builtin; refine Lib.wpList_append_run _ rfl (.tmp 39) (.tmp 41) 29 29 rfl (.slice A l.length c) (.slice (some ⟨w4.heap.size, 0, none⟩) 1 1) rfl rfl _ w6 HRun.out ?_)
              | (at_builtin; refine Lib.wpList_append_run _ rfl (.tmp 43) (.tmp 48) 36 36 rfl (.slice B l.length d) (.slice (some ⟨w6.heap.size, 0, none⟩) 1 1) rfl rfl _ w8 HRun8.out ?_))
            go_roundw
            case rel => exact ⟨_, l ++ [(n1, R2.data.toList.take n2)], A', B', c', d', rfl, by rw [HL1.out], by rw [HL1.out], HUF.out, HSF.out, HP2.out, by have := HRS.out; simp; omega, m9⟩
            case measure => simp [strLen]; omega
end Go.Proofs.Ytampdiplodhkbaa
