/-
  parameters: Ids.
-/
import Derived.Test.YtampdiplodhkbaaPmItems
namespace Go.Proofs.Ytampdiplodhkbaa
open Go.RowKit

theorem flat_at {α : Type} (f : α → List Value) (k : Nat) (hf : ∀ x, (f x).length = k) (l : List α) (j i : Nat) (x : α) (hx : l[j]? = some x) (hi : i < k) : (l.flatMap f)[j * k + i]? = (f x)[i]? := by
  induction l generalizing j with
  | nil => simp at hx
  | cons y l ih =>
    cases j with
    | zero =>
      obtain rfl : y = x := by simpa using hx
      rw [List.flatMap_cons, Nat.zero_mul, Nat.zero_add, List.getElem?_append_left (by rw [hf]; exact hi)]
    | succ j =>
      rw [List.flatMap_cons, List.getElem?_append_right (by rw [hf, Nat.succ_mul]; omega), hf, Nat.succ_mul, show j * k + k + i - k = j * k + i by omega]
      exact ih j (by simpa using hx)
/-- the j-th item of an owned slice of these -/
theorem item_at {w : World} {base n c : Nat} {A : Option Addr} {l : List (Nat × List UInt8)} (h : w.ownsRow base 60 2 (.slice A n c) n (l.flatMap icells)) (j : Nat) (hj : j < l.length) :
    ∃ g, A = some ⟨g, 0, none⟩ ∧ base ≤ g ∧ g < w.heap.size ∧ w.cell? ⟨g, j * 2, none⟩ = some (.int .u64 (l[j].1 : Nat)) ∧ w.cell? ⟨g, j * 2 + 1, none⟩ = some (.string ⟨l[j].2.toArray⟩) := by
  rcases h.2 with ⟨h0, hn⟩ | ⟨g, cap, cur, hv, hb, hg, _⟩
  · have h1 := h.1
    rw [hn] at h1
    rw [flat_len icells 2 (fun _ => rfl)] at h1
    omega
  · cases hv
    have hx : l[j]? = some l[j] := List.getElem?_eq_getElem hj
    have e0 := flat_at icells 2 (fun _ => rfl) l j 0 _ hx (by omega)
    have e1 := flat_at icells 2 (fun _ => rfl) l j 1 _ hx (by omega)
    have r0 := h.cells (g := g) rfl (j * 2 + 0) (.int .u64 (l[j].1 : Nat)) (by rw [e0]; rfl)
    have r1 := h.cells (g := g) rfl (j * 2 + 1) (str l[j].2) (by rw [e1]; rfl)
    rw [Addr.add_lit, Nat.zero_add] at r0 r1
    exact ⟨g, rfl, hb, Blk.lt hg, r0, r1⟩

theorem u64info : (Try.prog.info? 23).map (fun i => (i.zero, i.size, i.bytes)) = some (some (.int .u64 0), 1, 8) := by kernel_rfl
def ucell (n : Nat) : Value := .int .u64 (n : Nat)
theorem own_base {w : World} {base base' : Nat} {e : TypeId} {size n : Nat} {v : Value} {xs : List Value} (h : w.ownsRow base e size v n xs) (hb : base' ≤ base) : w.ownsRow base' e size v n xs := by
  refine ⟨h.1, ?_⟩
  rcases h.2 with h0 | ⟨g, cap, cur, hv, hg, r⟩
  · exact .inl h0
  · exact .inr ⟨g, cap, cur, hv, by omega, r⟩
def IdsPost (w : World) (x : ByteArray) (e : Ending) (w' : World) : Prop := match pitems x.data.toList with
      | none => e = .returned (.tuple #[.slice none 0 0, .int .i64 2])
      | some l => ∃ A c, e = .returned (.tuple #[.slice A l.length c, .int .i64 0]) ∧ w'.ownsRow w.heap.size 23 1 (.slice A l.length c) l.length (l.map fun x => ucell x.1) ∧ l.length ≤ x.size
theorem IdsPost.none_ {w w' : World} {x : ByteArray} {e : Ending} (h : pitems x.data.toList = none) (he : e = .returned (.tuple #[.slice none 0 0, .int .i64 2])) : IdsPost w x e w' := by
  unfold IdsPost; rw [h]; exact he
theorem IdsPost.some_ {w w' : World} {x : ByteArray} {e : Ending} {l : List (Nat × List UInt8)} (h : pitems x.data.toList = some l)
    (he : ∃ A c, e = .returned (.tuple #[.slice A l.length c, .int .i64 0]) ∧ w'.ownsRow w.heap.size 23 1 (.slice A l.length c) l.length (l.map fun x => ucell x.1) ∧ l.length ≤ x.size) : IdsPost w x e w' := by
  unfold IdsPost; rw [h]; exact he

set_option maxRecDepth 100000 in
set_option maxHeartbeats 4000000 in
theorem ids_any (w : World) (x : ByteArray) (hx : x.size ≤ 65536) :
    Calls Try.prog 12 #[.string x] w fun e w' => Mod [] w w' ∧ IdsPost w x e w' := by
  go_enter Try.func12, Try.ntmps12
  go_wp2_with fail
  refine (items_any w x hx).mono ?_
  rintro e w1 ⟨m1, hi⟩
  unfold ItemsPost at hi
  cases hp : pitems x.data.toList with
  | none =>
    rw [hp] at hi
    subst hi
    have HP := hide hp
    clear hp
    go_wp2_with fail
    go_ret2
    exact ⟨m1, IdsPost.none_ HP.out rfl⟩
  | some l =>
    rw [hp] at hi
    obtain ⟨A, c, rfl, hown, hle⟩ := hi
    have HP := hide hp
    clear hp
    obtain ⟨n, hn⟩ : ∃ n, l.length = n := ⟨_, rfl⟩
    rw [hn] at hown hle ⊢
    have HN := hide hn
    clear hn
    go_wp2_with fail
    go_loopw [6, 18] (fun ov iv wr => ∃ (j : Nat) (B : Option Addr) (d : Nat), j ≤ n ∧ iv = .int .i64 (j : Int) ∧ ov = .slice B j d ∧ wr.ownsRow w1.heap.size 23 1 (.slice B j d) j ((l.take j).map fun x => ucell x.1) ∧ Mod [] w1 wr) (fun _ iv _ => n - (intOf iv).toNat)
    case atStart => exact ⟨0, none, 0, by omega, rfl, rfl, World.ownsRow_nil _ _ _ _, Mod.refl _ _⟩
    case round =>
      obtain ⟨j, B, d, hj, rfl, rfl, hownB, hm⟩ := hrel
      by_cases h : j < n
      · have hjl : j < l.length := by rw [HN.out]; exact h
        obtain ⟨g, rfl, hgb, hgl, c0, c1⟩ := item_at (hm.own hown (by simp)) j hjl
        have htk : l.take (j + 1) = l.take j ++ [l[j]] := (List.take_append_getElem hjl).symm
        obtain ⟨y, hy⟩ : ∃ y, l[j] = y := ⟨_, rfl⟩
        rw [hy] at c0 c1 htk
        obtain ⟨V, hV⟩ : ∃ V : ByteArray, ⟨y.2.toArray⟩ = V := ⟨_, rfl⟩
        rw [hV] at c1
        have HT := hide htk
        clear hy htk hV
        have hownB2 := ((Mod.refl [] wr).alloc (.cells #[.int .u64 (y.1 : Nat), .string V] 60)).own hownB (by simp)
        obtain ⟨B', d', w6, hrun, hown6, m6, hb6⟩ := app_one (P := Try.prog) Try.underlying29 u64info rfl ((wr.alloc (.cells #[.int .u64 (y.1 : Nat), .string V] 60)).alloc (.cells #[.int .u64 (y.1 : Nat)] 23)) 29 w1.heap.size _ j _ (((Mod.refl [] _).alloc _).own hownB2 (by simp)) (by have := hm.size; simp; omega)
              [.int .u64 (y.1 : Nat)] rfl (by intro u hu; simp at hu; subst hu; rfl) (by omega) (by omega) (wr.heap.size + 1) (fun i u hu => by
                have hk := Blk.new (wr.alloc (.cells #[.int .u64 (y.1 : Nat), .string V] 60)) 23 #[.int .u64 (y.1 : Nat)]
                simp only [World.size_alloc] at hk
                rw [hk.cell i]; simpa using hu)
        have m7 := ((hm.alloc (.cells #[.int .u64 (y.1 : Nat), .string V] 60)).alloc (.cells #[.int .u64 (y.1 : Nat)] 23)).keep m6 (((Mod.refl [] _).alloc _).own hownB2 (by simp)) (Nat.le_refl _)
        have hownF : w6.ownsRow w1.heap.size 23 1 (.slice B' (j + 1) d') (j + 1) ((l.take (j + 1)).map fun x => ucell x.1) := by
          rw [HT.out, List.map_append]; exact hown6
        have HOF := hide hownF
        have HRun := hide hrun
        clear hown6 hownF hrun hownB hownB2 m6 hb6
        go_wp2_with (at_builtin; refine Lib.wpList_append_run _ rfl (.tmp 22) (.tmp 25) 29 29 rfl (.slice B j d) (.slice (some ⟨wr.heap.size + 1, 0, none⟩) 1 1) rfl rfl _ w6 HRun.out ?_)
        go_roundw
        case rel => exact ⟨j + 1, B', d', by omega, by go_num, by trivial, HOF.out, m7⟩
        case measure => simp [intOf]; omega
      · have hjn : j = n := by omega
        subst hjn
        have hsz := m1.size
        go_wp2_with fail
        go_ret2
        rw [List.take_of_length_le (by rw [HN.out]; exact Nat.le_refl _)] at hownB
        exact ⟨m1.trans hm (by simp), IdsPost.some_ HP.out ⟨B, d, by rw [HN.out]; rfl, by rw [HN.out]; exact own_base hownB hsz, by rw [HN.out]; exact hle⟩⟩
end Go.Proofs.Ytampdiplodhkbaa
