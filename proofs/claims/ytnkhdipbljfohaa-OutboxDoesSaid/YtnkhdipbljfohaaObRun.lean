/-
  outbox: what an outbox is in memory; run, room, waits, first.
-/
import Derived.Test.YtnkhdipbljfohaaProg
import Derived.Test.YtnkhdipbljfohaaOb
import Derived.Deep.QuietTactic
import Derived.BigQuiet
import Derived.Lib.BytesEntry
import Derived.Shelf.Bytes.SlCountOne
import Derived.Shelf.Bytes.SlIndexAt
import Derived.Laws.Externs
namespace Go.Proofs.Ytnkhdipbljfohaa
open Go.RowKit

/-- An outbox in memory: its struct lies in block b, its two slices are its own. -/
structure OBox (w : World) (b : Nat) (o : Ob) (dv sv : Value) : Prop where
  blk : Blk w b 54 #[.int .u64 (o.limit : Int), dv, sv, .int .i64 (o.sent : Int), .bool o.ended, .bool o.reset]
  dat : w.ownsRow 0 5 1 dv o.data.length (o.data.map cv)
  sta : w.ownsRow 0 5 1 sv o.st.length (o.st.map cv)
  dis : ∀ k, dv.ownBlock = some k → sv.ownBlock ≠ some k
  wf : o.WF

def ofoot (b : Nat) (dv sv : Value) : List Nat := b :: (dv.ownBlock.toList ++ sv.ownBlock.toList)

theorem OBox.mod {F : List Nat} {w w' : World} {b : Nat} {o : Ob} {dv sv : Value} (h : OBox w b o dv sv) (hm : Mod F w w') (hF : ∀ k ∈ ofoot b dv sv, k ∉ F) : OBox w' b o dv sv :=
  ⟨hm.blk h.blk (hF b (by simp [ofoot])), hm.own h.dat (fun k hk => hF k (by simp [ofoot, hk])), hm.own h.sta (fun k hk => hF k (by simp [ofoot, hk])), h.dis, h.wf⟩

theorem own_form {w : World} {e : TypeId} {sv : Value} {st : List UInt8} (hown : w.ownsRow 0 e 1 sv st.length (st.map cv)) :
    (sv = .slice none 0 0 ∧ st = []) ∨
    ∃ g cap, sv = .slice (some ⟨g, 0, none⟩) st.length cap ∧ st.length ≤ cap ∧ cap ≤ 9223372036854775807 ∧ g < w.heap.size ∧ ∀ j x, st[j]? = some x → w.cell? ⟨g, j, none⟩ = some (cv x) ∧ w.frozen? ⟨g, j, none⟩ = false := by
  rcases hown.2 with ⟨h1, h0⟩ | ⟨g, cap, cur, hv, _, hg, h1, h2, h3, h4⟩
  · exact .inl ⟨h1, List.eq_nil_of_length_eq_zero h0⟩
  · refine .inr ⟨g, cap, hv, h1, by simpa [maxLen] using h2, Blk.lt hg, fun j x hx => ⟨?_, Blk.frozen hg j⟩⟩
    have := (Blk.cell hg j)
    rw [this]
    have hj : (st.map cv)[j]? = some (cv x) := by simp [hx]
    rw [← h4, List.getElem?_take] at hj
    split at hj
    · simpa using hj
    · cases hj
theorem own_at {w : World} {e : TypeId} {sv : Value} {st : List UInt8} (hown : w.ownsRow 0 e 1 sv st.length (st.map cv)) (h : 0 < st.length) :
    ∃ g cap, sv = .slice (some ⟨g, 0, none⟩) st.length cap ∧ st.length ≤ cap ∧ cap ≤ 9223372036854775807 ∧ g < w.heap.size ∧ ∀ j x, st[j]? = some x → w.cell? ⟨g, j, none⟩ = some (cv x) ∧ w.frozen? ⟨g, j, none⟩ = false := by
  rcases own_form hown with ⟨_, h0⟩ | h1
  · rw [h0] at h; simp at h
  · exact h1

section
variable {w : World} {b : Nat} {o : Ob} {dv sv : Value}
theorem OBox.c0 (h : OBox w b o dv sv) : w.cell? ⟨b, 0, none⟩ = some (.int .u64 (o.limit : Int)) := h.blk.cell 0
theorem OBox.c1 (h : OBox w b o dv sv) : w.cell? ⟨b, 1, none⟩ = some dv := h.blk.cell 1
theorem OBox.c2 (h : OBox w b o dv sv) : w.cell? ⟨b, 2, none⟩ = some sv := h.blk.cell 2
theorem OBox.c3 (h : OBox w b o dv sv) : w.cell? ⟨b, 3, none⟩ = some (.int .i64 (o.sent : Int)) := h.blk.cell 3
theorem OBox.c4 (h : OBox w b o dv sv) : w.cell? ⟨b, 4, none⟩ = some (.bool o.ended) := h.blk.cell 4
theorem OBox.c5 (h : OBox w b o dv sv) : w.cell? ⟨b, 5, none⟩ = some (.bool o.reset) := h.blk.cell 5
end

theorem beq_u8 (x y : UInt8) : ((x.toNat : Int) == (y.toNat : Int)) = (x == y) := by
  rw [Bool.eq_iff_iff]
  simp only [beq_iff_eq, Int.natCast_inj, UInt8.toNat_inj]

set_option maxHeartbeats 400000 in
theorem run_any (w : World) (b at_ end_ : Nat) (how : UInt8) (o : Ob) (dv sv : Value) (h : OBox w b o dv sv) (hend : end_ ≤ o.st.length) (hat : at_ ≤ 70000) :
    Calls Try.prog 45 #[.pointer (some ⟨b, 0, none⟩), .int .i64 at_, .int .i64 end_, .int .u8 how.toNat] w fun e w' =>
      e = .returned (.int .i64 (runAt o.st at_ end_ how : Nat)) ∧ w = w' := by
  have hc2 := h.c2
  have hst : o.st.length ≤ 70000 := by have := h.wf.stl; have := h.wf.size; have := Bool.toNat_le o.ended; omega
  obtain ⟨N, hN⟩ : ∃ N, N = runAt o.st at_ end_ how := ⟨_, rfl⟩
  have HN := hide hN
  clear hN
  go_enter Try.func45, Try.ntmps45
  go_wp2
  go_loop [9] (fun n => ∃ k : Nat, k ≤ N ∧ k ≤ 70000 ∧ n = .int .i64 k) (fun n => 70000 - (intOf n).toNat)
  case atStart => exact ⟨0, by omega, by omega, rfl⟩
  case round =>
    obtain ⟨k, hk, hk', rfl⟩ := hrel
    by_cases hlt : at_ + k < end_
    · obtain ⟨g, cap, rfl, h1, h2, h3, hcell⟩ := own_at h.sta (by omega)
      obtain ⟨x, hx⟩ : ∃ x, o.st[at_ + k]? = some x := ⟨_, List.getElem?_eq_getElem (by omega)⟩
      have hc := (hcell _ _ hx).1
      by_cases hx' : x = how
      · subst hx'
        have hk2 : k + 1 ≤ N := by
          rw [HN.out]; rw [HN.out] at hk
          exact runOf_yes hk (by rw [List.getElem?_drop, List.getElem?_take, if_pos hlt]; exact hx)
        clear hx hcell h
        unfold cv at hc
        go_wp2
        go_round
        case rel => exact ⟨k + 1, by omega, by omega, by go_num⟩
        case measure => simp [intOf]; omega
      · have hk2 : N = k := by
          rw [HN.out]; rw [HN.out] at hk
          exact runOf_no hk (by rw [List.getElem?_drop, List.getElem?_take, if_pos hlt, hx]; simpa using hx')
        have hne : ((x.toNat : Int) == (how.toNat : Int)) = false := by rw [beq_u8]; simpa using hx'
        clear hx hcell h
        unfold cv at hc
        have HK := hide hk2
        clear hk2
        go_wp2
        go_ret
        exact ⟨by rw [← HN.out, HK.out]; rfl, rfl⟩
    · have hk2 : N = k := by
        rw [HN.out]; rw [HN.out] at hk
        exact runOf_no hk (by rw [List.getElem?_drop, List.getElem?_take, if_neg hlt]; simp)
      have HK := hide hk2
      clear hk2
      go_wp2
      go_ret
      exact ⟨by rw [← HN.out, HK.out]; rfl, rfl⟩

theorem OBox.dv_form {w : World} {b : Nat} {o : Ob} {dv sv : Value} (h : OBox w b o dv sv) : ∃ A c, dv = .slice A o.data.length c ∧ o.data.length ≤ c ∧ c ≤ 9223372036854775807 := by
  rcases own_form h.dat with ⟨h1, h2⟩ | ⟨g, cap, h1, h3, h4, _⟩
  · exact ⟨none, 0, by rw [h1, h2]; rfl, by rw [h2]; simp, by omega⟩
  · exact ⟨_, _, h1, h3, h4⟩
theorem OBox.sv_form {w : World} {b : Nat} {o : Ob} {dv sv : Value} (h : OBox w b o dv sv) : ∃ A c, sv = .slice A o.st.length c ∧ o.st.length ≤ c ∧ c ≤ 9223372036854775807 := by
  rcases own_form h.sta with ⟨h1, h2⟩ | ⟨g, cap, h1, h3, h4, _⟩
  · exact ⟨none, 0, by rw [h1, h2]; rfl, by rw [h2]; simp, by omega⟩
  · exact ⟨_, _, h1, h3, h4⟩

theorem ret_i64 {a b : Int} (h : a = b) : Ending.returned (.int .i64 a) = .returned (.int .i64 b) := by rw [h]
theorem ret_u64 {a b : Int} (h : a = b) : Ending.returned (.int .u64 a) = .returned (.int .u64 b) := by rw [h]
theorem ret_bool {a b : Bool} (h : a = b) : Ending.returned (.bool a) = .returned (.bool b) := by rw [h]

set_option maxHeartbeats 400000 in
theorem room_any (w : World) (b : Nat) (o : Ob) (dv sv : Value) (h : OBox w b o dv sv) :
    Calls Try.prog 38 #[.pointer (some ⟨b, 0, none⟩)] w fun e w' => e = .returned (.int .i64 (o.room : Nat)) ∧ ∃ n, w' = w.drewN n := by
  have hc0 := h.c0
  have hc1 := h.c1
  have hs := h.wf.size
  have hl := h.wf.lim
  obtain ⟨A, c, rfl, _, _⟩ := h.dv_form
  have HR : Hid (((o.room : Nat) : Int) = min (o.limit : Int) o.data.length) := hide (by unfold Ob.room; omega)
  go_enter Try.func38, Try.ntmps38
  go_wp2
  go_quiet (fail)
  go_wp2
  go_ret
  exact ⟨by rw [HR.out]; rfl, _, rfl⟩

set_option maxHeartbeats 400000 in
theorem waits_any (w : World) (b : Nat) (o : Ob) (dv sv : Value) (h : OBox w b o dv sv) :
    Calls Try.prog 35 #[.pointer (some ⟨b, 0, none⟩)] w fun e w' => e = .returned (.bool o.waits) ∧ ∃ n, w' = w.drewN n := by
  have hc1 := h.c1
  have hc2 := h.c2
  have hc4 := h.c4
  have hs := h.wf.size
  have hst := h.wf.stl
  obtain ⟨A, c, rfl, _, _⟩ := h.dv_form
  cases he : o.ended
  · rw [he] at hc4
    have HW : Hid (o.waits = false) := hide (by simp [Ob.waits, he])
    clear he hst
    go_enter Try.func35, Try.ntmps35
    go_wp2
    go_ret
    exact ⟨by rw [HW.out]; rfl, 0, rfl⟩
  · rw [he] at hc4 hst
    simp at hst
    obtain ⟨g, cap, rfl, h1, h2, h3, hcell⟩ := own_at h.sta (by omega)
    obtain ⟨x, hx⟩ : ∃ x, o.st[o.data.length]? = some x := ⟨_, List.getElem?_eq_getElem (by omega)⟩
    have hc := (hcell _ _ hx).1
    have HW : Hid (o.waits = (x == 0 || x == 2)) := hide (by simp [Ob.waits, he, hx])
    have e0 := beq_u8 x 0
    have e2 := beq_u8 x 2
    unfold cv at hc
    have hb : o.data.length < o.st.length := by omega
    clear hcell hx he hst h
    cases h0 : (x == 0) <;> rw [h0] at e0
    · cases h2 : (x == 2) <;> rw [h2] at e2 <;> simp only [h0, h2] at HW <;> clear h0 h2
      all_goals
        have e0' : ((x.toNat : Int) == 0) = false := e0
        first
        | have e2' : ((x.toNat : Int) == 2) = false := e2
        | have e2' : ((x.toNat : Int) == 2) = true := e2
        clear e0 e2
        go_enter Try.func35, Try.ntmps35
        go_wp2
        go_ret
        exact ⟨by rw [HW.out]; rfl, 0, rfl⟩
    · simp only [h0, Bool.true_or] at HW
      have e0' : ((x.toNat : Int) == 0) = true := e0
      clear e0 e2 h0
      go_enter Try.func35, Try.ntmps35
      go_wp2
      go_ret
      exact ⟨by rw [HW.out]; rfl, 0, rfl⟩

set_option maxHeartbeats 400000 in
/-- bytes.IndexByte, at a piece of a list of bytes from its head. -/
theorem indexByte_any (w : World) (A : Option Addr) (n c : Nat) (xs : List UInt8) (how : UInt8) (hn : xs.length = n) (hA : A = none → n = 0)
    (hc : ∀ a, A = some a → a.spot = none ∧ ∀ j x, xs[j]? = some x → w.cell? ⟨a.block, a.off + j, none⟩ = some (cv x)) :
    Calls Try.prog 44 #[.slice A n c, .int .u8 how.toNat] w fun e w' => e = .returned (.int .i64 (Lib.indexByte xs how)) ∧ ∃ n, w' = w.drewN n := by
  have key : (Extern.BytealgIndexByte.indexByte #[.slice A n c, .int .u8 how.toNat]).run Try.prog w = .ok (.int .i64 (Lib.indexByte xs how)) w := by
    rcases A with _ | ⟨g, off, spot⟩
    · have h0 := hA rfl
      rw [h0] at hn
      have hx : xs = [] := List.eq_nil_of_length_eq_zero hn
      subst hx
      rw [h0]
      exact Lib.run_indexByteNil w 0 c _
    · obtain ⟨h1, h2⟩ := hc _ rfl
      simp only at h1 h2
      subst h1
      have := Lib.run_indexByteSlice (P := Try.prog) w g off n c (xs.map fun x => (x.toNat : Int)) (by simpa using hn) (fun i hi => by
        obtain ⟨x, hx⟩ : ∃ x, xs[i]? = some x := ⟨_, List.getElem?_eq_getElem (by omega)⟩
        rw [h2 i x hx]
        simp [cv, List.getD_eq_getElem?_getD, hx]) how.toNat
      rw [this]
      congr 2
      have e1 : Lib.bytesOf (xs.map fun x => (x.toNat : Int)) = xs := by
        simp [Lib.bytesOf, Function.comp_def]
      rw [e1]
      simp
  go_enter Try.func44, Try.ntmps44
  go_wp2
  rw [run_callFunc_extern Try.func51 (by kernel_rfl) (by kernel_rfl) (by kernel_rfl) (e := Extern.BytealgIndexByte.indexByte) (by kernel_rfl), key]
  simp only [Result.andThen]
  rw [Oper.upon_value]
  go_wp2
  go_ret
  exact ⟨rfl, 0, rfl⟩
end Go.Proofs.Ytnkhdipbljfohaa
