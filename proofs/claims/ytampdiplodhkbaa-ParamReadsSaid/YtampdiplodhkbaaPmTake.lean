/-
  ParamOnce and ParamOrder: taking parameters off, one by one: plain.
-/
import Derived.Test.YtampdiplodhkbaaPmBack
import Derived.Test.YtampdiplodhkbaaPmRises
namespace Go.Proofs.Ytampdiplodhkbaa
open Go.RowKit

theorem bytes_len (S : ByteArray) : S.data.toList.length = S.size := Array.length_toList
theorem bytes_eq {S T : ByteArray} (h : S.data.toList = T.data.toList) : S = T := by
  apply ByteArray.ext; apply Array.ext'; exact h
theorem step_take {l : List (Nat × List UInt8)} (hs : Small l) {j : Nat} (hj : j < l.length) {S : ByteArray} (hS : S.data.toList = flat (l.drop j)) :
    ∃ X Y T O : ByteArray, vtake S.data.toList = ⟨l[j].1, X.data.toList, 0⟩ ∧ vtake X.data.toList = ⟨l[j].2.length, Y.data.toList, 0⟩ ∧ Y.size = l[j].2.length + T.size ∧ S.size = O.size + T.size ∧
      Y.extract l[j].2.length Y.size = T ∧ T.data.toList = flat (l.drop (j + 1)) ∧ S.extract 0 O.size = O ∧ O.data.toList = flat [l[j]] ∧ l[j].2.length ≤ O.size ∧ l[j].1 < 4611686018427387904 := by
  obtain ⟨h1, h2⟩ := hs l[j] (List.getElem_mem hj)
  have e : S.data.toList = vput l[j].1 ++ (vput l[j].2.length ++ (l[j].2 ++ flat (l.drop (j + 1)))) := by
    rw [hS, List.drop_eq_getElem_cons hj, flat_cons]
    unfold pone
    rw [vputS_eq h1, vputS_eq h2]
    simp only [List.append_assoc]
  have eO : flat [l[j]] = vput l[j].1 ++ (vput l[j].2.length ++ l[j].2) := by
    rw [flat_cons]
    unfold pone
    rw [vputS_eq h1, vputS_eq h2]
    simp [flat]
  refine ⟨⟨(vput l[j].2.length ++ (l[j].2 ++ flat (l.drop (j + 1)))).toArray⟩, ⟨(l[j].2 ++ flat (l.drop (j + 1))).toArray⟩, ⟨(flat (l.drop (j + 1))).toArray⟩, ⟨(flat [l[j]]).toArray⟩, ?_, ?_, ?_, ?_, ?_, rfl, ?_, rfl, ?_, h1⟩
  · rw [e, vtake_put _ h1]
  · simp only
    rw [vtake_put _ h2]
  · show (l[j].2 ++ flat (l.drop (j + 1))).length = _ + (flat (l.drop (j + 1))).length
    simp
  · rw [← bytes_len, e]
    show _ = (flat [l[j]]).length + (flat (l.drop (j + 1))).length
    rw [eO]
    simp; omega
  · apply bytes_eq
    rw [Lib.extract_data]
    have : (⟨(l[j].2 ++ flat (l.drop (j + 1))).toArray⟩ : ByteArray).size = l[j].2.length + (flat (l.drop (j + 1))).length := by
      show (l[j].2 ++ flat (l.drop (j + 1))).length = _
      simp
    rw [this]
    simp
  · apply bytes_eq
    rw [Lib.extract_data, e]
    show (List.drop 0 _).take ((flat [l[j]]).length - 0) = flat [l[j]]
    rw [List.drop_zero, Nat.sub_zero, eO, ← List.append_assoc, ← List.append_assoc, ← List.append_assoc, List.take_left' rfl]
  · show _ ≤ (flat [l[j]]).length
    rw [eO]
    simp; omega
theorem rtake_str {w : World} {S X : ByteArray} {n : Nat} (h : vtake S.data.toList = ⟨n, X.data.toList, 0⟩) :
    Calls Try.prog 22 #[.string S] w fun e w' => e = .returned (.tuple #[.int .u64 (n : Nat), .string X, .int .i64 0]) ∧ Mod [] w w' := by
  refine (rtake_any w S).mono ?_
  rintro e w' ⟨rfl, hm⟩
  refine ⟨?_, hm⟩
  rw [h]
  show Ending.returned (.tuple #[_, .string ⟨X.data.toList.toArray⟩, _]) = _
  rw [eta_bytes]
theorem pwrite_le {p : PP} (h : p.src.size ≤ 1024) : (pwrite p).length ≤ 20000 := by
  unfold pwrite
  have e1 := flat_le (ppart p) 1100 (List.range 16) (fun x _ => by have := ppart_le p x; omega)
  rw [List.length_range] at e1
  omega
theorem ilist_pos (p : PP) : 0 < (ilist p).length := by
  obtain ⟨n, hn, _⟩ := rises_last (p := p)
  omega
theorem ilist_le (p : PP) : (ilist p).length ≤ 16 := by
  have h1 : ((List.range 16).filter fun id : Nat => (pbytes p id).isSome).length ≤ 16 := Nat.le_trans (List.length_filter_le _ _) (by simp)
  rw [← ilist_ids] at h1
  simpa using h1
theorem once_none {p : PP} (hs : p.src.size ≤ 1024) {j : Nat} (hj : j < (ilist p).length) : pread (flat (ilist p) ++ flat [(ilist p)[j]]) = none := by
  unfold pread
  rw [← flat_append, pitems_flat' _ (fun x hx => ?_)]
  · show pall _ = none
    refine pall_twice ?_
    rw [List.map_append, List.nodup_append]
    rintro ⟨_, _, h⟩
    exact h _ (List.mem_map.2 ⟨_, List.getElem_mem hj, rfl⟩) _ (List.mem_map.2 ⟨(ilist p)[j], by simp, rfl⟩) rfl
  · refine ilist_small (p := p) (by omega) x ?_
    rcases List.mem_append.1 hx with h | h
    · exact h
    · rw [List.mem_singleton.1 h]; exact List.getElem_mem hj
theorem order_some {p : PP} (hs : p.Std) (hm : may p = true) (m id : Nat) (v : List UInt8) (hid : 16 < id) (hid2 : id < 4611686018427387904) (hv : v.length < 4611686018427387904) :
    pread (flat ((ilist p).drop m) ++ (pone id v ++ flat ((ilist p).take m))) = some p := by
  have hsz := (may_parts hm).2.2
  have hsm := ilist_small (p := p) (by omega)
  have e : flat ((ilist p).drop m) ++ (pone id v ++ flat ((ilist p).take m)) = flat ((ilist p).drop m ++ ((id, v) :: (ilist p).take m)) := by
    rw [flat_append, flat_cons]
  unfold pread
  rw [e, pitems_flat' _ (fun x hx => ?_)]
  · show pall _ = some p
    have hp : ((ilist p).drop m ++ ((id, v) :: (ilist p).take m)).Perm ((id, v) :: ilist p) := by
      refine List.perm_middle.trans (List.Perm.cons _ ?_)
      exact List.perm_append_comm.trans (by rw [List.take_append_drop])
    rw [pall_perm hp]
    refine pall_unknown ?_ id v hid (fun x hx => ?_)
    · exact pall_some.2 ⟨ilist_nodup p, okI_ilist hm, (ilist_fold hs hm).symm, hm⟩
    · rw [mem_ilist] at hx
      obtain ⟨k, h1, h2⟩ := pbytes_range (p := p) (x := x.1) (by rw [hx]; rfl)
      omega
  · rcases List.mem_append.1 hx with h | h
    · exact hsm x (List.mem_of_mem_drop h)
    · rcases List.mem_cons.1 h with rfl | h
      · exact ⟨hid2, hv⟩
      · exact hsm x (List.mem_of_mem_take h)
end Go.Proofs.Ytampdiplodhkbaa
