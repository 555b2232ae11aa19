/-
  The statement StreamsStopped: its walk, and the walk brought to the given statement; no condition.
-/
import Derived.Test.YtjdfemfobcjecaaGreatG11
import Derived.Test.YtjdfemfobcjecaaGreatRows
import Derived.WalkKit
import Derived.ProofKit
import Derived.OpenShut
import Derived.ShutString
import Derived.ChangeOld
import Derived.Below

/-
  streams, plain: what the calls of StreamsStopped come to.
-/
namespace Go.Proofs.YtjdfemfobcjecaaGreat
open Go.RowKit
set_option linter.unusedVariables false
set_option linter.unusedSimpArgs false
def lmW : Lm := ⟨1000, 1000, 1000, 1000, 1, 1⟩
def tS (xb ib im ob : Nat) (dv sv : Value) (o : Ob) (rst : Nd) (fin : Nat) : St := ⟨xb, 0, some (ib, im, Ib.fresh 1000), some (ob, dv, sv, o), 1000, false, nd0, rst, fin⟩
def tw (mb : Nat) (x : St) (sent : Nat) : Ss := ⟨mb, 0, lmW, lmW, [x], 1, 0, 0, 0, 1000, false, sent, 0⟩
section
variable {mb xb ib im ob code fin sent : Nat} {dv sv : Value} {o : Ob} {rst : Nd}
theorem tw_up {ss : List Int} (h : (tw mb (tS xb ib im ob dv sv o rst fin) sent).Up ss) : ss = [0] :=
  rise_unique h.1 (by decide) fun x => by
    rw [h.2.2]
    simp [tw, tS]
    omega
theorem tw_open {n e : Nat} {s' : Ss} (h : (Ss.fresh mb 0 lmW lmW).Opens 0 n e s') : n = 0 ∧ e = 0 ∧ ∃ xb ib im ob, s' = tw mb (tS xb ib im ob (.slice none 0 0) (.slice none 0 0) ⟨1000, [], [], 0, false, false⟩ nd0 0) 0 := by
  rcases h with ⟨h1, _⟩ | ⟨_, h1, _⟩ | ⟨_, _, rfl, rfl, xb, ib, im, ob, rfl⟩
  · exact absurd h1 (by show ¬ (1 ≤ 0); omega)
  · exact absurd h1 (by show ¬ (100 ≤ 0); omega)
  · refine ⟨rfl, rfl, xb, ib, im, ob, ?_⟩
    simp [tw, tS, Ss.fresh, Ss.made, Ss.newSt, Ss.takes, Ss.sends, Ss.wayIn, Ss.wayOut, Ss.mine, Ss.op, Ob.fresh, lmW, Lm.capped, mvar, mcnt]
/-- an outbox that was written once -/
def oW (D : List UInt8) : Ob := ⟨1000, D, List.replicate D.length 0, 0, false, false⟩
theorem tw_write {D : List UInt8} (hD : D.length ≤ 200) {c : Int} {s' : Ss} (h : (tw mb (tS xb ib im ob dv sv ⟨1000, [], [], 0, false, false⟩ nd0 0) 0).Writes 0 D false c s') :
    c = 0 ∧ ∃ dv' sv', s' = tw mb (tS xb ib im ob dv' sv' (oW D) nd0 0) 0 := by
  cases h with
  | none h => cases h
  | arg x h ho => cases h; cases ho
  | goes x b dv sv dv' sv' o h ho =>
    cases h
    cases ho
    have h1 : (⟨1000, [], [], 0, false, false⟩ : Ob).writeErr D = 0 := by
      unfold Ob.writeErr
      simp
      omega
    refine ⟨h1, dv', sv', ?_⟩
    have h2 : (⟨1000, [], [], 0, false, false⟩ : Ob).write D false = oW D := by
      unfold Ob.write
      rw [if_pos h1]
      simp [oW]
    rw [h2]
    rfl
theorem oW_good (D : List UInt8) (hD : D.length ≤ 200) : (oW D).Good := by
  have h1 : (⟨1000, [], [], 0, false, false⟩ : Ob).writeErr D = 0 := by
    unfold Ob.writeErr
    simp
    omega
  have h2 : (⟨1000, [], [], 0, false, false⟩ : Ob).write D false = oW D := by
    unfold Ob.write
    rw [if_pos h1]
    simp [oW]
  have hg : (⟨1000, [], [], 0, false, false⟩ : Ob).Good := Ob.Good.fresh 1000
  rw [← h2]
  exact hg.write D false
/-- what goes of it first -/
theorem oW_next (D : List UInt8) (hD : D.length ≤ 200) (m : Nat) : ∃ t o', (oW D).nextTold (m : Int) = t ∧ (oW D).next (m : Int) = o' ∧ o'.sent = t.s.length ∧ o'.reset = false ∧ o'.ended = false ∧ t.s.length ≤ 200 ∧ t.at_ ≤ 200 := by
  have hl : (oW D).lostAt < 0 := by
    by_cases h : 0 ≤ (oW D).lostAt
    · obtain ⟨i, hi⟩ := Int.eq_ofNat_of_zero_le h
      obtain ⟨h1, h2⟩ := lostAt_lt hi
      unfold oW at h2
      simp only [List.getElem?_replicate] at h2
      split at h2 <;> cases h2
    · omega
  have hf : (oW D).first = (0, D.length) := by
    unfold Ob.first
    rw [if_neg (by omega)]
    unfold Ob.room oW
    simp
    omega
  have hm : (oW D).much (m : Int) = min D.length m := by
    unfold Ob.much
    rw [hf]
    show min D.length (max (m : Int) 0).toNat = min D.length m
    rw [show (max (m : Int) 0).toNat = m by omega]
  refine ⟨_, _, rfl, rfl, ?_⟩
  unfold Ob.nextTold Ob.next
  rw [hm]
  rw [if_neg (show ¬ ((oW D).reset = true) by simp [oW]), if_neg (show ¬ ((oW D).reset = true) by simp [oW])]
  by_cases hg : (oW D).goes (min D.length m) = true
  · rw [if_pos hg, if_pos hg, hf]
    have h1 : ((oW D).takeEnd 0 (min D.length m)).sent = min D.length m := by
      unfold Ob.takeEnd
      split <;> (show max 0 (0 + min D.length m) = _; omega)
    have h2 : ((oW D).takeEnd 0 (min D.length m)).reset = false := by unfold Ob.takeEnd; split <;> rfl
    have h3 : ((oW D).takeEnd 0 (min D.length m)).ended = false := by unfold Ob.takeEnd; split <;> rfl
    have h4 : (oW D).data = D := rfl
    refine ⟨?_, h2, h3, ?_, by show 0 ≤ 200; omega⟩
    · simp only [h1, h4, List.drop_zero, List.length_take]
      omega
    · simp only [h4, List.drop_zero, List.length_take]
      omega
  · rw [if_neg hg, if_neg hg]
    exact ⟨rfl, rfl, rfl, by simp, by simp⟩
/-- the first frame that goes, and how many bytes it tells -/
theorem tw_next0 {D : List UInt8} (hD : D.length ≤ 200) {m : Nat} (hm : m ≤ 255) {f : Fr} {is : Bool} {s' : Ss} (h : (tw mb (tS xb ib im ob dv sv (oW D) nd0 0) 0).NextOf (m : Int) f is s') :
    ∃ o' dv' sv', s' = tw mb (tS xb ib im ob dv' sv' o' nd0 0) f.data.size ∧ o'.sent = f.data.size ∧ o'.reset = false ∧ o'.ended = false ∧ f.data.size ≤ 200 ∧ f.b ≤ 200 ∧ f.a = 0 ∧ f.c = 0 ∧ (f.kind = 8 ∨ f.kind = 0) := by
  obtain ⟨t, o', h1, h2, h3, h4, h5, h6, h7⟩ := oW_next D hD m
  have hag : (oW D).again = false := by
    unfold Ob.again
    have hl : ¬ 0 ≤ (oW D).lostAt := fun h => by
      obtain ⟨i, hi⟩ := Int.eq_ofNat_of_zero_le h
      obtain ⟨h1, h2⟩ := lostAt_lt hi
      unfold oW at h2
      simp only [List.getElem?_replicate] at h2
      split at h2 <;> cases h2
    simp [hl]
  have hmu : ∀ rst : Nd, (tw mb (tS xb ib im ob dv sv (oW D) rst 0) 0).much (oW D) (m : Int) = (m : Int) := by
    intro rst
    unfold Ss.much
    rw [hag]
    show ((min (max (m : Int) 0).toNat (1000 - 0) : Nat) : Int) = _
    omega
  cases h with
  | data h => cases h
  | ids h ss hu hn =>
    cases tw_up hu
    obtain ⟨x, hx, hid, hh⟩ := hn.inv
    simp [tw] at hx
    subst hx
    rcases hh with ⟨h1, _⟩ | ⟨_, f0, is0, s1, hp, hh⟩
    · cases h1
    · rcases hp.inv with ⟨h1, _⟩ | ⟨b, dv1, sv1, dv', sv', o1, ho, rfl, rfl, rfl⟩
      · cases h1
      · cases ho
        have hm' : ((tw mb (tS xb ib im ob dv sv (oW D) nd0 0) 0).put (tS xb ib im ob dv sv (oW D) nd0 0).ctlSt).much (oW D) (m : Int) = (m : Int) := hmu ⟨0, false, false⟩
        have hpc : (((tw mb (tS xb ib im ob dv sv (oW D) nd0 0) 0).put (tS xb ib im ob dv sv (oW D) nd0 0).ctlSt).pieced (tS xb ib im ob dv sv (oW D) nd0 0).ctlSt ob dv' sv' (oW D) (m : Int)) = tw mb (tS xb ib im ob dv' sv' o' nd0 0) t.s.length := by
          unfold Ss.pieced
          rw [hm', h2]
          have e : (0 + (o'.sent - (oW D).sent)) = t.s.length := by rw [h3]; show 0 + (t.s.length - 0) = _; omega
          show (⟨mb, 0, lmW, lmW, _, 1, 0, 0, 0, 1000, false, 0 + (o'.sent - (oW D).sent), 0⟩ : Ss) = _
          rw [e]
          rfl
        rw [hm', h1, hpc] at hh
        rcases hh with ⟨_, rfl, rfl, rfl⟩ | ⟨hf, hn⟩
        · exact ⟨o', dv', sv', rfl, h3, h4, h5, h6, h7, rfl, rfl, .inl rfl⟩
        · obtain ⟨rfl, rfl, rfl⟩ := hn.nil
          have ht : t.s.length = 0 := by
            rw [← h1] at hf ⊢
            unfold Ob.nextTold at hf ⊢
            split
            · rfl
            · split
              · next hr hg => rw [if_neg hr, if_pos hg] at hf; cases hf
              · rfl
          refine ⟨o', dv', sv', by rw [ht]; rfl, by rw [h3, ht]; rfl, h4, h5, by show 0 ≤ 200; omega, by show 0 ≤ 200; omega, rfl, rfl, .inr rfl⟩
/-- the other side asks to stop -/
theorem tw_stop {f : Nat} (hr : o.reset = false) (he : o.ended = false) (hs : o.sent = f) {r : Int} {s' : Ss} (h : (tw mb (tS xb ib im ob dv sv o nd0 0) sent).Gots ⟨5, 0, code, 0, false, ⟨#[]⟩, ⟨#[]⟩, []⟩ r s') :
    r = 0 ∧ ∃ dv' sv' o', o'.reset = true ∧ s' = tw mb (tS xb ib im ob dv' sv' o' ⟨code, true, true⟩ f) sent := by
  have hd : o.done = false := by unfold Ob.done; rw [he]; rfl
  have h0 : o.resetErr = 0 := by unfold Ob.resetErr; rw [hr, hd]; rfl
  have hse : (tw mb (tS xb ib im ob dv sv o nd0 0) sent).sends 0 = true := by unfold Ss.sends; simp
  have hn : ∀ (v : Value) (c : Nat) (s1 : Ss), (tw mb (tS xb ib im ob dv sv o nd0 0) sent).Names 0 true v c s1 → c = 0 ∧ s1 = tw mb (tS xb ib im ob dv sv o nd0 0) sent := by
    intro v c s1 hn
    have hin : tS xb ib im ob dv sv o nd0 0 ∈ (tw mb (tS xb ib im ob dv sv o nd0 0) sent).l := by simp [tw]
    cases hn with
    | state h => rcases h with h | h; cases h; exact absurd rfl (h.1 _ hin)
    | here x h hx hid => exact ⟨rfl, rfl⟩
    | limit h hn hm hc => exact absurd rfl (hn _ hin)
    | many h hn hm hc => exact absurd rfl (hn _ hin)
    | made s1 x n h hn hm hc => exact absurd rfl (hn _ hin)
  cases h with
  | comes r s' hk => rcases hk with hk | hk <;> cases hk
  | stopBad v c s' hk h hc =>
    have h9 : (tw mb (tS xb ib im ob dv sv o nd0 0) sent).Names 0 ((tw mb (tS xb ib im ob dv sv o nd0 0) sent).sends 0) v c s' := h
    rw [hse] at h9
    exact absurd (hn _ _ _ h9).1 hc
  | stop s1 x b dv0 sv0 dv' sv' o1 hk h hx hid ho =>
    have h9 : (tw mb (tS xb ib im ob dv sv o nd0 0) sent).Names 0 ((tw mb (tS xb ib im ob dv sv o nd0 0) sent).sends 0) (.pointer (some ⟨x.xb, 0, none⟩)) 0 s1 := h
    rw [hse] at h9
    obtain ⟨_, rfl⟩ := hn _ _ _ h9
    simp [tw] at hx
    subst hx
    cases ho
    refine ⟨rfl, dv', sv', o.resetNow, ?_, ?_⟩
    · unfold Ob.resetNow; rw [hr, hd]; rfl
    · have e1 : o.resetAt = f := by unfold Ob.resetAt; rw [hr, hd]; exact hs
      have e2 : (tS xb ib im ob dv sv o nd0 0).resetBy ob dv' sv' o code = tS xb ib im ob dv' sv' o.resetNow ⟨code, true, true⟩ f := by
        unfold St.resetBy
        rw [if_pos h0, e1]
        rfl
      show (tw mb (tS xb ib im ob dv sv o nd0 0) sent).put ((tS xb ib im ob dv sv o nd0 0).resetBy ob dv' sv' o code) = _
      rw [e2]
      rfl
  | raiseBad v c s' hk => cases hk
  | raise s' x b dv0 sv0 dv' sv' o1 hk => cases hk
  | blocked v c s' hk => cases hk
  | data s' hk => cases hk
  | bidis s' hk => cases hk
  | unis s' hk => cases hk
  | idle hk => rcases hk with hk | hk | hk <;> cases hk
  | bad hk => exact absurd rfl hk.2.2.1
theorem tw_next1 (hr : o.reset = true) {f : Fr} {is : Bool} {s' : Ss} (h : (tw mb (tS xb ib im ob dv sv o ⟨code, true, true⟩ fin) sent).NextOf 100 f is s') : f = fnum 4 0 code fin ∧ is = true ∧ s' = tw mb (tS xb ib im ob dv sv o ⟨code, true, false⟩ fin) sent := by
  cases h with
  | data h => cases h
  | ids h ss hu hn =>
    cases tw_up hu
    obtain ⟨x, hx, hid, hh⟩ := hn.inv
    simp [tw] at hx
    subst hx
    rcases hh with ⟨_, rfl, rfl, rfl⟩ | ⟨h1, _⟩
    · exact ⟨rfl, rfl, rfl⟩
    · cases h1
theorem tw_next2 (hr : o.reset = true) {f : Fr} {is : Bool} {s' : Ss} (h : (tw mb (tS xb ib im ob dv sv o ⟨code, true, false⟩ fin) sent).NextOf 100 f is s') : is = false ∧ ∃ dv' sv', s' = tw mb (tS xb ib im ob dv' sv' o ⟨code, true, false⟩ fin) sent := by
  have ht : ∀ m : Int, o.nextTold m = ⟨0, [], false, false⟩ := fun m => by unfold Ob.nextTold; rw [if_pos hr]
  have ho' : ∀ m : Int, o.next m = o := fun m => by unfold Ob.next; rw [if_pos hr]
  cases h with
  | data h => cases h
  | ids h ss hu hn =>
    cases tw_up hu
    obtain ⟨x, hx, hid, hh⟩ := hn.inv
    simp [tw] at hx
    subst hx
    rcases hh with ⟨h1, _⟩ | ⟨_, f0, is0, s1, hp, hh⟩
    · cases h1
    · rcases hp.inv with ⟨h1, _⟩ | ⟨b, dv1, sv1, dv', sv', o1, ho, rfl, rfl, rfl⟩
      · cases h1
      · cases ho
        rw [ht] at hh
        rcases hh with ⟨h1, _⟩ | ⟨_, hn⟩
        · cases h1
        · obtain ⟨_, rfl, rfl⟩ := hn.nil
          refine ⟨rfl, dv', sv', ?_⟩
          unfold Ss.pieced
          rw [ho']
          show (⟨mb, 0, lmW, lmW, _, 1, 0, 0, 0, 1000, false, sent + (o.sent - o.sent), 0⟩ : Ss) = _
          rw [Nat.sub_self]
          rfl
theorem tw_write2 (hr : o.reset = true) {D : List UInt8} {c : Int} {s' : Ss} (h : (tw mb (tS xb ib im ob dv sv o rst fin) sent).Writes 0 D false c s') : c = 22 ∧ ∃ dv' sv', s' = tw mb (tS xb ib im ob dv' sv' o rst fin) sent := by
  cases h with
  | none h => cases h
  | arg x h ho => cases h; cases ho
  | goes x b dv sv dv' sv' o h ho =>
    cases h
    cases ho
    have h1 : o.writeErr D = 22 := by unfold Ob.writeErr; rw [hr]; simp
    refine ⟨h1, dv', sv', ?_⟩
    have h2 : o.write D false = o := by unfold Ob.write; rw [h1]; rfl
    rw [h2]
    rfl
theorem tw_lostg {s' : Ss} (h : (tw mb (tS xb ib im ob dv sv o ⟨code, true, false⟩ fin) sent).Loses (fnum 4 0 code fin) s') : s' = tw mb (tS xb ib im ob dv sv o ⟨code, true, true⟩ fin) sent := by
  cases h with
  | data hk => cases hk
  | none hk h => cases h
  | noOut x h hk ho => cases hk
  | goes x b dv0 sv0 dv' sv' o h hk ho => cases hk
  | raise x h hk => cases hk
  | stop x h hk => cases hk
  | reset x h hk => cases h; rfl
  | other x h h1 h2 h3 h4 h5 => exact absurd rfl h5
theorem tw_lostf (hr : o.reset = true) {f : Fr} (ha : f.a = 0) (hk : f.kind = 8 ∨ f.kind = 0) {s' : Ss} (h : (tw mb (tS xb ib im ob dv sv o rst fin) sent).Loses f s') : ∃ dv' sv' o', o'.reset = true ∧ s' = tw mb (tS xb ib im ob dv' sv' o' rst fin) sent := by
  have hget : (tw mb (tS xb ib im ob dv sv o rst fin) sent).get f.a = some (tS xb ib im ob dv sv o rst fin) := by rw [ha]; rfl
  cases h with
  | data hk' => omega
  | none hk' h => rw [hget] at h; cases h
  | noOut x h hk' ho => rw [hget] at h; cases h; cases ho
  | goes x b dv0 sv0 dv' sv' o1 h hk' ho => rw [hget] at h; cases h; cases ho; exact ⟨dv', sv', o.each loseOf f.b f.data.size f.fin, hr, rfl⟩
  | raise x h hk' => omega
  | stop x h hk' => omega
  | reset x h hk' => omega
  | other x h h1 h2 h3 h4 h5 => exact ⟨dv, sv, o, hr, rfl⟩
end
end Go.Proofs.YtjdfemfobcjecaaGreat

/-
  The statement StreamsStopped, walked; no condition.
-/
namespace Go.Proofs.YtjdfemfobcjecaaGreat
open Go.RowKit Go.Sort
set_option linter.unusedVariables false
set_option linter.unusedSimpArgs false
set_option maxRecDepth 100000 in
set_option maxHeartbeats 16000000 in
theorem walkStreamsStopped (x : ByteArray) (hx : x.size ≤ maxLen) (many : Nat) (hmany : many ≤ 255) (code : Nat) (hcode : code ≤ 18446744073709551615) (W : World) :
    Calls Tryz.prog 5 #[.string x, .int .u8 (many : Nat), .int .u64 (code : Nat)] W fun e w' => e = .returned (.bool true) ∧ Below W.heap.size W w' := by
  have HAw := hide (stawake_any W)
  unfold maxLen at hx
  by_cases hsz : 200 < x.size
  · have h1 : (x.size : Int) > 200 := by omega
    go_enter Tryz.func5, Tryz.ntmps5
    go_wp2_with fail
    refine HAw.out.mono ?_
    rintro e w1 ⟨rfl, hm1⟩
    have HM1 := hide hm1
    clear hm1
    go_wp2_with fail
    go_ret
    exact ⟨rfl, HM1.out.below (Nat.le_refl _) (by simp)⟩
  have h1 : ¬ ((x.size : Int) > 200) := by omega
  by_cases hcd : 4611686018427387903 < code
  · have h2 : (code : Int) > 4611686018427387903 := by omega
    go_enter Tryz.func5, Tryz.ntmps5
    go_wp2_with fail
    refine HAw.out.mono ?_
    rintro e w1 ⟨rfl, hm1⟩
    have HM1 := hide hm1
    clear hm1
    go_wp2_with fail
    go_ret
    exact ⟨rfl, HM1.out.below (Nat.le_refl _) (by simp)⟩
  have h2 : ¬ ((code : Int) > 4611686018427387903) := by omega
  have hD : x.data.toList.length ≤ 200 := by rw [Array.length_toList]; show x.size ≤ 200; omega
  have HD := hide hD
  clear hD
  go_enter Tryz.func5, Tryz.ntmps5
  go_wp2_with fail
  refine HAw.out.mono ?_
  rintro e w1 ⟨rfl, hm1⟩
  have HM1 := hide (hm1.trans ((Mod.refl [] w1).alloc (.cells #[.int .u64 1000, .int .u64 1000, .int .u64 1000, .int .u64 1000, .int .u64 1, .int .u64 1] 24)) (by simp))
  have hnw := own_new (w1.alloc (.cells #[.int .u64 1000, .int .u64 1000, .int .u64 1000, .int .u64 1000, .int .u64 1, .int .u64 1] 24)) 0 lmW lmW
  rw [show lmW.val = .agg #[.int .u64 1000, .int .u64 1000, .int .u64 1000, .int .u64 1000, .int .u64 1, .int .u64 1] from rfl] at hnw
  have HNw := hide hnw
  clear hm1 hnw
  go_wp2_with fail
  refine HNw.out.mono ?_
  rintro e w2 ⟨sb, mb, rfl, hO⟩
  obtain ⟨wa, hwa⟩ : ∃ wa, w1.alloc (.cells #[.int .u64 1000, .int .u64 1000, .int .u64 1000, .int .u64 1000, .int .u64 1, .int .u64 1] 24) = wa := ⟨_, rfl⟩
  rw [hwa] at hO HM1
  have HO2 := hide hO
  clear hO hwa HNw
  go_wp2_with fail
  refine (own_open HO2.out false).mono ?_
  rintro e w3 ⟨n, c, s', rfl, ho, hst, hO⟩
  obtain ⟨rfl, rfl, xb, ib, im, ob, rfl⟩ := tw_open ho
  have HO3 := hide hO
  clear ho hst hO
  go_wp2_with fail
  refine (own_write HO3.out 0 x (by omega) false).mono ?_
  rintro e w4 ⟨c, s', rfl, ho, hst, hO⟩
  obtain ⟨rfl, dv1, sv1, rfl⟩ := tw_write HD.out ho
  have HO4 := hide hO
  clear ho hst hO
  go_wp2_with fail
  refine (own_next HO4.out (many : Int) (by omega) (by omega)).mono ?_
  rintro e w5 ⟨f, is, s', rfl, ho, hst, hO⟩
  obtain ⟨o1, dv2, sv2, rfl, hs1, hr1, he1, hf1, hf2, hf3, hf4, hf5⟩ := tw_next0 HD.out hmany ho
  unfold fval fcs
  have HO5 := hide (hO.next ((Mod.refl [] w5).alloc (.cells #[.int .u64 (f.kind : Nat), .int .u64 (f.a : Nat), .int .u64 (f.b : Nat), .int .u64 (f.c : Nat), .bool f.fin, .string f.data, .string f.more, .slice none 0 0] 31)))
  have HF5 := hide (Blk.new w5 31 #[.int .u64 (f.kind : Nat), .int .u64 (f.a : Nat), .int .u64 (f.b : Nat), .int .u64 (f.c : Nat), .bool f.fin, .string f.data, .string f.more, .slice none 0 0])
  have HB5 := hide (beside_new hO.box)
  have HSt := hide (And.intro hs1 (And.intro hr1 he1))
  have HFa := hide hf3
  have HFk := hide hf5
  have HFz := hide hf4
  have hfz : f.data.size ≤ 200 := hf1
  have hfb : f.b ≤ 200 := hf2
  clear ho hst hO hs1 hr1 he1 hf1 hf2 hf3 hf4 hf5
  have hgot := own_got HO5.out (by omega) none 0 0 (⟨5, 0, code, 0, false, ⟨#[]⟩, ⟨#[]⟩, []⟩ : Fr) (by show 5 ≤ _; omega) (by show 0 ≤ _; omega) (by show code ≤ _; omega) (by show 0 ≤ _; omega) (by show 0 ≤ _; omega)
  rw [show fval none 0 0 (⟨5, 0, code, 0, false, ⟨#[]⟩, ⟨#[]⟩, []⟩ : Fr) = .agg #[.int .u64 5, .int .u64 0, .int .u64 (code : Nat), .int .u64 0, .bool false, .string ⟨#[]⟩, .string ⟨#[]⟩, .slice none 0 0] from rfl] at hgot
  have HGot := hide hgot
  clear hgot
  go_wp2_with fail
  refine HGot.out.mono ?_
  rintro e w7 ⟨r, s', rfl, ho, hst, hO⟩
  obtain ⟨rfl, dv3, sv3, o2, ho2, rfl⟩ := tw_stop HSt.out.2.1 HSt.out.2.2 HSt.out.1 ho
  have hf7 := beside_keep HF5.out HB5.out hst
  obtain ⟨fb, hfbk⟩ : ∃ fb, w5.heap.size = fb := ⟨_, rfl⟩
  rw [hfbk] at hf7 ⊢
  have z5 : w7.cell? ⟨fb, 5, none⟩ = some (.string f.data) := hf7.1.cell 5
  have hl7 := hf7.1.lt
  have HF7 := hide hf7
  have HO7 := hide hO
  have HR2 := hide ho2
  have q1 : IntKind.u64.wrap (f.data.size : Int) = (f.data.size : Int) := IntWalk.u64_in _ (by omega)
  clear ho hst hO hf7 ho2 HGot hfbk
  go_wp2_with fail
  have HG8 := hide (Blk.new w7 31 #[.int .u64 4, .int .u64 0, .int .u64 (code : Nat), .int .u64 (f.data.size : Nat), .bool false, .string ⟨#[]⟩, .string ⟨#[]⟩, .slice none 0 0])
  have HO8 := hide (HO7.out.next ((Mod.refl [] w7).alloc (.cells #[.int .u64 4, .int .u64 0, .int .u64 (code : Nat), .int .u64 (f.data.size : Nat), .bool false, .string ⟨#[]⟩, .string ⟨#[]⟩, .slice none 0 0] 31)))
  have HF8 := hide (HF7.out.1.alloc (.cells #[.int .u64 4, .int .u64 0, .int .u64 (code : Nat), .int .u64 (f.data.size : Nat), .bool false, .string ⟨#[]⟩, .string ⟨#[]⟩, .slice none 0 0] 31))
  have HB8 := hide (beside_new HO7.out.box)
  have HB7 := hide HF7.out.2
  clear z5 hl7 q1
  obtain ⟨gb, hgb⟩ : ∃ gb, w7.heap.size = gb := ⟨_, rfl⟩
  obtain ⟨w8, hw8⟩ : ∃ w8, w7.alloc (.cells #[.int .u64 4, .int .u64 0, .int .u64 (code : Nat), .int .u64 (f.data.size : Nat), .bool false, .string ⟨#[]⟩, .string ⟨#[]⟩, .slice none 0 0] 31) = w8 := ⟨_, rfl⟩
  rw [hw8, hgb] at HG8
  rw [hw8] at HO8 HF8
  rw [hgb] at HB8
  rw [hw8, hgb]
  clear hw8 hgb
  go_loopw [14] (fun i wr => ∃ (k : Nat) (dv sv : Value) (o : Ob), i = .int .i64 (k : Int) ∧ k ≤ 3 ∧ o.reset = true ∧ Own 0 wa wr sb (tw mb (tS xb ib im ob dv sv o ⟨code, true, true⟩ f.data.size) f.data.size) ∧ Blk wr fb 31 #[.int .u64 (f.kind : Nat), .int .u64 (f.a : Nat), .int .u64 (f.b : Nat), .int .u64 (f.c : Nat), .bool f.fin, .string f.data, .string f.more, .slice none 0 0] ∧ fb ∉ (tw mb (tS xb ib im ob dv sv o ⟨code, true, true⟩ f.data.size) f.data.size).foot sb ∧ Blk wr gb 31 #[.int .u64 4, .int .u64 0, .int .u64 (code : Nat), .int .u64 (f.data.size : Nat), .bool false, .string ⟨#[]⟩, .string ⟨#[]⟩, .slice none 0 0] ∧ gb ∉ (tw mb (tS xb ib im ob dv sv o ⟨code, true, true⟩ f.data.size) f.data.size).foot sb) (fun i _ => 3 - (intOf i).toNat)
  case atStart => exact ⟨0, dv3, sv3, o2, rfl, by omega, HR2.out, HO8.out, HF8.out, HB7.out, HG8.out, HB8.out⟩
  case round =>
    obtain ⟨k, dv, sv, o, rfl, hk, hr, hO, hf, hfb2, hg, hgb2⟩ := hrel
    have HR := hide hr
    have HO := hide hO
    have HF := hide hf
    have HFb := hide hfb2
    have HG := hide hg
    have HGb := hide hgb2
    clear hr hO hf hfb2 hg hgb2
    by_cases hlt : k < 3
    · go_wp2_with fail
      refine (own_next HO.out 100 (by decide) (by decide)).mono ?_
      rintro e wb ⟨g, is, s', rfl, ho, hst, hO⟩
      obtain ⟨rfl, rfl, rfl⟩ := tw_next1 HR.out ho
      rw [show fval none 0 0 (fnum 4 0 code f.data.size) = .agg #[.int .u64 4, .int .u64 0, .int .u64 (code : Nat), .int .u64 (f.data.size : Nat), .bool false, .string ⟨#[]⟩, .string ⟨#[]⟩, .slice none 0 0] from rfl]
      have hf2 := beside_keep HF.out HFb.out hst
      have hg2 := beside_keep HG.out HGb.out hst
      have HHf := hide hf2
      have HHg := hide hg2
      have HOb := hide (hO.next ((Mod.refl [] wb).alloc (.cells #[.int .u64 4, .int .u64 0, .int .u64 (code : Nat), .int .u64 (f.data.size : Nat), .bool false, .string ⟨#[]⟩, .string ⟨#[]⟩, .slice none 0 0] 31)))
      have HNb := hide (Blk.new wb 31 #[.int .u64 4, .int .u64 0, .int .u64 (code : Nat), .int .u64 (f.data.size : Nat), .bool false, .string ⟨#[]⟩, .string ⟨#[]⟩, .slice none 0 0])
      have HBb := hide (beside_new hO.box)
      clear ho hst hO hf2 hg2
      go_wp2_with fail
      refine (own_next HOb.out 100 (by decide) (by decide)).mono ?_
      rintro e wc ⟨g2, is, s', rfl, ho, hst, hO⟩
      obtain ⟨rfl, dva, sva, rfl⟩ := tw_next2 HR.out ho
      unfold fval fcs
      have hf3 := beside_keep (HHf.out.1.alloc _) HHf.out.2 hst
      have hg3 := beside_keep (HHg.out.1.alloc _) HHg.out.2 hst
      have hn3 := beside_keep HNb.out HBb.out hst
      have HHf3 := hide hf3
      have HHg3 := hide hg3
      have HHn3 := hide hn3
      have HOc := hide (hO.next ((Mod.refl [] wc).alloc (.cells #[.int .u64 (g2.kind : Nat), .int .u64 (g2.a : Nat), .int .u64 (g2.b : Nat), .int .u64 (g2.c : Nat), .bool g2.fin, .string g2.data, .string g2.more, .slice none 0 0] 31)))
      have x0 : wc.cell? ⟨wb.heap.size, 0, none⟩ = some (.int .u64 4) := hn3.1.cell 0
      have x1 : wc.cell? ⟨wb.heap.size, 1, none⟩ = some (.int .u64 0) := hn3.1.cell 1
      have x2 : wc.cell? ⟨wb.heap.size, 2, none⟩ = some (.int .u64 (code : Nat)) := hn3.1.cell 2
      have x3 : wc.cell? ⟨wb.heap.size, 3, none⟩ = some (.int .u64 (f.data.size : Nat)) := hn3.1.cell 3
      have x4 : wc.cell? ⟨wb.heap.size, 4, none⟩ = some (.bool false) := hn3.1.cell 4
      have x5 : wc.cell? ⟨wb.heap.size, 5, none⟩ = some (.string ⟨#[]⟩) := hn3.1.cell 5
      have x6 : wc.cell? ⟨wb.heap.size, 6, none⟩ = some (.string ⟨#[]⟩) := hn3.1.cell 6
      have x7 : wc.cell? ⟨wb.heap.size, 7, none⟩ = some (.slice none 0 0) := hn3.1.cell 7
      have y0 : wc.cell? ⟨gb, 0, none⟩ = some (.int .u64 4) := hg3.1.cell 0
      have y1 : wc.cell? ⟨gb, 1, none⟩ = some (.int .u64 0) := hg3.1.cell 1
      have y2 : wc.cell? ⟨gb, 2, none⟩ = some (.int .u64 (code : Nat)) := hg3.1.cell 2
      have y3 : wc.cell? ⟨gb, 3, none⟩ = some (.int .u64 (f.data.size : Nat)) := hg3.1.cell 3
      have y4 : wc.cell? ⟨gb, 4, none⟩ = some (.bool false) := hg3.1.cell 4
      have y5 : wc.cell? ⟨gb, 5, none⟩ = some (.string ⟨#[]⟩) := hg3.1.cell 5
      have y6 : wc.cell? ⟨gb, 6, none⟩ = some (.string ⟨#[]⟩) := hg3.1.cell 6
      have y7 : wc.cell? ⟨gb, 7, none⟩ = some (.slice none 0 0) := hg3.1.cell 7
      have hl1 := hn3.1.lt
      have hl2 := hg3.1.lt
      have hsm := fun W' => rsame_any W' none none 0 0 0 0 (fnum 4 0 code f.data.size) (fnum 4 0 code f.data.size) (Rngs.nil _) (Rngs.nil _) true (fsame_self _)
      rw [show fval none 0 0 (fnum 4 0 code f.data.size) = .agg #[.int .u64 4, .int .u64 0, .int .u64 (code : Nat), .int .u64 (f.data.size : Nat), .bool false, .string ⟨#[]⟩, .string ⟨#[]⟩, .slice none 0 0] from rfl] at hsm
      have HSm := hide hsm
      clear ho hst hO hf3 hg3 hn3 hsm
      go_wp2_with fail
      refine (HSm.out _).mono ?_
      rintro e wd ⟨rfl, hmd⟩
      have HOd := hide (HOc.out.next hmd)
      have HFd := hide (hmd.blk (HHf3.out.1.alloc _) (by simp))
      have HGd := hide (hmd.blk (HHg3.out.1.alloc _) (by simp))
      have HNd := hide (hmd.blk (HHn3.out.1.alloc _) (by simp))
      clear hmd hl1 hl2
      clear x0 x1 x2 x3 x4 x5 x6 x7 y0 y1 y2 y3 y4 y5 y6 y7
      go_wp2_with fail
      refine (own_write HOd.out 0 ⟨#[120]⟩ (by decide) false).mono ?_
      rintro e we ⟨c2, s', rfl, ho, hst, hO⟩
      obtain ⟨rfl, dvb, svb, rfl⟩ := tw_write2 HR.out ho
      have hf4 := beside_keep HFd.out HHf3.out.2 hst
      have hg4 := beside_keep HGd.out HHg3.out.2 hst
      have hn4 := beside_keep HNd.out HHn3.out.2 hst
      have HHf4 := hide hf4
      have HHg4 := hide hg4
      have HOe := hide hO
      have x0 : we.cell? ⟨wb.heap.size, 0, none⟩ = some (.int .u64 4) := hn4.1.cell 0
      have x1 : we.cell? ⟨wb.heap.size, 1, none⟩ = some (.int .u64 0) := hn4.1.cell 1
      have x2 : we.cell? ⟨wb.heap.size, 2, none⟩ = some (.int .u64 (code : Nat)) := hn4.1.cell 2
      have x3 : we.cell? ⟨wb.heap.size, 3, none⟩ = some (.int .u64 (f.data.size : Nat)) := hn4.1.cell 3
      have x4 : we.cell? ⟨wb.heap.size, 4, none⟩ = some (.bool false) := hn4.1.cell 4
      have x5 : we.cell? ⟨wb.heap.size, 5, none⟩ = some (.string ⟨#[]⟩) := hn4.1.cell 5
      have x6 : we.cell? ⟨wb.heap.size, 6, none⟩ = some (.string ⟨#[]⟩) := hn4.1.cell 6
      have x7 : we.cell? ⟨wb.heap.size, 7, none⟩ = some (.slice none 0 0) := hn4.1.cell 7
      have hlg := own_lost hO none 0 0 (fnum 4 0 code f.data.size) (by show 4 ≤ _; omega) (by show 0 ≤ _; omega) (by show code ≤ _; omega) (by show 0 ≤ _; omega)
      rw [show fval none 0 0 (fnum 4 0 code f.data.size) = .agg #[.int .u64 4, .int .u64 0, .int .u64 (code : Nat), .int .u64 (f.data.size : Nat), .bool false, .string ⟨#[]⟩, .string ⟨#[]⟩, .slice none 0 0] from rfl] at hlg
      have HLg := hide hlg
      clear ho hst hO hf4 hg4 hn4 hlg
      go_wp2_with fail
      refine HLg.out.mono ?_
      rintro e wf ⟨s', rfl, ho, hst, hO⟩
      obtain rfl := tw_lostg ho
      have hf5 := beside_keep HHf4.out.1 HHf4.out.2 hst
      have hg5 := beside_keep HHg4.out.1 HHg4.out.2 hst
      have HHf5 := hide hf5
      have HHg5 := hide hg5
      have HOf := hide hO
      have y0 : wf.cell? ⟨fb, 0, none⟩ = some (.int .u64 (f.kind : Nat)) := hf5.1.cell 0
      have y1 : wf.cell? ⟨fb, 1, none⟩ = some (.int .u64 (f.a : Nat)) := hf5.1.cell 1
      have y2 : wf.cell? ⟨fb, 2, none⟩ = some (.int .u64 (f.b : Nat)) := hf5.1.cell 2
      have y3 : wf.cell? ⟨fb, 3, none⟩ = some (.int .u64 (f.c : Nat)) := hf5.1.cell 3
      have y4 : wf.cell? ⟨fb, 4, none⟩ = some (.bool f.fin) := hf5.1.cell 4
      have y5 : wf.cell? ⟨fb, 5, none⟩ = some (.string f.data) := hf5.1.cell 5
      have y6 : wf.cell? ⟨fb, 6, none⟩ = some (.string f.more) := hf5.1.cell 6
      have y7 : wf.cell? ⟨fb, 7, none⟩ = some (.slice none 0 0) := hf5.1.cell 7
      have hkk : f.kind ≤ 18446744073709551615 := by have := HFk.out; omega
      have hlf := own_lost hO none 0 0 f hkk (by rw [HFa.out]; omega) (by omega) (by unfold maxLen; omega)
      unfold fval fcs at hlf
      have HLf := hide hlf
      clear x0 x1 x2 x3 x4 x5 x6 x7
      clear ho hst hO hf5 hg5 hlf hkk
      go_wp2_with fail
      refine HLf.out.mono ?_
      rintro e wg ⟨s', rfl, ho, hst, hO⟩
      obtain ⟨dvc, svc, oc, hrc, rfl⟩ := tw_lostf HR.out HFa.out HFk.out ho
      have hf6 := beside_keep HHf5.out.1 HHf5.out.2 hst
      have hg6 := beside_keep HHg5.out.1 HHg5.out.2 hst
      have HHf6 := hide hf6
      have HHg6 := hide hg6
      have HOg := hide hO
      have HRc := hide hrc
      clear y0 y1 y2 y3 y4 y5 y6 y7
      clear ho hst hO hf6 hg6 hrc
      go_wp2_with fail
      go_roundw
      case rel => exact ⟨k + 1, dvc, svc, oc, by go_num, by omega, HRc.out, HOg.out, HHf6.out.1, HHf6.out.2, HHg6.out.1, HHg6.out.2⟩
      case measure => simp [intOf]; omega
    · obtain rfl : k = 3 := by omega
      go_wp2_with fail
      go_ret
      exact ⟨rfl, (HM1.out.trans HO.out.mod (by simp)).below (Nat.le_refl _) (by simp)⟩
end Go.Proofs.YtjdfemfobcjecaaGreat

/-
  The row of 'StreamsStopped': the walk's contract brought to the given statement.
-/
namespace Go.Proofs.YtjdfemfobcjecaaGreat.lawStreamsStopped
open Go.ChangeShapes Go.WideShapes Go.ChangeAt Go.RowKit
open Go.ChangeMaps (open_string shut_string)
set_option linter.unusedVariables false

theorem own : ownKnob Tryz.prog.godebug = none := by kernel_rfl
theorem laidOut : laidOutB Tryz.prog = true := by kernel_rfl

set_option maxRecDepth 100000 in
theorem lifted (os : Os) (started : os.Started) (H : Type) (enc : TypeId × Value → H) :
    ReturnsInHanded {} Tryz.checked os 5 .any (Rows.streamsStoppedSpec.pre6 enc Tryz.prog Tryz.f5 Rows.streamsStoppedRow.domain false) (Rows.streamsStoppedSpec.post enc Tryz.prog Tryz.f5 false true false false) := by
  refine returnsInHanded_of_change (C := Tryz.checked) own started (by kernel_rfl) Tryz.func5
    (ChangeSpec.witness6 (enc := enc) (C := Tryz.checked) false ⟨#[], #[.string ⟨#[]⟩, .int .u8 0, .int .u64 0], []⟩ 8 (by kernel_rfl) (by kernel_rfl) (by kernel_rfl) (by kernel_rfl)) ?_
  intro W base args ds gs before hval0 hW hcnd _
  have hval : ∀ (j : Nat) t v, Tryz.f5.params[j]? = some t → args[j]? = some v → Value.okWide Tryz.prog W .any base t v := hval0
  have hW' := hW
  obtain ⟨p, q, hA0, hV, rfl, hfz, hnd⟩ := hW
  have hA : DataW.TrodAll enc Tryz.prog W 0 (fun _ => true) true Tryz.f5.params.toList args.toList ds p := hA0
  rw [Tryz.params5] at hA hval
  obtain ⟨v0, vs0, d0, ds0, p0, q0, hargs, rfl, rfl, h0, r0⟩ := trodAll_cons hA
  obtain ⟨v1, vs1, d1, ds1, p1, q1, rfl, rfl, rfl, h1, r1⟩ := trodAll_cons r0
  obtain ⟨v2, vs2, d2, ds2, p2, q2, rfl, rfl, rfl, h2, r2⟩ := trodAll_cons r1
  obtain ⟨rfl, rfl, rfl⟩ := trodAll_nil r2
  obtain rfl : args = #[v0, v1, v2] := by cases args; simp_all
  obtain ⟨rfl, rfl⟩ := trodVars_none hV
  obtain ⟨x0, rfl, rfl, rfl, ws0⟩ := open_string Tryz.underlying9 (hval 0 9 v0 rfl rfl) h0
  obtain ⟨z1, rfl, rfl, rfl, w1⟩ := open_int Tryz.underlying5 (hval 1 5 v1 rfl rfl) h1
  have bd1 := bounds_u8 w1
  obtain ⟨n1, rfl⟩ := Int.eq_ofNat_of_zero_le bd1.1
  obtain ⟨z2, rfl, rfl, rfl, w2⟩ := open_int Tryz.underlying22 (hval 2 22 v2 rfl rfl) h2
  have bd2 := bounds_u64 w2
  obtain ⟨n2, rfl⟩ := Int.eq_ofNat_of_zero_le bd2.1
  clear hA0 hval0
  refine (walkStreamsStopped x0 ws0 n1 (by omega) n2 (by omega) W).mono fun e W' ⟨he, bel⟩ => ?_
  subst he
  exact ⟨_, rfl, _, _, _, [], _, [], hW', trodAll_mk1 (shut_bool Tryz.underlying4 _), (trodAll_cons_mk (shut_string Tryz.underlying9 ws0) (trodAll_cons_mk (shut_int Tryz.underlying5 w1) (trodAll_cons_mk (shut_int Tryz.underlying22 w2) trodAll_mk0))), rfl, bel.frame _, fun h => by cases h⟩

theorem over : Rows.streamsStoppedRow.holds Tryz.pinned (OpenSpec.ofChange Rows.streamsStoppedSpec) :=
  OpenClaim.holds_of_wide 5 Tryz.f5 rfl rfl rfl rfl rfl rfl rfl ⟨rfl, rfl, rfl, rfl, rfl⟩ rfl rfl rfl rfl rfl (by kernel_rfl) Tryz.func5 (by kernel_rfl)
    (of_decide_eq_true (by kernel_rfl)) (by unfold Func.isWrapper; first | (rw [if_pos (by decide +kernel)]; kernel_rfl) | (rw [if_neg (by decide +kernel)]; exact ⟨rfl, rfl⟩))
    (fun os started H enc _ => lifted os started H enc)

/-- The statement. -/
theorem proved : Rows.StreamsStoppedSaid := over
#print axioms proved
end Go.Proofs.YtjdfemfobcjecaaGreat.lawStreamsStopped
