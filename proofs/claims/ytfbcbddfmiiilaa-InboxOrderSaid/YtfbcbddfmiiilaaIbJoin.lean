/-
  inbox: join.
-/
import Derived.Test.YtfbcbddfmiiilaaIbLay
namespace Go.Proofs.Ytfbcbddfmiiilaa
open Go.RowKit

theorem run_append {B : Nat → Option UInt8} {a r : Nat} {s : List UInt8} (har : a ≤ r) (hs : ∀ i c, s[i]? = some c → B (r + i) = some c) : run B a r ++ s = run B a (r + s.length) := by
  apply List.ext_getElem
  · simp [run_length]; omega
  · intro i h1 h2
    rw [List.getElem_append]
    split
    · simp [run]
    · rename_i h3
      rw [run_length] at h3
      simp only [run, List.getElem_map, List.getElem_range', List.length_map, List.length_range', Nat.one_mul]
      have hi : i - (r - a) < s.length := by
        rw [List.length_append, run_length] at h1; omega
      have := hs (i - (r - a)) s[i - (r - a)] (List.getElem?_eq_getElem hi)
      rw [show r + (i - (r - a)) = a + i by omega] at this
      rw [this]; rfl

theorem bytes_append (a b : List UInt8) : ((⟨a.toArray⟩ : ByteArray) ++ ⟨b.toArray⟩) = ⟨(a ++ b).toArray⟩ := by
  apply ByteArray.ext
  apply Array.ext'
  simp
theorem mapLen_mod {F : List Nat} {w w' : World} {m : Nat} (hm : Mod F w w') (h1 : m < w.heap.size) (h2 : m ∉ F) : mapLen w' m = mapLen w m := by
  unfold mapLen
  rw [hm.block m h1 h2]

theorem Cov.first {f : Int → Option Value} {B : Nat → Option UInt8} {r : Nat} (h : Cov f (fun n => if r ≤ n then B n else none)) : (f r = none ∧ B r = none) ∨
    ∃ s : List UInt8, f r = some (str s) ∧ s ≠ [] ∧ (∀ i c, s[i]? = some c → B (r + i) = some c) ∧ Cov (upd f r none) (fun n => if r + s.length ≤ n then B n else none) := by
  cases hB : B r with
  | none =>
    refine .inl ⟨h.none_of (by rw [if_pos (Nat.le_refl _)]; exact hB), rfl⟩
  | some c =>
    obtain ⟨k, s, h1, h2, h3⟩ := h.cov r (by rw [if_pos (Nat.le_refl _), hB]; rfl)
    obtain ⟨k', s', e1, e2, e3, e4⟩ := h.key (x := k) (by rw [h1]; rfl)
    obtain rfl : k = k' := by omega
    have : r ≤ k := Decidable.byContradiction fun hn => by rw [if_neg hn] at e4; cases e4
    obtain rfl : r = k := by omega
    refine .inr ⟨s, h1, (h.at_ h1).1, fun i c hi => ?_, (h.del h1).congr fun n => ?_⟩
    · have := (h.at_ h1).2 i c hi
      rwa [if_pos (by omega)] at this
    · by_cases hn : r + s.length ≤ n
      · rw [if_pos hn, if_neg (by omega), if_pos (by omega)]
      · rw [if_neg hn]
        by_cases hn2 : r ≤ n
        · rw [if_pos ⟨hn2, by omega⟩]
        · rw [if_neg (by omega), if_neg hn2]

/-- the struct's cells -/
def icells (o : Ib) (m r : Nat) (B : Nat → Option UInt8) : Array Value :=
  #[.int .u64 (o.limit : Int), .int .u64 (o.taken : Int), str (run B o.taken r), .map (some m), .int .u64 (o.far : Int), .int .u64 (o.final : Int), .bool o.known, .bool o.reset]

set_option maxRecDepth 100000 in
set_option maxHeartbeats 8000000 in
theorem ijoin_any (w : World) (b m : Nat) (o : Ib) (B : Nat → Option UInt8) (r0 : Nat) (f0 : Int → Option Value) (hb : Blk w b 51 (icells o m r0 B)) (hf : IMap w m .u64 f0)
    (hcv : Cov f0 (fun n => if r0 ≤ n then B n else none)) (htk : o.taken ≤ r0) (hne : b ≠ m) (hM : ∀ n, (B n).isSome = true → n < 4611686018427387904) (hr0 : r0 ≤ 4611686018427387904) :
    Calls Try.prog 24 #[.pointer (some ⟨b, 0, none⟩)] w fun e w' => e = .returned (.tuple #[]) ∧
      ∃ r f, Blk w' b 51 (icells o m r B) ∧ IMap w' m .u64 f ∧ Cov f (fun n => if r ≤ n then B n else none) ∧ r0 ≤ r ∧ (∀ n, r0 ≤ n → n < r → (B n).isSome = true) ∧ B r = none ∧ Mod [b, m] w w' := by
  go_enter Try.func24, Try.ntmps24
  go_wp2_with fail
  go_loopw [2] (fun _ wr => ∃ (r : Nat) (f : Int → Option Value), Blk wr b 51 (icells o m r B) ∧ IMap wr m .u64 f ∧ Cov f (fun n => if r ≤ n then B n else none) ∧ r0 ≤ r ∧ r ≤ 4611686018427387904 ∧ (∀ n, r0 ≤ n → n < r → (B n).isSome = true) ∧ Mod [b, m] w wr)
    (fun _ wr => mapLen wr m)
  case atStart => exact ⟨r0, f0, hb, hf, hcv, Nat.le_refl _, hr0, fun n h1 h2 => by omega, Mod.refl _ _⟩
  case round =>
    clear hb hf hcv
    obtain ⟨r, f, hb, hf, hcv, hr, hrM, hall, hm⟩ := hrel
    have htr : o.taken ≤ r := by omega
    have hmlt := hf.lt
    have c1 : wr.cell? ⟨b, 1, none⟩ = some (.int .u64 (o.taken : Int)) := hb.cell 1
    obtain ⟨S, hS⟩ : ∃ S : ByteArray, S = ⟨(run B o.taken r).toArray⟩ := ⟨_, rfl⟩
    have c2 : wr.cell? ⟨b, 2, none⟩ = some (.string S) := by rw [hS]; exact hb.cell 2
    have c3 : wr.cell? ⟨b, 3, none⟩ = some (.map (some m)) := hb.cell 3
    have hSs : S.size = r - o.taken := by
      rw [hS, ← run_length B o.taken r]; rfl
    have hsum : (o.taken : Int) + ((r - o.taken : Nat) : Int) = r := by omega
    have hwl : IntKind.u64.wrap ((r - o.taken : Nat) : Int) = ((r - o.taken : Nat) : Int) := IntWalk.u64_in _ (by omega)
    have hwr : IntKind.u64.wrap (r : Int) = r := IntWalk.u64_in _ (by omega)
    have HS := hide hS
    have HAll := hide hall
    have HCV := hide hcv
    clear hS hall hcv
    go_upto_region 0 with fail
    go_cut [2] (fun v wx => v = .int .u64 (r : Int) ∧ Mod [] wr wx)
    case first =>
      go_quiet (fail)
      go_wp2_with fail
      go_meet
      exact ⟨rfl, (Mod.refl _ _).drewN _⟩
    case rest =>
      obtain ⟨rfl, m0⟩ := hcut
      replace hb := m0.blk hb (by simp)
      replace hf := hf.mod m0 (by simp)
      replace hm := hm.trans m0 (by simp)
      have hml : mapLen wc m = mapLen wr m := mapLen_mod m0 hmlt (by simp)
      clear c1 c2 c3
      have c2 : wc.cell? ⟨b, 2, none⟩ = some (.string S) := by rw [HS.out]; exact hb.cell 2
      have c3 : wc.cell? ⟨b, 3, none⟩ = some (.map (some m)) := hb.cell 3
      have f2 := hb.frozen 2
      have hlk := hf.lookup_ok (P := Try.prog) (T := 49) Try.underlying49 Try.underlying27 (Try.zeroValue9 _) (r : Int)
      rcases HCV.out.first with ⟨h1, h2⟩ | ⟨s, h1, hs0, hs1, hcv2⟩
      · rw [h1] at hlk
        simp only [Option.getD_none, Option.isSome_none] at hlk
        have H2 := hide h2
        have HB := hide hb
        have HFm := hide hf
        clear h1 h2 hb hf
        go_wp2_with fail
        refine bodyPost_ret (results_none rfl _ _ _) rfl ?_
        exact ⟨rfl, r, f, HB.out, HFm.out, HCV.out, hr, HAll.out, H2.out, hm⟩
      · rw [h1] at hlk
        simp only [Option.getD_some, Option.isSome_some] at hlk
        obtain ⟨Sk, hSk⟩ : ∃ S : ByteArray, S = ⟨s.toArray⟩ := ⟨_, rfl⟩
        have hlk2 : (Instr.lookup 49 (.map (some m)) (.int .u64 (r : Int)) true).run Try.prog wc = .ok (.tuple #[.string Sk, .bool true]) wc := by rw [hlk, hSk]; rfl
        have hSks : Sk.size = s.length := by rw [hSk]; rfl
        have hsl : 0 < s.length := List.length_pos_iff.2 hs0
        have hre : r + s.length ≤ 4611686018427387904 := by
          have := hM (r + (s.length - 1)) (by rw [hs1 (s.length - 1) s[s.length - 1] (List.getElem?_eq_getElem (by omega))]; rfl)
          omega
        have hcat : (.string (S ++ Sk) : Value) = str (run B o.taken (r + s.length)) := by
          rw [HS.out, hSk, bytes_append, run_append htr hs1]; rfl
        have mS : Mod [b] wc (wc.setCell ⟨b, 2, none⟩ (.string (S ++ Sk))) := (Mod.refl _ wc).setCell (p := ⟨b, 2, none⟩) (.inl (by simp)) _
        have hbS : Blk (wc.setCell ⟨b, 2, none⟩ (.string (S ++ Sk))) b 51 (icells o m (r + s.length) B) := by
          have := hb.set_ 2 (.string (S ++ Sk))
          have e : (icells o m r B).setIfInBounds 2 (.string (S ++ Sk)) = icells o m (r + s.length) B := by rw [hcat]; rfl
          rw [e] at this
          exact this
        have hmS := hf.mod mS (by simpa using Ne.symm hne)
        obtain ⟨w', hdel, hf', mm', hsz', hless⟩ := hmS.delete (P := Try.prog) (T := 49) Try.underlying49 Try.underlying27 (r : Int) (by rw [h1]; rfl) 0
        have hres : ∃ (r' : Nat) (f : Int → Option Value), Blk w' b 51 (icells o m r' B) ∧ IMap w' m .u64 f ∧ Cov f (fun n => if r' ≤ n then B n else none) ∧ r0 ≤ r' ∧ r' ≤ 4611686018427387904 ∧ (∀ n, r0 ≤ n → n < r' → (B n).isSome = true) ∧ Mod [b, m] w w' := by
          refine ⟨r + s.length, _, mm'.blk hbS (by simpa using hne), hf', hcv2, by omega, hre, fun n h5 h6 => ?_, (hm.trans (mS.mono (G := [b, m]) (by simp)) (by simp)).trans mm' (by simp)⟩
          by_cases h7 : n < r
          · exact HAll.out n h5 h7
          · have := hs1 (n - r) s[n - r] (List.getElem?_eq_getElem (by omega))
            rw [show r + (n - r) = n by omega] at this
            rw [this]; rfl
        have hless2 : mapLen w' m < mapLen wr m := by
          rw [← hml, ← mapLen_mod mS hf.lt (by simpa using Ne.symm hne)]
          exact hless
        have HRes := hide hres
        have hSS : S.size + Sk.size ≤ 9223372036854775807 := by omega
        clear hlk hSk hcat hbS hmS hf' mm' hsz' hless hres hb hf hm mS hs1 hcv2 h1 hml
        go_wp2_with fail
        go_roundw
        case rel => exact HRes.out
        case measure => exact hless2
end Go.Proofs.Ytfbcbddfmiiilaa
