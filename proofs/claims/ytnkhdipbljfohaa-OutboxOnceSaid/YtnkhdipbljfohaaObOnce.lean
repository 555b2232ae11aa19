/-
  OutboxOnce: the walk: what goes stands as free in the marks; a round over the marks follows the acts.
-/
import Derived.Test.YtnkhdipbljfohaaObMarks
namespace Go.Proofs.Ytnkhdipbljfohaa
open Go.RowKit

def PAct.arr (x : PAct) : Array Value := #[.int .i64 x.kind, .int .i64 x.num, .int .u64 (x.at_ : Nat), .int .u64 (x.m : Nat), .string x.data, .bool x.fin]
theorem zeroInt (w : World) : (zeroValue 3).run Try.prog w = .ok (.int .i64 0) w := by kernel_rfl
theorem Noted.bounds {o : Ob} (g : o.Good) {x : PAct} {c1 : Int → Option Nat} (h : Noted o (fun y => (c1 y).map (turned x y))) : ∀ y n, c1 y = some n → 0 ≤ y ∧ y ≤ 65536 := by
  intro y n hy
  obtain ⟨k, rfl, h1, _⟩ := h y (turned x y n) (by simp [hy])
  have := g.wf.size
  omega
theorem Ob.Good.playedFits {o : Ob} (h : o.Good) (x : PAct) (hk : x.kind = 1) : (o.played x).at_ + (o.played x).s.length ≤ 65536 := by
  have e2 : o.played x = ⟨(o.nextTold x.num).at_, (o.nextTold x.num).s, (o.nextTold x.num).fin, (o.nextTold x.num).is_, 0⟩ := by simp [Ob.played, hk]
  rw [e2]
  have := h.wf.size
  rcases h.told x.num with ⟨t1, _⟩ | ⟨_, _, _, _, _, t5, _⟩
  · rw [t1]; simp
  · simp only; omega
theorem act_cells {w : World} {g : Nat} {x : PAct} (h : Blk w g 29 x.arr) : g < w.heap.size ∧ w.cell? ⟨g, 0, none⟩ = some (.int .i64 x.kind) ∧ w.cell? ⟨g, 1, none⟩ = some (.int .i64 x.num) ∧
    w.cell? ⟨g, 2, none⟩ = some (.int .u64 (x.at_ : Nat)) ∧ w.cell? ⟨g, 3, none⟩ = some (.int .u64 (x.m : Nat)) ∧ w.cell? ⟨g, 4, none⟩ = some (.string x.data) ∧ w.cell? ⟨g, 5, none⟩ = some (.bool x.fin) :=
  ⟨h.lt, h.cell 0, h.cell 1, h.cell 2, h.cell 3, h.cell 4, h.cell 5⟩

set_option maxRecDepth 100000 in
set_option maxHeartbeats 4000000 in
theorem walkOutboxOnce (limit : Nat) (hl : limit ≤ 18446744073709551615) (a : Option Addr) (len cap : Nat) (l : List PAct) (W : World) (ha : IsActs W a len l) :
    Calls Try.prog 5 #[.int .u64 limit, .slice a len cap] W fun e w' => e = .returned (.bool true) ∧ Below W.heap.size W w' := by
  have hlen := ha.2.1
  have hmm := @run_makeMap Try.prog
  go_enter Try.func5, Try.ntmps5
  go_wp2_with fail
  refine (awake_any W).mono ?_
  rintro e w1 ⟨rfl, m1⟩
  go_wp2_with fail
  refine (mine_new w1 limit hl).mono ?_
  rintro e w2 ⟨b, rfl, h⟩
  have g0 := Ob.Good.fresh limit
  go_wp2_with fail
  clear hmm
  have hs := (Aside.of h).push ((Mod.refl [] w2).alloc (.map #[] 0)) (m := w2.heap.size) (Nat.le_refl _) (by simp)
  have hi := IMap.made w2 .u64
  have e0 : (fun _ => none) = hv (fun _ => none) := rfl
  rw [e0] at hi
  obtain ⟨mb, hmb⟩ : ∃ mb, w2.heap.size = mb := ⟨_, rfl⟩
  rw [hmb] at hs hi ⊢
  generalize w2.alloc (.map #[] 0) = w3 at hs hi ⊢
  clear h hmb
  have n0 : Noted (Ob.fresh limit) (fun _ => none) := fun x n h => by cases h
  go_loopw [7] (fun i wr => ∃ (k : Nat) (o : Ob) (c : Int → Option Nat), k ≤ len ∧ i = .int .i64 (k : Int) ∧ Aside w1 wr b o [mb] ∧ IMap wr mb .u64 (hv c) ∧ o.Good ∧ Noted o c) (fun i _ => len - (intOf i).toNat)
  case atStart => exact ⟨0, _, _, by omega, rfl, hs, hi, g0, n0⟩
  case round =>
    clear hs hi g0 n0
    obtain ⟨k, o, c, hk, rfl, hs, hi, hg, hn⟩ := hrel
    have Hn := hide hn
    clear hn
    by_cases hlt : k < len ∧ k < 60
    · obtain ⟨h1, h2⟩ := hlt
      obtain ⟨b0, off, x, rfl, hx, hok, hlie⟩ := ha.at_ h1
      obtain ⟨hb0, c0, c1, c2, c3, c4, c5⟩ := hlie.mod (m1.trans hs.frame (by simp))
      by_cases hd : 200 < x.data.size
      · have hlg : x.large = true := by simpa [PAct.large] using hd
        have hfr := m1.trans hs.frame (by simp)
        go_wp2_with fail
        refine (large_is _ x true hlg).mono ?_
        rintro e w4 ⟨rfl, m4⟩
        go_wp2_with fail
        go_ret
        exact ⟨rfl, ((hfr.alloc _).trans m4 (by simp)).below (Nat.le_refl _) (by simp)⟩
      have hlg : x.large = false := by simpa [PAct.large] using hd
      have Hd := hide hd
      clear hd
      go_wp2_with fail
      refine (large_is _ x false hlg).mono ?_
      rintro e w4 ⟨rfl, m4⟩
      have hB : Blk w4 wr.heap.size 29 x.arr := m4.blk (Blk.new wr _ _) (by simp)
      have m5 : Mod [] wr w4 := ((Mod.refl [] wr).alloc _).trans m4 (by simp)
      replace hs := hs.push m5 (Nat.le_refl _) hB.lt
      have hne : mb ≠ wr.heap.size := by have := hi.lt; omega
      replace hi := hi.mod m5 (by simp)
      clear m4 m5 hlg c0 c1 c2 c3 c4 c5 hb0
      obtain ⟨xb, hxb⟩ : ∃ xb, wr.heap.size = xb := ⟨_, rfl⟩
      rw [hxb] at hB hs hne ⊢
      clear hxb
      obtain ⟨hb1, c0, c1, c2, c3, c4, c5⟩ := act_cells hB
      go_wp2_with fail
      obtain ⟨p, hp⟩ : ∃ p, o.played x = p := ⟨_, rfl⟩
      obtain ⟨o', ho'⟩ : ∃ o', o.play x = o' := ⟨_, rfl⟩
      refine (aside_played hs x hok (by have := Hd.out; omega) p o' hp ho').mono ?_
      rintro e w5 ⟨rfl, hs', F, m5, hF⟩
      have hB' := m5.blk hB (hF xb (by simp))
      have hi' := hi.mod m5 (hF mb (by simp))
      clear hs hB hi hb1 c0 c1 c2 c3 c4 c5 m5 hF
      obtain ⟨hb1, c0, c1, c2, c3, c4, c5⟩ := act_cells hB'
      have hnf := Hn.out.free hg x
      have hnp := Hn.out.play hg x
      have hg' := hg.play x
      have hfit := hg.playedFits x
      rw [hp] at hnf hnp hfit
      have Hfit := hide hfit
      clear hfit
      rw [ho'] at hnp hg'
      have Hnf := hide hnf
      clear hnf hp ho'
      have Hg' := hide hg'
      clear hg' hg
      by_cases hk1 : x.kind = 1
      · have e1 : (x.kind == 1) = true := by simpa using hk1
        cases hpi : p.is_
        · rw [if_neg (fun h => by rw [hpi] at h; exact absurd h.2 (by simp))] at hnp
          have Hnp := hide hnp
          clear hnp hpi
          have HK := hide (Noted.bounds Hg'.out Hnp.out)
          obtain ⟨c1, hc1⟩ : ∃ c1, c = c1 := ⟨_, rfl⟩
          rw [hc1] at hi' Hnp HK
          have hi5 := hi'
          have hs5 := hs'
          have hB5 := hB'
          clear hi' hs' hB' hc1
          obtain ⟨w6, cnt0, hrun, hit, m6, hsz⟩ := hi5.range (T := 41) Try.underlying41
          have hs6 := hs5.push m6 (Nat.le_refl _) (by omega)
          have hB6 := m6.blk hB5 (by simp)
          have hne1 : mb ≠ w5.heap.size := by have := hi5.lt; omega
          have hne2 : xb ≠ w5.heap.size := by have := hB5.lt; omega
          obtain ⟨rb, hrb⟩ : ∃ rb, w5.heap.size = rb := ⟨_, rfl⟩
          rw [hrb] at hrun hit hs6 hne1 hne2
          replace hit : IIter w6 mb rb .u64 (hv (midway x c1 (fun y => (hv c1 y).isSome))) (fun y => (hv c1 y).isSome) cnt0 := by rw [midway_start]; exact hit
          clear hrb
          go_wp2_with fail
          go_loopw [] (fun wr => ∃ left cnt, Aside w1 wr b o' [rb, xb, mb] ∧ Blk wr xb 29 x.arr ∧ IIter wr mb rb .u64 (hv (midway x c1 left)) left cnt) (fun wr => wr.rangeLeft mb rb)
          case atStart => exact ⟨_, _, hs6, hB6, hit⟩
          case round =>
            clear hs5 hB5 hi5 hs6 hB6 hit hrun m6 hsz
            try clear hb1 c0 c1' c2 c3 c4 c5
            obtain ⟨left, cnt, hs7, hB7, hit7⟩ := hrel
            rcases hit7.next (P := Try.prog) 0 with ⟨h0, hl0, hrun⟩ | ⟨y, v, w8, cnt', hly, hfy, hrun, hit8, hlt, m8, hsz8, hen⟩
            · have hi7 := hit7.owns
              rw [midway_end x c1 hl0] at hi7
              clear hit7
              go_wp2_with fail
              go_roundw
              case rel => exact ⟨k + 1, o', _, by omega, by go_num, hs7.less (by simp), hi7, Hg'.out, Hnp.out⟩
              case measure => simp [intOf]; omega
            · obtain ⟨n, hcn, rfl⟩ := midway_left hly hfy
              obtain ⟨hy0, hy1⟩ := HK.out y n hcn
              have hs8 := hs7.mod m8 (by simp)
              have hB8 := m8.blk hB7 (by simpa using hne2)
              obtain ⟨hb1, d0, d1, d2, d3, d4, d5⟩ := act_cells hB8
              have ham := hok.a
              have hmm := hok.m
              by_cases q1 : (x.at_ : Int) ≤ y
              · by_cases q2 : y - x.at_ < x.m
                · by_cases q3 : n = 1
                  · subst q3
                    have f2 : (x.kind == 2) = false := by simpa using (by omega : ¬ x.kind = 2)
                    have f3 : (x.kind == 3) = false := by simpa using (by omega : ¬ x.kind = 3)
                    go_wp2_with fail
                    go_roundw
                    case rel => exact ⟨fun z => left z && !(z == y), cnt', hs8, hB8, by rw [midway_keep x c1 left y 1 hcn (by unfold turned; (repeat' split) <;> first | rfl | omega)]; exact hit8⟩
                    case measure => rw [hit8.left_eq, hit7.left_eq]; exact hlt
                  · have q4 : ((n : Int) == 1) = false := by simpa using (by omega : ¬ (n : Int) = 1)
                    go_wp2_with fail
                    go_roundw
                    case rel => exact ⟨fun z => left z && !(z == y), cnt', hs8, hB8, by rw [midway_keep x c1 left y n hcn (by unfold turned; (repeat' split) <;> first | rfl | omega)]; exact hit8⟩
                    case measure => rw [hit8.left_eq, hit7.left_eq]; exact hlt
                · 
                  go_wp2_with fail
                  go_roundw
                  case rel => exact ⟨fun z => left z && !(z == y), cnt', hs8, hB8, by rw [midway_keep x c1 left y n hcn (by unfold turned; (repeat' split) <;> first | rfl | omega)]; exact hit8⟩
                  case measure => rw [hit8.left_eq, hit7.left_eq]; exact hlt
              · 
                go_wp2_with fail
                go_roundw
                case rel => exact ⟨fun z => left z && !(z == y), cnt', hs8, hB8, by rw [midway_keep x c1 left y n hcn (by unfold turned; (repeat' split) <;> first | rfl | omega)]; exact hit8⟩
                case measure => rw [hit8.left_eq, hit7.left_eq]; exact hlt
        · rw [if_pos ⟨hk1, hpi⟩] at hnp
          have Hnp := hide hnp
          clear hnp hpi
          have hsl : p.s.length ≤ 65536 ∧ p.at_ ≤ 65536 := by have := Hfit.out hk1; omega
          go_wp2_with fail
          go_loopw [56] (fun i wr => ∃ j : Nat, j ≤ p.s.length ∧ i = .int .u64 (j : Int) ∧ Aside w1 wr b o' [xb, mb] ∧ Blk wr xb 29 x.arr ∧ IMap wr mb .u64 (hv (marked c p.at_ j))) (fun i _ => p.s.length - (intOf i).toNat)
          case atStart => exact ⟨0, by omega, rfl, hs', hB', by rw [marked_zero]; exact hi'⟩
          case round =>
            clear hs' hB' hi' hb1 c0 c1 c2 c3 c4 c5
            obtain ⟨j, hj, rfl, hs5, hB5, hi5⟩ := hrel
            by_cases hjl : j < p.s.length
            · have hlk := hi5.lookup (T := 41) Try.underlying41 Try.underlying22 (zeroInt _) ((p.at_ : Int) + j)
              have h0 := Hnf.out hk1 j hjl
              have hz : ((hv (marked c p.at_ j)) ((p.at_ : Int) + j)).getD (.int .i64 0) = .int .i64 0 := by
                unfold hv
                rw [marked_next]
                cases hc : c ((p.at_ : Int) + j) with
                | none => rfl
                | some n => rw [hc] at h0; simp at h0; subst h0; rfl
              rw [hz] at hlk
              have hwr : IntKind.u64.wrap ((p.at_ : Int) + (j : Int)) = (p.at_ : Int) + j := IntWalk.u64_in _ (by have := Hfit.out hk1; omega)
              obtain ⟨w9, hup, hi9, m9, hsz9⟩ := hi5.update (T := 41) Try.underlying41 Try.underlying22 ((p.at_ : Int) + j) (.int .i64 1)
              rw [marked_step] at hi9
              have hs9 := hs5.mod m9 (by simp)
              have hB9 := m9.blk hB5 (by simpa using fun e => hne e.symm)
              go_wp2_with fail
              go_roundw
              case rel => exact ⟨j + 1, by omega, by go_num, hs9, hB9, hi9⟩
              case measure => simp [intOf]; omega
            · obtain rfl : p.s.length = j := by omega
              obtain ⟨c1, hc1⟩ : ∃ c1, marked c p.at_ p.s.length = c1 := ⟨_, rfl⟩
              rw [hc1] at hi5 Hnp
              have HK := hide (Noted.bounds Hg'.out Hnp.out)
              obtain ⟨w6, cnt0, hrun, hit, m6, hsz⟩ := hi5.range (T := 41) Try.underlying41
              have hs6 := hs5.push m6 (Nat.le_refl _) (by omega)
              have hB6 := m6.blk hB5 (by simp)
              have hne1 : mb ≠ wr.heap.size := by have := hi5.lt; omega
              have hne2 : xb ≠ wr.heap.size := by have := hB5.lt; omega
              obtain ⟨rb, hrb⟩ : ∃ rb, wr.heap.size = rb := ⟨_, rfl⟩
              rw [hrb] at hrun hit hs6 hne1 hne2
              replace hit : IIter w6 mb rb .u64 (hv (midway x c1 (fun y => (hv c1 y).isSome))) (fun y => (hv c1 y).isSome) cnt0 := by rw [midway_start]; exact hit
              clear hrb
              go_wp2_with fail
              go_loopw [] (fun wr => ∃ left cnt, Aside w1 wr b o' [rb, xb, mb] ∧ Blk wr xb 29 x.arr ∧ IIter wr mb rb .u64 (hv (midway x c1 left)) left cnt) (fun wr => wr.rangeLeft mb rb)
              case atStart => exact ⟨_, _, hs6, hB6, hit⟩
              case round =>
                clear hs5 hB5 hi5 hs6 hB6 hit hrun m6 hsz
                try clear hb1 c0 c1' c2 c3 c4 c5
                obtain ⟨left, cnt, hs7, hB7, hit7⟩ := hrel
                rcases hit7.next (P := Try.prog) 0 with ⟨h0, hl0, hrun⟩ | ⟨y, v, w8, cnt', hly, hfy, hrun, hit8, hlt, m8, hsz8, hen⟩
                · have hi7 := hit7.owns
                  rw [midway_end x c1 hl0] at hi7
                  clear hit7
                  go_wp2_with fail
                  go_roundw
                  case rel => exact ⟨k + 1, o', _, by omega, by go_num, hs7.less (by simp), hi7, Hg'.out, Hnp.out⟩
                  case measure => simp [intOf]; omega
                · obtain ⟨n, hcn, rfl⟩ := midway_left hly hfy
                  obtain ⟨hy0, hy1⟩ := HK.out y n hcn
                  have hs8 := hs7.mod m8 (by simp)
                  have hB8 := m8.blk hB7 (by simpa using hne2)
                  obtain ⟨hb1, d0, d1, d2, d3, d4, d5⟩ := act_cells hB8
                  have ham := hok.a
                  have hmm := hok.m
                  by_cases q1 : (x.at_ : Int) ≤ y
                  · by_cases q2 : y - x.at_ < x.m
                    · by_cases q3 : n = 1
                      · subst q3
                        have f2 : (x.kind == 2) = false := by simpa using (by omega : ¬ x.kind = 2)
                        have f3 : (x.kind == 3) = false := by simpa using (by omega : ¬ x.kind = 3)
                        go_wp2_with fail
                        go_roundw
                        case rel => exact ⟨fun z => left z && !(z == y), cnt', hs8, hB8, by rw [midway_keep x c1 left y 1 hcn (by unfold turned; (repeat' split) <;> first | rfl | omega)]; exact hit8⟩
                        case measure => rw [hit8.left_eq, hit7.left_eq]; exact hlt
                      · have q4 : ((n : Int) == 1) = false := by simpa using (by omega : ¬ (n : Int) = 1)
                        go_wp2_with fail
                        go_roundw
                        case rel => exact ⟨fun z => left z && !(z == y), cnt', hs8, hB8, by rw [midway_keep x c1 left y n hcn (by unfold turned; (repeat' split) <;> first | rfl | omega)]; exact hit8⟩
                        case measure => rw [hit8.left_eq, hit7.left_eq]; exact hlt
                    · 
                      go_wp2_with fail
                      go_roundw
                      case rel => exact ⟨fun z => left z && !(z == y), cnt', hs8, hB8, by rw [midway_keep x c1 left y n hcn (by unfold turned; (repeat' split) <;> first | rfl | omega)]; exact hit8⟩
                      case measure => rw [hit8.left_eq, hit7.left_eq]; exact hlt
                  · 
                    go_wp2_with fail
                    go_roundw
                    case rel => exact ⟨fun z => left z && !(z == y), cnt', hs8, hB8, by rw [midway_keep x c1 left y n hcn (by unfold turned; (repeat' split) <;> first | rfl | omega)]; exact hit8⟩
                    case measure => rw [hit8.left_eq, hit7.left_eq]; exact hlt
      · have e1 : (x.kind == 1) = false := by simpa using hk1
        rw [if_neg (fun h => hk1 h.1)] at hnp
        have Hnp := hide hnp
        clear hnp
        have HK := hide (Noted.bounds Hg'.out Hnp.out)
        obtain ⟨c1, hc1⟩ : ∃ c1, c = c1 := ⟨_, rfl⟩
        rw [hc1] at hi' Hnp HK
        have hi5 := hi'
        have hs5 := hs'
        have hB5 := hB'
        clear hi' hs' hB' hc1

        obtain ⟨w6, cnt0, hrun, hit, m6, hsz⟩ := hi5.range (T := 41) Try.underlying41
        have hs6 := hs5.push m6 (Nat.le_refl _) (by omega)
        have hB6 := m6.blk hB5 (by simp)
        have hne1 : mb ≠ w5.heap.size := by have := hi5.lt; omega
        have hne2 : xb ≠ w5.heap.size := by have := hB5.lt; omega
        obtain ⟨rb, hrb⟩ : ∃ rb, w5.heap.size = rb := ⟨_, rfl⟩
        rw [hrb] at hrun hit hs6 hne1 hne2
        replace hit : IIter w6 mb rb .u64 (hv (midway x c1 (fun y => (hv c1 y).isSome))) (fun y => (hv c1 y).isSome) cnt0 := by rw [midway_start]; exact hit
        clear hrb
        go_wp2_with fail
        go_loopw [] (fun wr => ∃ left cnt, Aside w1 wr b o' [rb, xb, mb] ∧ Blk wr xb 29 x.arr ∧ IIter wr mb rb .u64 (hv (midway x c1 left)) left cnt) (fun wr => wr.rangeLeft mb rb)
        case atStart => exact ⟨_, _, hs6, hB6, hit⟩
        case round =>
          clear hs5 hB5 hi5 hs6 hB6 hit hrun m6 hsz
          try clear hb1 c0 c1' c2 c3 c4 c5
          obtain ⟨left, cnt, hs7, hB7, hit7⟩ := hrel
          rcases hit7.next (P := Try.prog) 0 with ⟨h0, hl0, hrun⟩ | ⟨y, v, w8, cnt', hly, hfy, hrun, hit8, hlt, m8, hsz8, hen⟩
          · have hi7 := hit7.owns
            rw [midway_end x c1 hl0] at hi7
            clear hit7
            go_wp2_with fail
            go_roundw
            case rel => exact ⟨k + 1, o', _, by omega, by go_num, hs7.less (by simp), hi7, Hg'.out, Hnp.out⟩
            case measure => simp [intOf]; omega
          · obtain ⟨n, hcn, rfl⟩ := midway_left hly hfy
            obtain ⟨hy0, hy1⟩ := HK.out y n hcn
            have hs8 := hs7.mod m8 (by simp)
            have hB8 := m8.blk hB7 (by simpa using hne2)
            obtain ⟨hb1, d0, d1, d2, d3, d4, d5⟩ := act_cells hB8
            have ham := hok.a
            have hmm := hok.m
            by_cases q1 : (x.at_ : Int) ≤ y
            · by_cases q2 : y - x.at_ < x.m
              · by_cases q3 : n = 1
                · subst q3
                  by_cases hk2 : x.kind = 2
                  · have f2 : (x.kind == 2) = true := by simpa using hk2
                    have ht := midway_turn x c1 left y 1 2 hcn (by unfold turned; (repeat' split) <;> first | rfl | omega)
                    obtain ⟨w9, hup, hit9, m9, hsz9⟩ := hit8.update Try.underlying41 Try.underlying22 y (by rw [hfy]; rfl) (.int .i64 2)
                    replace ht : upd (hv (midway x c1 left)) y (some (.int .i64 2)) = hv (midway x c1 (fun z => left z && !(z == y))) := ht
                    rw [ht] at hit9
                    go_wp2_with fail
                    have hs9 := hs8.mod m9 (by simp)
                    have hB9 := m9.blk hB8 (by simp; omega)
                    go_roundw
                    case rel => exact ⟨fun z => left z && !(z == y), cnt', hs9, hB9, hit9⟩
                    case measure => rw [hit9.left_eq, hit7.left_eq]; exact hlt
                  by_cases hk3 : x.kind = 3
                  · have f2 : (x.kind == 2) = false := by simpa using hk2
                    have f3 : (x.kind == 3) = true := by simpa using hk3
                    have ht := midway_turn x c1 left y 1 0 hcn (by unfold turned; (repeat' split) <;> first | rfl | omega)
                    obtain ⟨w9, hup, hit9, m9, hsz9⟩ := hit8.update Try.underlying41 Try.underlying22 y (by rw [hfy]; rfl) (.int .i64 0)
                    replace ht : upd (hv (midway x c1 left)) y (some (.int .i64 0)) = hv (midway x c1 (fun z => left z && !(z == y))) := ht
                    rw [ht] at hit9
                    go_wp2_with fail
                    have hs9 := hs8.mod m9 (by simp)
                    have hB9 := m9.blk hB8 (by simp; omega)
                    go_roundw
                    case rel => exact ⟨fun z => left z && !(z == y), cnt', hs9, hB9, hit9⟩
                    case measure => rw [hit9.left_eq, hit7.left_eq]; exact hlt
                  have f2 : (x.kind == 2) = false := by simpa using hk2
                  have f3 : (x.kind == 3) = false := by simpa using hk3

                  go_wp2_with fail
                  go_roundw
                  case rel => exact ⟨fun z => left z && !(z == y), cnt', hs8, hB8, by rw [midway_keep x c1 left y 1 hcn (by unfold turned; (repeat' split) <;> first | rfl | omega)]; exact hit8⟩
                  case measure => rw [hit8.left_eq, hit7.left_eq]; exact hlt
                · have q4 : ((n : Int) == 1) = false := by simpa using (by omega : ¬ (n : Int) = 1)
                  go_wp2_with fail
                  go_roundw
                  case rel => exact ⟨fun z => left z && !(z == y), cnt', hs8, hB8, by rw [midway_keep x c1 left y n hcn (by unfold turned; (repeat' split) <;> first | rfl | omega)]; exact hit8⟩
                  case measure => rw [hit8.left_eq, hit7.left_eq]; exact hlt
              · 
                go_wp2_with fail
                go_roundw
                case rel => exact ⟨fun z => left z && !(z == y), cnt', hs8, hB8, by rw [midway_keep x c1 left y n hcn (by unfold turned; (repeat' split) <;> first | rfl | omega)]; exact hit8⟩
                case measure => rw [hit8.left_eq, hit7.left_eq]; exact hlt
            · 
              go_wp2_with fail
              go_roundw
              case rel => exact ⟨fun z => left z && !(z == y), cnt', hs8, hB8, by rw [midway_keep x c1 left y n hcn (by unfold turned; (repeat' split) <;> first | rfl | omega)]; exact hit8⟩
              case measure => rw [hit8.left_eq, hit7.left_eq]; exact hlt
    · have hend : ¬ (k < len) ∨ (k < len ∧ ¬ (k < 60)) := by omega
      rcases hend with hend | ⟨hend0, hend⟩
      all_goals
        go_wp2_with fail
        go_ret
        exact ⟨rfl, (m1.trans hs.frame (by simp)).below (Nat.le_refl _) (by simp)⟩
end Go.Proofs.Ytnkhdipbljfohaa
