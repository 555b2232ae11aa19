/-
  parameters: awake.
-/
import Derived.Test.YtampdiplodhkbaaPmPlain2
import Derived.Test.YtampdiplodhkbaaPmWrite
namespace Go.Proofs.Ytampdiplodhkbaa
open Go.RowKit

def pa : PP := (pfirst ⟨#[97, 98]⟩).setN 4 1000
def pb3 : PP := { pfirst ⟨#[120]⟩ with mig := true }
theorem pa_std : pa.Std := by
  intro id h
  show (if id = 4 then 1000 else (pfirst _).N id) = 0
  rw [if_neg (by rintro rfl; cases h)]
  unfold pfirst
  simp only
  rw [if_neg (by rintro rfl; cases h), if_neg (by rintro rfl; cases h), if_neg (by rintro rfl; cases h), if_neg (by rintro rfl; cases h)]
theorem pa_may : may pa = true := by decide +kernel
theorem pa_write : pwrite pa = [4, 2, 67, 232, 15, 2, 97, 98] := by decide +kernel
theorem pa_read : pread [4, 2, 67, 232, 15, 2, 97, 98] = some pa := by rw [← pa_write]; exact pread_write pa_std pa_may
theorem pa_items : pitems [4, 2, 67, 232, 15, 2, 97, 98] = some [(4, [67, 232]), (15, [97, 98])] := by
  rw [← pa_write, pwrite_flat, pitems_flat' _ (ilist_small (by decide))]
  congr 1
theorem pb3_read : pread [15, 1, 120, 12, 0, 33, 3, 97, 98, 99] = some pb3 := by
  have e : ([15, 1, 120, 12, 0, 33, 3, 97, 98, 99] : List UInt8) = flat [(15, [120]), (12, []), (33, [97, 98, 99])] := by decide +kernel
  unfold pread
  rw [e, pitems_flat' _ (by intro x hx; simp at hx; rcases hx with rfl | rfl | rfl <;> exact ⟨by decide, by decide⟩)]
  show pall [(15, [120]), (12, []), (33, [97, 98, 99])] = some pb3
  exact (pall_some (l := [(15, [120]), (12, []), (33, [97, 98, 99])]) (q := pb3)).2 ⟨by decide +kernel, by decide +kernel, rfl, by decide +kernel⟩
theorem pn_read : pread [] = none := by
  unfold pread
  rw [pitems_nil]
  have : may (pfirst ⟨#[]⟩) = false := by decide +kernel
  show pall [] = none
  unfold pall pfold
  simp [this]
theorem pz_may : may pzero = false := by decide +kernel
theorem wr_none {w w' : World} {s : Option PP} {e : Ending} (h : s = none) (k : ReadPost w s e w') : e = .returned (.tuple #[pval pzero, .int .i64 2]) ∧ Mod [] w w' := by subst h; exact ⟨k.2, k.1⟩
theorem wr_some {w w' : World} {s : Option PP} {p : PP} {e : Ending} (h : s = some p) (k : ReadPost w s e w') : e = .returned (.tuple #[pval p, .int .i64 0]) ∧ Mod [] w w' := by subst h; exact ⟨k.2, k.1⟩
theorem ww_no {w w' : World} {o : Bool} {b : List UInt8} {e : Ending} (h : o = false) (k : WritePost w o b e w') : e = .returned (.tuple #[.string ⟨#[]⟩, .int .i64 2]) ∧ Mod [] w w' := by subst h; exact ⟨k.2, k.1⟩
theorem ww_yes {w w' : World} {o : Bool} {b : List UInt8} {e : Ending} (h : o = true) (k : WritePost w o b e w') : e = .returned (.tuple #[str b, .int .i64 0]) ∧ Mod [] w w' := by subst h; exact ⟨k.2, k.1⟩
theorem ids_none {w w' : World} {x : ByteArray} {e : Ending} (h : pitems x.data.toList = none) (k : IdsPost w x e w') : e = .returned (.tuple #[.slice none 0 0, .int .i64 2]) := by unfold IdsPost at k; rw [h] at k; exact k
theorem ids_some {w w' : World} {x : ByteArray} {e : Ending} {l : List (Nat × List UInt8)} (h : pitems x.data.toList = some l) (k : IdsPost w x e w') :
    ∃ A c, e = .returned (.tuple #[.slice A l.length c, .int .i64 0]) ∧ w'.ownsRow w.heap.size 23 1 (.slice A l.length c) l.length (l.map fun x => ucell x.1) ∧ l.length ≤ x.size := by unfold IdsPost at k; rw [h] at k; exact k

theorem pa_val : pval pa = .agg #[.int .u64 0, .int .u64 65527, .int .u64 1000, .int .u64 0, .int .u64 0, .int .u64 0, .int .u64 0, .int .u64 0, .int .u64 3, .int .u64 25, .int .u64 2, .bool false, .string ⟨#[97, 98]⟩] := rfl
theorem pb3_val : pval pb3 = .agg #[.int .u64 0, .int .u64 65527, .int .u64 0, .int .u64 0, .int .u64 0, .int .u64 0, .int .u64 0, .int .u64 0, .int .u64 3, .int .u64 25, .int .u64 2, .bool true, .string ⟨#[120]⟩] := rfl
theorem pz_val : pval pzero = .agg #[.int .u64 0, .int .u64 0, .int .u64 0, .int .u64 0, .int .u64 0, .int .u64 0, .int .u64 0, .int .u64 0, .int .u64 0, .int .u64 0, .int .u64 0, .bool false, .string ⟨#[]⟩] := rfl

set_option maxRecDepth 100000 in
set_option maxHeartbeats 8000000 in
theorem awake_any (w : World) :
    Calls Try.prog 9 #[] w fun e w' => e = .returned (.bool true) ∧ Mod [] w w' := by
  go_enter Try.func9, Try.ntmps9
  go_wp2_with fail
  refine (first_any _ _).mono ?_
  rintro e w1 ⟨rfl, m1⟩
  unfold pval pcells pfirst
  go_wp2_with fail
  have hb1 : Blk (w1.alloc (.cells (pcells pa) 25)) w1.heap.size 25 (pcells pa) := Blk.new _ _ _
  have hm := m1.alloc (.cells (pcells pa) 25)
  obtain ⟨w2, hw2⟩ : ∃ w2, w1.alloc (.cells (pcells pa) 25) = w2 := ⟨_, rfl⟩
  rw [hw2] at hb1 hm
  change Calls _ _ _ (w1.alloc (.cells (pcells pa) 25)) _
  rw [hw2]
  refine (write_any w2 pa (by decide)).mono ?_
  rintro e w3 h3
  obtain ⟨rfl, m3⟩ := ww_yes pa_may h3
  rw [pa_write]
  obtain ⟨S, hS⟩ : ∃ S : ByteArray, S = ⟨#[4, 2, 67, 232, 15, 2, 97, 98]⟩ := ⟨_, rfl⟩
  have hsS : str [4, 2, 67, 232, 15, 2, 97, 98] = .string S := by rw [hS]; rfl
  have hSd : S.data.toList = [4, 2, 67, 232, 15, 2, 97, 98] := by rw [hS]
  have hSz : S.size = 8 := by rw [hS]; rfl
  rw [hsS]
  have hb3 := m3.blk hb1 (by simp)
  replace hm := hm.trans m3 (by simp)
  have HS := hide hS
  have HD := hide hSd
  have HB := hide hb3
  have HZ := hide hSz
  have hwl := hb3.lt
  clear hw2 m1 h3 m3 hb1 hsS hb3 hS hSd hSz
  go_wp2_with fail
  refine (read_any w3 S (by rw [HZ.out]; decide)).mono ?_
  rintro e w4 h4
  obtain ⟨rfl, m4⟩ := wr_some (by rw [HD.out]; exact pa_read) h4
  replace hm := hm.trans m4 (by simp)
  have hb4 := m4.blk HB.out (by simp)
  clear HB h4 m4 hwl
  have HB := hide hb4
  have hwl := hb4.lt
  clear hb4
  rw [pa_val]
  go_wp2_with fail
  have hq : Blk (w4.alloc (.cells (pcells pa) 25)) w4.heap.size 25 (pcells pa) := Blk.new _ _ _
  have hp := HB.out.alloc (.cells (pcells pa) 25)
  replace hm := hm.alloc (.cells (pcells pa) 25)
  obtain ⟨w5, hw5⟩ : ∃ w5, w4.alloc (.cells (pcells pa) 25) = w5 := ⟨_, rfl⟩
  rw [hw5] at hp hq hm
  change Calls _ _ _ (w4.alloc (.cells (pcells pa) 25)) _
  rw [hw5]
  refine (read_any w5 ⟨#[]⟩ (by decide)).mono ?_
  rintro e w6 h6
  obtain ⟨rfl, m6⟩ := wr_none pn_read h6
  replace hm := hm.trans m6 (by simp)
  replace hp := m6.blk hp (by simp)
  replace hq := m6.blk hq (by simp)
  clear hw5 h6 m6 HB
  rw [pz_val]
  have HP := hide hp
  have HQ := hide hq
  have hpl := hp.lt
  have hql := hq.lt
  clear hp hq
  go_wp2_with fail
  have hp := HP.out.alloc (.cells (pcells pzero) 25)
  have hq := HQ.out.alloc (.cells (pcells pzero) 25)
  replace hm := hm.alloc (.cells (pcells pzero) 25)
  obtain ⟨w7, hw7⟩ : ∃ w7, w6.alloc (.cells (pcells pzero) 25) = w7 := ⟨_, rfl⟩
  rw [hw7] at hp hq hm
  change Calls _ _ _ (w6.alloc (.cells (pcells pzero) 25)) _
  rw [hw7]
  refine (write_any w7 pzero (by decide)).mono ?_
  rintro e w8 h8
  obtain ⟨rfl, m8⟩ := ww_no pz_may h8
  replace hm := hm.trans m8 (by simp)
  replace hp := m8.blk hp (by simp)
  replace hq := m8.blk hq (by simp)
  clear hw7 h8 m8 HP HQ hpl hql
  go_wp2_with fail
  refine (ids_any w8 S (by rw [HZ.out]; decide)).mono ?_
  rintro e w9 ⟨m9, h9⟩
  obtain ⟨A, c, rfl, hown, _⟩ := ids_some (by rw [HD.out]; exact pa_items) h9
  replace hm := hm.trans m9 (by simp)
  replace hp := m9.blk hp (by simp)
  replace hq := m9.blk hq (by simp)
  clear h9 m9
  go_wp2_with fail
  refine (read_any w9 ⟨#[15, 1, 120, 12, 0, 33, 3, 97, 98, 99]⟩ (by decide)).mono ?_
  rintro e w10 h10
  obtain ⟨rfl, m10⟩ := wr_some pb3_read h10
  replace hm := hm.trans m10 (by simp)
  replace hp := m10.blk hp (by simp)
  replace hq := m10.blk hq (by simp)
  replace hown := m10.own hown (by simp)
  clear h10 m10
  obtain ⟨g, rfl, hgl, hg⟩ : ∃ g, A = some ⟨g, 0, none⟩ ∧ g < w10.heap.size ∧ w10.cell? ⟨g, 1, none⟩ = some (.int .u64 15) := by
    rcases hown.2 with ⟨h0, hn⟩ | ⟨g, cap, cur, hv, hb, hh, _⟩
    · cases hn
    · cases hv
      refine ⟨g, rfl, Blk.lt hh, ?_⟩
      have := hown.cells (g := g) rfl 1 (.int .u64 15) rfl
      rwa [Addr.add_lit] at this
  have hcl : 2 ≤ c := by
    rcases hown.2 with ⟨h0, hn⟩ | ⟨g, cap, cur, hv, hb, hh, h1, _⟩
    · cases hn
    · cases hv; exact h1
  have hpl := hp.lt
  have hql := hq.lt
  have p0 : w10.cell? ⟨w1.heap.size, 0, none⟩ = some (.int .u64 0) := hp.cell 0
  have q0 : w10.cell? ⟨w4.heap.size, 0, none⟩ = some (.int .u64 0) := hq.cell 0
  have p1 : w10.cell? ⟨w1.heap.size, 1, none⟩ = some (.int .u64 65527) := hp.cell 1
  have q1 : w10.cell? ⟨w4.heap.size, 1, none⟩ = some (.int .u64 65527) := hq.cell 1
  have p2 : w10.cell? ⟨w1.heap.size, 2, none⟩ = some (.int .u64 1000) := hp.cell 2
  have q2 : w10.cell? ⟨w4.heap.size, 2, none⟩ = some (.int .u64 1000) := hq.cell 2
  have p3 : w10.cell? ⟨w1.heap.size, 3, none⟩ = some (.int .u64 0) := hp.cell 3
  have q3 : w10.cell? ⟨w4.heap.size, 3, none⟩ = some (.int .u64 0) := hq.cell 3
  have p4 : w10.cell? ⟨w1.heap.size, 4, none⟩ = some (.int .u64 0) := hp.cell 4
  have q4 : w10.cell? ⟨w4.heap.size, 4, none⟩ = some (.int .u64 0) := hq.cell 4
  have p5 : w10.cell? ⟨w1.heap.size, 5, none⟩ = some (.int .u64 0) := hp.cell 5
  have q5 : w10.cell? ⟨w4.heap.size, 5, none⟩ = some (.int .u64 0) := hq.cell 5
  have p6 : w10.cell? ⟨w1.heap.size, 6, none⟩ = some (.int .u64 0) := hp.cell 6
  have q6 : w10.cell? ⟨w4.heap.size, 6, none⟩ = some (.int .u64 0) := hq.cell 6
  have p7 : w10.cell? ⟨w1.heap.size, 7, none⟩ = some (.int .u64 0) := hp.cell 7
  have q7 : w10.cell? ⟨w4.heap.size, 7, none⟩ = some (.int .u64 0) := hq.cell 7
  have p8 : w10.cell? ⟨w1.heap.size, 8, none⟩ = some (.int .u64 3) := hp.cell 8
  have q8 : w10.cell? ⟨w4.heap.size, 8, none⟩ = some (.int .u64 3) := hq.cell 8
  have p9 : w10.cell? ⟨w1.heap.size, 9, none⟩ = some (.int .u64 25) := hp.cell 9
  have q9 : w10.cell? ⟨w4.heap.size, 9, none⟩ = some (.int .u64 25) := hq.cell 9
  have p10 : w10.cell? ⟨w1.heap.size, 10, none⟩ = some (.int .u64 2) := hp.cell 10
  have q10 : w10.cell? ⟨w4.heap.size, 10, none⟩ = some (.int .u64 2) := hq.cell 10
  have p11 : w10.cell? ⟨w1.heap.size, 11, none⟩ = some (.bool false) := hp.cell 11
  have q11 : w10.cell? ⟨w4.heap.size, 11, none⟩ = some (.bool false) := hq.cell 11
  have p12 : w10.cell? ⟨w1.heap.size, 12, none⟩ = some (.string ⟨#[97, 98]⟩) := hp.cell 12
  have q12 : w10.cell? ⟨w4.heap.size, 12, none⟩ = some (.string ⟨#[97, 98]⟩) := hq.cell 12
  have hsl : (S.toList == [4, 2, 67, 232, 15, 2, 97, 98]) = true := by rw [Lib.toList_data, HD.out]; decide
  rw [pb3_val]
  clear hp hq hown
  go_wp2_with fail
  refine (may_any _ pa).mono ?_
  rintro e w11 ⟨rfl, m11⟩
  rw [pa_may]
  replace hm := (hm.alloc _).trans m11 (by simp)
  go_wp2_with fail
  refine (may_any _ pzero).mono ?_
  rintro e w12 ⟨rfl, m12⟩
  rw [pz_may]
  replace hm := hm.trans m12 (by simp)
  go_wp2_with fail
  go_ret
  exact ⟨rfl, hm⟩
end Go.Proofs.Ytampdiplodhkbaa
