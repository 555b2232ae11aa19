/-
  append of one element, of any element type, to a slice of one's own.
-/
import Derived.Test.YtkbpndohpkcikaaDoorMem
namespace Go.Proofs.YtkbpndohpkcikaaDoor
open Go.RowKit

theorem info_split {P : Program} {e : TypeId} {z : Value} {size bytes : Nat} (h : (P.info? e).map (fun i => (i.zero, i.size, i.bytes)) = some (some z, size, bytes)) :
    ∃ i, P.info? e = some i ∧ i.zero = some z ∧ i.size = size ∧ i.bytes = bytes := by
  obtain ⟨i, hi, hzz⟩ := Option.map_eq_some_iff.1 h
  simp only [Prod.mk.injEq] at hzz
  exact ⟨i, hi, hzz.1, hzz.2.1, hzz.2.2⟩
theorem owned_slice {w : World} {base : Nat} {e : TypeId} {size n : Nat} {v : Value} {xs : List Value} (h : w.ownsRow base e size v n xs) : ∃ A c, v = .slice A n c := by
  rcases h.2 with ⟨rfl, rfl⟩ | ⟨g, cap, cur, rfl, _⟩
  · exact ⟨_, _, rfl⟩
  · exact ⟨_, _, rfl⟩
theorem app_one {P : Program} {T e : TypeId} {z : Value} {size bytes : Nat} (hT : P.underlying T = some (.slice e)) (hinfo : (P.info? e).map (fun i => (i.zero, i.size, i.bytes)) = some (some z, size, bytes)) (hzs : z.cells.size = size)
    (w : World) (ty : TypeId) (base : Nat) (v : Value) (n : Nat) (xs : List Value) (h : w.ownsRow base e size v n xs) (hbase : base ≤ w.heap.size) (news : List Value) (hnl : news.length = size) (hone : ∀ u ∈ news, u.oneCell' = true)
    (hb : (n + 1) * bytes ≤ 140737488355328) (hb63 : n < 9223372036854775807) (g : Nat) (hc : ∀ j u, news[j]? = some u → w.cell? ⟨g, j, none⟩ = some u) :
    ∃ A c w', (Builtin.append_ #[T, T] ty #[v, .slice (some ⟨g, 0, none⟩) 1 1]).run P w = .ok (.slice A (n + 1) c) w' ∧ w'.ownsRow base e size (.slice A (n + 1) c) (n + 1) (xs ++ news) ∧ Mod v.ownBlock.toList w w' ∧
      ((Value.slice A (n + 1) c).ownBlock = v.ownBlock ∨ (Value.slice A (n + 1) c).ownBlock = some w.heap.size) := by
  obtain ⟨i0, hi, hz0, hz1, hz2⟩ := info_split hinfo
  have hsrc : Src P size T (.slice (some ⟨g, 0, none⟩) 1 1) 1 news w := Src.ofSlice w hT _ 1 1 _ (by rw [hnl]; omega) (fun j u hu => by
    have := hc j u hu
    rwa [Addr.add_lit, Nat.zero_add]) hone
  obtain ⟨v', w', h1, h2, h3, h4⟩ := run_app (P := P) ty base hi hz1 hzs v n _ h (AppSrc.of_src hT hi hz0 hz1 hsrc) (by simp only [maxLen]; omega) (by rw [hz2]; exact hb) hbase
  obtain ⟨A, c, rfl⟩ := owned_slice h2
  exact ⟨A, c, w', h1, h2, Mod.of_grown h3, h4⟩
/-- an owned row, in a world in which nothing older turned -/
theorem Mod.keep {a w w' : World} {v : Value} {base : Nat} {e : TypeId} {size n : Nat} {xs : List Value} (h : Mod [] a w) (hm : Mod v.ownBlock.toList w w') (ho : w.ownsRow base e size v n xs) (hb : a.heap.size ≤ base) : Mod [] a w' :=
  h.trans hm (fun x hx => by
    right
    simp at hx
    have := (ho.lt x hx).1
    omega)
end Go.Proofs.YtkbpndohpkcikaaDoor
