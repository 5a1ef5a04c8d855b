/-
  What is proved here: an incoming slice of bytes read as a list of bytes, by the ghost of the whole old memory
-/
import Derived.Test.YtegkmkglagmdiaaBaseB
namespace Go.VS
open Go.RowKit
/-- All that stands in the world, as a ghost: an incoming argument is known by it. -/
def oldD (w : World) : Gh := fun b o => w.cell? ⟨b, o, none⟩
theorem keepsOldD (w : World) : Keeps (oldD w) w := fun _ _ _ h => h

theorem bs_of_row {w : World} {a : Option Addr} {len cap : Nat} {zs : List Int}
    (h : (a = none ∧ len = 0 ∧ cap = 0 ∧ zs = []) ∨ ∃ x, a = some x ∧ len ≤ cap ∧ cap ≤ maxLen ∧ zs.length = cap ∧ (∀ i, i < zs.length → w.cell? (x.add i) = some (.int .u8 (zs.getD i 0))) ∧ ∀ n ∈ zs, (Lit.int .u8 n).wf = true) :
    ∃ bs, BS (oldD w) (.slice a len cap) bs := by
  rcases h with ⟨rfl, rfl, rfl, rfl⟩ | ⟨x, rfl, hl, hm, hz, hc, hw⟩
  · exact ⟨[], BS.nil _⟩
  · refine ⟨(zs.take len).map (fun z => UInt8.ofNat z.toNat), some x, cap, ?_, ?_, hm, (fun h => by cases h), fun hp => ?_⟩
    · simp; omega
    · simp; omega
    · simp at hp
      obtain ⟨b, o, sp⟩ := x
      have h0 := hc 0 (by omega)
      have hsp : sp = none := by
        cases sp with
        | none => rfl
        | some k => simp [World.cell?, Addr.add] at h0; split at h0 <;> simp at h0
      subst hsp
      refine ⟨b, o, rfl, fun j u hj => ?_⟩
      simp only [List.map_map, List.getElem?_map, Option.map_eq_some_iff] at hj
      obtain ⟨z, hz1, rfl⟩ := hj
      rw [List.getElem?_take] at hz1
      split at hz1
      · rename_i hjl
        obtain ⟨hjz, rfl⟩ := List.getElem?_eq_some_iff.mp hz1
        have hcj := hc j hjz
        have hwj := hw zs[j] (List.getElem_mem hjz)
        have hr : 0 ≤ zs[j] ∧ zs[j] < 256 := by
          simp [Lit.wf, IntKind.min, IntKind.max, IntKind.signed, IntKind.bits] at hwj
          omega
        have ha : (Addr.mk b o none).add j = ⟨b, o + j, none⟩ := by
          unfold Addr.add
          split
          · simp_all
          · rfl
        unfold oldD
        rw [ha] at hcj
        rw [hcj]
        simp [List.getD, hjz, bv]
        omega
      · cases hz1
end Go.VS
