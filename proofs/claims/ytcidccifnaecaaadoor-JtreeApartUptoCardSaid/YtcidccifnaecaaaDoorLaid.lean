/- What is laid ahead of a call: two tables of Go's library. -/
import Derived.Test.YtcidccifnaecaaaDoorWords
import Derived.Lib.LaidTab
import Derived.Lib.Space
import Derived.Lib.Itoa
namespace Go.Proofs.YtcidccifnaecaaaDoor
open Go.RowKit

theorem gn_space : Tryd.prog.globalNamed "strings.asciiSpace" = some 0 := by kernel_rfl
theorem gn_pow : Tryd.prog.globalNamed "internal/strconv.uint64pow10" = some 2 := by kernel_rfl

/-- The tables hold what Go's text lays. -/
structure Laid (w : World) : Prop where
  sp : Lib.TabIs Tryd.prog w "strings.asciiSpace" .u8 Lib.asciiSpaceTab
  pow : Lib.TabIs Tryd.prog w "internal/strconv.uint64pow10" .u64 Lib.pow10Tab

theorem tab_keep {n : String} {g : Nat} {k : IntKind} {zs : List Int} {w w' : World} (hg : Tryd.prog.globalNamed n = some g) (h : Lib.TabIs Tryd.prog w n k zs) (hb : w'.heap[g]? = w.heap[g]?) : Lib.TabIs Tryd.prog w' n k zs := by
  unfold Lib.TabIs World.var? at h ⊢
  rw [hg] at h ⊢
  simp only [Option.bind_some] at h ⊢
  rw [hb]
  exact h
theorem tab_lt {n : String} {g : Nat} {k : IntKind} {zs : List Int} {w : World} (hg : Tryd.prog.globalNamed n = some g) (h : Lib.TabIs Tryd.prog w n k zs) : g < w.heap.size := by
  unfold Lib.TabIs World.var? at h
  rw [hg] at h
  simp only [Option.bind_some] at h
  rcases Nat.lt_or_ge g w.heap.size with h' | h'
  · exact h'
  · rw [Array.getElem?_eq_none h'] at h; cases h
theorem Laid.keep {w w' : World} (h : Laid w) (hb : ∀ k, k < w.heap.size → w'.heap[k]? = w.heap[k]?) : Laid w' :=
  ⟨tab_keep gn_space h.sp (hb _ (tab_lt gn_space h.sp)), tab_keep gn_pow h.pow (hb _ (tab_lt gn_pow h.pow))⟩
theorem Laid.below {w w' : World} (h : Laid w) (hb : Below w.heap.size w w') : Laid w' := h.keep hb.block
theorem Laid.turn {w w' : World} (h : Laid w) {B : Nat} (hB : ∀ g, g = 0 ∨ g = 2 → g < B) (hb : Below B w w') : Laid w' :=
  ⟨tab_keep gn_space h.sp (hb.block _ (hB _ (.inl rfl))), tab_keep gn_pow h.pow (hb.block _ (hB _ (.inr rfl)))⟩
theorem Laid.lt {w : World} (h : Laid w) (g : Nat) (hg : g = 0 ∨ g = 2) : g < w.heap.size := by
  rcases hg with rfl | rfl
  · exact tab_lt gn_space h.sp
  · exact tab_lt gn_pow h.pow
theorem Laid.space {w : World} (h : Laid w) (i : Nat) (hi : i < 256) : w.cell? ⟨0, i, none⟩ = some (.int .u8 (if Lib.isSp (UInt8.ofNat i) then 1 else 0)) := by
  have := h.sp.cell gn_space i (by rw [Lib.asciiSpaceTab_length]; exact hi)
  rwa [Lib.asciiSpaceTab_at i hi] at this

theorem words_space : ∀ k : Fin 187, Lib.isSp (wordsText.data.toList.getD k.val 0) = endAt k.val := by decide +kernel

end Go.Proofs.YtcidccifnaecaaaDoor
