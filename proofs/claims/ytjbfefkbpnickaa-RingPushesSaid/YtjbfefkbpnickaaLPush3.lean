/- The walk of the law on elements put to the back and to the front: every case. -/
import Derived.Test.YtjbfefkbpnickaaLPush2
namespace Go.Proofs.Ytjbfefkbpnickaa
theorem ringPushes_walk (cap head len : Int) (A : Option Addr) (n c : Nat) (l : List (Int × Int)) (x : Int × Int) (w : World) (h : Sl2 w w.heap.size A n l) :
    Calls Try.prog 4 #[ringV cap head len A n c, itV x] w (TrueEnd w) := by
  rcases Nat.lt_or_ge 200 n with hn | hn
  · exact push_many cap head len A n c x w hn
  · by_cases hv : VOk cap head len l
    · obtain ⟨C, H, xs, hr⟩ := Rg.of_ok hv
      obtain ⟨rfl, rfl, rfl, h1, h2, h3, h4, rfl⟩ := hr
      have hl := h.1
      rw [cellsL_len] at hl
      subst hl
      rcases Nat.lt_or_ge xs.length C with hx | hx
      · exact push_ok C H xs A c x w h hn ⟨rfl, rfl, rfl, h1, h2, h3, h4, rfl⟩ hx
      · have hC : xs.length = C := by omega
        rw [hC]
        exact push_full C H xs A c x w h hn ⟨rfl, rfl, by rw [hC], h1, h2, h3, h4, rfl⟩ hC
    · exact push_bad cap head len A n c l x w h hn hv
end Go.Proofs.Ytjbfefkbpnickaa
