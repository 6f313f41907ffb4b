/- Joined texts: Mix5. Conditions: as stated. -/
import Derived.Test.YtjncpgbhokjbfaaGreatJ15
namespace Go.Proofs.YtjncpgbhokjbfaaGreat
open Go.RowKit
namespace M5
variable {P:Program} {ops:Array Oper} {md:Region.Mode} {C:World→Prop} {s:Nat}
theorem mix_pair {Q:Act→World→Prop} {n:Nat} {listed:Array Bool} {a:Act} {w:World} (i j : Nat) (hr:Region.ready md ops listed = [i,j]) (hne : [i,j].contains s = false)
  (h:∀ w',C w'→Below w.heap.size w w'→M3.stepM P ops C i (fun a1 w1=>C w1∧wpMix P md ops C s Q n (listed.setIfInBounds i true) a1 w1) a w'∧M3.stepM P ops C j (fun a1 w1=>C w1∧wpMix P md ops C s Q n (listed.setIfInBounds j true) a1 w1) a w') : wpMix P md ops C s Q (n+1) listed a w :=
 mix_many [i,j] hr hne rfl fun w' c b k hk=>by
  simp only [nqj,nqk,or_false] at hk
  rcases hk with rfl | rfl
  ·
   exact (h w' c b).1
  ·
   exact (h w' c b).2
end M5
end Go.Proofs.YtjncpgbhokjbfaaGreat
