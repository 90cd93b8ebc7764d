/- The wakening says true. -/
import Derived.Test.YtleoalcbgpjieaaDoorH3
namespace Go.Proofs.YtleoalcbgpjieaaDoor
open Go.Ab
theorem awake_run : isT (callA FT HKs 1000 9 [] []) = true := by decide +kernel
theorem awake_ok [Base] (h : HKok Tryd.prog HKs) : HkOK Tryd.prog 9 (constHook (.sc (.bool true))) := by
  obtain ⟨h', hr⟩ := isT_some awake_run
  exact constHook_same ft_ok h (fun β β' c h => by cases h; exact .bool _) hr
end Go.Proofs.YtleoalcbgpjieaaDoor
