/- The walks of Compare, of known's own function, of SameCodes, Has, Index and Contains. -/
import Derived.Test.YtpklnlpeedkmdaaChartWalksD
import Derived.Test.YtpklnlpeedkmdaaCmp
import Derived.Deep.RegionHeld3
import Derived.Deep.QuietTactic
import Derived.BigQuiet
namespace Go.Proofs.Ytpklnlpeedkmdaa
set_option linter.unusedVariables false
set_option linter.unusedSimpArgs false
open Go.RowKit

theorem same_of (xs ys : List Int) (hl : xs.length = ys.length) (h : ∀ j (h : j < xs.length), xs[j] = ys[j]'(by omega)) : xs = ys := List.ext_getElem hl (fun j h1 _ => h j h1)

end Go.Proofs.Ytpklnlpeedkmdaa
