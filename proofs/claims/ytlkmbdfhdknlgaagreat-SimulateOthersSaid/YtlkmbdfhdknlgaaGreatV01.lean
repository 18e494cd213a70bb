/- The package variables of t -/
import Derived.ProofKit
namespace Go.Can
def NG:List (Nat×List Value):=[]
end Go.Can
