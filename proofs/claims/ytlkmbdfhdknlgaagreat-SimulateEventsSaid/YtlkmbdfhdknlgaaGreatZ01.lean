/- The package variables of t -/
import Derived.ProofKit
namespace Go.Can
def QM:List (Nat×List Value):=[]
end Go.Can
