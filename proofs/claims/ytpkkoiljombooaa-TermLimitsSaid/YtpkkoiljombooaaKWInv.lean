import Derived.Test.YtpkkoiljombooaaKWTab
namespace Go.Proofs.YtpkkoiljombooaaW.PrintLast
def up (b : Nat → Bool) (i : Nat) : Nat → Bool := fun j => if j = i then true else b j
end Go.Proofs.YtpkkoiljombooaaW.PrintLast
