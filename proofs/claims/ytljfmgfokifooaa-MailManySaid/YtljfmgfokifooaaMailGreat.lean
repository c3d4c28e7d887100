/- Part MailGreat of the proof: made for this claim. -/
import Derived.Test.YtljfmgfokifooaaMailRead
import Derived.Test.YtljfmgfokifooaaShaSpec
set_option linter.unusedVariables false
set_option linter.unusedSimpArgs false
set_option maxRecDepth 100000
namespace Go.VL
def wSum (n : Int) (l : List Int) : Int := l.foldl (fun a k => IntKind.i64.wrap (a + k)) n
def Ent.sz (e : Ent) : Nat := e.pay.length + e.sig.length + e.d.key.length + e.d.val.length
def Mail.n1 (m : Mail) : Int := wSum (IntKind.i64.wrap ((m.pay.length : Int) + (m.auth.sig.length : Int))) (m.auths.map fun a => (a.sig.length : Int))
def Mail.n2 (m : Mail) : Int := wSum m.n1 (m.ents.map fun e => (e.sz : Int))
def Mail.n3 (m : Mail) : Int := wSum m.n2 (m.proofs.map fun s => (s.length : Int))
def Mail.great (m : Mail) : Bool := decide (m.n3 > 8192) || decide ((m.auths.length : Int) > 20) || decide ((m.ents.length : Int) > 20) || decide ((m.proofs.length : Int) > 20)
end Go.VL
