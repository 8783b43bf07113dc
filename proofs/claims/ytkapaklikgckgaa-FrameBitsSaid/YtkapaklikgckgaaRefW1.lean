/-
  The walks of the document's answers for numbers: Take, Uneight, Sign.
-/
import Derived.Test.YtkapaklikgckgaaNumW3
namespace Go.Proofs.Ytkapaklikgckgaa
open Go.RowKit
set_option linter.unusedVariables false

/-- a text's byte, as a list's -/
theorem getD_str {s : ByteArray} {l : List UInt8} (hs : s.data.toList = l) {k : Nat} (hk : k < s.size) : s[k] = l.getD k 0 := by
  subst hs
  have h : k < s.data.size := hk
  show s.data[k] = _
  simp only [List.getD, Array.getElem?_toList, Array.getElem?_eq_getElem h, Option.getD_some]
theorem size_str {s : ByteArray} {l : List UInt8} (hs : s.data.toList = l) : s.size = l.length := by subst hs; rfl




end Go.Proofs.Ytkapaklikgckgaa
