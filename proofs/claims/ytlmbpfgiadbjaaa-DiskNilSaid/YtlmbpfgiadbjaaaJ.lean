/-
  The calculus, whole.
-/
import Derived.Test.YtlmbpfgiadbjaaaJi
