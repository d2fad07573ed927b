/-
  All that the laws of chapter 14 stand on.
-/
import Derived.Test.YtjodmedgkmeklaaGreatJ39
import Derived.Test.YtjodmedgkmeklaaGreatJ40
