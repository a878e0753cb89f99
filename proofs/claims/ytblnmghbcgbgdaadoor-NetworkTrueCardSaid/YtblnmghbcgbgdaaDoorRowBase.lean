/-
  What the contracts of a row of numbers stand on, in this seat.
-/
import Derived.Test.YtblnmghbcgbgdaaDoorNumsR
