/- In chapter 11's seats the texts of chapter 8 stand for those of chapter 3. -/
import Derived.Test.YtebdnobgdimdoaaCrs6
import Derived.Test.YtebdnobgdimdoaaRow
