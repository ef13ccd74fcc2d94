/- nothing -/
import Derived.Test.YtlglkgineclggaaDoorZRTWE
