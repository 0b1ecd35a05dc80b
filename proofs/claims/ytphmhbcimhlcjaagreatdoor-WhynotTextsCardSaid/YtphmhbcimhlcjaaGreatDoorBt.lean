/- The joined base. -/
import Derived.Test.YtphmhbcimhlcjaaGreatDoorT37
