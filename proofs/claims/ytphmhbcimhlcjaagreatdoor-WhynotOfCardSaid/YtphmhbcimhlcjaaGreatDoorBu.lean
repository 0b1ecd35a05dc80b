/- The joined base. -/
import Derived.Test.YtphmhbcimhlcjaaGreatDoorU41
