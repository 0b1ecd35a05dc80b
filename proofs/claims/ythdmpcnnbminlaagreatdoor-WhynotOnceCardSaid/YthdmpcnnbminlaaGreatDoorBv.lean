/- The joined base. -/
import Derived.Test.YthdmpcnnbminlaaGreatDoorV40
