/- Parts of the proof: FpYg1. -/
import Derived.Test.YtfioikimlnlcbaaGreatDoorYa
namespace Go.Abs.W
theorem hw40 : okH (halfS 40) 40=true:=by decide +kernel
theorem hw41 : okH (halfS 41) 41=true:=by decide +kernel
theorem hw42 : okH (halfS 42) 42=true:=by decide +kernel
theorem hw43 : okH (halfS 43) 43=true:=by decide +kernel
theorem hw44 : okH (halfS 44) 44=true:=by decide +kernel
theorem hw45 : okH (halfS 45) 45=true:=by decide +kernel
theorem hw46 : okH (halfS 46) 46=true:=by decide +kernel
theorem hw47 : okH (halfS 47) 47=true:=by decide +kernel
theorem hw48 : okH (halfS 48) 48=true:=by decide +kernel
theorem hw49 : okH (halfS 49) 49=true:=by decide +kernel
theorem hw50 : okH (halfS 50) 50=true:=by decide +kernel
theorem hw51 : okH (halfS 51) 51=true:=by decide +kernel
theorem hw52 : okH (halfS 52) 52=true:=by decide +kernel
theorem hw53 : okH (halfS 53) 53=true:=by decide +kernel
theorem hw54 : okH (halfS 54) 54=true:=by decide +kernel
theorem hw55 : okH (halfS 55) 55=true:=by decide +kernel
theorem hw56 : okH (halfS 56) 56=true:=by decide +kernel
theorem hw57 : okH (halfS 57) 57=true:=by decide +kernel
theorem hw58 : okH (halfS 58) 58=true:=by decide +kernel
theorem hw59 : okH (halfS 59) 59=true:=by decide +kernel
theorem hw60 : okH (halfS 60) 60=true:=by decide +kernel
theorem hw61 : okH (halfS 61) 61=true:=by decide +kernel
theorem hw62 : okH (halfS 62) 62=true:=by decide +kernel
theorem hw63 : okH (halfS 63) 63=true:=by decide +kernel
theorem hw64 : okH (halfS 64) 64=true:=by decide +kernel
theorem hw65 : okH (halfS 65) 65=true:=by decide +kernel
theorem hw66 : okH (halfS 66) 66=true:=by decide +kernel
theorem hw67 : okH (halfS 67) 67=true:=by decide +kernel
theorem hw68 : okH (halfS 68) 68=true:=by decide +kernel
theorem hw69 : okH (halfS 69) 69=true:=by decide +kernel
theorem hw70 : okH (halfS 70) 70=true:=by decide +kernel
theorem hw71 : okH (halfS 71) 71=true:=by decide +kernel
end Go.Abs.W
