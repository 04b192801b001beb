/- Parts of the proof: FpYg2. -/
import Derived.Test.YtfioikimlnlcbaaGreatDoorYa
namespace Go.Abs.W
theorem hw72 : okH (halfS 72) 72=true:=by decide +kernel
theorem hw73 : okH (halfS 73) 73=true:=by decide +kernel
theorem hw74 : okH (halfS 74) 74=true:=by decide +kernel
theorem hw75 : okH (halfS 75) 75=true:=by decide +kernel
theorem hw76 : okH (halfS 76) 76=true:=by decide +kernel
theorem hw77 : okH (halfS 77) 77=true:=by decide +kernel
theorem hw78 : okH (halfS 78) 78=true:=by decide +kernel
theorem hw79 : okH (halfS 79) 79=true:=by decide +kernel
theorem hw80 : okH (halfS 80) 80=true:=by decide +kernel
theorem hw81 : okH (halfS 81) 81=true:=by decide +kernel
theorem hw82 : okH (halfS 82) 82=true:=by decide +kernel
theorem hw83 : okH (halfS 83) 83=true:=by decide +kernel
theorem hw84 : okH (halfS 84) 84=true:=by decide +kernel
theorem hw85 : okH (halfS 85) 85=true:=by decide +kernel
theorem hw86 : okH (halfS 86) 86=true:=by decide +kernel
theorem hw87 : okH (halfS 87) 87=true:=by decide +kernel
theorem hw88 : okH (halfS 88) 88=true:=by decide +kernel
theorem hw89 : okH (halfS 89) 89=true:=by decide +kernel
theorem hw90 : okH (halfS 90) 90=true:=by decide +kernel
theorem hw91 : okH (halfS 91) 91=true:=by decide +kernel
theorem hw92 : okH (halfS 92) 92=true:=by decide +kernel
theorem hw93 : okH (halfS 93) 93=true:=by decide +kernel
theorem hw94 : okH (halfS 94) 94=true:=by decide +kernel
theorem hw95 : okH (halfS 95) 95=true:=by decide +kernel
theorem hw96 : okH (halfS 96) 96=true:=by decide +kernel
theorem hw97 : okH (halfS 97) 97=true:=by decide +kernel
theorem hw98 : okH (halfS 98) 98=true:=by decide +kernel
theorem hw99 : okH (halfS 99) 99=true:=by decide +kernel
theorem hw100 : okH (halfS 100) 100=true:=by decide +kernel
theorem hw101 : okH (halfS 101) 101=true:=by decide +kernel
theorem hw102 : okH (halfS 102) 102=true:=by decide +kernel
theorem hw103 : okH (halfS 103) 103=true:=by decide +kernel
end Go.Abs.W
