/- The facts on the types of this seat's program that the walks ask: printed by facts.sh, each reckoned by the kernel. -/
import Derived.Test.YtkokccjfpebomaaGreatDoorProg
import Derived.Test.YtkokccjfpebomaaGreatDoorA9
import Derived.KernelRfl
namespace Go.Proofs
open Go Go.AL
@[go_sem] theorem Tryz.asize3:qa Tryz.prog 3=some 1:=by kernel_rfl
@[go_sem] theorem Tryz.aagg3:YV Tryz.prog 3=some false:=by kernel_rfl
@[go_sem] theorem Tryz.azero3:Zb Tryz.prog 3=some [.sc (.int .i64 (0))]:=by kernel_rfl
@[go_sem] theorem Tryz.asize4:qa Tryz.prog 4=some 1:=by kernel_rfl
@[go_sem] theorem Tryz.aagg4:YV Tryz.prog 4=some false:=by kernel_rfl
@[go_sem] theorem Tryz.asize5:qa Tryz.prog 5=some 1:=by kernel_rfl
@[go_sem] theorem Tryz.abytes5:Qt Tryz.prog 5=some 1:=by kernel_rfl
@[go_sem] theorem Tryz.aagg5:YV Tryz.prog 5=some false:=by kernel_rfl
@[go_sem] theorem Tryz.azero5:Zb Tryz.prog 5=some [.sc (.int .u8 (0))]:=by kernel_rfl
@[go_sem] theorem Tryz.asize9:qa Tryz.prog 9=some 1:=by kernel_rfl
@[go_sem] theorem Tryz.abytes9:Qt Tryz.prog 9=some 16:=by kernel_rfl
@[go_sem] theorem Tryz.aagg9:YV Tryz.prog 9=some false:=by kernel_rfl
@[go_sem] theorem Tryz.aund9:Tryz.prog.underlying 9=some .string:=by kernel_rfl
@[go_sem] theorem Tryz.azero9:Zb Tryz.prog 9=some [.sc (.string ⟨#[]⟩)]:=by kernel_rfl
@[go_sem] theorem Tryz.asize23:qa Tryz.prog 23=some 1:=by kernel_rfl
@[go_sem] theorem Tryz.aagg23:YV Tryz.prog 23=some false:=by kernel_rfl
@[go_sem] theorem Tryz.aelem23:zU Tryz.prog 23=some 9:=by kernel_rfl
@[go_sem] theorem Tryz.asize24:qa Tryz.prog 24=some 1:=by kernel_rfl
@[go_sem] theorem Tryz.aagg24:YV Tryz.prog 24=some false:=by kernel_rfl
@[go_sem] theorem Tryz.aelem24:zU Tryz.prog 24=some 26:=by kernel_rfl
@[go_sem] theorem Tryz.asize26:qa Tryz.prog 26=some 6:=by kernel_rfl
@[go_sem] theorem Tryz.abytes26:Qt Tryz.prog 26=some 88:=by kernel_rfl
@[go_sem] theorem Tryz.aagg26:YV Tryz.prog 26=some true:=by kernel_rfl
@[go_sem] theorem Tryz.afield26_0:qe Tryz.prog 26 0=some (0,1):=by kernel_rfl
@[go_sem] theorem Tryz.afield26_1:qe Tryz.prog 26 1=some (1,1):=by kernel_rfl
@[go_sem] theorem Tryz.afield26_2:qe Tryz.prog 26 2=some (2,1):=by kernel_rfl
@[go_sem] theorem Tryz.afield26_3:qe Tryz.prog 26 3=some (3,1):=by kernel_rfl
@[go_sem] theorem Tryz.afield26_4:qe Tryz.prog 26 4=some (4,1):=by kernel_rfl
@[go_sem] theorem Tryz.afield26_5:qe Tryz.prog 26 5=some (5,1):=by kernel_rfl
@[go_sem] theorem Tryz.afieldsok26:Qf Tryz.prog 26=true:=by kernel_rfl
@[go_sem] theorem Tryz.azero26:Zb Tryz.prog 26=some [.sc (.int .i64 (0)),.sc (.string ⟨#[]⟩),.sc (.int .i64 (0)),.sc (.int .i64 (0)),.slice .full 0 [],.slice .full 0 []]:=by kernel_rfl
@[go_sem] theorem Tryz.asize27:qa Tryz.prog 27=some 1:=by kernel_rfl
@[go_sem] theorem Tryz.aagg27:YV Tryz.prog 27=some false:=by kernel_rfl
@[go_sem] theorem Tryz.asize43:qa Tryz.prog 43=some 1:=by kernel_rfl
@[go_sem] theorem Tryz.aagg43:YV Tryz.prog 43=some false:=by kernel_rfl
@[go_sem] theorem Tryz.aelem43:zU Tryz.prog 43=some 47:=by kernel_rfl
@[go_sem] theorem Tryz.asize47:qa Tryz.prog 47=some 4:=by kernel_rfl
@[go_sem] theorem Tryz.abytes47:Qt Tryz.prog 47=some 40:=by kernel_rfl
@[go_sem] theorem Tryz.aagg47:YV Tryz.prog 47=some true:=by kernel_rfl
@[go_sem] theorem Tryz.afield47_0:qe Tryz.prog 47 0=some (0,1):=by kernel_rfl
@[go_sem] theorem Tryz.afield47_1:qe Tryz.prog 47 1=some (1,1):=by kernel_rfl
@[go_sem] theorem Tryz.afield47_2:qe Tryz.prog 47 2=some (2,1):=by kernel_rfl
@[go_sem] theorem Tryz.afield47_3:qe Tryz.prog 47 3=some (3,1):=by kernel_rfl
@[go_sem] theorem Tryz.afieldsok47:Qf Tryz.prog 47=true:=by kernel_rfl
@[go_sem] theorem Tryz.azero47:Zb Tryz.prog 47=some [.sc (.int .i64 (0)),.sc (.string ⟨#[]⟩),.sc (.int .i64 (0)),.sc (.int .i64 (0))]:=by kernel_rfl
@[go_sem] theorem Tryz.afield50_0:qe Tryz.prog 50 0=some (0,1):=by kernel_rfl
@[go_sem] theorem Tryz.afield50_1:qe Tryz.prog 50 1=some (1,1):=by kernel_rfl
@[go_sem] theorem Tryz.afield50_2:qe Tryz.prog 50 2=some (2,1):=by kernel_rfl
@[go_sem] theorem Tryz.afield50_3:qe Tryz.prog 50 3=some (3,1):=by kernel_rfl
@[go_sem] theorem Tryz.afield50_4:qe Tryz.prog 50 4=some (4,1):=by kernel_rfl
@[go_sem] theorem Tryz.afield50_5:qe Tryz.prog 50 5=some (5,1):=by kernel_rfl
@[go_sem] theorem Tryz.afieldsok50:Qf Tryz.prog 50=true:=by kernel_rfl
@[go_sem] theorem Tryz.azero50:Zb Tryz.prog 50=some [.slice .full 0 [],.sc (.int .i64 (0)),.sc (.int .i64 (0)),.sc (.int .i64 (0)),.sc (.bool false),.sc (.int .i64 (0))]:=by kernel_rfl
@[go_sem] theorem Tryz.asize68:qa Tryz.prog 68=some 1:=by kernel_rfl
@[go_sem] theorem Tryz.aagg68:YV Tryz.prog 68=some false:=by kernel_rfl
@[go_sem] theorem Tryz.afield70_0:qe Tryz.prog 70 0=some (0,1):=by kernel_rfl
@[go_sem] theorem Tryz.afield70_1:qe Tryz.prog 70 1=some (1,1):=by kernel_rfl
@[go_sem] theorem Tryz.afield70_2:qe Tryz.prog 70 2=some (2,1):=by kernel_rfl
@[go_sem] theorem Tryz.afield70_3:qe Tryz.prog 70 3=some (3,1):=by kernel_rfl
@[go_sem] theorem Tryz.afield70_4:qe Tryz.prog 70 4=some (4,1):=by kernel_rfl
@[go_sem] theorem Tryz.afield70_5:qe Tryz.prog 70 5=some (5,1):=by kernel_rfl
@[go_sem] theorem Tryz.afieldsok70:Qf Tryz.prog 70=true:=by kernel_rfl
@[go_sem] theorem Tryz.azero70:Zb Tryz.prog 70=some [.slice .full 0 [],.sc (.int .i64 (0)),.sc (.int .i64 (0)),.sc (.bool false),.sc (.int .i64 (0)),.sc (.int .i64 (0))]:=by kernel_rfl
@[go_sem] theorem Tryz.aelem77:zU Tryz.prog 77=some 5:=by kernel_rfl
@[go_sem] theorem Tryz.afield90_0:qe Tryz.prog 90 0=some (0,1):=by kernel_rfl
@[go_sem] theorem Tryz.afield90_1:qe Tryz.prog 90 1=some (1,1):=by kernel_rfl
@[go_sem] theorem Tryz.afieldsok90:Qf Tryz.prog 90=true:=by kernel_rfl
@[go_sem] theorem Tryz.azero90:Zb Tryz.prog 90=some [.sc (.string ⟨#[]⟩),.sc (.int .i64 (0))]:=by kernel_rfl
@[go_sem] theorem Tryz.aarr101:Xw Tryz.prog 101=some (24,1):=by kernel_rfl
@[go_sem] theorem Tryz.azero101:Zb Tryz.prog 101=some [.sc (.int .u8 (0)),.sc (.int .u8 (0)),.sc (.int .u8 (0)),.sc (.int .u8 (0)),.sc (.int .u8 (0)),.sc (.int .u8 (0)),.sc (.int .u8 (0)),.sc (.int .u8 (0)),.sc (.int .u8 (0)),.sc (.int .u8 (0)),.sc (.int .u8 (0)),.sc (.int .u8 (0)),.sc (.int .u8 (0)),.sc (.int .u8 (0)),.sc (.int .u8 (0)),.sc (.int .u8 (0)),.sc (.int .u8 (0)),.sc (.int .u8 (0)),.sc (.int .u8 (0)),.sc (.int .u8 (0)),.sc (.int .u8 (0)),.sc (.int .u8 (0)),.sc (.int .u8 (0)),.sc (.int .u8 (0))]:=by kernel_rfl
@[go_sem] theorem Tryz.asize102:qa Tryz.prog 102=some 16:=by kernel_rfl
@[go_sem] theorem Tryz.aagg102:YV Tryz.prog 102=some true:=by kernel_rfl
@[go_sem] theorem Tryz.aarr102:Xw Tryz.prog 102=some (16,1):=by kernel_rfl
@[go_sem] theorem Tryz.azero102:Zb Tryz.prog 102=some [.sc (.int .u8 (0)),.sc (.int .u8 (0)),.sc (.int .u8 (0)),.sc (.int .u8 (0)),.sc (.int .u8 (0)),.sc (.int .u8 (0)),.sc (.int .u8 (0)),.sc (.int .u8 (0)),.sc (.int .u8 (0)),.sc (.int .u8 (0)),.sc (.int .u8 (0)),.sc (.int .u8 (0)),.sc (.int .u8 (0)),.sc (.int .u8 (0)),.sc (.int .u8 (0)),.sc (.int .u8 (0))]:=by kernel_rfl
@[go_sem] theorem Tryz.aelem112:zU Tryz.prog 112=some 3:=by kernel_rfl
theorem Tryz.amap139:zc6 Tryz.prog 139=some (5,.int .u8,5):=by kernel_rfl
theorem Tryz.amap149:zc6 Tryz.prog 149=some (3,.int .i64,3):=by kernel_rfl
theorem Tryz.zeroSV3:Y2 Tryz.prog 3=some (.sc (.int .i64 (0))):=by kernel_rfl
@[go_sem] theorem Tryz.abody9:zQ Tryz.prog 9=true:=by kernel_rfl
@[go_sem] theorem Tryz.abody10:zQ Tryz.prog 10=true:=by kernel_rfl
@[go_sem] theorem Tryz.abody11:zQ Tryz.prog 11=true:=by kernel_rfl
@[go_sem] theorem Tryz.abody12:zQ Tryz.prog 12=true:=by kernel_rfl
@[go_sem] theorem Tryz.abody13:zQ Tryz.prog 13=true:=by kernel_rfl
@[go_sem] theorem Tryz.abody14:zQ Tryz.prog 14=true:=by kernel_rfl
@[go_sem] theorem Tryz.abody18:zQ Tryz.prog 18=true:=by kernel_rfl
@[go_sem] theorem Tryz.abody19:zQ Tryz.prog 19=true:=by kernel_rfl
@[go_sem] theorem Tryz.abody20:zQ Tryz.prog 20=true:=by kernel_rfl
@[go_sem] theorem Tryz.abody21:zQ Tryz.prog 21=true:=by kernel_rfl
@[go_sem] theorem Tryz.abody22:zQ Tryz.prog 22=true:=by kernel_rfl
@[go_sem] theorem Tryz.abody23:zQ Tryz.prog 23=true:=by kernel_rfl
@[go_sem] theorem Tryz.abody24:zQ Tryz.prog 24=true:=by kernel_rfl
@[go_sem] theorem Tryz.abody25:zQ Tryz.prog 25=true:=by kernel_rfl
@[go_sem] theorem Tryz.abody26:zQ Tryz.prog 26=true:=by kernel_rfl
@[go_sem] theorem Tryz.abody27:zQ Tryz.prog 27=true:=by kernel_rfl
@[go_sem] theorem Tryz.abody28:zQ Tryz.prog 28=true:=by kernel_rfl
@[go_sem] theorem Tryz.abody29:zQ Tryz.prog 29=true:=by kernel_rfl
@[go_sem] theorem Tryz.abody30:zQ Tryz.prog 30=true:=by kernel_rfl
@[go_sem] theorem Tryz.abody33:zQ Tryz.prog 33=true:=by kernel_rfl
@[go_sem] theorem Tryz.abody34:zQ Tryz.prog 34=true:=by kernel_rfl
@[go_sem] theorem Tryz.abody35:zQ Tryz.prog 35=true:=by kernel_rfl
@[go_sem] theorem Tryz.abody36:zQ Tryz.prog 36=true:=by kernel_rfl
@[go_sem] theorem Tryz.abody37:zQ Tryz.prog 37=true:=by kernel_rfl
@[go_sem] theorem Tryz.abody38:zQ Tryz.prog 38=true:=by kernel_rfl
@[go_sem] theorem Tryz.abody39:zQ Tryz.prog 39=true:=by kernel_rfl
@[go_sem] theorem Tryz.abody40:zQ Tryz.prog 40=true:=by kernel_rfl
@[go_sem] theorem Tryz.abody41:zQ Tryz.prog 41=true:=by kernel_rfl
@[go_sem] theorem Tryz.abody42:zQ Tryz.prog 42=true:=by kernel_rfl
@[go_sem] theorem Tryz.abody43:zQ Tryz.prog 43=true:=by kernel_rfl
@[go_sem] theorem Tryz.abody44:zQ Tryz.prog 44=true:=by kernel_rfl
@[go_sem] theorem Tryz.abody45:zQ Tryz.prog 45=true:=by kernel_rfl
@[go_sem] theorem Tryz.abody46:zQ Tryz.prog 46=true:=by kernel_rfl
@[go_sem] theorem Tryz.abody47:zQ Tryz.prog 47=true:=by kernel_rfl
@[go_sem] theorem Tryz.abody48:zQ Tryz.prog 48=true:=by kernel_rfl
@[go_sem] theorem Tryz.abody49:zQ Tryz.prog 49=true:=by kernel_rfl
@[go_sem] theorem Tryz.abody53:zQ Tryz.prog 53=true:=by kernel_rfl
@[go_sem] theorem Tryz.abody54:zQ Tryz.prog 54=true:=by kernel_rfl
@[go_sem] theorem Tryz.abody55:zQ Tryz.prog 55=true:=by kernel_rfl
@[go_sem] theorem Tryz.abody56:zQ Tryz.prog 56=true:=by kernel_rfl
@[go_sem] theorem Tryz.abody57:zQ Tryz.prog 57=true:=by kernel_rfl
@[go_sem] theorem Tryz.abody58:zQ Tryz.prog 58=true:=by kernel_rfl
@[go_sem] theorem Tryz.abody59:zQ Tryz.prog 59=true:=by kernel_rfl
@[go_sem] theorem Tryz.abody60:zQ Tryz.prog 60=true:=by kernel_rfl
@[go_sem] theorem Tryz.abody64:zQ Tryz.prog 64=true:=by kernel_rfl
@[go_sem] theorem Tryz.abody65:zQ Tryz.prog 65=true:=by kernel_rfl
@[go_sem] theorem Tryz.abody66:zQ Tryz.prog 66=true:=by kernel_rfl
@[go_sem] theorem Tryz.abody67:zQ Tryz.prog 67=true:=by kernel_rfl
@[go_sem] theorem Tryz.abody68:zQ Tryz.prog 68=true:=by kernel_rfl
@[go_sem] theorem Tryz.abody69:zQ Tryz.prog 69=true:=by kernel_rfl
@[go_sem] theorem Tryz.abody70:zQ Tryz.prog 70=true:=by kernel_rfl
@[go_sem] theorem Tryz.abody71:zQ Tryz.prog 71=true:=by kernel_rfl
@[go_sem] theorem Tryz.abody72:zQ Tryz.prog 72=true:=by kernel_rfl
@[go_sem] theorem Tryz.abody73:zQ Tryz.prog 73=true:=by kernel_rfl
@[go_sem] theorem Tryz.abody74:zQ Tryz.prog 74=true:=by kernel_rfl
@[go_sem] theorem Tryz.abody75:zQ Tryz.prog 75=true:=by kernel_rfl
@[go_sem] theorem Tryz.abody76:zQ Tryz.prog 76=true:=by kernel_rfl
@[go_sem] theorem Tryz.abody77:zQ Tryz.prog 77=true:=by kernel_rfl
@[go_sem] theorem Tryz.abody78:zQ Tryz.prog 78=true:=by kernel_rfl
@[go_sem] theorem Tryz.abody80:zQ Tryz.prog 80=true:=by kernel_rfl
@[go_sem] theorem Tryz.abody84:zQ Tryz.prog 84=true:=by kernel_rfl
@[go_sem] theorem Tryz.abody85:zQ Tryz.prog 85=true:=by kernel_rfl
@[go_sem] theorem Tryz.abody86:zQ Tryz.prog 86=true:=by kernel_rfl
@[go_sem] theorem Tryz.abody89:zQ Tryz.prog 89=true:=by kernel_rfl
@[go_sem] theorem Tryz.abody90:zQ Tryz.prog 90=true:=by kernel_rfl
@[go_sem] theorem Tryz.abody91:zQ Tryz.prog 91=true:=by kernel_rfl
@[go_sem] theorem Tryz.abody92:zQ Tryz.prog 92=true:=by kernel_rfl
@[go_sem] theorem Tryz.abody93:zQ Tryz.prog 93=true:=by kernel_rfl
@[go_sem] theorem Tryz.abody94:zQ Tryz.prog 94=true:=by kernel_rfl
@[go_sem] theorem Tryz.abody95:zQ Tryz.prog 95=true:=by kernel_rfl
@[go_sem] theorem Tryz.abody96:zQ Tryz.prog 96=true:=by kernel_rfl
@[go_sem] theorem Tryz.abody97:zQ Tryz.prog 97=true:=by kernel_rfl
@[go_sem] theorem Tryz.abody98:zQ Tryz.prog 98=true:=by kernel_rfl
@[go_sem] theorem Tryz.abody99:zQ Tryz.prog 99=true:=by kernel_rfl
@[go_sem] theorem Tryz.abody100:zQ Tryz.prog 100=true:=by kernel_rfl
@[go_sem] theorem Tryz.abody101:zQ Tryz.prog 101=true:=by kernel_rfl
@[go_sem] theorem Tryz.abody102:zQ Tryz.prog 102=true:=by kernel_rfl
@[go_sem] theorem Tryz.abody103:zQ Tryz.prog 103=true:=by kernel_rfl
@[go_sem] theorem Tryz.abody104:zQ Tryz.prog 104=true:=by kernel_rfl
@[go_sem] theorem Tryz.abody105:zQ Tryz.prog 105=true:=by kernel_rfl
@[go_sem] theorem Tryz.abody107:zQ Tryz.prog 107=true:=by kernel_rfl
@[go_sem] theorem Tryz.abody108:zQ Tryz.prog 108=true:=by kernel_rfl
@[go_sem] theorem Tryz.abody110:zQ Tryz.prog 110=true:=by kernel_rfl
@[go_sem] theorem Tryz.abody113:zQ Tryz.prog 113=true:=by kernel_rfl
@[go_sem] theorem Tryz.abody114:zQ Tryz.prog 114=true:=by kernel_rfl
@[go_sem] theorem Tryz.abody115:zQ Tryz.prog 115=true:=by kernel_rfl
@[go_sem] theorem Tryz.abody116:zQ Tryz.prog 116=true:=by kernel_rfl
@[go_sem] theorem Tryz.abody118:zQ Tryz.prog 118=true:=by kernel_rfl
@[go_sem] theorem Tryz.abody119:zQ Tryz.prog 119=true:=by kernel_rfl
@[go_sem] theorem Tryz.abody120:zQ Tryz.prog 120=true:=by kernel_rfl
@[go_sem] theorem Tryz.abody121:zQ Tryz.prog 121=true:=by kernel_rfl
@[go_sem] theorem Tryz.abody122:zQ Tryz.prog 122=true:=by kernel_rfl
@[go_sem] theorem Tryz.abody123:zQ Tryz.prog 123=true:=by kernel_rfl
@[go_sem] theorem Tryz.abody124:zQ Tryz.prog 124=true:=by kernel_rfl
@[go_sem] theorem Tryz.abody125:zQ Tryz.prog 125=true:=by kernel_rfl
@[go_sem] theorem Tryz.abody126:zQ Tryz.prog 126=true:=by kernel_rfl
@[go_sem] theorem Tryz.abody127:zQ Tryz.prog 127=true:=by kernel_rfl
@[go_sem] theorem Tryz.abody132:zQ Tryz.prog 132=true:=by kernel_rfl
@[go_sem] theorem Tryz.abody133:zQ Tryz.prog 133=true:=by kernel_rfl
@[go_sem] theorem Tryz.abody134:zQ Tryz.prog 134=true:=by kernel_rfl
@[go_sem] theorem Tryz.abody135:zQ Tryz.prog 135=true:=by kernel_rfl
@[go_sem] theorem Tryz.abody139:zQ Tryz.prog 139=true:=by kernel_rfl
@[go_sem] theorem Tryz.abody140:zQ Tryz.prog 140=true:=by kernel_rfl
@[go_sem] theorem Tryz.abody141:zQ Tryz.prog 141=true:=by kernel_rfl
@[go_sem] theorem Tryz.abody142:zQ Tryz.prog 142=true:=by kernel_rfl
@[go_sem] theorem Tryz.abody143:zQ Tryz.prog 143=true:=by kernel_rfl
@[go_sem] theorem Tryz.abody147:zQ Tryz.prog 147=true:=by kernel_rfl
@[go_sem] theorem Tryz.abody148:zQ Tryz.prog 148=true:=by kernel_rfl
@[go_sem] theorem Tryz.abody150:zQ Tryz.prog 150=true:=by kernel_rfl
@[go_sem] theorem Tryz.abody151:zQ Tryz.prog 151=true:=by kernel_rfl
@[go_sem] theorem Tryz.abody152:zQ Tryz.prog 152=true:=by kernel_rfl
@[go_sem] theorem Tryz.abody153:zQ Tryz.prog 153=true:=by kernel_rfl
@[go_sem] theorem Tryz.abody154:zQ Tryz.prog 154=true:=by kernel_rfl
@[go_sem] theorem Tryz.abody155:zQ Tryz.prog 155=true:=by kernel_rfl
@[go_sem] theorem Tryz.abody156:zQ Tryz.prog 156=true:=by kernel_rfl
@[go_sem] theorem Tryz.abody157:zQ Tryz.prog 157=true:=by kernel_rfl
@[go_sem] theorem Tryz.abody161:zQ Tryz.prog 161=true:=by kernel_rfl
@[go_sem] theorem Tryz.abody162:zQ Tryz.prog 162=true:=by kernel_rfl
@[go_sem] theorem Tryz.abody163:zQ Tryz.prog 163=true:=by kernel_rfl
@[go_sem] theorem Tryz.abody164:zQ Tryz.prog 164=true:=by kernel_rfl
@[go_sem] theorem Tryz.abody165:zQ Tryz.prog 165=true:=by kernel_rfl
@[go_sem] theorem Tryz.abody172:zQ Tryz.prog 172=true:=by kernel_rfl
@[go_sem] theorem Tryz.mixed:Tryz.prog.follows .mixedOrders=true:=by kernel_rfl
end Go.Proofs
