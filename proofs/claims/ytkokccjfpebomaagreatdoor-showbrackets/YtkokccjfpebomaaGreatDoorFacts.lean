/- The facts on the types of this seat's program that the walks ask: printed by facts.sh, each reckoned by the kernel. -/
import Derived.Test.YtkokccjfpebomaaGreatDoorProg
import Derived.Test.YtkokccjfpebomaaGreatDoorA9
import Derived.KernelRfl
namespace Go.Proofs
open Go Go.AL
@[go_sem] theorem Tryz.asize3:qd Tryz.prog 3=some 1:=by kernel_rfl
@[go_sem] theorem Tryz.aagg3:Jh Tryz.prog 3=some false:=by kernel_rfl
@[go_sem] theorem Tryz.azero3:Zj Tryz.prog 3=some [.sc (.int .i64 (0))]:=by kernel_rfl
@[go_sem] theorem Tryz.asize4:qd Tryz.prog 4=some 1:=by kernel_rfl
@[go_sem] theorem Tryz.aagg4:Jh Tryz.prog 4=some false:=by kernel_rfl
@[go_sem] theorem Tryz.asize5:qd Tryz.prog 5=some 1:=by kernel_rfl
@[go_sem] theorem Tryz.abytes5:QH Tryz.prog 5=some 1:=by kernel_rfl
@[go_sem] theorem Tryz.aagg5:Jh Tryz.prog 5=some false:=by kernel_rfl
@[go_sem] theorem Tryz.azero5:Zj Tryz.prog 5=some [.sc (.int .u8 (0))]:=by kernel_rfl
@[go_sem] theorem Tryz.asize9:qd Tryz.prog 9=some 1:=by kernel_rfl
@[go_sem] theorem Tryz.abytes9:QH Tryz.prog 9=some 16:=by kernel_rfl
@[go_sem] theorem Tryz.aagg9:Jh Tryz.prog 9=some false:=by kernel_rfl
@[go_sem] theorem Tryz.aund9:Tryz.prog.underlying 9=some .string:=by kernel_rfl
@[go_sem] theorem Tryz.azero9:Zj Tryz.prog 9=some [.sc (.string ⟨#[]⟩)]:=by kernel_rfl
@[go_sem] theorem Tryz.asize23:qd Tryz.prog 23=some 1:=by kernel_rfl
@[go_sem] theorem Tryz.aagg23:Jh Tryz.prog 23=some false:=by kernel_rfl
@[go_sem] theorem Tryz.aelem23:zY Tryz.prog 23=some 9:=by kernel_rfl
@[go_sem] theorem Tryz.asize24:qd Tryz.prog 24=some 1:=by kernel_rfl
@[go_sem] theorem Tryz.aagg24:Jh Tryz.prog 24=some false:=by kernel_rfl
@[go_sem] theorem Tryz.aelem24:zY Tryz.prog 24=some 26:=by kernel_rfl
@[go_sem] theorem Tryz.asize26:qd Tryz.prog 26=some 6:=by kernel_rfl
@[go_sem] theorem Tryz.abytes26:QH Tryz.prog 26=some 88:=by kernel_rfl
@[go_sem] theorem Tryz.aagg26:Jh Tryz.prog 26=some true:=by kernel_rfl
@[go_sem] theorem Tryz.afield26_0:qk Tryz.prog 26 0=some (0,1):=by kernel_rfl
@[go_sem] theorem Tryz.afield26_1:qk Tryz.prog 26 1=some (1,1):=by kernel_rfl
@[go_sem] theorem Tryz.afield26_2:qk Tryz.prog 26 2=some (2,1):=by kernel_rfl
@[go_sem] theorem Tryz.afield26_3:qk Tryz.prog 26 3=some (3,1):=by kernel_rfl
@[go_sem] theorem Tryz.afield26_4:qk Tryz.prog 26 4=some (4,1):=by kernel_rfl
@[go_sem] theorem Tryz.afield26_5:qk Tryz.prog 26 5=some (5,1):=by kernel_rfl
@[go_sem] theorem Tryz.afieldsok26:Qr Tryz.prog 26=true:=by kernel_rfl
@[go_sem] theorem Tryz.azero26:Zj Tryz.prog 26=some [.sc (.int .i64 (0)),.sc (.string ⟨#[]⟩),.sc (.int .i64 (0)),.sc (.int .i64 (0)),.slice .full 0 [],.slice .full 0 []]:=by kernel_rfl
@[go_sem] theorem Tryz.asize27:qd Tryz.prog 27=some 1:=by kernel_rfl
@[go_sem] theorem Tryz.aagg27:Jh Tryz.prog 27=some false:=by kernel_rfl
@[go_sem] theorem Tryz.asize43:qd Tryz.prog 43=some 1:=by kernel_rfl
@[go_sem] theorem Tryz.aagg43:Jh Tryz.prog 43=some false:=by kernel_rfl
@[go_sem] theorem Tryz.aelem43:zY Tryz.prog 43=some 47:=by kernel_rfl
@[go_sem] theorem Tryz.asize47:qd Tryz.prog 47=some 4:=by kernel_rfl
@[go_sem] theorem Tryz.abytes47:QH Tryz.prog 47=some 40:=by kernel_rfl
@[go_sem] theorem Tryz.aagg47:Jh Tryz.prog 47=some true:=by kernel_rfl
@[go_sem] theorem Tryz.afield47_0:qk Tryz.prog 47 0=some (0,1):=by kernel_rfl
@[go_sem] theorem Tryz.afield47_1:qk Tryz.prog 47 1=some (1,1):=by kernel_rfl
@[go_sem] theorem Tryz.afield47_2:qk Tryz.prog 47 2=some (2,1):=by kernel_rfl
@[go_sem] theorem Tryz.afield47_3:qk Tryz.prog 47 3=some (3,1):=by kernel_rfl
@[go_sem] theorem Tryz.afieldsok47:Qr Tryz.prog 47=true:=by kernel_rfl
@[go_sem] theorem Tryz.azero47:Zj Tryz.prog 47=some [.sc (.int .i64 (0)),.sc (.string ⟨#[]⟩),.sc (.int .i64 (0)),.sc (.int .i64 (0))]:=by kernel_rfl
@[go_sem] theorem Tryz.afield50_0:qk Tryz.prog 50 0=some (0,1):=by kernel_rfl
@[go_sem] theorem Tryz.afield50_1:qk Tryz.prog 50 1=some (1,1):=by kernel_rfl
@[go_sem] theorem Tryz.afield50_2:qk Tryz.prog 50 2=some (2,1):=by kernel_rfl
@[go_sem] theorem Tryz.afield50_3:qk Tryz.prog 50 3=some (3,1):=by kernel_rfl
@[go_sem] theorem Tryz.afield50_4:qk Tryz.prog 50 4=some (4,1):=by kernel_rfl
@[go_sem] theorem Tryz.afield50_5:qk Tryz.prog 50 5=some (5,1):=by kernel_rfl
@[go_sem] theorem Tryz.afieldsok50:Qr Tryz.prog 50=true:=by kernel_rfl
@[go_sem] theorem Tryz.azero50:Zj Tryz.prog 50=some [.slice .full 0 [],.sc (.int .i64 (0)),.sc (.int .i64 (0)),.sc (.int .i64 (0)),.sc (.bool false),.sc (.int .i64 (0))]:=by kernel_rfl
@[go_sem] theorem Tryz.asize68:qd Tryz.prog 68=some 1:=by kernel_rfl
@[go_sem] theorem Tryz.aagg68:Jh Tryz.prog 68=some false:=by kernel_rfl
@[go_sem] theorem Tryz.afield70_0:qk Tryz.prog 70 0=some (0,1):=by kernel_rfl
@[go_sem] theorem Tryz.afield70_1:qk Tryz.prog 70 1=some (1,1):=by kernel_rfl
@[go_sem] theorem Tryz.afield70_2:qk Tryz.prog 70 2=some (2,1):=by kernel_rfl
@[go_sem] theorem Tryz.afield70_3:qk Tryz.prog 70 3=some (3,1):=by kernel_rfl
@[go_sem] theorem Tryz.afield70_4:qk Tryz.prog 70 4=some (4,1):=by kernel_rfl
@[go_sem] theorem Tryz.afield70_5:qk Tryz.prog 70 5=some (5,1):=by kernel_rfl
@[go_sem] theorem Tryz.afieldsok70:Qr Tryz.prog 70=true:=by kernel_rfl
@[go_sem] theorem Tryz.azero70:Zj Tryz.prog 70=some [.slice .full 0 [],.sc (.int .i64 (0)),.sc (.int .i64 (0)),.sc (.bool false),.sc (.int .i64 (0)),.sc (.int .i64 (0))]:=by kernel_rfl
@[go_sem] theorem Tryz.aelem77:zY Tryz.prog 77=some 5:=by kernel_rfl
@[go_sem] theorem Tryz.afield90_0:qk Tryz.prog 90 0=some (0,1):=by kernel_rfl
@[go_sem] theorem Tryz.afield90_1:qk Tryz.prog 90 1=some (1,1):=by kernel_rfl
@[go_sem] theorem Tryz.afieldsok90:Qr Tryz.prog 90=true:=by kernel_rfl
@[go_sem] theorem Tryz.azero90:Zj Tryz.prog 90=some [.sc (.string ⟨#[]⟩),.sc (.int .i64 (0))]:=by kernel_rfl
@[go_sem] theorem Tryz.aarr101:XL Tryz.prog 101=some (24,1):=by kernel_rfl
@[go_sem] theorem Tryz.azero101:Zj Tryz.prog 101=some [.sc (.int .u8 (0)),.sc (.int .u8 (0)),.sc (.int .u8 (0)),.sc (.int .u8 (0)),.sc (.int .u8 (0)),.sc (.int .u8 (0)),.sc (.int .u8 (0)),.sc (.int .u8 (0)),.sc (.int .u8 (0)),.sc (.int .u8 (0)),.sc (.int .u8 (0)),.sc (.int .u8 (0)),.sc (.int .u8 (0)),.sc (.int .u8 (0)),.sc (.int .u8 (0)),.sc (.int .u8 (0)),.sc (.int .u8 (0)),.sc (.int .u8 (0)),.sc (.int .u8 (0)),.sc (.int .u8 (0)),.sc (.int .u8 (0)),.sc (.int .u8 (0)),.sc (.int .u8 (0)),.sc (.int .u8 (0))]:=by kernel_rfl
@[go_sem] theorem Tryz.asize102:qd Tryz.prog 102=some 16:=by kernel_rfl
@[go_sem] theorem Tryz.aagg102:Jh Tryz.prog 102=some true:=by kernel_rfl
@[go_sem] theorem Tryz.aarr102:XL Tryz.prog 102=some (16,1):=by kernel_rfl
@[go_sem] theorem Tryz.azero102:Zj Tryz.prog 102=some [.sc (.int .u8 (0)),.sc (.int .u8 (0)),.sc (.int .u8 (0)),.sc (.int .u8 (0)),.sc (.int .u8 (0)),.sc (.int .u8 (0)),.sc (.int .u8 (0)),.sc (.int .u8 (0)),.sc (.int .u8 (0)),.sc (.int .u8 (0)),.sc (.int .u8 (0)),.sc (.int .u8 (0)),.sc (.int .u8 (0)),.sc (.int .u8 (0)),.sc (.int .u8 (0)),.sc (.int .u8 (0))]:=by kernel_rfl
@[go_sem] theorem Tryz.aelem112:zY Tryz.prog 112=some 3:=by kernel_rfl
theorem Tryz.amap139:Hr Tryz.prog 139=some (5,.int .u8,5):=by kernel_rfl
theorem Tryz.amap149:Hr Tryz.prog 149=some (3,.int .i64,3):=by kernel_rfl
theorem Tryz.zeroSV3:Js Tryz.prog 3=some (.sc (.int .i64 (0))):=by kernel_rfl
@[go_sem] theorem Tryz.abody10:zU Tryz.prog 10=true:=by kernel_rfl
@[go_sem] theorem Tryz.abody11:zU Tryz.prog 11=true:=by kernel_rfl
@[go_sem] theorem Tryz.abody12:zU Tryz.prog 12=true:=by kernel_rfl
@[go_sem] theorem Tryz.abody14:zU Tryz.prog 14=true:=by kernel_rfl
@[go_sem] theorem Tryz.abody18:zU Tryz.prog 18=true:=by kernel_rfl
@[go_sem] theorem Tryz.abody19:zU Tryz.prog 19=true:=by kernel_rfl
@[go_sem] theorem Tryz.abody20:zU Tryz.prog 20=true:=by kernel_rfl
@[go_sem] theorem Tryz.abody21:zU Tryz.prog 21=true:=by kernel_rfl
@[go_sem] theorem Tryz.abody22:zU Tryz.prog 22=true:=by kernel_rfl
@[go_sem] theorem Tryz.abody23:zU Tryz.prog 23=true:=by kernel_rfl
@[go_sem] theorem Tryz.abody24:zU Tryz.prog 24=true:=by kernel_rfl
@[go_sem] theorem Tryz.abody25:zU Tryz.prog 25=true:=by kernel_rfl
@[go_sem] theorem Tryz.abody26:zU Tryz.prog 26=true:=by kernel_rfl
@[go_sem] theorem Tryz.abody27:zU Tryz.prog 27=true:=by kernel_rfl
@[go_sem] theorem Tryz.abody28:zU Tryz.prog 28=true:=by kernel_rfl
@[go_sem] theorem Tryz.abody29:zU Tryz.prog 29=true:=by kernel_rfl
@[go_sem] theorem Tryz.abody30:zU Tryz.prog 30=true:=by kernel_rfl
@[go_sem] theorem Tryz.abody33:zU Tryz.prog 33=true:=by kernel_rfl
@[go_sem] theorem Tryz.abody34:zU Tryz.prog 34=true:=by kernel_rfl
@[go_sem] theorem Tryz.abody35:zU Tryz.prog 35=true:=by kernel_rfl
@[go_sem] theorem Tryz.abody36:zU Tryz.prog 36=true:=by kernel_rfl
@[go_sem] theorem Tryz.abody37:zU Tryz.prog 37=true:=by kernel_rfl
@[go_sem] theorem Tryz.abody38:zU Tryz.prog 38=true:=by kernel_rfl
@[go_sem] theorem Tryz.abody39:zU Tryz.prog 39=true:=by kernel_rfl
@[go_sem] theorem Tryz.abody40:zU Tryz.prog 40=true:=by kernel_rfl
@[go_sem] theorem Tryz.abody41:zU Tryz.prog 41=true:=by kernel_rfl
@[go_sem] theorem Tryz.abody42:zU Tryz.prog 42=true:=by kernel_rfl
@[go_sem] theorem Tryz.abody43:zU Tryz.prog 43=true:=by kernel_rfl
@[go_sem] theorem Tryz.abody44:zU Tryz.prog 44=true:=by kernel_rfl
@[go_sem] theorem Tryz.abody45:zU Tryz.prog 45=true:=by kernel_rfl
@[go_sem] theorem Tryz.abody46:zU Tryz.prog 46=true:=by kernel_rfl
@[go_sem] theorem Tryz.abody47:zU Tryz.prog 47=true:=by kernel_rfl
@[go_sem] theorem Tryz.abody48:zU Tryz.prog 48=true:=by kernel_rfl
@[go_sem] theorem Tryz.abody49:zU Tryz.prog 49=true:=by kernel_rfl
@[go_sem] theorem Tryz.abody53:zU Tryz.prog 53=true:=by kernel_rfl
@[go_sem] theorem Tryz.abody54:zU Tryz.prog 54=true:=by kernel_rfl
@[go_sem] theorem Tryz.abody55:zU Tryz.prog 55=true:=by kernel_rfl
@[go_sem] theorem Tryz.abody56:zU Tryz.prog 56=true:=by kernel_rfl
@[go_sem] theorem Tryz.abody57:zU Tryz.prog 57=true:=by kernel_rfl
@[go_sem] theorem Tryz.abody58:zU Tryz.prog 58=true:=by kernel_rfl
@[go_sem] theorem Tryz.abody59:zU Tryz.prog 59=true:=by kernel_rfl
@[go_sem] theorem Tryz.abody60:zU Tryz.prog 60=true:=by kernel_rfl
@[go_sem] theorem Tryz.abody64:zU Tryz.prog 64=true:=by kernel_rfl
@[go_sem] theorem Tryz.abody65:zU Tryz.prog 65=true:=by kernel_rfl
@[go_sem] theorem Tryz.abody66:zU Tryz.prog 66=true:=by kernel_rfl
@[go_sem] theorem Tryz.abody67:zU Tryz.prog 67=true:=by kernel_rfl
@[go_sem] theorem Tryz.abody68:zU Tryz.prog 68=true:=by kernel_rfl
@[go_sem] theorem Tryz.abody69:zU Tryz.prog 69=true:=by kernel_rfl
@[go_sem] theorem Tryz.abody70:zU Tryz.prog 70=true:=by kernel_rfl
@[go_sem] theorem Tryz.abody71:zU Tryz.prog 71=true:=by kernel_rfl
@[go_sem] theorem Tryz.abody72:zU Tryz.prog 72=true:=by kernel_rfl
@[go_sem] theorem Tryz.abody73:zU Tryz.prog 73=true:=by kernel_rfl
@[go_sem] theorem Tryz.abody74:zU Tryz.prog 74=true:=by kernel_rfl
@[go_sem] theorem Tryz.abody75:zU Tryz.prog 75=true:=by kernel_rfl
@[go_sem] theorem Tryz.abody76:zU Tryz.prog 76=true:=by kernel_rfl
@[go_sem] theorem Tryz.abody77:zU Tryz.prog 77=true:=by kernel_rfl
@[go_sem] theorem Tryz.abody78:zU Tryz.prog 78=true:=by kernel_rfl
@[go_sem] theorem Tryz.abody80:zU Tryz.prog 80=true:=by kernel_rfl
@[go_sem] theorem Tryz.abody84:zU Tryz.prog 84=true:=by kernel_rfl
@[go_sem] theorem Tryz.abody85:zU Tryz.prog 85=true:=by kernel_rfl
@[go_sem] theorem Tryz.abody86:zU Tryz.prog 86=true:=by kernel_rfl
@[go_sem] theorem Tryz.abody89:zU Tryz.prog 89=true:=by kernel_rfl
@[go_sem] theorem Tryz.abody90:zU Tryz.prog 90=true:=by kernel_rfl
@[go_sem] theorem Tryz.abody91:zU Tryz.prog 91=true:=by kernel_rfl
@[go_sem] theorem Tryz.abody92:zU Tryz.prog 92=true:=by kernel_rfl
@[go_sem] theorem Tryz.abody93:zU Tryz.prog 93=true:=by kernel_rfl
@[go_sem] theorem Tryz.abody94:zU Tryz.prog 94=true:=by kernel_rfl
@[go_sem] theorem Tryz.abody95:zU Tryz.prog 95=true:=by kernel_rfl
@[go_sem] theorem Tryz.abody96:zU Tryz.prog 96=true:=by kernel_rfl
@[go_sem] theorem Tryz.abody97:zU Tryz.prog 97=true:=by kernel_rfl
@[go_sem] theorem Tryz.abody98:zU Tryz.prog 98=true:=by kernel_rfl
@[go_sem] theorem Tryz.abody99:zU Tryz.prog 99=true:=by kernel_rfl
@[go_sem] theorem Tryz.abody100:zU Tryz.prog 100=true:=by kernel_rfl
@[go_sem] theorem Tryz.abody101:zU Tryz.prog 101=true:=by kernel_rfl
@[go_sem] theorem Tryz.abody102:zU Tryz.prog 102=true:=by kernel_rfl
@[go_sem] theorem Tryz.abody103:zU Tryz.prog 103=true:=by kernel_rfl
@[go_sem] theorem Tryz.abody104:zU Tryz.prog 104=true:=by kernel_rfl
@[go_sem] theorem Tryz.abody105:zU Tryz.prog 105=true:=by kernel_rfl
@[go_sem] theorem Tryz.abody107:zU Tryz.prog 107=true:=by kernel_rfl
@[go_sem] theorem Tryz.abody108:zU Tryz.prog 108=true:=by kernel_rfl
@[go_sem] theorem Tryz.abody110:zU Tryz.prog 110=true:=by kernel_rfl
@[go_sem] theorem Tryz.abody113:zU Tryz.prog 113=true:=by kernel_rfl
@[go_sem] theorem Tryz.abody114:zU Tryz.prog 114=true:=by kernel_rfl
@[go_sem] theorem Tryz.abody115:zU Tryz.prog 115=true:=by kernel_rfl
@[go_sem] theorem Tryz.abody116:zU Tryz.prog 116=true:=by kernel_rfl
@[go_sem] theorem Tryz.abody118:zU Tryz.prog 118=true:=by kernel_rfl
@[go_sem] theorem Tryz.abody119:zU Tryz.prog 119=true:=by kernel_rfl
@[go_sem] theorem Tryz.abody120:zU Tryz.prog 120=true:=by kernel_rfl
@[go_sem] theorem Tryz.abody121:zU Tryz.prog 121=true:=by kernel_rfl
@[go_sem] theorem Tryz.abody122:zU Tryz.prog 122=true:=by kernel_rfl
@[go_sem] theorem Tryz.abody123:zU Tryz.prog 123=true:=by kernel_rfl
@[go_sem] theorem Tryz.abody124:zU Tryz.prog 124=true:=by kernel_rfl
@[go_sem] theorem Tryz.abody125:zU Tryz.prog 125=true:=by kernel_rfl
@[go_sem] theorem Tryz.abody126:zU Tryz.prog 126=true:=by kernel_rfl
@[go_sem] theorem Tryz.abody127:zU Tryz.prog 127=true:=by kernel_rfl
@[go_sem] theorem Tryz.abody132:zU Tryz.prog 132=true:=by kernel_rfl
@[go_sem] theorem Tryz.abody133:zU Tryz.prog 133=true:=by kernel_rfl
@[go_sem] theorem Tryz.abody134:zU Tryz.prog 134=true:=by kernel_rfl
@[go_sem] theorem Tryz.abody135:zU Tryz.prog 135=true:=by kernel_rfl
@[go_sem] theorem Tryz.abody139:zU Tryz.prog 139=true:=by kernel_rfl
@[go_sem] theorem Tryz.abody140:zU Tryz.prog 140=true:=by kernel_rfl
@[go_sem] theorem Tryz.abody141:zU Tryz.prog 141=true:=by kernel_rfl
@[go_sem] theorem Tryz.abody142:zU Tryz.prog 142=true:=by kernel_rfl
@[go_sem] theorem Tryz.abody143:zU Tryz.prog 143=true:=by kernel_rfl
@[go_sem] theorem Tryz.abody147:zU Tryz.prog 147=true:=by kernel_rfl
@[go_sem] theorem Tryz.abody148:zU Tryz.prog 148=true:=by kernel_rfl
@[go_sem] theorem Tryz.abody150:zU Tryz.prog 150=true:=by kernel_rfl
@[go_sem] theorem Tryz.abody151:zU Tryz.prog 151=true:=by kernel_rfl
@[go_sem] theorem Tryz.abody152:zU Tryz.prog 152=true:=by kernel_rfl
@[go_sem] theorem Tryz.abody153:zU Tryz.prog 153=true:=by kernel_rfl
@[go_sem] theorem Tryz.abody154:zU Tryz.prog 154=true:=by kernel_rfl
@[go_sem] theorem Tryz.abody155:zU Tryz.prog 155=true:=by kernel_rfl
@[go_sem] theorem Tryz.abody156:zU Tryz.prog 156=true:=by kernel_rfl
@[go_sem] theorem Tryz.abody157:zU Tryz.prog 157=true:=by kernel_rfl
@[go_sem] theorem Tryz.abody161:zU Tryz.prog 161=true:=by kernel_rfl
@[go_sem] theorem Tryz.abody162:zU Tryz.prog 162=true:=by kernel_rfl
@[go_sem] theorem Tryz.abody163:zU Tryz.prog 163=true:=by kernel_rfl
@[go_sem] theorem Tryz.abody164:zU Tryz.prog 164=true:=by kernel_rfl
@[go_sem] theorem Tryz.abody165:zU Tryz.prog 165=true:=by kernel_rfl
@[go_sem] theorem Tryz.abody172:zU Tryz.prog 172=true:=by kernel_rfl
@[go_sem] theorem Tryz.mixed:Tryz.prog.follows .mixedOrders=true:=by kernel_rfl
end Go.Proofs
