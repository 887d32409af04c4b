/- The facts on the types of this seat's program that the walks ask: printed by facts.sh, each reckoned by the kernel. -/
import Derived.Test.YtkokccjfpebomaaGreatDoorProg
import Derived.Test.YtkokccjfpebomaaGreatDoorA9
import Derived.KernelRfl
set_option linter.all false
namespace Go.Proofs
open Go Go.AL
@[go_sem] theorem Tryz.asize3:zR Tryz.prog 3=some 1:=by kernel_rfl
@[go_sem] theorem Tryz.aagg3:JP Tryz.prog 3=some false:=by kernel_rfl
@[go_sem] theorem Tryz.azero3:Zp Tryz.prog 3=some [.sc (.int .i64 (0))]:=by kernel_rfl
@[go_sem] theorem Tryz.asize4:zR Tryz.prog 4=some 1:=by kernel_rfl
@[go_sem] theorem Tryz.aagg4:JP Tryz.prog 4=some false:=by kernel_rfl
@[go_sem] theorem Tryz.asize5:zR Tryz.prog 5=some 1:=by kernel_rfl
@[go_sem] theorem Tryz.abytes5:QQ Tryz.prog 5=some 1:=by kernel_rfl
@[go_sem] theorem Tryz.aagg5:JP Tryz.prog 5=some false:=by kernel_rfl
@[go_sem] theorem Tryz.azero5:Zp Tryz.prog 5=some [.sc (.int .u8 (0))]:=by kernel_rfl
@[go_sem] theorem Tryz.asize9:zR Tryz.prog 9=some 1:=by kernel_rfl
@[go_sem] theorem Tryz.abytes9:QQ Tryz.prog 9=some 16:=by kernel_rfl
@[go_sem] theorem Tryz.aagg9:JP Tryz.prog 9=some false:=by kernel_rfl
@[go_sem] theorem Tryz.aund9:Tryz.prog.underlying 9=some .string:=by kernel_rfl
@[go_sem] theorem Tryz.azero9:Zp Tryz.prog 9=some [.sc (.string ⟨#[]⟩)]:=by kernel_rfl
@[go_sem] theorem Tryz.asize23:zR Tryz.prog 23=some 1:=by kernel_rfl
@[go_sem] theorem Tryz.aagg23:JP Tryz.prog 23=some false:=by kernel_rfl
@[go_sem] theorem Tryz.aelem23:zK Tryz.prog 23=some 9:=by kernel_rfl
@[go_sem] theorem Tryz.asize24:zR Tryz.prog 24=some 1:=by kernel_rfl
@[go_sem] theorem Tryz.aagg24:JP Tryz.prog 24=some false:=by kernel_rfl
@[go_sem] theorem Tryz.aelem24:zK Tryz.prog 24=some 26:=by kernel_rfl
@[go_sem] theorem Tryz.asize26:zR Tryz.prog 26=some 6:=by kernel_rfl
@[go_sem] theorem Tryz.abytes26:QQ Tryz.prog 26=some 88:=by kernel_rfl
@[go_sem] theorem Tryz.aagg26:JP Tryz.prog 26=some true:=by kernel_rfl
@[go_sem] theorem Tryz.afield26_0:zX Tryz.prog 26 0=some (0,1):=by kernel_rfl
@[go_sem] theorem Tryz.afield26_1:zX Tryz.prog 26 1=some (1,1):=by kernel_rfl
@[go_sem] theorem Tryz.afield26_2:zX Tryz.prog 26 2=some (2,1):=by kernel_rfl
@[go_sem] theorem Tryz.afield26_3:zX Tryz.prog 26 3=some (3,1):=by kernel_rfl
@[go_sem] theorem Tryz.afield26_4:zX Tryz.prog 26 4=some (4,1):=by kernel_rfl
@[go_sem] theorem Tryz.afield26_5:zX Tryz.prog 26 5=some (5,1):=by kernel_rfl
@[go_sem] theorem Tryz.afieldsok26:QE Tryz.prog 26=true:=by kernel_rfl
@[go_sem] theorem Tryz.azero26:Zp Tryz.prog 26=some [.sc (.int .i64 (0)),.sc (.string ⟨#[]⟩),.sc (.int .i64 (0)),.sc (.int .i64 (0)),.slice .full 0 [],.slice .full 0 []]:=by kernel_rfl
@[go_sem] theorem Tryz.asize27:zR Tryz.prog 27=some 1:=by kernel_rfl
@[go_sem] theorem Tryz.aagg27:JP Tryz.prog 27=some false:=by kernel_rfl
@[go_sem] theorem Tryz.asize43:zR Tryz.prog 43=some 1:=by kernel_rfl
@[go_sem] theorem Tryz.aagg43:JP Tryz.prog 43=some false:=by kernel_rfl
@[go_sem] theorem Tryz.aelem43:zK Tryz.prog 43=some 47:=by kernel_rfl
@[go_sem] theorem Tryz.asize47:zR Tryz.prog 47=some 4:=by kernel_rfl
@[go_sem] theorem Tryz.abytes47:QQ Tryz.prog 47=some 40:=by kernel_rfl
@[go_sem] theorem Tryz.aagg47:JP Tryz.prog 47=some true:=by kernel_rfl
@[go_sem] theorem Tryz.afield47_0:zX Tryz.prog 47 0=some (0,1):=by kernel_rfl
@[go_sem] theorem Tryz.afield47_1:zX Tryz.prog 47 1=some (1,1):=by kernel_rfl
@[go_sem] theorem Tryz.afield47_2:zX Tryz.prog 47 2=some (2,1):=by kernel_rfl
@[go_sem] theorem Tryz.afield47_3:zX Tryz.prog 47 3=some (3,1):=by kernel_rfl
@[go_sem] theorem Tryz.afieldsok47:QE Tryz.prog 47=true:=by kernel_rfl
@[go_sem] theorem Tryz.azero47:Zp Tryz.prog 47=some [.sc (.int .i64 (0)),.sc (.string ⟨#[]⟩),.sc (.int .i64 (0)),.sc (.int .i64 (0))]:=by kernel_rfl
@[go_sem] theorem Tryz.afield50_0:zX Tryz.prog 50 0=some (0,1):=by kernel_rfl
@[go_sem] theorem Tryz.afield50_1:zX Tryz.prog 50 1=some (1,1):=by kernel_rfl
@[go_sem] theorem Tryz.afield50_2:zX Tryz.prog 50 2=some (2,1):=by kernel_rfl
@[go_sem] theorem Tryz.afield50_3:zX Tryz.prog 50 3=some (3,1):=by kernel_rfl
@[go_sem] theorem Tryz.afield50_4:zX Tryz.prog 50 4=some (4,1):=by kernel_rfl
@[go_sem] theorem Tryz.afield50_5:zX Tryz.prog 50 5=some (5,1):=by kernel_rfl
@[go_sem] theorem Tryz.afieldsok50:QE Tryz.prog 50=true:=by kernel_rfl
@[go_sem] theorem Tryz.azero50:Zp Tryz.prog 50=some [.slice .full 0 [],.sc (.int .i64 (0)),.sc (.int .i64 (0)),.sc (.int .i64 (0)),.sc (.bool false),.sc (.int .i64 (0))]:=by kernel_rfl
@[go_sem] theorem Tryz.asize68:zR Tryz.prog 68=some 1:=by kernel_rfl
@[go_sem] theorem Tryz.aagg68:JP Tryz.prog 68=some false:=by kernel_rfl
@[go_sem] theorem Tryz.afield70_0:zX Tryz.prog 70 0=some (0,1):=by kernel_rfl
@[go_sem] theorem Tryz.afield70_1:zX Tryz.prog 70 1=some (1,1):=by kernel_rfl
@[go_sem] theorem Tryz.afield70_2:zX Tryz.prog 70 2=some (2,1):=by kernel_rfl
@[go_sem] theorem Tryz.afield70_3:zX Tryz.prog 70 3=some (3,1):=by kernel_rfl
@[go_sem] theorem Tryz.afield70_4:zX Tryz.prog 70 4=some (4,1):=by kernel_rfl
@[go_sem] theorem Tryz.afield70_5:zX Tryz.prog 70 5=some (5,1):=by kernel_rfl
@[go_sem] theorem Tryz.afieldsok70:QE Tryz.prog 70=true:=by kernel_rfl
@[go_sem] theorem Tryz.azero70:Zp Tryz.prog 70=some [.slice .full 0 [],.sc (.int .i64 (0)),.sc (.int .i64 (0)),.sc (.bool false),.sc (.int .i64 (0)),.sc (.int .i64 (0))]:=by kernel_rfl
@[go_sem] theorem Tryz.aelem77:zK Tryz.prog 77=some 5:=by kernel_rfl
@[go_sem] theorem Tryz.afield90_0:zX Tryz.prog 90 0=some (0,1):=by kernel_rfl
@[go_sem] theorem Tryz.afield90_1:zX Tryz.prog 90 1=some (1,1):=by kernel_rfl
@[go_sem] theorem Tryz.afieldsok90:QE Tryz.prog 90=true:=by kernel_rfl
@[go_sem] theorem Tryz.azero90:Zp Tryz.prog 90=some [.sc (.string ⟨#[]⟩),.sc (.int .i64 (0))]:=by kernel_rfl
@[go_sem] theorem Tryz.aarr101:Yc Tryz.prog 101=some (24,1):=by kernel_rfl
@[go_sem] theorem Tryz.azero101:Zp Tryz.prog 101=some [.sc (.int .u8 (0)),.sc (.int .u8 (0)),.sc (.int .u8 (0)),.sc (.int .u8 (0)),.sc (.int .u8 (0)),.sc (.int .u8 (0)),.sc (.int .u8 (0)),.sc (.int .u8 (0)),.sc (.int .u8 (0)),.sc (.int .u8 (0)),.sc (.int .u8 (0)),.sc (.int .u8 (0)),.sc (.int .u8 (0)),.sc (.int .u8 (0)),.sc (.int .u8 (0)),.sc (.int .u8 (0)),.sc (.int .u8 (0)),.sc (.int .u8 (0)),.sc (.int .u8 (0)),.sc (.int .u8 (0)),.sc (.int .u8 (0)),.sc (.int .u8 (0)),.sc (.int .u8 (0)),.sc (.int .u8 (0))]:=by kernel_rfl
@[go_sem] theorem Tryz.asize102:zR Tryz.prog 102=some 16:=by kernel_rfl
@[go_sem] theorem Tryz.aagg102:JP Tryz.prog 102=some true:=by kernel_rfl
@[go_sem] theorem Tryz.aarr102:Yc Tryz.prog 102=some (16,1):=by kernel_rfl
@[go_sem] theorem Tryz.azero102:Zp Tryz.prog 102=some [.sc (.int .u8 (0)),.sc (.int .u8 (0)),.sc (.int .u8 (0)),.sc (.int .u8 (0)),.sc (.int .u8 (0)),.sc (.int .u8 (0)),.sc (.int .u8 (0)),.sc (.int .u8 (0)),.sc (.int .u8 (0)),.sc (.int .u8 (0)),.sc (.int .u8 (0)),.sc (.int .u8 (0)),.sc (.int .u8 (0)),.sc (.int .u8 (0)),.sc (.int .u8 (0)),.sc (.int .u8 (0))]:=by kernel_rfl
@[go_sem] theorem Tryz.aelem112:zK Tryz.prog 112=some 3:=by kernel_rfl
theorem Tryz.amap139:E3 Tryz.prog 139=some (5,.int .u8,5):=by kernel_rfl
theorem Tryz.amap149:E3 Tryz.prog 149=some (3,.int .i64,3):=by kernel_rfl
theorem Tryz.zeroSV3:JY Tryz.prog 3=some (.sc (.int .i64 (0))):=by kernel_rfl
@[go_sem] theorem Tryz.abody9:zG Tryz.prog 9=true:=by kernel_rfl
@[go_sem] theorem Tryz.abody10:zG Tryz.prog 10=true:=by kernel_rfl
@[go_sem] theorem Tryz.abody11:zG Tryz.prog 11=true:=by kernel_rfl
@[go_sem] theorem Tryz.abody12:zG Tryz.prog 12=true:=by kernel_rfl
@[go_sem] theorem Tryz.abody14:zG Tryz.prog 14=true:=by kernel_rfl
@[go_sem] theorem Tryz.abody18:zG Tryz.prog 18=true:=by kernel_rfl
@[go_sem] theorem Tryz.abody19:zG Tryz.prog 19=true:=by kernel_rfl
@[go_sem] theorem Tryz.abody20:zG Tryz.prog 20=true:=by kernel_rfl
@[go_sem] theorem Tryz.abody21:zG Tryz.prog 21=true:=by kernel_rfl
@[go_sem] theorem Tryz.abody22:zG Tryz.prog 22=true:=by kernel_rfl
@[go_sem] theorem Tryz.abody23:zG Tryz.prog 23=true:=by kernel_rfl
@[go_sem] theorem Tryz.abody24:zG Tryz.prog 24=true:=by kernel_rfl
@[go_sem] theorem Tryz.abody25:zG Tryz.prog 25=true:=by kernel_rfl
@[go_sem] theorem Tryz.abody26:zG Tryz.prog 26=true:=by kernel_rfl
@[go_sem] theorem Tryz.abody27:zG Tryz.prog 27=true:=by kernel_rfl
@[go_sem] theorem Tryz.abody28:zG Tryz.prog 28=true:=by kernel_rfl
@[go_sem] theorem Tryz.abody29:zG Tryz.prog 29=true:=by kernel_rfl
@[go_sem] theorem Tryz.abody30:zG Tryz.prog 30=true:=by kernel_rfl
@[go_sem] theorem Tryz.abody33:zG Tryz.prog 33=true:=by kernel_rfl
@[go_sem] theorem Tryz.abody34:zG Tryz.prog 34=true:=by kernel_rfl
@[go_sem] theorem Tryz.abody35:zG Tryz.prog 35=true:=by kernel_rfl
@[go_sem] theorem Tryz.abody36:zG Tryz.prog 36=true:=by kernel_rfl
@[go_sem] theorem Tryz.abody37:zG Tryz.prog 37=true:=by kernel_rfl
@[go_sem] theorem Tryz.abody38:zG Tryz.prog 38=true:=by kernel_rfl
@[go_sem] theorem Tryz.abody39:zG Tryz.prog 39=true:=by kernel_rfl
@[go_sem] theorem Tryz.abody40:zG Tryz.prog 40=true:=by kernel_rfl
@[go_sem] theorem Tryz.abody41:zG Tryz.prog 41=true:=by kernel_rfl
@[go_sem] theorem Tryz.abody42:zG Tryz.prog 42=true:=by kernel_rfl
@[go_sem] theorem Tryz.abody43:zG Tryz.prog 43=true:=by kernel_rfl
@[go_sem] theorem Tryz.abody44:zG Tryz.prog 44=true:=by kernel_rfl
@[go_sem] theorem Tryz.abody45:zG Tryz.prog 45=true:=by kernel_rfl
@[go_sem] theorem Tryz.abody46:zG Tryz.prog 46=true:=by kernel_rfl
@[go_sem] theorem Tryz.abody47:zG Tryz.prog 47=true:=by kernel_rfl
@[go_sem] theorem Tryz.abody48:zG Tryz.prog 48=true:=by kernel_rfl
@[go_sem] theorem Tryz.abody49:zG Tryz.prog 49=true:=by kernel_rfl
@[go_sem] theorem Tryz.abody53:zG Tryz.prog 53=true:=by kernel_rfl
@[go_sem] theorem Tryz.abody54:zG Tryz.prog 54=true:=by kernel_rfl
@[go_sem] theorem Tryz.abody55:zG Tryz.prog 55=true:=by kernel_rfl
@[go_sem] theorem Tryz.abody56:zG Tryz.prog 56=true:=by kernel_rfl
@[go_sem] theorem Tryz.abody57:zG Tryz.prog 57=true:=by kernel_rfl
@[go_sem] theorem Tryz.abody58:zG Tryz.prog 58=true:=by kernel_rfl
@[go_sem] theorem Tryz.abody59:zG Tryz.prog 59=true:=by kernel_rfl
@[go_sem] theorem Tryz.abody60:zG Tryz.prog 60=true:=by kernel_rfl
@[go_sem] theorem Tryz.abody64:zG Tryz.prog 64=true:=by kernel_rfl
@[go_sem] theorem Tryz.abody65:zG Tryz.prog 65=true:=by kernel_rfl
@[go_sem] theorem Tryz.abody66:zG Tryz.prog 66=true:=by kernel_rfl
@[go_sem] theorem Tryz.abody67:zG Tryz.prog 67=true:=by kernel_rfl
@[go_sem] theorem Tryz.abody68:zG Tryz.prog 68=true:=by kernel_rfl
@[go_sem] theorem Tryz.abody69:zG Tryz.prog 69=true:=by kernel_rfl
@[go_sem] theorem Tryz.abody70:zG Tryz.prog 70=true:=by kernel_rfl
@[go_sem] theorem Tryz.abody71:zG Tryz.prog 71=true:=by kernel_rfl
@[go_sem] theorem Tryz.abody72:zG Tryz.prog 72=true:=by kernel_rfl
@[go_sem] theorem Tryz.abody73:zG Tryz.prog 73=true:=by kernel_rfl
@[go_sem] theorem Tryz.abody74:zG Tryz.prog 74=true:=by kernel_rfl
@[go_sem] theorem Tryz.abody75:zG Tryz.prog 75=true:=by kernel_rfl
@[go_sem] theorem Tryz.abody76:zG Tryz.prog 76=true:=by kernel_rfl
@[go_sem] theorem Tryz.abody77:zG Tryz.prog 77=true:=by kernel_rfl
@[go_sem] theorem Tryz.abody78:zG Tryz.prog 78=true:=by kernel_rfl
@[go_sem] theorem Tryz.abody80:zG Tryz.prog 80=true:=by kernel_rfl
@[go_sem] theorem Tryz.abody84:zG Tryz.prog 84=true:=by kernel_rfl
@[go_sem] theorem Tryz.abody85:zG Tryz.prog 85=true:=by kernel_rfl
@[go_sem] theorem Tryz.abody86:zG Tryz.prog 86=true:=by kernel_rfl
@[go_sem] theorem Tryz.abody89:zG Tryz.prog 89=true:=by kernel_rfl
@[go_sem] theorem Tryz.abody90:zG Tryz.prog 90=true:=by kernel_rfl
@[go_sem] theorem Tryz.abody91:zG Tryz.prog 91=true:=by kernel_rfl
@[go_sem] theorem Tryz.abody92:zG Tryz.prog 92=true:=by kernel_rfl
@[go_sem] theorem Tryz.abody93:zG Tryz.prog 93=true:=by kernel_rfl
@[go_sem] theorem Tryz.abody94:zG Tryz.prog 94=true:=by kernel_rfl
@[go_sem] theorem Tryz.abody95:zG Tryz.prog 95=true:=by kernel_rfl
@[go_sem] theorem Tryz.abody96:zG Tryz.prog 96=true:=by kernel_rfl
@[go_sem] theorem Tryz.abody97:zG Tryz.prog 97=true:=by kernel_rfl
@[go_sem] theorem Tryz.abody98:zG Tryz.prog 98=true:=by kernel_rfl
@[go_sem] theorem Tryz.abody99:zG Tryz.prog 99=true:=by kernel_rfl
@[go_sem] theorem Tryz.abody100:zG Tryz.prog 100=true:=by kernel_rfl
@[go_sem] theorem Tryz.abody101:zG Tryz.prog 101=true:=by kernel_rfl
@[go_sem] theorem Tryz.abody102:zG Tryz.prog 102=true:=by kernel_rfl
@[go_sem] theorem Tryz.abody103:zG Tryz.prog 103=true:=by kernel_rfl
@[go_sem] theorem Tryz.abody104:zG Tryz.prog 104=true:=by kernel_rfl
@[go_sem] theorem Tryz.abody105:zG Tryz.prog 105=true:=by kernel_rfl
@[go_sem] theorem Tryz.abody107:zG Tryz.prog 107=true:=by kernel_rfl
@[go_sem] theorem Tryz.abody108:zG Tryz.prog 108=true:=by kernel_rfl
@[go_sem] theorem Tryz.abody110:zG Tryz.prog 110=true:=by kernel_rfl
@[go_sem] theorem Tryz.abody113:zG Tryz.prog 113=true:=by kernel_rfl
@[go_sem] theorem Tryz.abody114:zG Tryz.prog 114=true:=by kernel_rfl
@[go_sem] theorem Tryz.abody115:zG Tryz.prog 115=true:=by kernel_rfl
@[go_sem] theorem Tryz.abody116:zG Tryz.prog 116=true:=by kernel_rfl
@[go_sem] theorem Tryz.abody118:zG Tryz.prog 118=true:=by kernel_rfl
@[go_sem] theorem Tryz.abody119:zG Tryz.prog 119=true:=by kernel_rfl
@[go_sem] theorem Tryz.abody120:zG Tryz.prog 120=true:=by kernel_rfl
@[go_sem] theorem Tryz.abody121:zG Tryz.prog 121=true:=by kernel_rfl
@[go_sem] theorem Tryz.abody122:zG Tryz.prog 122=true:=by kernel_rfl
@[go_sem] theorem Tryz.abody123:zG Tryz.prog 123=true:=by kernel_rfl
@[go_sem] theorem Tryz.abody124:zG Tryz.prog 124=true:=by kernel_rfl
@[go_sem] theorem Tryz.abody125:zG Tryz.prog 125=true:=by kernel_rfl
@[go_sem] theorem Tryz.abody126:zG Tryz.prog 126=true:=by kernel_rfl
@[go_sem] theorem Tryz.abody127:zG Tryz.prog 127=true:=by kernel_rfl
@[go_sem] theorem Tryz.abody132:zG Tryz.prog 132=true:=by kernel_rfl
@[go_sem] theorem Tryz.abody133:zG Tryz.prog 133=true:=by kernel_rfl
@[go_sem] theorem Tryz.abody134:zG Tryz.prog 134=true:=by kernel_rfl
@[go_sem] theorem Tryz.abody135:zG Tryz.prog 135=true:=by kernel_rfl
@[go_sem] theorem Tryz.abody139:zG Tryz.prog 139=true:=by kernel_rfl
@[go_sem] theorem Tryz.abody140:zG Tryz.prog 140=true:=by kernel_rfl
@[go_sem] theorem Tryz.abody141:zG Tryz.prog 141=true:=by kernel_rfl
@[go_sem] theorem Tryz.abody142:zG Tryz.prog 142=true:=by kernel_rfl
@[go_sem] theorem Tryz.abody143:zG Tryz.prog 143=true:=by kernel_rfl
@[go_sem] theorem Tryz.abody147:zG Tryz.prog 147=true:=by kernel_rfl
@[go_sem] theorem Tryz.abody148:zG Tryz.prog 148=true:=by kernel_rfl
@[go_sem] theorem Tryz.abody150:zG Tryz.prog 150=true:=by kernel_rfl
@[go_sem] theorem Tryz.abody151:zG Tryz.prog 151=true:=by kernel_rfl
@[go_sem] theorem Tryz.abody152:zG Tryz.prog 152=true:=by kernel_rfl
@[go_sem] theorem Tryz.abody153:zG Tryz.prog 153=true:=by kernel_rfl
@[go_sem] theorem Tryz.abody154:zG Tryz.prog 154=true:=by kernel_rfl
@[go_sem] theorem Tryz.abody155:zG Tryz.prog 155=true:=by kernel_rfl
@[go_sem] theorem Tryz.abody156:zG Tryz.prog 156=true:=by kernel_rfl
@[go_sem] theorem Tryz.abody157:zG Tryz.prog 157=true:=by kernel_rfl
@[go_sem] theorem Tryz.abody161:zG Tryz.prog 161=true:=by kernel_rfl
@[go_sem] theorem Tryz.abody162:zG Tryz.prog 162=true:=by kernel_rfl
@[go_sem] theorem Tryz.abody163:zG Tryz.prog 163=true:=by kernel_rfl
@[go_sem] theorem Tryz.abody164:zG Tryz.prog 164=true:=by kernel_rfl
@[go_sem] theorem Tryz.abody165:zG Tryz.prog 165=true:=by kernel_rfl
@[go_sem] theorem Tryz.abody172:zG Tryz.prog 172=true:=by kernel_rfl
@[go_sem] theorem Tryz.mixed:Tryz.prog.follows .mixedOrders=true:=by kernel_rfl
end Go.Proofs
