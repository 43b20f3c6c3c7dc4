/-
  The tables of this program; small laws for walking its functions.
-/
import Derived.Test.YtilhffelllbggaaGreatME
import Derived.Test.YtilhffelllbggaaGreatMF
set_option linter.unusedVariables false
set_option linter.unusedSimpArgs false
set_option maxRecDepth 100000
set_option maxHeartbeats 4000000
namespace Go.Sh
def TyL(P:Program):Nat→List (Option TyI)→Prop
 |_,[]=>True
 |n,none::r=>TyL P (n+1) r
 |n,some i::r=>tyOf P n=some i∧TyL P (n+1) r
theorem tyL_ok{P:Program}:∀{l:List (Option TyI)} {n:Nat},TyL P n l→∀{t:Nat} {i:TyI},(getL l t).bind id=some i→tyOf P (n+t)=some i
 |[],n,h,t,i,e=>by cases e
 |o::r,n,h,0,i,e=>by
  cases o with
  |none=>cases e
  |some j=>cases e;exact h.1
 |o::r,n,h,t+1,i,e=>by
  have e2:n+(t+1)=(n+1)+t:=by omega
  rw[e2]
  cases o with
  |none=>exact tyL_ok (l:=r) h e
  |some j=>exact tyL_ok (l:=r) h.2 e
def FnL(P:Program):Nat→List (Option Func)→Prop
 |_,[]=>True
 |n,none::r=>FnL P (n+1) r
 |n,some i::r=>fnOf P n=some i∧FnL P (n+1) r
theorem fnL_ok{P:Program}:∀{l:List (Option Func)} {n:Nat},FnL P n l→∀{t:Nat} {i:Func},(getL l t).bind id=some i→fnOf P (n+t)=some i
 |[],n,h,t,i,e=>by cases e
 |o::r,n,h,0,i,e=>by
  cases o with
  |none=>cases e
  |some j=>cases e;exact h.1
 |o::r,n,h,t+1,i,e=>by
  have e2:n+(t+1)=(n+1)+t:=by omega
  rw[e2]
  cases o with
  |none=>exact fnL_ok (l:=r) h e
  |some j=>exact fnL_ok (l:=r) h.2 e
theorem cfg_of{P:Program}(hm:P.follows .mixedOrders=true)(hall:P.funcs.all okFn=true){mode:FuncId→Mode}{orc:FuncId→List SV→Option SV}(ho:∀f args v,orc f args=some v→PureOk P f args v)
  {tl:List (Option TyI)} {fl:List (Option Func)} (ht:TyL P 0 tl) (hf:FnL P 0 fl):CfgOk P { ty:=fun t=>(getL tl t).bind id,fns:=fun f=>(getL fl f).bind id,orc:=orc,mode:=mode }:=by
 have h0:=cfgOf_ok hm hall (mode:=mode) ho
 refine⟨⟨fun t i h=>h0.ty.1 t i ?_⟩,fun f fn h=>h0.fns f fn ?_,ho,hm⟩
 ·have:=tyL_ok ht h;rw[Nat.zero_add]at this;exact this
 ·have:=fnL_ok hf h;rw[Nat.zero_add]at this;exact this
end Go.Sh
namespace Go.Proofs
open Go.Sh
def y1:TyI:=⟨.scal,1,8,.nilf⟩
def y2:TyI:=⟨.int,1,8,(.int .i64 0)⟩
def y3:TyI:=⟨.int,1,8,(.int .i64 0)⟩
def y4:TyI:=⟨.bool,1,1,(.bool false)⟩
def y5:TyI:=⟨.int,1,1,(.int .u8 0)⟩
def y6:TyI:=⟨.int,1,1,(.int .u8 0)⟩
def y7:TyI:=⟨(.struct [(0,2),(1,3),(2,4),(3,6)]),4,24,(.agg [(.int .i64 0),(.int .i64 0),(.bool false),(.int .u8 0)])⟩
def y8:TyI:=⟨(.struct [(0,2),(1,3),(2,4),(3,6)]),4,24,(.agg [(.int .i64 0),(.int .i64 0),(.bool false),(.int .u8 0)])⟩
def y9:TyI:=⟨.str,1,16,(.str (ByteArray.mk #[]))⟩
def y10:TyI:=⟨.str,1,16,(.str (ByteArray.mk #[]))⟩
def y11:TyI:=⟨.str,1,16,(.str (ByteArray.mk #[]))⟩
def y12:TyI:=⟨.int,1,8,(.int .u64 0)⟩
def y13:TyI:=⟨(.struct [(0,9),(1,12)]),2,24,(.agg [(.str (ByteArray.mk #[])),(.int .u64 0)])⟩
def y14:TyI:=⟨(.struct [(0,9),(1,12)]),2,24,(.agg [(.str (ByteArray.mk #[])),(.int .u64 0)])⟩
def y15:TyI:=⟨(.ptr 276),1,8,.nilp⟩
def y16:TyI:=⟨(.ptr 279),1,8,.nilp⟩
def y17:TyI:=⟨(.ptr 288),1,8,.nilp⟩
def y18:TyI:=⟨(.struct [(0,17)]),1,8,(.agg [.nilp])⟩
def y19:TyI:=⟨(.struct [(0,17)]),1,8,(.agg [.nilp])⟩
def y20:TyI:=⟨.scal,1,16,.nili⟩
def y21:TyI:=⟨.int,1,4,(.int .i32 0)⟩
def y22:TyI:=⟨(.slice 25),1,24,(.vsl [] .nil)⟩
def y23:TyI:=⟨.int,1,4,(.int .u32 0)⟩
def y24:TyI:=⟨.scal,1,8,.nilf⟩
def y25:TyI:=⟨.int,1,8,(.int .u64 0)⟩
def y26:TyI:=⟨.scal,1,8,.nilf⟩
def y27:TyI:=⟨.scal,1,8,.nilf⟩
def y28:TyI:=⟨(.slice 33),1,24,(.vsl [] .nil)⟩
def y29:TyI:=⟨.int,1,8,(.int .i64 0)⟩
def y31:TyI:=⟨.scal,1,8,.nilf⟩
def y32:TyI:=⟨(.struct [(0,22),(1,3)]),2,32,(.agg [(.vsl [] .nil),(.int .i64 0)])⟩
def y33:TyI:=⟨(.struct [(0,22),(1,3)]),2,32,(.agg [(.vsl [] .nil),(.int .i64 0)])⟩
def y34:TyI:=⟨.scal,1,8,.nilf⟩
def y35:TyI:=⟨.scal,1,8,.nilf⟩
def y36:TyI:=⟨.scal,1,8,.nilf⟩
def y37:TyI:=⟨.scal,1,8,.nilf⟩
def y38:TyI:=⟨(.slice 86),1,24,(.vsl [] .nil)⟩
def y39:TyI:=⟨(.slice 46),1,24,(.vsl [] .nil)⟩
def y40:TyI:=⟨(.slice 46),1,24,(.vsl [] .nil)⟩
def y41:TyI:=⟨.scal,1,8,.nilf⟩
def y42:TyI:=⟨(.slice 23),1,24,(.vsl [] .nil)⟩
def y43:TyI:=⟨(.struct [(0,4),(1,42)]),2,32,(.agg [(.bool false),(.vsl [] .nil)])⟩
def y44:TyI:=⟨(.struct [(0,4),(1,42)]),2,32,(.agg [(.bool false),(.vsl [] .nil)])⟩
def y45:TyI:=⟨(.struct [(0,44),(2,44)]),4,64,(.agg [(.bool false),(.vsl [] .nil),(.bool false),(.vsl [] .nil)])⟩
def y46:TyI:=⟨(.struct [(0,44),(2,44)]),4,64,(.agg [(.bool false),(.vsl [] .nil),(.bool false),(.vsl [] .nil)])⟩
def y47:TyI:=⟨(.slice 80),1,24,(.vsl [] .nil)⟩
def y48:TyI:=⟨(.struct [(0,46),(4,47),(5,29)]),6,96,(.agg [(.bool false),(.vsl [] .nil),(.bool false),(.vsl [] .nil),(.vsl [] .nil),(.int .i64 0)])⟩
def y49:TyI:=⟨(.struct [(0,46),(4,47),(5,29)]),6,96,(.agg [(.bool false),(.vsl [] .nil),(.bool false),(.vsl [] .nil),(.vsl [] .nil),(.int .i64 0)])⟩
def y50:TyI:=⟨.scal,1,8,.nilf⟩
def y52:TyI:=⟨.scal,1,8,.nilf⟩
def y53:TyI:=⟨.scal,1,8,.nilf⟩
def y54:TyI:=⟨.scal,1,8,.nilf⟩
def y55:TyI:=⟨.scal,1,8,.nilf⟩
def y56:TyI:=⟨.scal,1,8,.nilf⟩
def y57:TyI:=⟨(.slice 44),1,24,(.vsl [] .nil)⟩
def y58:TyI:=⟨.scal,1,8,.nilf⟩
def y59:TyI:=⟨.scal,1,8,.nilf⟩
def y60:TyI:=⟨(.slice 22),1,24,(.vsl [] .nil)⟩
def y61:TyI:=⟨(.slice 57),1,24,(.vsl [] .nil)⟩
def y63:TyI:=⟨.scal,1,8,.nilf⟩
def y64:TyI:=⟨.scal,1,8,.nilf⟩
def y65:TyI:=⟨.scal,1,8,.nilf⟩
def y66:TyI:=⟨.scal,1,8,.nilf⟩
def y67:TyI:=⟨.scal,1,8,.nilf⟩
def y68:TyI:=⟨(.struct [(0,57),(1,60),(2,25)]),3,56,(.agg [(.vsl [] .nil),(.vsl [] .nil),(.int .u64 0)])⟩
def y69:TyI:=⟨(.struct [(0,57),(1,60),(2,25)]),3,56,(.agg [(.vsl [] .nil),(.vsl [] .nil),(.int .u64 0)])⟩
def y70:TyI:=⟨.scal,1,8,.nilf⟩
def y71:TyI:=⟨.scal,1,8,.nilf⟩
def y72:TyI:=⟨.scal,1,8,.nilf⟩
def y73:TyI:=⟨.scal,1,8,.nilf⟩
def y74:TyI:=⟨.scal,1,8,.nilf⟩
def y75:TyI:=⟨.scal,1,8,.nilf⟩
def y76:TyI:=⟨.scal,1,8,.nilf⟩
def y77:TyI:=⟨.scal,1,8,.nilf⟩
def y78:TyI:=⟨.scal,1,8,.nilf⟩
def y79:TyI:=⟨(.struct [(0,40),(1,3)]),2,32,(.agg [(.vsl [] .nil),(.int .i64 0)])⟩
def y80:TyI:=⟨(.struct [(0,40),(1,3)]),2,32,(.agg [(.vsl [] .nil),(.int .i64 0)])⟩
def y81:TyI:=⟨.scal,1,8,.nilf⟩
def y82:TyI:=⟨.scal,1,8,.nilf⟩
def y83:TyI:=⟨.scal,1,8,.nilf⟩
def y84:TyI:=⟨.scal,1,8,.nilf⟩
def y85:TyI:=⟨.scal,1,8,.nilf⟩
def y86:TyI:=⟨.int,1,1,(.int .i8 0)⟩
def y88:TyI:=⟨.scal,1,8,.nilf⟩
def y89:TyI:=⟨.scal,1,8,.nilf⟩
def y90:TyI:=⟨.scal,1,8,.nilf⟩
def y91:TyI:=⟨.scal,1,8,.nilf⟩
def y92:TyI:=⟨.scal,1,8,.nilf⟩
def y93:TyI:=⟨.scal,1,8,.nilf⟩
def y94:TyI:=⟨.scal,1,8,.nilf⟩
def y96:TyI:=⟨.scal,1,8,.nilf⟩
def y97:TyI:=⟨.scal,1,8,.nilf⟩
def y98:TyI:=⟨(.struct [(0,25)]),1,8,(.agg [(.int .u64 0)])⟩
def y99:TyI:=⟨(.struct [(0,25)]),1,8,(.agg [(.int .u64 0)])⟩
def y100:TyI:=⟨(.slice 25),1,24,(.vsl [] .nil)⟩
def y101:TyI:=⟨.scal,1,8,.nilf⟩
def y102:TyI:=⟨(.slice 100),1,24,(.vsl [] .nil)⟩
def y103:TyI:=⟨.scal,1,8,.nilf⟩
def y104:TyI:=⟨.scal,1,8,.nilf⟩
def y105:TyI:=⟨.scal,1,8,.nilf⟩
def y107:TyI:=⟨.scal,1,8,.nilf⟩
def y108:TyI:=⟨.scal,1,8,.nilf⟩
def y109:TyI:=⟨.scal,1,8,.nilf⟩
def y110:TyI:=⟨.scal,1,8,.nilf⟩
def y111:TyI:=⟨.scal,1,8,.nilf⟩
def y112:TyI:=⟨.scal,1,8,.nilf⟩
def y113:TyI:=⟨.scal,1,8,.nilf⟩
def y114:TyI:=⟨(.slice 40),1,24,(.vsl [] .nil)⟩
def y115:TyI:=⟨.scal,1,8,.nilf⟩
def y116:TyI:=⟨.scal,1,8,.nilf⟩
def y117:TyI:=⟨.scal,1,8,.nilf⟩
def y119:TyI:=⟨.scal,1,8,.nilf⟩
def y120:TyI:=⟨.scal,1,8,.nilf⟩
def y121:TyI:=⟨.scal,1,8,.nilf⟩
def y122:TyI:=⟨.scal,1,8,.nilf⟩
def y123:TyI:=⟨.scal,1,8,.nilf⟩
def y124:TyI:=⟨(.struct [(0,22),(1,22)]),2,48,(.agg [(.vsl [] .nil),(.vsl [] .nil)])⟩
def y125:TyI:=⟨(.struct [(0,22),(1,22)]),2,48,(.agg [(.vsl [] .nil),(.vsl [] .nil)])⟩
def y126:TyI:=⟨.scal,1,8,.nilf⟩
def y127:TyI:=⟨.scal,1,8,.nilf⟩
def y128:TyI:=⟨.scal,1,8,.nilf⟩
def y129:TyI:=⟨.scal,1,8,.nilf⟩
def y130:TyI:=⟨.scal,1,8,.nilf⟩
def y131:TyI:=⟨.scal,1,8,.nilf⟩
def y132:TyI:=⟨.scal,1,8,.nilf⟩
def y133:TyI:=⟨.scal,1,8,.nilf⟩
def y134:TyI:=⟨.scal,1,8,.nilf⟩
def y135:TyI:=⟨.scal,1,8,.nilf⟩
def y136:TyI:=⟨.scal,1,8,.nilf⟩
def y138:TyI:=⟨.scal,1,8,.nilf⟩
def y139:TyI:=⟨.scal,1,8,.nilf⟩
def y140:TyI:=⟨.scal,1,8,.nilf⟩
def y141:TyI:=⟨.scal,1,8,.nilf⟩
def y142:TyI:=⟨.scal,1,8,.nilf⟩
def y143:TyI:=⟨.scal,1,8,.nilf⟩
def y144:TyI:=⟨.scal,1,8,.nilf⟩
def y145:TyI:=⟨.scal,1,8,.nilf⟩
def y146:TyI:=⟨.scal,1,8,.nilf⟩
def y147:TyI:=⟨.scal,1,8,.nilf⟩
def y148:TyI:=⟨.scal,1,8,.nilf⟩
def y149:TyI:=⟨(.array 4 25),4,32,(.agg [(.int .u64 0),(.int .u64 0),(.int .u64 0),(.int .u64 0)])⟩
def y150:TyI:=⟨.scal,1,8,.nilf⟩
def y151:TyI:=⟨.scal,1,8,.nilf⟩
def y152:TyI:=⟨.scal,1,8,.nilf⟩
def y153:TyI:=⟨.scal,1,8,.nilf⟩
def y154:TyI:=⟨.scal,1,8,.nilf⟩
def y155:TyI:=⟨.scal,1,8,.nilf⟩
def y156:TyI:=⟨.scal,1,8,.nilf⟩
def y157:TyI:=⟨.int,1,8,(.int .u64 0)⟩
def y158:TyI:=⟨.scal,1,8,.nilf⟩
def y159:TyI:=⟨.scal,1,8,.nilf⟩
def y160:TyI:=⟨.scal,1,8,.nilf⟩
def y161:TyI:=⟨.scal,1,8,.nilf⟩
def y162:TyI:=⟨.scal,1,8,.nilf⟩
def y163:TyI:=⟨.scal,1,8,.nilf⟩
def y164:TyI:=⟨.scal,1,8,.nilf⟩
def y165:TyI:=⟨.scal,1,8,.nilf⟩
def y167:TyI:=⟨.scal,1,8,.nilf⟩
def y168:TyI:=⟨.scal,1,8,.nilf⟩
def y169:TyI:=⟨.scal,1,8,.nilf⟩
def y171:TyI:=⟨.scal,1,8,.nilf⟩
def y172:TyI:=⟨(.slice 23),1,24,(.vsl [] .nil)⟩
def y173:TyI:=⟨.scal,1,8,.nilf⟩
def y174:TyI:=⟨.scal,1,8,.nilf⟩
def y175:TyI:=⟨.scal,1,8,.nilf⟩
def y176:TyI:=⟨.scal,1,8,.nilf⟩
def y177:TyI:=⟨.scal,1,8,.nilf⟩
def y179:TyI:=⟨.scal,1,8,.nilf⟩
def y180:TyI:=⟨.scal,1,8,.nilf⟩
def y181:TyI:=⟨.scal,1,8,.nilf⟩
def y182:TyI:=⟨(.struct [(0,57),(1,57)]),2,48,(.agg [(.vsl [] .nil),(.vsl [] .nil)])⟩
def y183:TyI:=⟨(.struct [(0,57),(1,57)]),2,48,(.agg [(.vsl [] .nil),(.vsl [] .nil)])⟩
def y184:TyI:=⟨.scal,1,8,.nilf⟩
def y185:TyI:=⟨.scal,1,8,.nilf⟩
def y186:TyI:=⟨.scal,1,8,.nilf⟩
def y187:TyI:=⟨.scal,1,8,.nilf⟩
def y188:TyI:=⟨.scal,1,8,.nilf⟩
def y189:TyI:=⟨.scal,1,8,.nilf⟩
def y190:TyI:=⟨.scal,1,8,.nilf⟩
def y191:TyI:=⟨.int,1,8,(.int .i64 0)⟩
def y193:TyI:=⟨.scal,1,8,.nilf⟩
def y194:TyI:=⟨.scal,1,8,.nilf⟩
def y195:TyI:=⟨.scal,1,8,.nilf⟩
def y197:TyI:=⟨.scal,1,8,.nilf⟩
def y198:TyI:=⟨.scal,1,8,.nilf⟩
def y199:TyI:=⟨.scal,1,8,.nilf⟩
def y200:TyI:=⟨.scal,1,8,.nilf⟩
def y201:TyI:=⟨.scal,1,8,.nilf⟩
def y203:TyI:=⟨.scal,1,8,.nilf⟩
def y204:TyI:=⟨.scal,1,8,.nilf⟩
def y205:TyI:=⟨.scal,1,8,.nilf⟩
def y206:TyI:=⟨.scal,1,8,.nilf⟩
def y207:TyI:=⟨.scal,1,8,.nilf⟩
def y208:TyI:=⟨.scal,1,8,.nilf⟩
def y209:TyI:=⟨.scal,1,8,.nilf⟩
def y210:TyI:=⟨.scal,1,8,.nilf⟩
def y211:TyI:=⟨.scal,1,8,.nilf⟩
def y212:TyI:=⟨.scal,1,8,.nilf⟩
def y213:TyI:=⟨.scal,1,8,.nilf⟩
def y215:TyI:=⟨.scal,1,8,.nilf⟩
def y216:TyI:=⟨.scal,1,8,.nilf⟩
def y217:TyI:=⟨.scal,1,8,.nilf⟩
def y218:TyI:=⟨.scal,1,8,.nilf⟩
def y219:TyI:=⟨.scal,1,8,.nilf⟩
def y220:TyI:=⟨.scal,1,8,.nilf⟩
def y221:TyI:=⟨.scal,1,8,.nilf⟩
def y222:TyI:=⟨.scal,1,8,.nilf⟩
def y223:TyI:=⟨.scal,1,8,.nilf⟩
def y225:TyI:=⟨.scal,1,8,.nilf⟩
def y226:TyI:=⟨.scal,1,8,.nilf⟩
def y227:TyI:=⟨.scal,1,8,.nilf⟩
def y229:TyI:=⟨.scal,1,8,.nilf⟩
def y230:TyI:=⟨.int,1,8,(.int .u64 0)⟩
def y231:TyI:=⟨.scal,1,8,.nilf⟩
def y232:TyI:=⟨.scal,1,8,.nilf⟩
def y233:TyI:=⟨.scal,1,8,.nilf⟩
def y234:TyI:=⟨(.ptr 3),1,8,.nilp⟩
def y235:TyI:=⟨.scal,1,8,.nilf⟩
def y236:TyI:=⟨.scal,1,8,.nilf⟩
def y237:TyI:=⟨.scal,1,8,.nilf⟩
def y238:TyI:=⟨.scal,1,8,.nilf⟩
def y239:TyI:=⟨.scal,1,8,.nilf⟩
def y240:TyI:=⟨.scal,1,8,.nilf⟩
def y242:TyI:=⟨.scal,1,8,.nilf⟩
def y243:TyI:=⟨.scal,1,8,.nilf⟩
def y244:TyI:=⟨.scal,1,8,.nilf⟩
def y245:TyI:=⟨.scal,1,8,.nilf⟩
def y246:TyI:=⟨.scal,1,8,.nilf⟩
def y247:TyI:=⟨.scal,1,8,.nilf⟩
def y248:TyI:=⟨.scal,1,8,.nilf⟩
def y249:TyI:=⟨.scal,1,8,.nilf⟩
def y250:TyI:=⟨.scal,1,8,.nilf⟩
def y251:TyI:=⟨.scal,1,8,.nilf⟩
def y253:TyI:=⟨.scal,1,8,.nilf⟩
def y254:TyI:=⟨.scal,1,8,.nilf⟩
def y255:TyI:=⟨(.ptr 230),1,8,.nilp⟩
def y257:TyI:=⟨.scal,1,8,.nilf⟩
def y258:TyI:=⟨.scal,1,8,.nilf⟩
def y259:TyI:=⟨.scal,1,8,.nilf⟩
def y260:TyI:=⟨.scal,1,8,.nilf⟩
def y261:TyI:=⟨.scal,1,8,.nilf⟩
def y262:TyI:=⟨.scal,1,8,.nilf⟩
def y263:TyI:=⟨.scal,1,8,.nilf⟩
def y264:TyI:=⟨.scal,1,8,.nilf⟩
def y266:TyI:=⟨.scal,1,8,.nilf⟩
def y267:TyI:=⟨.scal,1,8,.nilf⟩
def y268:TyI:=⟨.scal,1,16,.nili⟩
def y269:TyI:=⟨.scal,1,16,.nili⟩
def y270:TyI:=⟨.scal,1,8,.nilf⟩
def y272:TyI:=⟨.scal,1,8,.nilf⟩
def y273:TyI:=⟨(.ptr 290),1,8,.nilp⟩
def y274:TyI:=⟨.scal,1,8,.nilf⟩
def y275:TyI:=⟨(.struct [(0,17),(1,17),(2,17),(3,9)]),4,40,(.agg [.nilp,.nilp,.nilp,(.str (ByteArray.mk #[]))])⟩
def y276:TyI:=⟨(.struct [(0,17),(1,17),(2,17),(3,9)]),4,40,(.agg [.nilp,.nilp,.nilp,(.str (ByteArray.mk #[]))])⟩
def y277:TyI:=⟨(.array 0 16),0,0,(.agg [])⟩
def y278:TyI:=⟨(.struct [(0,277)]),0,0,(.agg [])⟩
def y279:TyI:=⟨(.struct [(0,277)]),0,0,(.agg [])⟩
def y280:TyI:=⟨.scal,1,8,.nilf⟩
def y281:TyI:=⟨.int,1,1,(.int .u8 0)⟩
def y282:TyI:=⟨.int,1,1,(.int .u8 0)⟩
def y283:TyI:=⟨.scal,1,8,.nilf⟩
def y284:TyI:=⟨(.ptr 5),1,8,.nilp⟩
def y285:TyI:=⟨.int,1,4,(.int .i32 0)⟩
def y286:TyI:=⟨.int,1,4,(.int .i32 0)⟩
def y287:TyI:=⟨(.struct [(0,12),(1,12),(2,23),(3,281),(4,5),(5,5),(6,282),(7,283),(8,284),(9,285),(10,286)]),11,48,(.agg [(.int .u64 0),(.int .u64 0),(.int .u32 0),(.int .u8 0),(.int .u8 0),(.int .u8 0),(.int .u8 0),.nilf,.nilp,(.int .i32 0),(.int .i32 0)])⟩
def y288:TyI:=⟨(.struct [(0,12),(1,12),(2,23),(3,281),(4,5),(5,5),(6,282),(7,283),(8,284),(9,285),(10,286)]),11,48,(.agg [(.int .u64 0),(.int .u64 0),(.int .u32 0),(.int .u8 0),(.int .u8 0),(.int .u8 0),(.int .u8 0),.nilf,.nilp,(.int .i32 0),(.int .i32 0)])⟩
def y289:TyI:=⟨(.struct [(0,9)]),1,16,(.agg [(.str (ByteArray.mk #[]))])⟩
def y290:TyI:=⟨(.struct [(0,9)]),1,16,(.agg [(.str (ByteArray.mk #[]))])⟩
def y291:TyI:=⟨.scal,1,8,.nilp⟩
def tyL:List (Option TyI):=[none,some y1,some y2,some y3,some y4,some y5,some y6,some y7,some y8,some y9,some y10,some y11,some y12,some y13,some y14,some y15,some y16,some y17,some y18,some y19,some y20,some y21,some y22,some y23,some y24,some y25,some y26,some y27,some y28,some y29,none,some y31,some y32,some y33,some y34,some y35,some y36,some y37,some y38,some y39,some y40,some y41,some y42,some y43,some y44,some y45,some y46,some y47,some y48,some y49,some y50,none,some y52,some y53,some y54,some y55,some y56,some y57,some y58,some y59,some y60,some y61,none,some y63,some y64,some y65,some y66,some y67,some y68,some y69,some y70,some y71,some y72,some y73,some y74,some y75,some y76,some y77,some y78,some y79,some y80,some y81,some y82,some y83,some y84,some y85,some y86,none,some y88,some y89,some y90,some y91,some y92,some y93,some y94,none,some y96,some y97,some y98,some y99,some y100,some y101,some y102,some y103,some y104,some y105,none,some y107,some y108,some y109,some y110,some y111,some y112,some y113,some y114,some y115,some y116,some y117,none,some y119,some y120,some y121,some y122,some y123,some y124,some y125,some y126,some y127,some y128,some y129,some y130,some y131,some y132,some y133,some y134,some y135,some y136,none,some y138,some y139,some y140,some y141,some y142,some y143,some y144,some y145,some y146,some y147,some y148,some y149,some y150,some y151,some y152,some y153,some y154,some y155,some y156,some y157,some y158,some y159,some y160,some y161,some y162,some y163,some y164,some y165,none,some y167,some y168,some y169,none,some y171,some y172,some y173,some y174,some y175,some y176,some y177,none,some y179,some y180,some y181,some y182,some y183,some y184,some y185,some y186,some y187,some y188,some y189,some y190,some y191,none,some y193,some y194,some y195,none,some y197,some y198,some y199,some y200,some y201,none,some y203,some y204,some y205,some y206,some y207,some y208,some y209,some y210,some y211,some y212,some y213,none,some y215,some y216,some y217,some y218,some y219,some y220,some y221,some y222,some y223,none,some y225,some y226,some y227,none,some y229,some y230,some y231,some y232,some y233,some y234,some y235,some y236,some y237,some y238,some y239,some y240,none,some y242,some y243,some y244,some y245,some y246,some y247,some y248,some y249,some y250,some y251,none,some y253,some y254,some y255,none,some y257,some y258,some y259,some y260,some y261,some y262,some y263,some y264,none,some y266,some y267,some y268,some y269,some y270,none,some y272,some y273,some y274,some y275,some y276,some y277,some y278,some y279,some y280,some y281,some y282,some y283,some y284,some y285,some y286,some y287,some y288,some y289,some y290,some y291]
noncomputable def fnL:List (Option Func):=[none,none,some Tryz.f2,some Tryz.f3,some Tryz.f4,some Tryz.f5,some Tryz.f6,some Tryz.f7,some Tryz.f8,some Tryz.f9,some Tryz.f10,some Tryz.f11,some Tryz.f12,some Tryz.f13,some Tryz.f14,some Tryz.f15,some Tryz.f16,some Tryz.f17,some Tryz.f18,some Tryz.f19,some Tryz.f20,some Tryz.f21,some Tryz.f22,some Tryz.f23,some Tryz.f24,some Tryz.f25,some Tryz.f26,some Tryz.f27,some Tryz.f28,some Tryz.f29,some Tryz.f30,some Tryz.f31,some Tryz.f32,some Tryz.f33,some Tryz.f34,some Tryz.f35,some Tryz.f36,some Tryz.f37,some Tryz.f38,some Tryz.f39,some Tryz.f40,some Tryz.f41,some Tryz.f42,some Tryz.f43,some Tryz.f44,some Tryz.f45,some Tryz.f46,some Tryz.f47,some Tryz.f48,some Tryz.f49,some Tryz.f50,some Tryz.f51,some Tryz.f52,some Tryz.f53,some Tryz.f54,some Tryz.f55,some Tryz.f56,some Tryz.f57,some Tryz.f58,some Tryz.f59,some Tryz.f60,some Tryz.f61,some Tryz.f62,some Tryz.f63,some Tryz.f64,some Tryz.f65,some Tryz.f66,some Tryz.f67,some Tryz.f68,some Tryz.f69,some Tryz.f70,some Tryz.f71,some Tryz.f72,some Tryz.f73,some Tryz.f74,some Tryz.f75,some Tryz.f76,some Tryz.f77,some Tryz.f78,some Tryz.f79,some Tryz.f80,some Tryz.f81,some Tryz.f82,some Tryz.f83,some Tryz.f84,some Tryz.f85,some Tryz.f86,some Tryz.f87,some Tryz.f88,some Tryz.f89,some Tryz.f90,some Tryz.f91,some Tryz.f92,some Tryz.f93,some Tryz.f94,some Tryz.f95,some Tryz.f96,some Tryz.f97,some Tryz.f98,some Tryz.f99,some Tryz.f100,some Tryz.f101,some Tryz.f102,some Tryz.f103,some Tryz.f104,some Tryz.f105,some Tryz.f106,some Tryz.f107,some Tryz.f108,some Tryz.f109,some Tryz.f110,some Tryz.f111,some Tryz.f112,some Tryz.f113,some Tryz.f114,some Tryz.f115,some Tryz.f116,some Tryz.f117,some Tryz.f118,some Tryz.f119,some Tryz.f120,some Tryz.f121,some Tryz.f122,some Tryz.f123,some Tryz.f124,some Tryz.f125,some Tryz.f126,some Tryz.f127,some Tryz.f128,some Tryz.f129,some Tryz.f130,some Tryz.f131,some Tryz.f132,some Tryz.f133,some Tryz.f134,some Tryz.f135,some Tryz.f136,some Tryz.f137,some Tryz.f138,some Tryz.f139,some Tryz.f140,some Tryz.f141,some Tryz.f142,some Tryz.f143,some Tryz.f144,some Tryz.f145,some Tryz.f146,some Tryz.f147,some Tryz.f148,some Tryz.f149,some Tryz.f150,some Tryz.f151,some Tryz.f152,some Tryz.f153,some Tryz.f154,some Tryz.f155,some Tryz.f156,some Tryz.f157,some Tryz.f158,some Tryz.f159,some Tryz.f160,some Tryz.f161,some Tryz.f162,some Tryz.f163,some Tryz.f164,some Tryz.f165,some Tryz.f166,some Tryz.f167,some Tryz.f168,some Tryz.f169,some Tryz.f170,some Tryz.f171,some Tryz.f172,some Tryz.f173,some Tryz.f174,some Tryz.f175,some Tryz.f176,some Tryz.f177,some Tryz.f178,some Tryz.f179,some Tryz.f180,some Tryz.f181,some Tryz.f182,some Tryz.f183,some Tryz.f184,some Tryz.f185,some Tryz.f186,some Tryz.f187,some Tryz.f188,some Tryz.f189,some Tryz.f190,some Tryz.f191,some Tryz.f192,some Tryz.f193,some Tryz.f194,some Tryz.f195,some Tryz.f196,some Tryz.f197,some Tryz.f198,some Tryz.f199,some Tryz.f200,some Tryz.f201,some Tryz.f202,some Tryz.f203,some Tryz.f204,some Tryz.f205,some Tryz.f206,some Tryz.f207,some Tryz.f208,some Tryz.f209,some Tryz.f210,some Tryz.f211,some Tryz.f212,some Tryz.f213,some Tryz.f214,some Tryz.f215,some Tryz.f216,some Tryz.f217,some Tryz.f218,some Tryz.f219,some Tryz.f220,some Tryz.f221,some Tryz.f222,some Tryz.f223,some Tryz.f224,some Tryz.f225,some Tryz.f226,some Tryz.f227,some Tryz.f228,some Tryz.f229,some Tryz.f230,some Tryz.f231,some Tryz.f232,some Tryz.f233,some Tryz.f234,some Tryz.f235,some Tryz.f236,some Tryz.f237,some Tryz.f238,some Tryz.f239,some Tryz.f240,some Tryz.f241,some Tryz.f242,some Tryz.f243,some Tryz.f244,some Tryz.f245,some Tryz.f246,some Tryz.f247,some Tryz.f248,some Tryz.f249,some Tryz.f250,some Tryz.f251,some Tryz.f252,some Tryz.f253,some Tryz.f254,some Tryz.f255,some Tryz.f256,some Tryz.f257,some Tryz.f258,some Tryz.f259,some Tryz.f260,some Tryz.f261,some Tryz.f262,some Tryz.f263,some Tryz.f264,some Tryz.f265,some Tryz.f266,some Tryz.f267,some Tryz.f268,some Tryz.f269,some Tryz.f270,some Tryz.f271,some Tryz.f272,some Tryz.f273,some Tryz.f274,some Tryz.f275,some Tryz.f276,some Tryz.f277,some Tryz.f278,some Tryz.f279,some Tryz.f280,some Tryz.f281,some Tryz.f282,some Tryz.f283,some Tryz.f284,some Tryz.f285,some Tryz.f286,some Tryz.f287,some Tryz.f288,some Tryz.f289,some Tryz.f290,some Tryz.f291,some Tryz.f292,some Tryz.f293,some Tryz.f294,some Tryz.f295,some Tryz.f296,some Tryz.f297,some Tryz.f298,some Tryz.f299,some Tryz.f300,some Tryz.f301,some Tryz.f302,some Tryz.f303,some Tryz.f304,some Tryz.f305,some Tryz.f306,none,none,none,none,none,none,none,none,none,none,none,none,none,none,none,none,none,none]
theorem tyL_tr:TyL Tryz.prog 0 tyL:=⟨by kernel_rfl,by kernel_rfl,by kernel_rfl,by kernel_rfl,by kernel_rfl,by kernel_rfl,by kernel_rfl,by kernel_rfl,by kernel_rfl,by kernel_rfl,by kernel_rfl,by kernel_rfl,by kernel_rfl,by kernel_rfl,by kernel_rfl,by kernel_rfl,by kernel_rfl,by kernel_rfl,by kernel_rfl,by kernel_rfl,by kernel_rfl,by kernel_rfl,by kernel_rfl,by kernel_rfl,by kernel_rfl,by kernel_rfl,by kernel_rfl,by kernel_rfl,by kernel_rfl,by kernel_rfl,by kernel_rfl,by kernel_rfl,by kernel_rfl,by kernel_rfl,by kernel_rfl,by kernel_rfl,by kernel_rfl,by kernel_rfl,by kernel_rfl,by kernel_rfl,by kernel_rfl,by kernel_rfl,by kernel_rfl,by kernel_rfl,by kernel_rfl,by kernel_rfl,by kernel_rfl,by kernel_rfl,by kernel_rfl,by kernel_rfl,by kernel_rfl,by kernel_rfl,by kernel_rfl,by kernel_rfl,by kernel_rfl,by kernel_rfl,by kernel_rfl,by kernel_rfl,by kernel_rfl,by kernel_rfl,by kernel_rfl,by kernel_rfl,by kernel_rfl,by kernel_rfl,by kernel_rfl,by kernel_rfl,by kernel_rfl,by kernel_rfl,by kernel_rfl,by kernel_rfl,by kernel_rfl,by kernel_rfl,by kernel_rfl,by kernel_rfl,by kernel_rfl,by kernel_rfl,by kernel_rfl,by kernel_rfl,by kernel_rfl,by kernel_rfl,by kernel_rfl,by kernel_rfl,by kernel_rfl,by kernel_rfl,by kernel_rfl,by kernel_rfl,by kernel_rfl,by kernel_rfl,by kernel_rfl,by kernel_rfl,by kernel_rfl,by kernel_rfl,by kernel_rfl,by kernel_rfl,by kernel_rfl,by kernel_rfl,by kernel_rfl,by kernel_rfl,by kernel_rfl,by kernel_rfl,by kernel_rfl,by kernel_rfl,by kernel_rfl,by kernel_rfl,by kernel_rfl,by kernel_rfl,by kernel_rfl,by kernel_rfl,by kernel_rfl,by kernel_rfl,by kernel_rfl,by kernel_rfl,by kernel_rfl,by kernel_rfl,by kernel_rfl,by kernel_rfl,by kernel_rfl,by kernel_rfl,by kernel_rfl,by kernel_rfl,by kernel_rfl,by kernel_rfl,by kernel_rfl,by kernel_rfl,by kernel_rfl,by kernel_rfl,by kernel_rfl,by kernel_rfl,by kernel_rfl,by kernel_rfl,by kernel_rfl,by kernel_rfl,by kernel_rfl,by kernel_rfl,by kernel_rfl,by kernel_rfl,by kernel_rfl,by kernel_rfl,by kernel_rfl,by kernel_rfl,by kernel_rfl,by kernel_rfl,by kernel_rfl,by kernel_rfl,by kernel_rfl,by kernel_rfl,by kernel_rfl,by kernel_rfl,by kernel_rfl,by kernel_rfl,by kernel_rfl,by kernel_rfl,by kernel_rfl,by kernel_rfl,by kernel_rfl,by kernel_rfl,by kernel_rfl,by kernel_rfl,by kernel_rfl,by kernel_rfl,by kernel_rfl,by kernel_rfl,by kernel_rfl,by kernel_rfl,by kernel_rfl,by kernel_rfl,by kernel_rfl,by kernel_rfl,by kernel_rfl,by kernel_rfl,by kernel_rfl,by kernel_rfl,by kernel_rfl,by kernel_rfl,by kernel_rfl,by kernel_rfl,by kernel_rfl,by kernel_rfl,by kernel_rfl,by kernel_rfl,by kernel_rfl,by kernel_rfl,by kernel_rfl,by kernel_rfl,by kernel_rfl,by kernel_rfl,by kernel_rfl,by kernel_rfl,by kernel_rfl,by kernel_rfl,by kernel_rfl,by kernel_rfl,by kernel_rfl,by kernel_rfl,by kernel_rfl,by kernel_rfl,by kernel_rfl,by kernel_rfl,by kernel_rfl,by kernel_rfl,by kernel_rfl,by kernel_rfl,by kernel_rfl,by kernel_rfl,by kernel_rfl,by kernel_rfl,by kernel_rfl,by kernel_rfl,by kernel_rfl,by kernel_rfl,by kernel_rfl,by kernel_rfl,by kernel_rfl,by kernel_rfl,by kernel_rfl,by kernel_rfl,by kernel_rfl,by kernel_rfl,by kernel_rfl,by kernel_rfl,by kernel_rfl,by kernel_rfl,by kernel_rfl,by kernel_rfl,by kernel_rfl,by kernel_rfl,by kernel_rfl,by kernel_rfl,by kernel_rfl,by kernel_rfl,by kernel_rfl,by kernel_rfl,by kernel_rfl,by kernel_rfl,by kernel_rfl,by kernel_rfl,by kernel_rfl,by kernel_rfl,by kernel_rfl,by kernel_rfl,by kernel_rfl,by kernel_rfl,by kernel_rfl,by kernel_rfl,by kernel_rfl,by kernel_rfl,by kernel_rfl,by kernel_rfl,by kernel_rfl,by kernel_rfl,by kernel_rfl,by kernel_rfl,by kernel_rfl,by kernel_rfl,by kernel_rfl,by kernel_rfl,by kernel_rfl,by kernel_rfl,by kernel_rfl,by kernel_rfl,by kernel_rfl,by kernel_rfl,by kernel_rfl,by kernel_rfl,by kernel_rfl,by kernel_rfl,by kernel_rfl,by kernel_rfl,by kernel_rfl,trivial⟩
theorem fnL_tr:FnL Tryz.prog 0 fnL:=⟨by kernel_rfl,by kernel_rfl,by kernel_rfl,by kernel_rfl,by kernel_rfl,by kernel_rfl,by kernel_rfl,by kernel_rfl,by kernel_rfl,by kernel_rfl,by kernel_rfl,by kernel_rfl,by kernel_rfl,by kernel_rfl,by kernel_rfl,by kernel_rfl,by kernel_rfl,by kernel_rfl,by kernel_rfl,by kernel_rfl,by kernel_rfl,by kernel_rfl,by kernel_rfl,by kernel_rfl,by kernel_rfl,by kernel_rfl,by kernel_rfl,by kernel_rfl,by kernel_rfl,by kernel_rfl,by kernel_rfl,by kernel_rfl,by kernel_rfl,by kernel_rfl,by kernel_rfl,by kernel_rfl,by kernel_rfl,by kernel_rfl,by kernel_rfl,by kernel_rfl,by kernel_rfl,by kernel_rfl,by kernel_rfl,by kernel_rfl,by kernel_rfl,by kernel_rfl,by kernel_rfl,by kernel_rfl,by kernel_rfl,by kernel_rfl,by kernel_rfl,by kernel_rfl,by kernel_rfl,by kernel_rfl,by kernel_rfl,by kernel_rfl,by kernel_rfl,by kernel_rfl,by kernel_rfl,by kernel_rfl,by kernel_rfl,by kernel_rfl,by kernel_rfl,by kernel_rfl,by kernel_rfl,by kernel_rfl,by kernel_rfl,by kernel_rfl,by kernel_rfl,by kernel_rfl,by kernel_rfl,by kernel_rfl,by kernel_rfl,by kernel_rfl,by kernel_rfl,by kernel_rfl,by kernel_rfl,by kernel_rfl,by kernel_rfl,by kernel_rfl,by kernel_rfl,by kernel_rfl,by kernel_rfl,by kernel_rfl,by kernel_rfl,by kernel_rfl,by kernel_rfl,by kernel_rfl,by kernel_rfl,by kernel_rfl,by kernel_rfl,by kernel_rfl,by kernel_rfl,by kernel_rfl,by kernel_rfl,by kernel_rfl,by kernel_rfl,by kernel_rfl,by kernel_rfl,by kernel_rfl,by kernel_rfl,by kernel_rfl,by kernel_rfl,by kernel_rfl,by kernel_rfl,by kernel_rfl,by kernel_rfl,by kernel_rfl,by kernel_rfl,by kernel_rfl,by kernel_rfl,by kernel_rfl,by kernel_rfl,by kernel_rfl,by kernel_rfl,by kernel_rfl,by kernel_rfl,by kernel_rfl,by kernel_rfl,by kernel_rfl,by kernel_rfl,by kernel_rfl,by kernel_rfl,by kernel_rfl,by kernel_rfl,by kernel_rfl,by kernel_rfl,by kernel_rfl,by kernel_rfl,by kernel_rfl,by kernel_rfl,by kernel_rfl,by kernel_rfl,by kernel_rfl,by kernel_rfl,by kernel_rfl,by kernel_rfl,by kernel_rfl,by kernel_rfl,by kernel_rfl,by kernel_rfl,by kernel_rfl,by kernel_rfl,by kernel_rfl,by kernel_rfl,by kernel_rfl,by kernel_rfl,by kernel_rfl,by kernel_rfl,by kernel_rfl,by kernel_rfl,by kernel_rfl,by kernel_rfl,by kernel_rfl,by kernel_rfl,by kernel_rfl,by kernel_rfl,by kernel_rfl,by kernel_rfl,by kernel_rfl,by kernel_rfl,by kernel_rfl,by kernel_rfl,by kernel_rfl,by kernel_rfl,by kernel_rfl,by kernel_rfl,by kernel_rfl,by kernel_rfl,by kernel_rfl,by kernel_rfl,by kernel_rfl,by kernel_rfl,by kernel_rfl,by kernel_rfl,by kernel_rfl,by kernel_rfl,by kernel_rfl,by kernel_rfl,by kernel_rfl,by kernel_rfl,by kernel_rfl,by kernel_rfl,by kernel_rfl,by kernel_rfl,by kernel_rfl,by kernel_rfl,by kernel_rfl,by kernel_rfl,by kernel_rfl,by kernel_rfl,by kernel_rfl,by kernel_rfl,by kernel_rfl,by kernel_rfl,by kernel_rfl,by kernel_rfl,by kernel_rfl,by kernel_rfl,by kernel_rfl,by kernel_rfl,by kernel_rfl,by kernel_rfl,by kernel_rfl,by kernel_rfl,by kernel_rfl,by kernel_rfl,by kernel_rfl,by kernel_rfl,by kernel_rfl,by kernel_rfl,by kernel_rfl,by kernel_rfl,by kernel_rfl,by kernel_rfl,by kernel_rfl,by kernel_rfl,by kernel_rfl,by kernel_rfl,by kernel_rfl,by kernel_rfl,by kernel_rfl,by kernel_rfl,by kernel_rfl,by kernel_rfl,by kernel_rfl,by kernel_rfl,by kernel_rfl,by kernel_rfl,by kernel_rfl,by kernel_rfl,by kernel_rfl,by kernel_rfl,by kernel_rfl,by kernel_rfl,by kernel_rfl,by kernel_rfl,by kernel_rfl,by kernel_rfl,by kernel_rfl,by kernel_rfl,by kernel_rfl,by kernel_rfl,by kernel_rfl,by kernel_rfl,by kernel_rfl,by kernel_rfl,by kernel_rfl,by kernel_rfl,by kernel_rfl,by kernel_rfl,by kernel_rfl,by kernel_rfl,by kernel_rfl,by kernel_rfl,by kernel_rfl,by kernel_rfl,by kernel_rfl,by kernel_rfl,by kernel_rfl,by kernel_rfl,by kernel_rfl,by kernel_rfl,by kernel_rfl,by kernel_rfl,by kernel_rfl,by kernel_rfl,by kernel_rfl,by kernel_rfl,by kernel_rfl,by kernel_rfl,by kernel_rfl,by kernel_rfl,by kernel_rfl,by kernel_rfl,by kernel_rfl,by kernel_rfl,by kernel_rfl,by kernel_rfl,by kernel_rfl,by kernel_rfl,by kernel_rfl,by kernel_rfl,by kernel_rfl,by kernel_rfl,by kernel_rfl,by kernel_rfl,by kernel_rfl,by kernel_rfl,by kernel_rfl,by kernel_rfl,by kernel_rfl,by kernel_rfl,by kernel_rfl,by kernel_rfl,by kernel_rfl,by kernel_rfl,by kernel_rfl,by kernel_rfl,by kernel_rfl,by kernel_rfl,by kernel_rfl,by kernel_rfl,by kernel_rfl,by kernel_rfl,trivial⟩
noncomputable def roots:List Ent:=[⟨8,[],.bool true⟩]
noncomputable def cT:Cfg:={ ty:=fun t=>(getL tyL t).bind id,fns:=fun f=>(getL fnL f).bind id,orc:=lookE roots,mode:=modeT }
end Go.Proofs
namespace Go.Sh
theorem wpO_congr{α:Type}{o o':Option α}{k:α→Prop}(h:o=o'):wpO o k=wpO o' k:=by rw[h]
theorem condP_congr{v v':SV}{a b:Prop}(h:v=v'):condP v a b=condP v' a b:=by rw[h]
theorem grdP_congr{v v':Option SV}{want:Bool}{o:(SV→Zt→Prop)→Prop}{S:Zt}{k:SV→Zt→Prop}(h:v=v'):grdP v want o S k=grdP v' want o S k:=by rw[h]
theorem DenP_congr{cfg:Cfg}{n:Nat}{c:Code}{e:En}{S:Zt}{k:X→En→Zt→Prop}:DenP cfg n c e S k=DenP cfg n c e S k:=rfl
attribute [congr] wpO_congr condP_congr grdP_congr DenP_congr
attribute [simp] wpO_none
@[simp] theorem ws{α:Type}{x:α}{k:α→Prop}:wpO (some x) k=k x:=propext Iff.rfl
@[simp] theorem condP_t{a b:Prop}:condP (.bool true) a b=a:=propext Iff.rfl
@[simp] theorem cf_{a b:Prop}:condP (.bool false) a b=b:=propext Iff.rfl
@[simp] theorem grdP_tt{o:(SV→Zt→Prop)→Prop}{S:Zt}{k:SV→Zt→Prop}:grdP (some (.bool true)) true o S k=o k:=propext Iff.rfl
@[simp] theorem grdP_ft{o:(SV→Zt→Prop)→Prop}{S:Zt}{k:SV→Zt→Prop}:grdP (some (.bool false)) true o S k=k undefS S:=propext Iff.rfl
@[simp] theorem grdP_tf{o:(SV→Zt→Prop)→Prop}{S:Zt}{k:SV→Zt→Prop}:grdP (some (.bool true)) false o S k=k undefS S:=propext Iff.rfl
@[simp] theorem grdP_ff{o:(SV→Zt→Prop)→Prop}{S:Zt}{k:SV→Zt→Prop}:grdP (some (.bool false)) false o S k=o k:=propext Iff.rfl
theorem condP_dec{p:Prop}[Decidable p]{a b:Prop}(h:p→a)(h2:¬p→b):condP (.bool (decide p)) a b:=by
 by_cases hp:p
 ·rw[decide_eq_true hp];exact h hp
 ·rw[decide_eq_false hp];exact h2 hp
@[simp] theorem pickS_t{a b:SV}:pickS (.bool true) a b=some a:=rfl
@[simp] theorem pickS_f{a b:SV}:pickS (.bool false) a b=some b:=rfl
theorem wrap64{n:Int}(h0:-9223372036854775808≤n)(h1:n<9223372036854775808):wrS .i64 n=n:=by simp only[wrS];rw[if_pos ⟨h0,h1⟩]
theorem wrapU64{n:Int}(h0:0≤n)(h1:n<18446744073709551616):wrS .u64 n=n:=by simp only[wrS];rw[if_pos ⟨h0,h1⟩]
section
variable {u:Option TyI} {k:IntKind} {a b:Int}
@[simp] theorem b_add:bnS .add u (.int k a) (.int k b)=some (.int k (wrS k (a+b))):=by simp[bnS,isShift,arithS]
@[simp] theorem b_sub:bnS .sub u (.int k a) (.int k b)=some (.int k (wrS k (a-b))):=by simp[bnS,isShift,arithS]
@[simp] theorem b_mul:bnS .mul u (.int k a) (.int k b)=some (.int k (wrS k (a*b))):=by simp[bnS,isShift,arithS]
theorem b_quo(h:b≠0):bnS .quo u (.int k a) (.int k b)=some (.int k (wrS k (a.tdiv b))):=by simp[bnS,isShift,arithS,h]
theorem b_rem(h:b≠0):bnS .rem u (.int k a) (.int k b)=some (.int k (a.tmod b)):=by simp[bnS,isShift,arithS,h]
@[simp] theorem b_eql:bnS .eql u (.int k a) (.int k b)=some (.bool (decide (a=b))):=by
 simp only[bnS,isShift,arithS,cmpS,Bool.false_eq_true,if_false,if_true]
 congr 2
@[simp] theorem b_neq:bnS .neq u (.int k a) (.int k b)=some (.bool (decide (a≠b))):=by
 simp only[bnS,isShift,arithS,cmpS,Bool.false_eq_true,if_false,if_true]
 congr 2
 by_cases h:a=b<;>simp[h,bne]
@[simp] theorem b_lss:bnS .lss u (.int k a) (.int k b)=some (.bool (decide (a<b))):=by simp[bnS,isShift,arithS,cmpS]
@[simp] theorem b_leq:bnS .leq u (.int k a) (.int k b)=some (.bool (decide (a≤b))):=by simp[bnS,isShift,arithS,cmpS]
@[simp] theorem b_gtr:bnS .gtr u (.int k a) (.int k b)=some (.bool (decide (b<a))):=by simp[bnS,isShift,arithS,cmpS]
@[simp] theorem b_geq:bnS .geq u (.int k a) (.int k b)=some (.bool (decide (b≤a))):=by simp[bnS,isShift,arithS,cmpS]
theorem b_shr{k':IntKind}{n:Nat}(h:n≤k.bits):bnS .shr u (.int k a) (.int k' n)=some (.int k (a.fdiv (2^n))):=by
 simp only[bnS,isShift,shiftS]
 rw[if_pos trivial,if_neg (by omega)]
 simp[Nat.min_eq_left h]
end
@[simp] theorem u_not{b:Bool}:unS .not (.bool b)=some (.bool !b):=rfl
@[simp] theorem u_neg{k:IntKind}{a:Int}:unS .neg (.int k a)=some (.int k (wrS k (0-a))):=rfl
theorem conv_int{i:TyI}{k:IntKind}{m:Int}(h:i.kind=.int)(h2:i.zero=.int k m){k':IntKind}{n:Int}:convS i (.int k' n)=some (.int k (wrS k n)):=by
 unfold convS;rw[h,h2]
@[simp] theorem max_2{k:IntKind}{a b:Int}:foldS max2S (.int k a) [.int k b]=some (.int k (max a b)):=by
 simp only[foldS,max2S,if_true,Option.bind_some]
 congr 2
 omega
@[simp] theorem min_2{k:IntKind}{a b:Int}:foldS min2S (.int k a) [.int k b]=some (.int k (min a b)):=by
 simp only[foldS,min2S,if_true,Option.bind_some]
 congr 2
 omega
theorem len_vsl{i:TyI}{e:TypeId}(h:i.kind=.slice e){es:List SV}{c:VC}:lenS i (.vsl es c)=some (.int .i64 es.length):=by unfold lenS;rw[h]
theorem len_osl{i:TyI}{e:TypeId}(h:i.kind=.slice e){id sz off len:Nat}{cap:Option Nat}:lenS i (.osl id sz off len cap)=some (.int .i64 len):=by unfold lenS;rw[h]
theorem idx_vsl{cfg:Cfg}{i j:TyI}{t:TypeId}{es:List SV}{c:VC}{k:IntKind}{n:Nat}{v:SV}(h:i.kind=.slice t)(ht:cfg.ty t=some j)(hj:j.size≠0)(hv:es[n]?=some v)(hn:v.n=j.size) :
  ixS cfg i (.vsl es c) (.int k n)=some (.vptr v):=by
 unfold ixS natS
 simp only[Int.natCast_nonneg,if_true,Option.bind_some,Int.toNat_natCast,h,ht]
 rw[if_neg hj,hv]
 simp only[Option.bind_some]
 rw[if_pos hn]
theorem idx_osl{cfg:Cfg}{i j:TyI}{t:TypeId}{k:IntKind}{n id sz off len:Nat}{cap:Option Nat}(h:i.kind=.slice t)(ht:cfg.ty t=some j)(hj:j.size≠0)(hn:n<len)(hs:sz=j.size) :
  ixS cfg i (.osl id sz off len cap) (.int k n)=some (.optr id (off+n) 0):=by
 unfold ixS natS
 simp only[Int.natCast_nonneg,if_true,Option.bind_some,Int.toNat_natCast,h,ht]
 rw[if_neg hj,if_pos ⟨hn,hs⟩]
theorem load_row{i:TyI}{S:Zt}{id j off:Nat}{es:List SV}{lv:Bool}{e:SV}(h:S[id]?=some (.cells es lv))(he:es[j]?=some e):ldS i S (.optr id j off)=partS i e.cells off:=by
 unfold ldS;simp only[h,he,Option.bind_some]
theorem store_row{i:TyI}{S:Zt}{id j:Nat}{es:List SV}{e v e':SV}{off:Nat}(h:S[id]?=some (.cells es true))(he:es[j]?=some e)(hn:v.n=i.size)(hf:flatS v=true)(hp:putPart e off v=some e') :
  stS i S (.optr id j off) v=some (S.set id (.cells (es.set j e') true)):=by
 unfold stS;simp only[h]
 rw[if_pos ⟨hn,hf⟩,he]
 simp only[Option.bind_some,hp]
theorem frz_pure{S:Zt}{v:SV}(h:pureS v=true):frz S dS v=some v∧refs S dS v=[]:=by
 have leaf:∀n,∀c:SV,(match c with
  |.int ..|.bool _|.str _|.nilp|.nilf|.nili|.vsl ..|.vptr _=>true
  |_=>false)=true→frz S (n+1) c=some c∧refs S (n+1) c=[]:=by
  intro n c hc
  cases c<;>first|exact⟨rfl,rfl⟩|cases hc
 cases v with
 |agg cs=>
  simp only[pureS,List.all_eq_true]at h
  have key:∀l:List SV,(∀c∈l,(match c with
   |.int ..|.bool _|.str _|.nilp|.nilf|.nili|.vsl ..|.vptr _=>true
   |_=>false)=true)→l.mapM (frz S 11)=some l∧l.flatMap (refs S 11)=[]:=by
   intro l
   induction l with
   |nil=>intro _;exact⟨rfl,rfl⟩
   |cons a r ih=>
    intro hl
    obtain⟨h1,h2⟩:=ih fun c hc=>hl c (List.mem_cons_of_mem _ hc)
    obtain⟨h3,h4⟩:=leaf 10 a (hl a List.mem_cons_self)
    exact⟨by rw[List.mapM_cons,h3,h1];rfl,by rw[List.flatMap_cons,h4,h2];rfl⟩
  obtain⟨h1,h2⟩:=key cs h
  exact⟨by show(cs.mapM (frz S 11)).map SV.agg=_;rw[h1];rfl,h2⟩
 |_=>first|exact leaf 11 _ rfl|exact absurd h (by simp[pureS])
theorem frz_all{S:Zt}:∀{l:List SV},l.all pureS=true→l.mapM (frz S dS)=some l∧l.flatMap (refs S dS)=[]
 |[],_=>⟨rfl,rfl⟩
 |a::r,h=>by
  simp only[List.all_cons,Bool.and_eq_true]at h
  obtain⟨h1,h2⟩:=frz_all (S:=S) h.2
  obtain⟨h3,h4⟩:=frz_pure (S:=S) h.1
  exact⟨by rw[List.mapM_cons,h3,h1];rfl,by rw[List.flatMap_cons,h4,h2];rfl⟩
theorem cpu{cfg:Cfg}{f:FuncId}{args:List SV}{S:Zt}{k:SV×Zt→Prop}(hm:cfg.mode f=.pure)(hp:args.all pureS=true)(h:wpO (pW cfg f args) fun v=>k (v,S)):wpO (cW cfg f args S) k:=by
 rw[callW_eq,hm]
 obtain⟨h1,h2⟩:=frz_all (S:=S) hp
 simp only[h1,h2,Option.bind_some]
 rw[wpO_iff]at h ⊢
 obtain⟨v,hv,h⟩:=h
 exact⟨_,by rw[hv];rfl,h⟩
theorem frz_row{S:Zt}{id sz off len:Nat}{cap:Option Nat}{es:List SV}{lv:Bool}(h:S[id]?=some (.cells es lv))(hl:off+len≤es.length)(hp:∀e∈(es.drop off).take len,pureS e=true) :
  frz S dS (.osl id sz off len cap)=some (.vsl ((es.drop off).take len) (if cap=some len then .exact else .loose))∧refs S dS (.osl id sz off len cap)=[id]:=by
 have leaf:∀n,∀c:SV,(match c with
  |.int ..|.bool _|.str _|.nilp|.nilf|.nili|.vsl ..|.vptr _=>true
  |_=>false)=true→frz S (n+1) c=some c∧refs S (n+1) c=[]:=by
  intro n c hc
  cases c<;>first|exact⟨rfl,rfl⟩|cases hc
 have one:∀c:SV,pureS c=true→frz S 11 c=some c∧refs S 11 c=[]:=by
  intro c hc
  cases c with
  |agg cs=>
   simp only[pureS,List.all_eq_true]at hc
   have key:∀l:List SV,(∀c∈l,(match c with
    |.int ..|.bool _|.str _|.nilp|.nilf|.nili|.vsl ..|.vptr _=>true
    |_=>false)=true)→l.mapM (frz S 10)=some l∧l.flatMap (refs S 10)=[]:=by
    intro l
    induction l with
    |nil=>intro _;exact⟨rfl,rfl⟩
    |cons a r ih=>
     intro hl
     obtain⟨h1,h2⟩:=ih fun c hc=>hl c (List.mem_cons_of_mem _ hc)
     obtain⟨h3,h4⟩:=leaf 9 a (hl a List.mem_cons_self)
     exact⟨by rw[List.mapM_cons,h3,h1];rfl,by rw[List.flatMap_cons,h4,h2];rfl⟩
   obtain⟨h1,h2⟩:=key cs hc
   exact⟨by show(cs.mapM (frz S 10)).map SV.agg=_;rw[h1];rfl,h2⟩
  |_=>first|exact leaf 10 _ rfl|exact absurd hc (by simp[pureS])
 have all:∀l:List SV,(∀e∈l,pureS e=true)→l.mapM (frz S 11)=some l∧l.flatMap (refs S 11)=[]:=by
  intro l
  induction l with
  |nil=>intro _;exact⟨rfl,rfl⟩
  |cons a r ih=>
   intro hl
   obtain⟨h1,h2⟩:=ih fun c hc=>hl c (List.mem_cons_of_mem _ hc)
   obtain⟨h3,h4⟩:=one a (hl a List.mem_cons_self)
   exact⟨by rw[List.mapM_cons,h3,h1];rfl,by rw[List.flatMap_cons,h4,h2];rfl⟩
 obtain⟨h1,h2⟩:=all _ hp
 constructor
 ·show(match S[id]? with
   |some (.cells es _)=>if off+len≤es.length then(((es.drop off).take len).mapM (frz S 11)).map fun xs=>SV.vsl xs (if cap=some len then .exact else .loose)else none
   |_=>none)=_
  rw[h]
  simp only[]
  rw[if_pos hl,h1]
  rfl
 ·show id::(match S[id]? with
   |some (.cells es _)=>((es.drop off).take len).flatMap (refs S 11)
   |_=>[])=_
  rw[h]
  simp only[h2]
end Go.Sh
namespace Go.Proofs
open Go.Sh
@[simp] theorem ct1:cT.ty 1=some y1:=rfl
@[simp] theorem ct2:cT.ty 2=some y2:=rfl
@[simp] theorem ct3:cT.ty 3=some y3:=rfl
@[simp] theorem ct4:cT.ty 4=some y4:=rfl
@[simp] theorem ct5:cT.ty 5=some y5:=rfl
@[simp] theorem ct6:cT.ty 6=some y6:=rfl
@[simp] theorem ct7:cT.ty 7=some y7:=rfl
@[simp] theorem ct8:cT.ty 8=some y8:=rfl
@[simp] theorem ct9:cT.ty 9=some y9:=rfl
@[simp] theorem ct10:cT.ty 10=some y10:=rfl
@[simp] theorem ct11:cT.ty 11=some y11:=rfl
@[simp] theorem ct12:cT.ty 12=some y12:=rfl
@[simp] theorem ct13:cT.ty 13=some y13:=rfl
@[simp] theorem ct14:cT.ty 14=some y14:=rfl
@[simp] theorem ct15:cT.ty 15=some y15:=rfl
@[simp] theorem ct16:cT.ty 16=some y16:=rfl
@[simp] theorem ct17:cT.ty 17=some y17:=rfl
@[simp] theorem ct18:cT.ty 18=some y18:=rfl
@[simp] theorem ct19:cT.ty 19=some y19:=rfl
@[simp] theorem ct20:cT.ty 20=some y20:=rfl
@[simp] theorem ct21:cT.ty 21=some y21:=rfl
@[simp] theorem ct22:cT.ty 22=some y22:=rfl
@[simp] theorem ct23:cT.ty 23=some y23:=rfl
@[simp] theorem ct24:cT.ty 24=some y24:=rfl
@[simp] theorem ct25:cT.ty 25=some y25:=rfl
@[simp] theorem ct26:cT.ty 26=some y26:=rfl
@[simp] theorem ct27:cT.ty 27=some y27:=rfl
@[simp] theorem ct28:cT.ty 28=some y28:=rfl
@[simp] theorem ct29:cT.ty 29=some y29:=rfl
@[simp] theorem ct31:cT.ty 31=some y31:=rfl
@[simp] theorem ct32:cT.ty 32=some y32:=rfl
@[simp] theorem ct33:cT.ty 33=some y33:=rfl
@[simp] theorem ct34:cT.ty 34=some y34:=rfl
@[simp] theorem ct35:cT.ty 35=some y35:=rfl
@[simp] theorem ct36:cT.ty 36=some y36:=rfl
@[simp] theorem ct37:cT.ty 37=some y37:=rfl
@[simp] theorem ct38:cT.ty 38=some y38:=rfl
@[simp] theorem ct39:cT.ty 39=some y39:=rfl
@[simp] theorem ct40:cT.ty 40=some y40:=rfl
@[simp] theorem ct41:cT.ty 41=some y41:=rfl
@[simp] theorem ct42:cT.ty 42=some y42:=rfl
@[simp] theorem ct43:cT.ty 43=some y43:=rfl
@[simp] theorem ct44:cT.ty 44=some y44:=rfl
@[simp] theorem ct45:cT.ty 45=some y45:=rfl
@[simp] theorem ct46:cT.ty 46=some y46:=rfl
@[simp] theorem ct47:cT.ty 47=some y47:=rfl
@[simp] theorem ct48:cT.ty 48=some y48:=rfl
@[simp] theorem ct49:cT.ty 49=some y49:=rfl
@[simp] theorem ct50:cT.ty 50=some y50:=rfl
@[simp] theorem ct52:cT.ty 52=some y52:=rfl
@[simp] theorem ct53:cT.ty 53=some y53:=rfl
@[simp] theorem ct54:cT.ty 54=some y54:=rfl
@[simp] theorem ct55:cT.ty 55=some y55:=rfl
@[simp] theorem ct56:cT.ty 56=some y56:=rfl
@[simp] theorem ct57:cT.ty 57=some y57:=rfl
@[simp] theorem ct58:cT.ty 58=some y58:=rfl
@[simp] theorem ct59:cT.ty 59=some y59:=rfl
@[simp] theorem ct60:cT.ty 60=some y60:=rfl
@[simp] theorem ct61:cT.ty 61=some y61:=rfl
@[simp] theorem ct63:cT.ty 63=some y63:=rfl
@[simp] theorem ct64:cT.ty 64=some y64:=rfl
@[simp] theorem ct65:cT.ty 65=some y65:=rfl
@[simp] theorem ct66:cT.ty 66=some y66:=rfl
@[simp] theorem ct67:cT.ty 67=some y67:=rfl
@[simp] theorem ct68:cT.ty 68=some y68:=rfl
@[simp] theorem ct69:cT.ty 69=some y69:=rfl
@[simp] theorem ct70:cT.ty 70=some y70:=rfl
@[simp] theorem ct71:cT.ty 71=some y71:=rfl
@[simp] theorem ct72:cT.ty 72=some y72:=rfl
@[simp] theorem ct73:cT.ty 73=some y73:=rfl
@[simp] theorem ct74:cT.ty 74=some y74:=rfl
@[simp] theorem ct75:cT.ty 75=some y75:=rfl
@[simp] theorem ct76:cT.ty 76=some y76:=rfl
@[simp] theorem ct77:cT.ty 77=some y77:=rfl
@[simp] theorem ct78:cT.ty 78=some y78:=rfl
@[simp] theorem ct79:cT.ty 79=some y79:=rfl
@[simp] theorem ct80:cT.ty 80=some y80:=rfl
@[simp] theorem ct81:cT.ty 81=some y81:=rfl
@[simp] theorem ct82:cT.ty 82=some y82:=rfl
@[simp] theorem ct83:cT.ty 83=some y83:=rfl
@[simp] theorem ct84:cT.ty 84=some y84:=rfl
@[simp] theorem ct85:cT.ty 85=some y85:=rfl
@[simp] theorem ct86:cT.ty 86=some y86:=rfl
@[simp] theorem ct88:cT.ty 88=some y88:=rfl
@[simp] theorem ct89:cT.ty 89=some y89:=rfl
@[simp] theorem ct90:cT.ty 90=some y90:=rfl
@[simp] theorem ct91:cT.ty 91=some y91:=rfl
@[simp] theorem ct92:cT.ty 92=some y92:=rfl
@[simp] theorem ct93:cT.ty 93=some y93:=rfl
@[simp] theorem ct94:cT.ty 94=some y94:=rfl
@[simp] theorem ct96:cT.ty 96=some y96:=rfl
@[simp] theorem ct97:cT.ty 97=some y97:=rfl
@[simp] theorem ct98:cT.ty 98=some y98:=rfl
@[simp] theorem ct99:cT.ty 99=some y99:=rfl
@[simp] theorem ct100:cT.ty 100=some y100:=rfl
@[simp] theorem ct101:cT.ty 101=some y101:=rfl
@[simp] theorem ct102:cT.ty 102=some y102:=rfl
@[simp] theorem ct103:cT.ty 103=some y103:=rfl
@[simp] theorem ct104:cT.ty 104=some y104:=rfl
@[simp] theorem ct105:cT.ty 105=some y105:=rfl
@[simp] theorem ct107:cT.ty 107=some y107:=rfl
@[simp] theorem ct108:cT.ty 108=some y108:=rfl
@[simp] theorem ct109:cT.ty 109=some y109:=rfl
@[simp] theorem ct110:cT.ty 110=some y110:=rfl
@[simp] theorem ct111:cT.ty 111=some y111:=rfl
@[simp] theorem ct112:cT.ty 112=some y112:=rfl
@[simp] theorem ct113:cT.ty 113=some y113:=rfl
@[simp] theorem ct114:cT.ty 114=some y114:=rfl
@[simp] theorem ct115:cT.ty 115=some y115:=rfl
@[simp] theorem ct116:cT.ty 116=some y116:=rfl
@[simp] theorem ct117:cT.ty 117=some y117:=rfl
@[simp] theorem ct119:cT.ty 119=some y119:=rfl
@[simp] theorem ct120:cT.ty 120=some y120:=rfl
@[simp] theorem ct121:cT.ty 121=some y121:=rfl
@[simp] theorem ct122:cT.ty 122=some y122:=rfl
@[simp] theorem ct123:cT.ty 123=some y123:=rfl
@[simp] theorem ct124:cT.ty 124=some y124:=rfl
@[simp] theorem ct125:cT.ty 125=some y125:=rfl
@[simp] theorem ct126:cT.ty 126=some y126:=rfl
@[simp] theorem ct127:cT.ty 127=some y127:=rfl
@[simp] theorem ct128:cT.ty 128=some y128:=rfl
@[simp] theorem ct129:cT.ty 129=some y129:=rfl
@[simp] theorem ct130:cT.ty 130=some y130:=rfl
@[simp] theorem ct131:cT.ty 131=some y131:=rfl
@[simp] theorem ct132:cT.ty 132=some y132:=rfl
@[simp] theorem ct133:cT.ty 133=some y133:=rfl
@[simp] theorem ct134:cT.ty 134=some y134:=rfl
@[simp] theorem ct135:cT.ty 135=some y135:=rfl
@[simp] theorem ct136:cT.ty 136=some y136:=rfl
@[simp] theorem ct138:cT.ty 138=some y138:=rfl
@[simp] theorem ct139:cT.ty 139=some y139:=rfl
@[simp] theorem ct140:cT.ty 140=some y140:=rfl
@[simp] theorem ct141:cT.ty 141=some y141:=rfl
@[simp] theorem ct142:cT.ty 142=some y142:=rfl
@[simp] theorem ct143:cT.ty 143=some y143:=rfl
@[simp] theorem ct144:cT.ty 144=some y144:=rfl
@[simp] theorem ct145:cT.ty 145=some y145:=rfl
@[simp] theorem ct146:cT.ty 146=some y146:=rfl
@[simp] theorem ct147:cT.ty 147=some y147:=rfl
@[simp] theorem ct148:cT.ty 148=some y148:=rfl
@[simp] theorem ct149:cT.ty 149=some y149:=rfl
@[simp] theorem ct150:cT.ty 150=some y150:=rfl
@[simp] theorem ct151:cT.ty 151=some y151:=rfl
@[simp] theorem ct152:cT.ty 152=some y152:=rfl
@[simp] theorem ct153:cT.ty 153=some y153:=rfl
@[simp] theorem ct154:cT.ty 154=some y154:=rfl
@[simp] theorem ct155:cT.ty 155=some y155:=rfl
@[simp] theorem ct156:cT.ty 156=some y156:=rfl
@[simp] theorem ct157:cT.ty 157=some y157:=rfl
@[simp] theorem ct158:cT.ty 158=some y158:=rfl
@[simp] theorem ct159:cT.ty 159=some y159:=rfl
@[simp] theorem ct160:cT.ty 160=some y160:=rfl
@[simp] theorem ct161:cT.ty 161=some y161:=rfl
@[simp] theorem ct162:cT.ty 162=some y162:=rfl
@[simp] theorem ct163:cT.ty 163=some y163:=rfl
@[simp] theorem ct164:cT.ty 164=some y164:=rfl
@[simp] theorem ct165:cT.ty 165=some y165:=rfl
@[simp] theorem ct167:cT.ty 167=some y167:=rfl
@[simp] theorem ct168:cT.ty 168=some y168:=rfl
@[simp] theorem ct169:cT.ty 169=some y169:=rfl
@[simp] theorem ct171:cT.ty 171=some y171:=rfl
@[simp] theorem ct172:cT.ty 172=some y172:=rfl
@[simp] theorem ct173:cT.ty 173=some y173:=rfl
@[simp] theorem ct174:cT.ty 174=some y174:=rfl
@[simp] theorem ct175:cT.ty 175=some y175:=rfl
@[simp] theorem ct176:cT.ty 176=some y176:=rfl
@[simp] theorem ct177:cT.ty 177=some y177:=rfl
@[simp] theorem ct179:cT.ty 179=some y179:=rfl
@[simp] theorem ct180:cT.ty 180=some y180:=rfl
@[simp] theorem ct181:cT.ty 181=some y181:=rfl
@[simp] theorem ct182:cT.ty 182=some y182:=rfl
@[simp] theorem ct183:cT.ty 183=some y183:=rfl
@[simp] theorem ct184:cT.ty 184=some y184:=rfl
@[simp] theorem ct185:cT.ty 185=some y185:=rfl
@[simp] theorem ct186:cT.ty 186=some y186:=rfl
@[simp] theorem ct187:cT.ty 187=some y187:=rfl
@[simp] theorem ct188:cT.ty 188=some y188:=rfl
@[simp] theorem ct189:cT.ty 189=some y189:=rfl
@[simp] theorem ct190:cT.ty 190=some y190:=rfl
@[simp] theorem ct191:cT.ty 191=some y191:=rfl
@[simp] theorem ct193:cT.ty 193=some y193:=rfl
@[simp] theorem ct194:cT.ty 194=some y194:=rfl
@[simp] theorem ct195:cT.ty 195=some y195:=rfl
@[simp] theorem ct197:cT.ty 197=some y197:=rfl
@[simp] theorem ct198:cT.ty 198=some y198:=rfl
@[simp] theorem ct199:cT.ty 199=some y199:=rfl
@[simp] theorem ct200:cT.ty 200=some y200:=rfl
@[simp] theorem ct201:cT.ty 201=some y201:=rfl
@[simp] theorem ct203:cT.ty 203=some y203:=rfl
@[simp] theorem ct204:cT.ty 204=some y204:=rfl
@[simp] theorem ct205:cT.ty 205=some y205:=rfl
@[simp] theorem ct206:cT.ty 206=some y206:=rfl
@[simp] theorem ct207:cT.ty 207=some y207:=rfl
@[simp] theorem ct208:cT.ty 208=some y208:=rfl
@[simp] theorem ct209:cT.ty 209=some y209:=rfl
@[simp] theorem ct210:cT.ty 210=some y210:=rfl
@[simp] theorem ct211:cT.ty 211=some y211:=rfl
@[simp] theorem ct212:cT.ty 212=some y212:=rfl
@[simp] theorem ct213:cT.ty 213=some y213:=rfl
@[simp] theorem ct215:cT.ty 215=some y215:=rfl
@[simp] theorem ct216:cT.ty 216=some y216:=rfl
@[simp] theorem ct217:cT.ty 217=some y217:=rfl
@[simp] theorem ct218:cT.ty 218=some y218:=rfl
@[simp] theorem ct219:cT.ty 219=some y219:=rfl
@[simp] theorem ct220:cT.ty 220=some y220:=rfl
@[simp] theorem ct221:cT.ty 221=some y221:=rfl
@[simp] theorem ct222:cT.ty 222=some y222:=rfl
@[simp] theorem ct223:cT.ty 223=some y223:=rfl
@[simp] theorem ct225:cT.ty 225=some y225:=rfl
@[simp] theorem ct226:cT.ty 226=some y226:=rfl
@[simp] theorem ct227:cT.ty 227=some y227:=rfl
@[simp] theorem ct229:cT.ty 229=some y229:=rfl
@[simp] theorem ct230:cT.ty 230=some y230:=rfl
@[simp] theorem ct231:cT.ty 231=some y231:=rfl
@[simp] theorem ct232:cT.ty 232=some y232:=rfl
@[simp] theorem ct233:cT.ty 233=some y233:=rfl
@[simp] theorem ct234:cT.ty 234=some y234:=rfl
@[simp] theorem ct235:cT.ty 235=some y235:=rfl
@[simp] theorem ct236:cT.ty 236=some y236:=rfl
@[simp] theorem ct237:cT.ty 237=some y237:=rfl
@[simp] theorem ct238:cT.ty 238=some y238:=rfl
@[simp] theorem ct239:cT.ty 239=some y239:=rfl
@[simp] theorem ct240:cT.ty 240=some y240:=rfl
@[simp] theorem ct242:cT.ty 242=some y242:=rfl
@[simp] theorem ct243:cT.ty 243=some y243:=rfl
@[simp] theorem ct244:cT.ty 244=some y244:=rfl
@[simp] theorem ct245:cT.ty 245=some y245:=rfl
@[simp] theorem ct246:cT.ty 246=some y246:=rfl
@[simp] theorem ct247:cT.ty 247=some y247:=rfl
@[simp] theorem ct248:cT.ty 248=some y248:=rfl
@[simp] theorem ct249:cT.ty 249=some y249:=rfl
@[simp] theorem ct250:cT.ty 250=some y250:=rfl
@[simp] theorem ct251:cT.ty 251=some y251:=rfl
@[simp] theorem ct253:cT.ty 253=some y253:=rfl
@[simp] theorem ct254:cT.ty 254=some y254:=rfl
@[simp] theorem ct255:cT.ty 255=some y255:=rfl
@[simp] theorem ct257:cT.ty 257=some y257:=rfl
@[simp] theorem ct258:cT.ty 258=some y258:=rfl
@[simp] theorem ct259:cT.ty 259=some y259:=rfl
@[simp] theorem ct260:cT.ty 260=some y260:=rfl
@[simp] theorem ct261:cT.ty 261=some y261:=rfl
@[simp] theorem ct262:cT.ty 262=some y262:=rfl
@[simp] theorem ct263:cT.ty 263=some y263:=rfl
@[simp] theorem ct264:cT.ty 264=some y264:=rfl
@[simp] theorem ct266:cT.ty 266=some y266:=rfl
@[simp] theorem ct267:cT.ty 267=some y267:=rfl
@[simp] theorem ct268:cT.ty 268=some y268:=rfl
@[simp] theorem ct269:cT.ty 269=some y269:=rfl
@[simp] theorem ct270:cT.ty 270=some y270:=rfl
@[simp] theorem ct272:cT.ty 272=some y272:=rfl
@[simp] theorem ct273:cT.ty 273=some y273:=rfl
@[simp] theorem ct274:cT.ty 274=some y274:=rfl
@[simp] theorem ct275:cT.ty 275=some y275:=rfl
@[simp] theorem ct276:cT.ty 276=some y276:=rfl
@[simp] theorem ct277:cT.ty 277=some y277:=rfl
@[simp] theorem ct278:cT.ty 278=some y278:=rfl
@[simp] theorem ct279:cT.ty 279=some y279:=rfl
@[simp] theorem ct280:cT.ty 280=some y280:=rfl
@[simp] theorem ct281:cT.ty 281=some y281:=rfl
@[simp] theorem ct282:cT.ty 282=some y282:=rfl
@[simp] theorem ct283:cT.ty 283=some y283:=rfl
@[simp] theorem ct284:cT.ty 284=some y284:=rfl
@[simp] theorem ct285:cT.ty 285=some y285:=rfl
@[simp] theorem ct286:cT.ty 286=some y286:=rfl
@[simp] theorem ct287:cT.ty 287=some y287:=rfl
@[simp] theorem ct288:cT.ty 288=some y288:=rfl
@[simp] theorem ct289:cT.ty 289=some y289:=rfl
@[simp] theorem ct290:cT.ty 290=some y290:=rfl
@[simp] theorem ct291:cT.ty 291=some y291:=rfl
end Go.Proofs
namespace Go.Sh
theorem wo{α:Type}{o:Option α}{x:α}{k:α→Prop}(h:o=some x)(h2:k x):wpO o k:=by rw[h];exact h2
theorem grdT{v:Option SV}{o:(SV→Zt→Prop)→Prop}{S:Zt}{k:SV→Zt→Prop}(h:v=some (.bool true))(h2:o k):grdP v true o S k:=by rw[h];exact h2
theorem grdF{v:Option SV}{o:(SV→Zt→Prop)→Prop}{S:Zt}{k:SV→Zt→Prop}(h:v=some (.bool false))(h2:k undefS S):grdP v true o S k:=by rw[h];exact h2
theorem cndT{v:SV}{a b:Prop}(h:v=.bool true)(h2:a):condP v a b:=by rw[h];exact h2
theorem cndF{v:SV}{a b:Prop}(h:v=.bool false)(h2:b):condP v a b:=by rw[h];exact h2
theorem mksl_ok{j:TyI}{k k':IntKind}{n:Nat}{S:Zt}(hj:j.size≠0)(hz:j.zero.n=j.size)(h1:n≤roomS)(h2:n*j.bytes≤roomS) :
  mkslS j (.int k (n:Int)) (.int k' (n:Int)) S=some (.osl S.length j.size 0 n (some n),S++[.cells (List.replicate n j.zero) true]):=by
 unfold mkslS
 simp only[natS,Int.natCast_nonneg,if_true,Int.toNat_natCast,Option.bind_some]
 rw[if_neg (by simp only[not_or,Decidable.not_not];exact⟨hj,by omega,by omega,by omega,hz⟩)]
end Go.Sh
namespace Go.Sh
theorem call_frz{cfg:Cfg}{f:FuncId}{args args':List SV}{S:Zt}{k:SV×Zt→Prop}(hm:cfg.mode f=.pure)(h1:args.mapM (frz S dS)=some args')(h:wpO (pW cfg f args') fun v=>k (v,sealS S (args.flatMap (refs S dS)))):wpO (cW cfg f args S) k:=by
 rw[callW_eq,hm]
 simp only[h1,Option.bind_some]
 rw[wpO_iff]at h ⊢
 obtain⟨v,hv,h⟩:=h
 exact⟨_,by rw[hv];rfl,h⟩
end Go.Sh
namespace Go.Sh
end Go.Sh
namespace Go.Sh
theorem app_row{j:TyI}{S:Zt}{id off len:Nat}{cap:Option Nat}{es xs:List SV}{x:SV}(hj:j.zero.n=j.size)(hs:j.size≠0)(hx:elemsS S x=some xs)(hne:xs≠[])(hz:sizesOk j.size xs=true)
  (h:S[id]?=some (.cells es true)) (hb1:(len+xs.length)*j.bytes≤roomS) (hb2:len+xs.length≤roomS) (hl:off+len≤es.length) (hcap:cap=none∨∃c,cap=some c∧c<len+xs.length) :
  appS j S (.osl id j.size off len cap) x=some (.osl S.length j.size 0 (len+xs.length) none,(if cap=none then S.set id .dead else S)++[.cells ((es.drop off).take len++xs) true]):=by
 unfold appS
 rw[if_pos hj]
 unfold appendS
 rw[hx]
 simp only[Option.bind_some]
 rw[if_neg (by simp[hne]),if_pos (by simp[hz,hs])]
 simp only[h]
 rw[if_pos (by simp[hb1,hb2,hl])]
 rcases hcap with rfl|⟨c,rfl,hc⟩
 ·simp
 ·simp only[]
  rw[if_neg (by omega)]
  simp
end Go.Sh
namespace Go.Sh
theorem frz_ints{S:Zt}{d:Nat}:∀{es:List SV},(∀e∈es,∃k n,e=.int k n)→es.mapM (frz S (d+1))=some es
 |[],_=>rfl
 |a::r,h=>by
  obtain⟨k,n,rfl⟩:=h a List.mem_cons_self
  rw[List.mapM_cons,frz_ints (fun e he=>h e (List.mem_cons_of_mem _ he))]
  rfl
end Go.Sh
