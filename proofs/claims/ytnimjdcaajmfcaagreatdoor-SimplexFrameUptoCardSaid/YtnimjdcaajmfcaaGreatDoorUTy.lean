/- A text of the prover's own. -/
import Derived.Test.YtnimjdcaajmfcaaGreatDoorUVx
import Derived.Test.YtnimjdcaajmfcaaGreatDoorProg
import Derived.KernelRfl
namespace Go.Proofs
open Go.Sv
@[simp] theorem Tryz.ty1:tyOf Tryz.prog 1=some ⟨.other,1,8,[.val (.nilFunc)]⟩:=by kernel_rfl
@[simp] theorem Tryz.ty2:tyOf Tryz.prog 2=some ⟨(.int .i64),1,8,[.val (.int .i64 0)]⟩:=by kernel_rfl
@[simp] theorem Tryz.ty3:tyOf Tryz.prog 3=some ⟨(.int .i64),1,8,[.val (.int .i64 0)]⟩:=by kernel_rfl
@[simp] theorem Tryz.ty4:tyOf Tryz.prog 4=some ⟨.bool,1,1,[.val (.bool false)]⟩:=by kernel_rfl
@[simp] theorem Tryz.ty5:tyOf Tryz.prog 5=some ⟨(.int .u8),1,1,[.val (.int .u8 0)]⟩:=by kernel_rfl
@[simp] theorem Tryz.ty6:tyOf Tryz.prog 6=some ⟨(.int .u8),1,1,[.val (.int .u8 0)]⟩:=by kernel_rfl
@[simp] theorem Tryz.ty7:tyOf Tryz.prog 7=some ⟨(.st [(0,1,2),(1,1,3),(2,1,4),(3,1,6)]),4,24,[.val (.int .i64 0),.val (.int .i64 0),.val (.bool false),.val (.int .u8 0)]⟩:=by kernel_rfl
@[simp] theorem Tryz.ty8:tyOf Tryz.prog 8=some ⟨(.st [(0,1,2),(1,1,3),(2,1,4),(3,1,6)]),4,24,[.val (.int .i64 0),.val (.int .i64 0),.val (.bool false),.val (.int .u8 0)]⟩:=by kernel_rfl
@[simp] theorem Tryz.ty9:tyOf Tryz.prog 9=some ⟨.str,1,16,[.val (.string ByteArray.empty)]⟩:=by kernel_rfl
@[simp] theorem Tryz.ty10:tyOf Tryz.prog 10=some ⟨.str,1,16,[.val (.string ByteArray.empty)]⟩:=by kernel_rfl
@[simp] theorem Tryz.ty11:tyOf Tryz.prog 11=some ⟨.str,1,16,[.val (.string ByteArray.empty)]⟩:=by kernel_rfl
@[simp] theorem Tryz.ty12:tyOf Tryz.prog 12=some ⟨(.int .u64),1,8,[.val (.int .u64 0)]⟩:=by kernel_rfl
@[simp] theorem Tryz.ty13:tyOf Tryz.prog 13=some ⟨(.st [(0,1,9),(1,1,12)]),2,24,[.val (.string ByteArray.empty),.val (.int .u64 0)]⟩:=by kernel_rfl
@[simp] theorem Tryz.ty14:tyOf Tryz.prog 14=some ⟨(.st [(0,1,9),(1,1,12)]),2,24,[.val (.string ByteArray.empty),.val (.int .u64 0)]⟩:=by kernel_rfl
@[simp] theorem Tryz.ty15:tyOf Tryz.prog 15=some ⟨(.ptr 321),1,8,[.val (.pointer none)]⟩:=by kernel_rfl
@[simp] theorem Tryz.ty16:tyOf Tryz.prog 16=some ⟨(.ptr 324),1,8,[.val (.pointer none)]⟩:=by kernel_rfl
@[simp] theorem Tryz.ty17:tyOf Tryz.prog 17=some ⟨(.ptr 332),1,8,[.val (.pointer none)]⟩:=by kernel_rfl
@[simp] theorem Tryz.ty18:tyOf Tryz.prog 18=some ⟨(.st [(0,1,17)]),1,8,[.val (.pointer none)]⟩:=by kernel_rfl
@[simp] theorem Tryz.ty19:tyOf Tryz.prog 19=some ⟨(.st [(0,1,17)]),1,8,[.val (.pointer none)]⟩:=by kernel_rfl
@[simp] theorem Tryz.ty20:tyOf Tryz.prog 20=some ⟨.iface,1,16,[.val (.nilIface)]⟩:=by kernel_rfl
@[simp] theorem Tryz.ty21:tyOf Tryz.prog 21=some ⟨(.int .i32),1,4,[.val (.int .i32 0)]⟩:=by kernel_rfl
@[simp] theorem Tryz.ty22:tyOf Tryz.prog 22=some ⟨(.sl 23),1,24,[.val (.slice none 0 0)]⟩:=by kernel_rfl
@[simp] theorem Tryz.ty23:tyOf Tryz.prog 23=some ⟨(.sl 9),1,24,[.val (.slice none 0 0)]⟩:=by kernel_rfl
@[simp] theorem Tryz.ty24:tyOf Tryz.prog 24=some ⟨(.sl 55),1,24,[.val (.slice none 0 0)]⟩:=by kernel_rfl
@[simp] theorem Tryz.ty26:tyOf Tryz.prog 26=some ⟨.other,1,8,[.val (.nilFunc)]⟩:=by kernel_rfl
@[simp] theorem Tryz.ty27:tyOf Tryz.prog 27=some ⟨.other,1,8,[.val (.nilFunc)]⟩:=by kernel_rfl
@[simp] theorem Tryz.ty28:tyOf Tryz.prog 28=some ⟨(.sl 58),1,24,[.val (.slice none 0 0)]⟩:=by kernel_rfl
@[simp] theorem Tryz.ty30:tyOf Tryz.prog 30=some ⟨.other,1,8,[.val (.nilFunc)]⟩:=by kernel_rfl
@[simp] theorem Tryz.ty31:tyOf Tryz.prog 31=some ⟨(.ptr 105),1,8,[.val (.pointer none)]⟩:=by kernel_rfl
@[simp] theorem Tryz.ty32:tyOf Tryz.prog 32=some ⟨.iface,1,16,[.val (.nilIface)]⟩:=by kernel_rfl
@[simp] theorem Tryz.ty33:tyOf Tryz.prog 33=some ⟨.iface,1,16,[.val (.nilIface)]⟩:=by kernel_rfl
@[simp] theorem Tryz.ty35:tyOf Tryz.prog 35=some ⟨.other,1,8,[.val (.nilFunc)]⟩:=by kernel_rfl
@[simp] theorem Tryz.ty36:tyOf Tryz.prog 36=some ⟨.other,1,8,[.val (.nilFunc)]⟩:=by kernel_rfl
@[simp] theorem Tryz.ty37:tyOf Tryz.prog 37=some ⟨.other,1,8,[.val (.nilFunc)]⟩:=by kernel_rfl
@[simp] theorem Tryz.ty38:tyOf Tryz.prog 38=some ⟨(.sl 3),1,24,[.val (.slice none 0 0)]⟩:=by kernel_rfl
@[simp] theorem Tryz.ty39:tyOf Tryz.prog 39=some ⟨(.st [(0,1,4),(1,1,38)]),2,32,[.val (.bool false),.val (.slice none 0 0)]⟩:=by kernel_rfl
@[simp] theorem Tryz.ty40:tyOf Tryz.prog 40=some ⟨(.st [(0,1,4),(1,1,38)]),2,32,[.val (.bool false),.val (.slice none 0 0)]⟩:=by kernel_rfl
@[simp] theorem Tryz.ty41:tyOf Tryz.prog 41=some ⟨(.st [(0,2,40),(2,2,40)]),4,64,[.val (.bool false),.val (.slice none 0 0),.val (.bool false),.val (.slice none 0 0)]⟩:=by kernel_rfl
@[simp] theorem Tryz.ty42:tyOf Tryz.prog 42=some ⟨(.st [(0,2,40),(2,2,40)]),4,64,[.val (.bool false),.val (.slice none 0 0),.val (.bool false),.val (.slice none 0 0)]⟩:=by kernel_rfl
@[simp] theorem Tryz.ty43:tyOf Tryz.prog 43=some ⟨.other,1,8,[.val (.nilFunc)]⟩:=by kernel_rfl
@[simp] theorem Tryz.ty44:tyOf Tryz.prog 44=some ⟨.other,1,8,[.val (.nilFunc)]⟩:=by kernel_rfl
@[simp] theorem Tryz.ty45:tyOf Tryz.prog 45=some ⟨.other,1,8,[.val (.nilFunc)]⟩:=by kernel_rfl
@[simp] theorem Tryz.ty46:tyOf Tryz.prog 46=some ⟨(.sl 199),1,24,[.val (.slice none 0 0)]⟩:=by kernel_rfl
@[simp] theorem Tryz.ty47:tyOf Tryz.prog 47=some ⟨(.st [(0,1,4),(1,1,46)]),2,32,[.val (.bool false),.val (.slice none 0 0)]⟩:=by kernel_rfl
@[simp] theorem Tryz.ty48:tyOf Tryz.prog 48=some ⟨(.st [(0,1,4),(1,1,46)]),2,32,[.val (.bool false),.val (.slice none 0 0)]⟩:=by kernel_rfl
@[simp] theorem Tryz.ty49:tyOf Tryz.prog 49=some ⟨(.st [(0,2,48),(2,2,48)]),4,64,[.val (.bool false),.val (.slice none 0 0),.val (.bool false),.val (.slice none 0 0)]⟩:=by kernel_rfl
@[simp] theorem Tryz.ty50:tyOf Tryz.prog 50=some ⟨(.st [(0,2,48),(2,2,48)]),4,64,[.val (.bool false),.val (.slice none 0 0),.val (.bool false),.val (.slice none 0 0)]⟩:=by kernel_rfl
@[simp] theorem Tryz.ty51:tyOf Tryz.prog 51=some ⟨.other,1,8,[.val (.nilFunc)]⟩:=by kernel_rfl
@[simp] theorem Tryz.ty52:tyOf Tryz.prog 52=some ⟨.other,1,8,[.val (.nilFunc)]⟩:=by kernel_rfl
@[simp] theorem Tryz.ty53:tyOf Tryz.prog 53=some ⟨.other,1,8,[.val (.nilFunc)]⟩:=by kernel_rfl
@[simp] theorem Tryz.ty54:tyOf Tryz.prog 54=some ⟨.other,1,8,[.val (.nilFunc)]⟩:=by kernel_rfl
@[simp] theorem Tryz.ty55:tyOf Tryz.prog 55=some ⟨(.sl 42),1,24,[.val (.slice none 0 0)]⟩:=by kernel_rfl
@[simp] theorem Tryz.ty57:tyOf Tryz.prog 57=some ⟨.other,1,8,[.val (.nilFunc)]⟩:=by kernel_rfl
@[simp] theorem Tryz.ty58:tyOf Tryz.prog 58=some ⟨(.sl 50),1,24,[.val (.slice none 0 0)]⟩:=by kernel_rfl
@[simp] theorem Tryz.ty60:tyOf Tryz.prog 60=some ⟨.other,1,8,[.val (.nilFunc)]⟩:=by kernel_rfl
@[simp] theorem Tryz.ty61:tyOf Tryz.prog 61=some ⟨.other,1,8,[.val (.nilFunc)]⟩:=by kernel_rfl
@[simp] theorem Tryz.ty62:tyOf Tryz.prog 62=some ⟨.other,1,8,[.val (.nilFunc)]⟩:=by kernel_rfl
@[simp] theorem Tryz.ty63:tyOf Tryz.prog 63=some ⟨.other,1,8,[.val (.nilFunc)]⟩:=by kernel_rfl
@[simp] theorem Tryz.ty64:tyOf Tryz.prog 64=some ⟨.other,1,8,[.val (.nilFunc)]⟩:=by kernel_rfl
@[simp] theorem Tryz.ty65:tyOf Tryz.prog 65=some ⟨(.sl 166),1,24,[.val (.slice none 0 0)]⟩:=by kernel_rfl
@[simp] theorem Tryz.ty66:tyOf Tryz.prog 66=some ⟨(.sl 168),1,24,[.val (.slice none 0 0)]⟩:=by kernel_rfl
@[simp] theorem Tryz.ty68:tyOf Tryz.prog 68=some ⟨(.st [(0,1,4),(1,1,9),(2,1,65),(3,1,66)]),4,72,[.val (.bool false),.val (.string ByteArray.empty),.val (.slice none 0 0),.val (.slice none 0 0)]⟩:=by kernel_rfl
@[simp] theorem Tryz.ty69:tyOf Tryz.prog 69=some ⟨.other,1,8,[.val (.nilFunc)]⟩:=by kernel_rfl
@[simp] theorem Tryz.ty70:tyOf Tryz.prog 70=some ⟨(.ptr 174),1,8,[.val (.pointer none)]⟩:=by kernel_rfl
@[simp] theorem Tryz.ty71:tyOf Tryz.prog 71=some ⟨(.sl 151),1,24,[.val (.slice none 0 0)]⟩:=by kernel_rfl
@[simp] theorem Tryz.ty72:tyOf Tryz.prog 72=some ⟨(.sl 153),1,24,[.val (.slice none 0 0)]⟩:=by kernel_rfl
@[simp] theorem Tryz.ty74:tyOf Tryz.prog 74=some ⟨(.st [(0,1,4),(1,4,42),(5,1,71),(6,1,72)]),7,120,[.val (.bool false),.val (.bool false),.val (.slice none 0 0),.val (.bool false),.val (.slice none 0 0),.val (.slice none 0 0),.val (.slice none 0 0)]⟩:=by kernel_rfl
@[simp] theorem Tryz.ty77:tyOf Tryz.prog 77=some ⟨.other,1,8,[.val (.nilFunc)]⟩:=by kernel_rfl
@[simp] theorem Tryz.ty79:tyOf Tryz.prog 79=some ⟨(.st [(0,1,3),(1,1,58),(2,1,58),(3,1,58),(4,4,50)]),8,144,[.val (.int .i64 0),.val (.slice none 0 0),.val (.slice none 0 0),.val (.slice none 0 0),.val (.bool false),.val (.slice none 0 0),.val (.bool false),.val (.slice none 0 0)]⟩:=by kernel_rfl
@[simp] theorem Tryz.ty87:tyOf Tryz.prog 87=some ⟨(.ptr 96),1,8,[.val (.pointer none)]⟩:=by kernel_rfl
@[simp] theorem Tryz.ty90:tyOf Tryz.prog 90=some ⟨(.st [(0,1,38),(1,1,24),(2,1,55),(3,1,55)]),4,96,[.val (.slice none 0 0),.val (.slice none 0 0),.val (.slice none 0 0),.val (.slice none 0 0)]⟩:=by kernel_rfl
@[simp] theorem Tryz.ty91:tyOf Tryz.prog 91=some ⟨(.st [(0,1,38),(1,1,24),(2,1,55),(3,1,55)]),4,96,[.val (.slice none 0 0),.val (.slice none 0 0),.val (.slice none 0 0),.val (.slice none 0 0)]⟩:=by kernel_rfl
@[simp] theorem Tryz.ty94:tyOf Tryz.prog 94=some ⟨.other,1,8,[.val (.nilFunc)]⟩:=by kernel_rfl
@[simp] theorem Tryz.ty95:tyOf Tryz.prog 95=some ⟨(.st [(0,1,38),(1,1,28),(2,1,58),(3,1,58)]),4,96,[.val (.slice none 0 0),.val (.slice none 0 0),.val (.slice none 0 0),.val (.slice none 0 0)]⟩:=by kernel_rfl
@[simp] theorem Tryz.ty96:tyOf Tryz.prog 96=some ⟨(.st [(0,1,38),(1,1,28),(2,1,58),(3,1,58)]),4,96,[.val (.slice none 0 0),.val (.slice none 0 0),.val (.slice none 0 0),.val (.slice none 0 0)]⟩:=by kernel_rfl
@[simp] theorem Tryz.ty101:tyOf Tryz.prog 101=some ⟨.other,1,8,[.val (.nilFunc)]⟩:=by kernel_rfl
@[simp] theorem Tryz.ty102:tyOf Tryz.prog 102=some ⟨.other,1,8,[.val (.nilFunc)]⟩:=by kernel_rfl
@[simp] theorem Tryz.ty103:tyOf Tryz.prog 103=some ⟨(.sl 120),1,24,[.val (.slice none 0 0)]⟩:=by kernel_rfl
@[simp] theorem Tryz.ty104:tyOf Tryz.prog 104=some ⟨(.st [(0,1,38),(1,1,28),(2,1,4),(3,1,103)]),4,80,[.val (.slice none 0 0),.val (.slice none 0 0),.val (.bool false),.val (.slice none 0 0)]⟩:=by kernel_rfl
@[simp] theorem Tryz.ty105:tyOf Tryz.prog 105=some ⟨(.st [(0,1,38),(1,1,28),(2,1,4),(3,1,103)]),4,80,[.val (.slice none 0 0),.val (.slice none 0 0),.val (.bool false),.val (.slice none 0 0)]⟩:=by kernel_rfl
@[simp] theorem Tryz.ty107:tyOf Tryz.prog 107=some ⟨.other,1,8,[.val (.nilFunc)]⟩:=by kernel_rfl
@[simp] theorem Tryz.ty108:tyOf Tryz.prog 108=some ⟨.other,1,8,[.val (.nilFunc)]⟩:=by kernel_rfl
@[simp] theorem Tryz.ty109:tyOf Tryz.prog 109=some ⟨.other,1,8,[.val (.nilFunc)]⟩:=by kernel_rfl
@[simp] theorem Tryz.ty111:tyOf Tryz.prog 111=some ⟨.other,1,8,[.val (.nilFunc)]⟩:=by kernel_rfl
@[simp] theorem Tryz.ty112:tyOf Tryz.prog 112=some ⟨.other,1,8,[.val (.nilFunc)]⟩:=by kernel_rfl
@[simp] theorem Tryz.ty113:tyOf Tryz.prog 113=some ⟨.other,1,8,[.val (.nilFunc)]⟩:=by kernel_rfl
@[simp] theorem Tryz.ty114:tyOf Tryz.prog 114=some ⟨.other,1,8,[.val (.nilFunc)]⟩:=by kernel_rfl
@[simp] theorem Tryz.ty115:tyOf Tryz.prog 115=some ⟨.other,1,8,[.val (.nilFunc)]⟩:=by kernel_rfl
@[simp] theorem Tryz.ty116:tyOf Tryz.prog 116=some ⟨.other,1,8,[.val (.nilFunc)]⟩:=by kernel_rfl
@[simp] theorem Tryz.ty117:tyOf Tryz.prog 117=some ⟨.other,1,8,[.val (.nilFunc)]⟩:=by kernel_rfl
@[simp] theorem Tryz.ty118:tyOf Tryz.prog 118=some ⟨.other,1,8,[.val (.nilFunc)]⟩:=by kernel_rfl
@[simp] theorem Tryz.ty119:tyOf Tryz.prog 119=some ⟨(.st [(0,1,3),(1,1,58)]),2,32,[.val (.int .i64 0),.val (.slice none 0 0)]⟩:=by kernel_rfl
@[simp] theorem Tryz.ty120:tyOf Tryz.prog 120=some ⟨(.st [(0,1,3),(1,1,58)]),2,32,[.val (.int .i64 0),.val (.slice none 0 0)]⟩:=by kernel_rfl
@[simp] theorem Tryz.ty121:tyOf Tryz.prog 121=some ⟨.other,1,8,[.val (.nilFunc)]⟩:=by kernel_rfl
@[simp] theorem Tryz.ty122:tyOf Tryz.prog 122=some ⟨.other,1,8,[.val (.nilFunc)]⟩:=by kernel_rfl
@[simp] theorem Tryz.ty123:tyOf Tryz.prog 123=some ⟨.other,1,8,[.val (.nilFunc)]⟩:=by kernel_rfl
@[simp] theorem Tryz.ty125:tyOf Tryz.prog 125=some ⟨.other,1,8,[.val (.nilFunc)]⟩:=by kernel_rfl
@[simp] theorem Tryz.ty126:tyOf Tryz.prog 126=some ⟨.other,1,8,[.val (.nilFunc)]⟩:=by kernel_rfl
@[simp] theorem Tryz.ty127:tyOf Tryz.prog 127=some ⟨.other,1,8,[.val (.nilFunc)]⟩:=by kernel_rfl
@[simp] theorem Tryz.ty128:tyOf Tryz.prog 128=some ⟨.other,1,8,[.val (.nilFunc)]⟩:=by kernel_rfl
@[simp] theorem Tryz.ty129:tyOf Tryz.prog 129=some ⟨.other,1,8,[.val (.nilFunc)]⟩:=by kernel_rfl
@[simp] theorem Tryz.ty130:tyOf Tryz.prog 130=some ⟨(.st [(0,1,3),(1,1,3)]),2,16,[.val (.int .i64 0),.val (.int .i64 0)]⟩:=by kernel_rfl
@[simp] theorem Tryz.ty131:tyOf Tryz.prog 131=some ⟨(.st [(0,1,3),(1,1,3)]),2,16,[.val (.int .i64 0),.val (.int .i64 0)]⟩:=by kernel_rfl
@[simp] theorem Tryz.ty133:tyOf Tryz.prog 133=some ⟨.other,1,8,[.val (.nilFunc)]⟩:=by kernel_rfl
@[simp] theorem Tryz.ty134:tyOf Tryz.prog 134=some ⟨.other,1,8,[.val (.nilFunc)]⟩:=by kernel_rfl
@[simp] theorem Tryz.ty135:tyOf Tryz.prog 135=some ⟨.other,1,8,[.val (.nilFunc)]⟩:=by kernel_rfl
@[simp] theorem Tryz.ty136:tyOf Tryz.prog 136=some ⟨(.st [(0,1,3),(1,1,55),(2,1,55),(3,1,55),(4,4,42)]),8,144,[.val (.int .i64 0),.val (.slice none 0 0),.val (.slice none 0 0),.val (.slice none 0 0),.val (.bool false),.val (.slice none 0 0),.val (.bool false),.val (.slice none 0 0)]⟩:=by kernel_rfl
@[simp] theorem Tryz.ty140:tyOf Tryz.prog 140=some ⟨(.st [(0,1,3),(1,1,23),(2,1,23),(3,1,23),(4,1,9)]),5,96,[.val (.int .i64 0),.val (.slice none 0 0),.val (.slice none 0 0),.val (.slice none 0 0),.val (.string ByteArray.empty)]⟩:=by kernel_rfl
@[simp] theorem Tryz.ty148:tyOf Tryz.prog 148=some ⟨(.st [(0,1,4),(1,4,42)]),5,72,[.val (.bool false),.val (.bool false),.val (.slice none 0 0),.val (.bool false),.val (.slice none 0 0)]⟩:=by kernel_rfl
@[simp] theorem Tryz.ty149:tyOf Tryz.prog 149=some ⟨(.st [(0,1,4),(1,4,42)]),5,72,[.val (.bool false),.val (.bool false),.val (.slice none 0 0),.val (.bool false),.val (.slice none 0 0)]⟩:=by kernel_rfl
@[simp] theorem Tryz.ty151:tyOf Tryz.prog 151=some ⟨(.st [(0,1,9),(1,1,4),(2,5,149),(7,5,149),(12,4,42)]),16,232,[.val (.string ByteArray.empty),.val (.bool false),.val (.bool false),.val (.bool false),.val (.slice none 0 0),.val (.bool false),.val (.slice none 0 0),.val (.bool false),.val (.bool false),.val (.slice none 0 0),.val (.bool false),.val (.slice none 0 0),.val (.bool false),.val (.slice none 0 0),.val (.bool false),.val (.slice none 0 0)]⟩:=by kernel_rfl
@[simp] theorem Tryz.ty153:tyOf Tryz.prog 153=some ⟨(.st [(0,1,9),(1,1,38),(2,1,55),(3,5,149),(8,5,149)]),13,208,[.val (.string ByteArray.empty),.val (.slice none 0 0),.val (.slice none 0 0),.val (.bool false),.val (.bool false),.val (.slice none 0 0),.val (.bool false),.val (.slice none 0 0),.val (.bool false),.val (.bool false),.val (.slice none 0 0),.val (.bool false),.val (.slice none 0 0)]⟩:=by kernel_rfl
@[simp] theorem Tryz.ty155:tyOf Tryz.prog 155=some ⟨(.ptr 160),1,8,[.val (.pointer none)]⟩:=by kernel_rfl
@[simp] theorem Tryz.ty158:tyOf Tryz.prog 158=some ⟨(.sl 209),1,24,[.val (.slice none 0 0)]⟩:=by kernel_rfl
@[simp] theorem Tryz.ty160:tyOf Tryz.prog 160=some ⟨(.st [(0,1,70),(1,1,3),(2,1,3),(3,1,158),(4,1,158),(5,1,58),(6,1,38),(7,1,58),(8,1,38),(9,1,38),(10,1,28)]),11,216,[.val (.pointer none),.val (.int .i64 0),.val (.int .i64 0),.val (.slice none 0 0),.val (.slice none 0 0),.val (.slice none 0 0),.val (.slice none 0 0),.val (.slice none 0 0),.val (.slice none 0 0),.val (.slice none 0 0),.val (.slice none 0 0)]⟩:=by kernel_rfl
@[simp] theorem Tryz.ty164:tyOf Tryz.prog 164=some ⟨.other,1,8,[.val (.nilFunc)]⟩:=by kernel_rfl
@[simp] theorem Tryz.ty165:tyOf Tryz.prog 165=some ⟨(.st [(0,1,9),(1,1,4),(2,1,9),(3,1,9),(4,1,9)]),5,72,[.val (.string ByteArray.empty),.val (.bool false),.val (.string ByteArray.empty),.val (.string ByteArray.empty),.val (.string ByteArray.empty)]⟩:=by kernel_rfl
@[simp] theorem Tryz.ty166:tyOf Tryz.prog 166=some ⟨(.st [(0,1,9),(1,1,4),(2,1,9),(3,1,9),(4,1,9)]),5,72,[.val (.string ByteArray.empty),.val (.bool false),.val (.string ByteArray.empty),.val (.string ByteArray.empty),.val (.string ByteArray.empty)]⟩:=by kernel_rfl
@[simp] theorem Tryz.ty167:tyOf Tryz.prog 167=some ⟨(.st [(0,1,9),(1,1,9),(2,1,9),(3,1,38),(4,1,23)]),5,96,[.val (.string ByteArray.empty),.val (.string ByteArray.empty),.val (.string ByteArray.empty),.val (.slice none 0 0),.val (.slice none 0 0)]⟩:=by kernel_rfl
@[simp] theorem Tryz.ty168:tyOf Tryz.prog 168=some ⟨(.st [(0,1,9),(1,1,9),(2,1,9),(3,1,38),(4,1,23)]),5,96,[.val (.string ByteArray.empty),.val (.string ByteArray.empty),.val (.string ByteArray.empty),.val (.slice none 0 0),.val (.slice none 0 0)]⟩:=by kernel_rfl
@[simp] theorem Tryz.ty169:tyOf Tryz.prog 169=some ⟨.other,1,8,[.val (.nilFunc)]⟩:=by kernel_rfl
@[simp] theorem Tryz.ty170:tyOf Tryz.prog 170=some ⟨.other,1,8,[.val (.nilFunc)]⟩:=by kernel_rfl
@[simp] theorem Tryz.ty171:tyOf Tryz.prog 171=some ⟨(.sl 214),1,24,[.val (.slice none 0 0)]⟩:=by kernel_rfl
@[simp] theorem Tryz.ty172:tyOf Tryz.prog 172=some ⟨(.sl 217),1,24,[.val (.slice none 0 0)]⟩:=by kernel_rfl
@[simp] theorem Tryz.ty174:tyOf Tryz.prog 174=some ⟨(.st [(0,1,4),(1,4,50),(5,1,171),(6,1,172)]),7,120,[.val (.bool false),.val (.bool false),.val (.slice none 0 0),.val (.bool false),.val (.slice none 0 0),.val (.slice none 0 0),.val (.slice none 0 0)]⟩:=by kernel_rfl
@[simp] theorem Tryz.ty179:tyOf Tryz.prog 179=some ⟨.other,1,8,[.val (.nilFunc)]⟩:=by kernel_rfl
@[simp] theorem Tryz.ty182:tyOf Tryz.prog 182=some ⟨.other,1,8,[.val (.nilFunc)]⟩:=by kernel_rfl
@[simp] theorem Tryz.ty183:tyOf Tryz.prog 183=some ⟨.other,1,8,[.val (.nilFunc)]⟩:=by kernel_rfl
@[simp] theorem Tryz.ty184:tyOf Tryz.prog 184=some ⟨(.sl 33),1,24,[.val (.slice none 0 0)]⟩:=by kernel_rfl
@[simp] theorem Tryz.ty185:tyOf Tryz.prog 185=some ⟨.other,1,8,[.val (.nilFunc)]⟩:=by kernel_rfl
@[simp] theorem Tryz.ty186:tyOf Tryz.prog 186=some ⟨(.ptr 190),1,8,[.val (.pointer none)]⟩:=by kernel_rfl
@[simp] theorem Tryz.ty187:tyOf Tryz.prog 187=some ⟨.other,1,8,[.val (.nilFunc)]⟩:=by kernel_rfl
@[simp] theorem Tryz.ty188:tyOf Tryz.prog 188=some ⟨(.ptr 186),1,8,[.val (.pointer none)]⟩:=by kernel_rfl
@[simp] theorem Tryz.ty189:tyOf Tryz.prog 189=some ⟨(.st [(0,1,3),(1,1,33)]),2,24,[.val (.int .i64 0),.val (.nilIface)]⟩:=by kernel_rfl
@[simp] theorem Tryz.ty190:tyOf Tryz.prog 190=some ⟨(.st [(0,1,3),(1,1,33)]),2,24,[.val (.int .i64 0),.val (.nilIface)]⟩:=by kernel_rfl
@[simp] theorem Tryz.ty191:tyOf Tryz.prog 191=some ⟨.other,1,8,[.val (.nilFunc)]⟩:=by kernel_rfl
@[simp] theorem Tryz.ty192:tyOf Tryz.prog 192=some ⟨.other,1,8,[.val (.nilFunc)]⟩:=by kernel_rfl
@[simp] theorem Tryz.ty193:tyOf Tryz.prog 193=some ⟨.other,1,8,[.val (.nilFunc)]⟩:=by kernel_rfl
@[simp] theorem Tryz.ty194:tyOf Tryz.prog 194=some ⟨.other,1,8,[.val (.nilFunc)]⟩:=by kernel_rfl
@[simp] theorem Tryz.ty195:tyOf Tryz.prog 195=some ⟨.other,1,8,[.val (.nilFunc)]⟩:=by kernel_rfl
@[simp] theorem Tryz.ty196:tyOf Tryz.prog 196=some ⟨.other,1,8,[.val (.nilFunc)]⟩:=by kernel_rfl
@[simp] theorem Tryz.ty197:tyOf Tryz.prog 197=some ⟨.other,1,8,[.val (.nilFunc)]⟩:=by kernel_rfl
@[simp] theorem Tryz.ty198:tyOf Tryz.prog 198=some ⟨(.sl 5),1,24,[.val (.slice none 0 0)]⟩:=by kernel_rfl
@[simp] theorem Tryz.ty199:tyOf Tryz.prog 199=some ⟨(.int .u32),1,4,[.val (.int .u32 0)]⟩:=by kernel_rfl
@[simp] theorem Tryz.ty201:tyOf Tryz.prog 201=some ⟨.other,1,8,[.val (.nilFunc)]⟩:=by kernel_rfl
@[simp] theorem Tryz.ty202:tyOf Tryz.prog 202=some ⟨.other,1,8,[.val (.nilFunc)]⟩:=by kernel_rfl
@[simp] theorem Tryz.ty203:tyOf Tryz.prog 203=some ⟨.other,1,8,[.val (.nilFunc)]⟩:=by kernel_rfl
@[simp] theorem Tryz.ty205:tyOf Tryz.prog 205=some ⟨.other,1,8,[.val (.nilFunc)]⟩:=by kernel_rfl
@[simp] theorem Tryz.ty207:tyOf Tryz.prog 207=some ⟨.other,1,8,[.val (.nilFunc)]⟩:=by kernel_rfl
@[simp] theorem Tryz.ty208:tyOf Tryz.prog 208=some ⟨(.st [(0,1,4),(1,4,50)]),5,72,[.val (.bool false),.val (.bool false),.val (.slice none 0 0),.val (.bool false),.val (.slice none 0 0)]⟩:=by kernel_rfl
@[simp] theorem Tryz.ty209:tyOf Tryz.prog 209=some ⟨(.st [(0,1,4),(1,4,50)]),5,72,[.val (.bool false),.val (.bool false),.val (.slice none 0 0),.val (.bool false),.val (.slice none 0 0)]⟩:=by kernel_rfl
@[simp] theorem Tryz.ty212:tyOf Tryz.prog 212=some ⟨.other,1,8,[.val (.nilFunc)]⟩:=by kernel_rfl
@[simp] theorem Tryz.ty214:tyOf Tryz.prog 214=some ⟨(.st [(0,1,9),(1,1,4),(2,5,209),(7,5,209),(12,4,50)]),16,232,[.val (.string ByteArray.empty),.val (.bool false),.val (.bool false),.val (.bool false),.val (.slice none 0 0),.val (.bool false),.val (.slice none 0 0),.val (.bool false),.val (.bool false),.val (.slice none 0 0),.val (.bool false),.val (.slice none 0 0),.val (.bool false),.val (.slice none 0 0),.val (.bool false),.val (.slice none 0 0)]⟩:=by kernel_rfl
@[simp] theorem Tryz.ty215:tyOf Tryz.prog 215=some ⟨(.sl 219),1,24,[.val (.slice none 0 0)]⟩:=by kernel_rfl
@[simp] theorem Tryz.ty217:tyOf Tryz.prog 217=some ⟨(.st [(0,1,9),(1,1,215),(2,5,209),(7,5,209)]),12,184,[.val (.string ByteArray.empty),.val (.slice none 0 0),.val (.bool false),.val (.bool false),.val (.slice none 0 0),.val (.bool false),.val (.slice none 0 0),.val (.bool false),.val (.bool false),.val (.slice none 0 0),.val (.bool false),.val (.slice none 0 0)]⟩:=by kernel_rfl
@[simp] theorem Tryz.ty218:tyOf Tryz.prog 218=some ⟨(.st [(0,1,3),(1,4,50)]),5,72,[.val (.int .i64 0),.val (.bool false),.val (.slice none 0 0),.val (.bool false),.val (.slice none 0 0)]⟩:=by kernel_rfl
@[simp] theorem Tryz.ty219:tyOf Tryz.prog 219=some ⟨(.st [(0,1,3),(1,4,50)]),5,72,[.val (.int .i64 0),.val (.bool false),.val (.slice none 0 0),.val (.bool false),.val (.slice none 0 0)]⟩:=by kernel_rfl
@[simp] theorem Tryz.ty220:tyOf Tryz.prog 220=some ⟨(.mp 9 3),1,8,[.val (.map none)]⟩:=by kernel_rfl
@[simp] theorem Tryz.ty221:tyOf Tryz.prog 221=some ⟨.other,1,8,[.val (.nilFunc)]⟩:=by kernel_rfl
@[simp] theorem Tryz.ty222:tyOf Tryz.prog 222=some ⟨.other,1,8,[.val (.nilFunc)]⟩:=by kernel_rfl
@[simp] theorem Tryz.ty224:tyOf Tryz.prog 224=some ⟨.other,1,8,[.val (.nilFunc)]⟩:=by kernel_rfl
@[simp] theorem Tryz.ty227:tyOf Tryz.prog 227=some ⟨.other,1,8,[.val (.nilFunc)]⟩:=by kernel_rfl
@[simp] theorem Tryz.ty228:tyOf Tryz.prog 228=some ⟨.other,1,8,[.val (.nilFunc)]⟩:=by kernel_rfl
@[simp] theorem Tryz.ty229:tyOf Tryz.prog 229=some ⟨.other,1,8,[.val (.nilFunc)]⟩:=by kernel_rfl
@[simp] theorem Tryz.ty231:tyOf Tryz.prog 231=some ⟨.other,1,8,[.val (.nilFunc)]⟩:=by kernel_rfl
@[simp] theorem Tryz.ty232:tyOf Tryz.prog 232=some ⟨(.ptr 91),1,8,[.val (.pointer none)]⟩:=by kernel_rfl
@[simp] theorem Tryz.ty233:tyOf Tryz.prog 233=some ⟨.other,1,8,[.val (.nilFunc)]⟩:=by kernel_rfl
@[simp] theorem Tryz.ty235:tyOf Tryz.prog 235=some ⟨.other,1,8,[.val (.nilFunc)]⟩:=by kernel_rfl
@[simp] theorem Tryz.ty236:tyOf Tryz.prog 236=some ⟨(.int .u64),1,8,[.val (.int .u64 0)]⟩:=by kernel_rfl
@[simp] theorem Tryz.ty237:tyOf Tryz.prog 237=some ⟨(.int .u64),1,8,[.val (.int .u64 0)]⟩:=by kernel_rfl
@[simp] theorem Tryz.ty238:tyOf Tryz.prog 238=some ⟨.other,1,8,[.val (.nilFunc)]⟩:=by kernel_rfl
@[simp] theorem Tryz.ty239:tyOf Tryz.prog 239=some ⟨.iface,1,16,[.val (.nilIface)]⟩:=by kernel_rfl
@[simp] theorem Tryz.ty240:tyOf Tryz.prog 240=some ⟨.iface,1,16,[.val (.nilIface)]⟩:=by kernel_rfl
@[simp] theorem Tryz.ty241:tyOf Tryz.prog 241=some ⟨.other,1,8,[.val (.nilFunc)]⟩:=by kernel_rfl
@[simp] theorem Tryz.ty242:tyOf Tryz.prog 242=some ⟨.other,1,8,[.val (.nilFunc)]⟩:=by kernel_rfl
@[simp] theorem Tryz.ty243:tyOf Tryz.prog 243=some ⟨.other,1,8,[.val (.pointer none)]⟩:=by kernel_rfl
@[simp] theorem Tryz.ty244:tyOf Tryz.prog 244=some ⟨(.int .u64),1,8,[.val (.int .u64 0)]⟩:=by kernel_rfl
@[simp] theorem Tryz.ty245:tyOf Tryz.prog 245=some ⟨(.st [(0,1,17),(1,1,243),(2,1,244)]),3,24,[.val (.pointer none),.val (.pointer none),.val (.int .u64 0)]⟩:=by kernel_rfl
@[simp] theorem Tryz.ty246:tyOf Tryz.prog 246=some ⟨(.st [(0,1,17),(1,1,243),(2,1,244)]),3,24,[.val (.pointer none),.val (.pointer none),.val (.int .u64 0)]⟩:=by kernel_rfl
@[simp] theorem Tryz.ty247:tyOf Tryz.prog 247=some ⟨.other,1,8,[.val (.nilFunc)]⟩:=by kernel_rfl
@[simp] theorem Tryz.ty248:tyOf Tryz.prog 248=some ⟨.other,1,8,[.val (.nilFunc)]⟩:=by kernel_rfl
@[simp] theorem Tryz.ty249:tyOf Tryz.prog 249=some ⟨(.int .u8),1,1,[.val (.int .u8 0)]⟩:=by kernel_rfl
@[simp] theorem Tryz.ty250:tyOf Tryz.prog 250=some ⟨.other,1,8,[.val (.nilFunc)]⟩:=by kernel_rfl
@[simp] theorem Tryz.ty251:tyOf Tryz.prog 251=some ⟨.other,1,8,[.val (.nilFunc)]⟩:=by kernel_rfl
@[simp] theorem Tryz.ty252:tyOf Tryz.prog 252=some ⟨.other,1,8,[.val (.nilFunc)]⟩:=by kernel_rfl
@[simp] theorem Tryz.ty254:tyOf Tryz.prog 254=some ⟨.other,1,8,[.val (.nilFunc)]⟩:=by kernel_rfl
@[simp] theorem Tryz.ty255:tyOf Tryz.prog 255=some ⟨.other,1,8,[.val (.nilFunc)]⟩:=by kernel_rfl
@[simp] theorem Tryz.ty256:tyOf Tryz.prog 256=some ⟨.other,1,8,[.val (.nilFunc)]⟩:=by kernel_rfl
@[simp] theorem Tryz.ty257:tyOf Tryz.prog 257=some ⟨.other,1,8,[.val (.nilFunc)]⟩:=by kernel_rfl
@[simp] theorem Tryz.ty258:tyOf Tryz.prog 258=some ⟨.other,1,8,[.val (.nilFunc)]⟩:=by kernel_rfl
@[simp] theorem Tryz.ty260:tyOf Tryz.prog 260=some ⟨.other,1,8,[.val (.nilFunc)]⟩:=by kernel_rfl
@[simp] theorem Tryz.ty261:tyOf Tryz.prog 261=some ⟨.other,1,8,[.val (.nilFunc)]⟩:=by kernel_rfl
@[simp] theorem Tryz.ty263:tyOf Tryz.prog 263=some ⟨.other,1,8,[.val (.nilFunc)]⟩:=by kernel_rfl
@[simp] theorem Tryz.ty264:tyOf Tryz.prog 264=some ⟨(.ptr 266),1,8,[.val (.pointer none)]⟩:=by kernel_rfl
@[simp] theorem Tryz.ty265:tyOf Tryz.prog 265=some ⟨(.st [(0,1,9),(1,1,3),(2,1,33)]),3,40,[.val (.string ByteArray.empty),.val (.int .i64 0),.val (.nilIface)]⟩:=by kernel_rfl
@[simp] theorem Tryz.ty266:tyOf Tryz.prog 266=some ⟨(.st [(0,1,9),(1,1,3),(2,1,33)]),3,40,[.val (.string ByteArray.empty),.val (.int .i64 0),.val (.nilIface)]⟩:=by kernel_rfl
@[simp] theorem Tryz.ty267:tyOf Tryz.prog 267=some ⟨.other,1,8,[.val (.nilFunc)]⟩:=by kernel_rfl
@[simp] theorem Tryz.ty268:tyOf Tryz.prog 268=some ⟨.other,1,8,[.val (.nilFunc)]⟩:=by kernel_rfl
@[simp] theorem Tryz.ty270:tyOf Tryz.prog 270=some ⟨.other,1,8,[.val (.nilFunc)]⟩:=by kernel_rfl
@[simp] theorem Tryz.ty271:tyOf Tryz.prog 271=some ⟨.other,1,8,[.val (.nilFunc)]⟩:=by kernel_rfl
@[simp] theorem Tryz.ty272:tyOf Tryz.prog 272=some ⟨.other,1,8,[.val (.nilFunc)]⟩:=by kernel_rfl
@[simp] theorem Tryz.ty281:tyOf Tryz.prog 281=some ⟨.other,1,8,[.val (.nilFunc)]⟩:=by kernel_rfl
@[simp] theorem Tryz.ty284:tyOf Tryz.prog 284=some ⟨.other,1,8,[.val (.nilFunc)]⟩:=by kernel_rfl
@[simp] theorem Tryz.ty285:tyOf Tryz.prog 285=some ⟨.other,1,8,[.val (.nilFunc)]⟩:=by kernel_rfl
@[simp] theorem Tryz.ty286:tyOf Tryz.prog 286=some ⟨.other,1,8,[.val (.nilFunc)]⟩:=by kernel_rfl
@[simp] theorem Tryz.ty287:tyOf Tryz.prog 287=some ⟨.other,1,8,[.val (.nilFunc)]⟩:=by kernel_rfl
@[simp] theorem Tryz.ty289:tyOf Tryz.prog 289=some ⟨.other,1,8,[.val (.nilFunc)]⟩:=by kernel_rfl
@[simp] theorem Tryz.ty290:tyOf Tryz.prog 290=some ⟨(.st [(0,1,17)]),1,8,[.val (.pointer none)]⟩:=by kernel_rfl
@[simp] theorem Tryz.ty291:tyOf Tryz.prog 291=some ⟨(.st [(0,1,17)]),1,8,[.val (.pointer none)]⟩:=by kernel_rfl
@[simp] theorem Tryz.ty292:tyOf Tryz.prog 292=some ⟨(.ptr 336),1,8,[.val (.pointer none)]⟩:=by kernel_rfl
@[simp] theorem Tryz.ty293:tyOf Tryz.prog 293=some ⟨.iface,1,16,[.val (.nilIface)]⟩:=by kernel_rfl
@[simp] theorem Tryz.ty295:tyOf Tryz.prog 295=some ⟨.other,1,8,[.val (.nilFunc)]⟩:=by kernel_rfl
@[simp] theorem Tryz.ty296:tyOf Tryz.prog 296=some ⟨.iface,1,16,[.val (.nilIface)]⟩:=by kernel_rfl
@[simp] theorem Tryz.ty297:tyOf Tryz.prog 297=some ⟨.other,1,8,[.val (.nilFunc)]⟩:=by kernel_rfl
@[simp] theorem Tryz.ty298:tyOf Tryz.prog 298=some ⟨.iface,1,16,[.val (.nilIface)]⟩:=by kernel_rfl
@[simp] theorem Tryz.ty299:tyOf Tryz.prog 299=some ⟨.other,1,8,[.val (.nilFunc)]⟩:=by kernel_rfl
@[simp] theorem Tryz.ty300:tyOf Tryz.prog 300=some ⟨.other,1,8,[.val (.nilFunc)]⟩:=by kernel_rfl
@[simp] theorem Tryz.ty301:tyOf Tryz.prog 301=some ⟨.other,1,8,[.val (.nilFunc)]⟩:=by kernel_rfl
@[simp] theorem Tryz.ty302:tyOf Tryz.prog 302=some ⟨.iface,1,16,[.val (.nilIface)]⟩:=by kernel_rfl
@[simp] theorem Tryz.ty304:tyOf Tryz.prog 304=some ⟨.other,1,8,[.val (.nilFunc)]⟩:=by kernel_rfl
@[simp] theorem Tryz.ty306:tyOf Tryz.prog 306=some ⟨.other,1,8,[.val (.nilFunc)]⟩:=by kernel_rfl
@[simp] theorem Tryz.ty307:tyOf Tryz.prog 307=some ⟨.other,1,8,[.val (.nilFunc)]⟩:=by kernel_rfl
@[simp] theorem Tryz.ty308:tyOf Tryz.prog 308=some ⟨.other,1,8,[.val (.nilFunc)]⟩:=by kernel_rfl
@[simp] theorem Tryz.ty312:tyOf Tryz.prog 312=some ⟨.other,1,8,[.val (.nilFunc)]⟩:=by kernel_rfl
@[simp] theorem Tryz.ty313:tyOf Tryz.prog 313=some ⟨.other,1,8,[.val (.nilFunc)]⟩:=by kernel_rfl
@[simp] theorem Tryz.ty314:tyOf Tryz.prog 314=some ⟨.other,1,8,[.val (.nilFunc)]⟩:=by kernel_rfl
@[simp] theorem Tryz.ty315:tyOf Tryz.prog 315=some ⟨.other,1,8,[.val (.nilFunc)]⟩:=by kernel_rfl
@[simp] theorem Tryz.ty316:tyOf Tryz.prog 316=some ⟨.other,1,8,[.val (.nilFunc)]⟩:=by kernel_rfl
@[simp] theorem Tryz.ty317:tyOf Tryz.prog 317=some ⟨.other,1,8,[.val (.nilFunc)]⟩:=by kernel_rfl
@[simp] theorem Tryz.ty318:tyOf Tryz.prog 318=some ⟨.other,1,8,[.val (.nilFunc)]⟩:=by kernel_rfl
@[simp] theorem Tryz.ty319:tyOf Tryz.prog 319=some ⟨(.ptr 338),1,8,[.val (.pointer none)]⟩:=by kernel_rfl
@[simp] theorem Tryz.ty320:tyOf Tryz.prog 320=some ⟨(.st [(0,1,17),(1,1,17),(2,1,17),(3,1,9)]),4,40,[.val (.pointer none),.val (.pointer none),.val (.pointer none),.val (.string ByteArray.empty)]⟩:=by kernel_rfl
@[simp] theorem Tryz.ty321:tyOf Tryz.prog 321=some ⟨(.st [(0,1,17),(1,1,17),(2,1,17),(3,1,9)]),4,40,[.val (.pointer none),.val (.pointer none),.val (.pointer none),.val (.string ByteArray.empty)]⟩:=by kernel_rfl
@[simp] theorem Tryz.ty322:tyOf Tryz.prog 322=some ⟨(.arr 0 16),0,0,[]⟩:=by kernel_rfl
@[simp] theorem Tryz.ty323:tyOf Tryz.prog 323=some ⟨(.st [(0,0,322)]),0,0,[]⟩:=by kernel_rfl
@[simp] theorem Tryz.ty324:tyOf Tryz.prog 324=some ⟨(.st [(0,0,322)]),0,0,[]⟩:=by kernel_rfl
@[simp] theorem Tryz.ty325:tyOf Tryz.prog 325=some ⟨.other,1,8,[.val (.nilFunc)]⟩:=by kernel_rfl
@[simp] theorem Tryz.ty326:tyOf Tryz.prog 326=some ⟨(.int .u8),1,1,[.val (.int .u8 0)]⟩:=by kernel_rfl
@[simp] theorem Tryz.ty327:tyOf Tryz.prog 327=some ⟨.other,1,8,[.val (.nilFunc)]⟩:=by kernel_rfl
@[simp] theorem Tryz.ty328:tyOf Tryz.prog 328=some ⟨(.ptr 5),1,8,[.val (.pointer none)]⟩:=by kernel_rfl
@[simp] theorem Tryz.ty329:tyOf Tryz.prog 329=some ⟨(.int .i32),1,4,[.val (.int .i32 0)]⟩:=by kernel_rfl
@[simp] theorem Tryz.ty330:tyOf Tryz.prog 330=some ⟨(.int .i32),1,4,[.val (.int .i32 0)]⟩:=by kernel_rfl
@[simp] theorem Tryz.ty331:tyOf Tryz.prog 331=some ⟨(.st [(0,1,12),(1,1,12),(2,1,199),(3,1,326),(4,1,5),(5,1,5),(6,1,249),(7,1,327),(8,1,328),(9,1,329),(10,1,330)]),11,48,[.val (.int .u64 0),.val (.int .u64 0),.val (.int .u32 0),.val (.int .u8 0),.val (.int .u8 0),.val (.int .u8 0),.val (.int .u8 0),.val (.nilFunc),.val (.pointer none),.val (.int .i32 0),.val (.int .i32 0)]⟩:=by kernel_rfl
@[simp] theorem Tryz.ty332:tyOf Tryz.prog 332=some ⟨(.st [(0,1,12),(1,1,12),(2,1,199),(3,1,326),(4,1,5),(5,1,5),(6,1,249),(7,1,327),(8,1,328),(9,1,329),(10,1,330)]),11,48,[.val (.int .u64 0),.val (.int .u64 0),.val (.int .u32 0),.val (.int .u8 0),.val (.int .u8 0),.val (.int .u8 0),.val (.int .u8 0),.val (.nilFunc),.val (.pointer none),.val (.int .i32 0),.val (.int .i32 0)]⟩:=by kernel_rfl
@[simp] theorem Tryz.ty333:tyOf Tryz.prog 333=some ⟨.other,1,8,[.val (.nilFunc)]⟩:=by kernel_rfl
@[simp] theorem Tryz.ty334:tyOf Tryz.prog 334=some ⟨.other,1,8,[.val (.nilFunc)]⟩:=by kernel_rfl
@[simp] theorem Tryz.ty335:tyOf Tryz.prog 335=some ⟨(.st [(0,1,9),(1,1,249)]),2,24,[.val (.string ByteArray.empty),.val (.int .u8 0)]⟩:=by kernel_rfl
@[simp] theorem Tryz.ty336:tyOf Tryz.prog 336=some ⟨(.st [(0,1,9),(1,1,249)]),2,24,[.val (.string ByteArray.empty),.val (.int .u8 0)]⟩:=by kernel_rfl
@[simp] theorem Tryz.ty337:tyOf Tryz.prog 337=some ⟨(.st [(0,1,9)]),1,16,[.val (.string ByteArray.empty)]⟩:=by kernel_rfl
@[simp] theorem Tryz.ty338:tyOf Tryz.prog 338=some ⟨(.st [(0,1,9)]),1,16,[.val (.string ByteArray.empty)]⟩:=by kernel_rfl
@[simp] theorem Tryz.ty339:tyOf Tryz.prog 339=some ⟨(.ptr 343),1,8,[.val (.pointer none)]⟩:=by kernel_rfl
@[simp] theorem Tryz.ty340:tyOf Tryz.prog 340=some ⟨.other,1,8,[.val (.nilFunc)]⟩:=by kernel_rfl
@[simp] theorem Tryz.ty341:tyOf Tryz.prog 341=some ⟨(.int .u16),1,2,[.val (.int .u16 0)]⟩:=by kernel_rfl
@[simp] theorem Tryz.ty342:tyOf Tryz.prog 342=some ⟨(.st [(0,1,329),(1,1,341),(2,1,341),(3,1,199),(4,1,199)]),5,16,[.val (.int .i32 0),.val (.int .u16 0),.val (.int .u16 0),.val (.int .u32 0),.val (.int .u32 0)]⟩:=by kernel_rfl
@[simp] theorem Tryz.ty343:tyOf Tryz.prog 343=some ⟨(.st [(0,1,329),(1,1,341),(2,1,341),(3,1,199),(4,1,199)]),5,16,[.val (.int .i32 0),.val (.int .u16 0),.val (.int .u16 0),.val (.int .u32 0),.val (.int .u32 0)]⟩:=by kernel_rfl
@[simp] theorem Tryz.ty344:tyOf Tryz.prog 344=some ⟨(.sl 347),1,24,[.val (.slice none 0 0)]⟩:=by kernel_rfl
@[simp] theorem Tryz.ty345:tyOf Tryz.prog 345=some ⟨(.int .i32),1,4,[.val (.int .i32 0)]⟩:=by kernel_rfl
@[simp] theorem Tryz.ty346:tyOf Tryz.prog 346=some ⟨(.st [(0,1,329),(1,1,330),(2,1,345),(3,1,345)]),4,16,[.val (.int .i32 0),.val (.int .i32 0),.val (.int .i32 0),.val (.int .i32 0)]⟩:=by kernel_rfl
@[simp] theorem Tryz.ty347:tyOf Tryz.prog 347=some ⟨(.st [(0,1,329),(1,1,330),(2,1,345),(3,1,345)]),4,16,[.val (.int .i32 0),.val (.int .i32 0),.val (.int .i32 0),.val (.int .i32 0)]⟩:=by kernel_rfl
@[simp] theorem Tryz.ty348:tyOf Tryz.prog 348=some ⟨.other,1,8,[.val (.nilFunc)]⟩:=by kernel_rfl
@[simp] theorem Tryz.ty349:tyOf Tryz.prog 349=some ⟨(.ptr 33),1,8,[.val (.pointer none)]⟩:=by kernel_rfl
@[simp] theorem Tryz.ok5:callOK Tryz.prog 5:=fun a w=>Tryz.call5 a w
@[simp] theorem Tryz.ok14:callOK Tryz.prog 14:=fun a w=>Tryz.call14 a w
@[simp] theorem Tryz.ok17:callOK Tryz.prog 17:=fun a w=>Tryz.call17 a w
@[simp] theorem Tryz.ok18:callOK Tryz.prog 18:=fun a w=>Tryz.call18 a w
@[simp] theorem Tryz.ok26:callOK Tryz.prog 26:=fun a w=>Tryz.call26 a w
@[simp] theorem Tryz.ok27:callOK Tryz.prog 27:=fun a w=>Tryz.call27 a w
@[simp] theorem Tryz.ok28:callOK Tryz.prog 28:=fun a w=>Tryz.call28 a w
@[simp] theorem Tryz.ok32:callOK Tryz.prog 32:=fun a w=>Tryz.call32 a w
@[simp] theorem Tryz.ok33:callOK Tryz.prog 33:=fun a w=>Tryz.call33 a w
@[simp] theorem Tryz.ok34:callOK Tryz.prog 34:=fun a w=>Tryz.call34 a w
@[simp] theorem Tryz.ok35:callOK Tryz.prog 35:=fun a w=>Tryz.call35 a w
@[simp] theorem Tryz.ok36:callOK Tryz.prog 36:=fun a w=>Tryz.call36 a w
@[simp] theorem Tryz.ok40:callOK Tryz.prog 40:=fun a w=>Tryz.call40 a w
@[simp] theorem Tryz.ok41:callOK Tryz.prog 41:=fun a w=>Tryz.call41 a w
@[simp] theorem Tryz.ok44:callOK Tryz.prog 44:=fun a w=>Tryz.call44 a w
@[simp] theorem Tryz.ok45:callOK Tryz.prog 45:=fun a w=>Tryz.call45 a w
@[simp] theorem Tryz.ok46:callOK Tryz.prog 46:=fun a w=>Tryz.call46 a w
@[simp] theorem Tryz.ok47:callOK Tryz.prog 47:=fun a w=>Tryz.call47 a w
@[simp] theorem Tryz.ok48:callOK Tryz.prog 48:=fun a w=>Tryz.call48 a w
@[simp] theorem Tryz.ok50:callOK Tryz.prog 50:=fun a w=>Tryz.call50 a w
@[simp] theorem Tryz.ok51:callOK Tryz.prog 51:=fun a w=>Tryz.call51 a w
@[simp] theorem Tryz.ok52:callOK Tryz.prog 52:=fun a w=>Tryz.call52 a w
@[simp] theorem Tryz.ok53:callOK Tryz.prog 53:=fun a w=>Tryz.call53 a w
@[simp] theorem Tryz.ok54:callOK Tryz.prog 54:=fun a w=>Tryz.call54 a w
@[simp] theorem Tryz.ok55:callOK Tryz.prog 55:=fun a w=>Tryz.call55 a w
@[simp] theorem Tryz.ok56:callOK Tryz.prog 56:=fun a w=>Tryz.call56 a w
@[simp] theorem Tryz.ok57:callOK Tryz.prog 57:=fun a w=>Tryz.call57 a w
@[simp] theorem Tryz.ok58:callOK Tryz.prog 58:=fun a w=>Tryz.call58 a w
@[simp] theorem Tryz.ok61:callOK Tryz.prog 61:=fun a w=>Tryz.call61 a w
@[simp] theorem Tryz.ok66:callOK Tryz.prog 66:=fun a w=>Tryz.call66 a w
@[simp] theorem Tryz.ok67:callOK Tryz.prog 67:=fun a w=>Tryz.call67 a w
@[simp] theorem Tryz.ok68:callOK Tryz.prog 68:=fun a w=>Tryz.call68 a w
@[simp] theorem Tryz.ok69:callOK Tryz.prog 69:=fun a w=>Tryz.call69 a w
@[simp] theorem Tryz.ok73:callOK Tryz.prog 73:=fun a w=>Tryz.call73 a w
@[simp] theorem Tryz.ok74:callOK Tryz.prog 74:=fun a w=>Tryz.call74 a w
@[simp] theorem Tryz.ok75:callOK Tryz.prog 75:=fun a w=>Tryz.call75 a w
@[simp] theorem Tryz.ok76:callOK Tryz.prog 76:=fun a w=>Tryz.call76 a w
@[simp] theorem Tryz.ok77:callOK Tryz.prog 77:=fun a w=>Tryz.call77 a w
@[simp] theorem Tryz.ok81:callOK Tryz.prog 81:=fun a w=>Tryz.call81 a w
@[simp] theorem Tryz.ok84:callOK Tryz.prog 84:=fun a w=>Tryz.call84 a w
@[simp] theorem Tryz.ok85:callOK Tryz.prog 85:=fun a w=>Tryz.call85 a w
@[simp] theorem Tryz.ok86:callOK Tryz.prog 86:=fun a w=>Tryz.call86 a w
@[simp] theorem Tryz.ok87:callOK Tryz.prog 87:=fun a w=>Tryz.call87 a w
@[simp] theorem Tryz.ok88:callOK Tryz.prog 88:=fun a w=>Tryz.call88 a w
@[simp] theorem Tryz.ok89:callOK Tryz.prog 89:=fun a w=>Tryz.call89 a w
@[simp] theorem Tryz.ok91:callOK Tryz.prog 91:=fun a w=>Tryz.call91 a w
@[simp] theorem Tryz.ok92:callOK Tryz.prog 92:=fun a w=>Tryz.call92 a w
@[simp] theorem Tryz.ok93:callOK Tryz.prog 93:=fun a w=>Tryz.call93 a w
@[simp] theorem Tryz.ok95:callOK Tryz.prog 95:=fun a w=>Tryz.call95 a w
@[simp] theorem Tryz.ok96:callOK Tryz.prog 96:=fun a w=>Tryz.call96 a w
@[simp] theorem Tryz.ok97:callOK Tryz.prog 97:=fun a w=>Tryz.call97 a w
@[simp] theorem Tryz.ok98:callOK Tryz.prog 98:=fun a w=>Tryz.call98 a w
@[simp] theorem Tryz.ok99:callOK Tryz.prog 99:=fun a w=>Tryz.call99 a w
@[simp] theorem Tryz.ok100:callOK Tryz.prog 100:=fun a w=>Tryz.call100 a w
@[simp] theorem Tryz.ok101:callOK Tryz.prog 101:=fun a w=>Tryz.call101 a w
@[simp] theorem Tryz.ok102:callOK Tryz.prog 102:=fun a w=>Tryz.call102 a w
@[simp] theorem Tryz.ok103:callOK Tryz.prog 103:=fun a w=>Tryz.call103 a w
@[simp] theorem Tryz.ok104:callOK Tryz.prog 104:=fun a w=>Tryz.call104 a w
@[simp] theorem Tryz.ok105:callOK Tryz.prog 105:=fun a w=>Tryz.call105 a w
@[simp] theorem Tryz.ok106:callOK Tryz.prog 106:=fun a w=>Tryz.call106 a w
@[simp] theorem Tryz.ok107:callOK Tryz.prog 107:=fun a w=>Tryz.call107 a w
@[simp] theorem Tryz.ok108:callOK Tryz.prog 108:=fun a w=>Tryz.call108 a w
@[simp] theorem Tryz.ok109:callOK Tryz.prog 109:=fun a w=>Tryz.call109 a w
@[simp] theorem Tryz.ok110:callOK Tryz.prog 110:=fun a w=>Tryz.call110 a w
@[simp] theorem Tryz.ok111:callOK Tryz.prog 111:=fun a w=>Tryz.call111 a w
@[simp] theorem Tryz.ok115:callOK Tryz.prog 115:=fun a w=>Tryz.call115 a w
@[simp] theorem Tryz.ok116:callOK Tryz.prog 116:=fun a w=>Tryz.call116 a w
@[simp] theorem Tryz.ok117:callOK Tryz.prog 117:=fun a w=>Tryz.call117 a w
@[simp] theorem Tryz.ok118:callOK Tryz.prog 118:=fun a w=>Tryz.call118 a w
@[simp] theorem Tryz.ok119:callOK Tryz.prog 119:=fun a w=>Tryz.call119 a w
@[simp] theorem Tryz.ok120:callOK Tryz.prog 120:=fun a w=>Tryz.call120 a w
@[simp] theorem Tryz.ok128:callOK Tryz.prog 128:=fun a w=>Tryz.call128 a w
@[simp] theorem Tryz.ok129:callOK Tryz.prog 129:=fun a w=>Tryz.call129 a w
@[simp] theorem Tryz.ok130:callOK Tryz.prog 130:=fun a w=>Tryz.call130 a w
@[simp] theorem Tryz.ok131:callOK Tryz.prog 131:=fun a w=>Tryz.call131 a w
@[simp] theorem Tryz.ok132:callOK Tryz.prog 132:=fun a w=>Tryz.call132 a w
@[simp] theorem Tryz.ok133:callOK Tryz.prog 133:=fun a w=>Tryz.call133 a w
@[simp] theorem Tryz.ok134:callOK Tryz.prog 134:=fun a w=>Tryz.call134 a w
@[simp] theorem Tryz.ok135:callOK Tryz.prog 135:=fun a w=>Tryz.call135 a w
@[simp] theorem Tryz.ok136:callOK Tryz.prog 136:=fun a w=>Tryz.call136 a w
@[simp] theorem Tryz.ok138:callOK Tryz.prog 138:=fun a w=>Tryz.call138 a w
@[simp] theorem Tryz.ok142:callOK Tryz.prog 142:=fun a w=>Tryz.call142 a w
@[simp] theorem Tryz.ok143:callOK Tryz.prog 143:=fun a w=>Tryz.call143 a w
@[simp] theorem Tryz.ok144:callOK Tryz.prog 144:=fun a w=>Tryz.call144 a w
@[simp] theorem Tryz.ok145:callOK Tryz.prog 145:=fun a w=>Tryz.call145 a w
@[simp] theorem Tryz.ok146:callOK Tryz.prog 146:=fun a w=>Tryz.call146 a w
@[simp] theorem Tryz.ok147:callOK Tryz.prog 147:=fun a w=>Tryz.call147 a w
@[simp] theorem Tryz.ok148:callOK Tryz.prog 148:=fun a w=>Tryz.call148 a w
@[simp] theorem Tryz.ok149:callOK Tryz.prog 149:=fun a w=>Tryz.call149 a w
@[simp] theorem Tryz.ok150:callOK Tryz.prog 150:=fun a w=>Tryz.call150 a w
@[simp] theorem Tryz.ok151:callOK Tryz.prog 151:=fun a w=>Tryz.call151 a w
@[simp] theorem Tryz.ok152:callOK Tryz.prog 152:=fun a w=>Tryz.call152 a w
@[simp] theorem Tryz.ok153:callOK Tryz.prog 153:=fun a w=>Tryz.call153 a w
@[simp] theorem Tryz.ok154:callOK Tryz.prog 154:=fun a w=>Tryz.call154 a w
@[simp] theorem Tryz.ok155:callOK Tryz.prog 155:=fun a w=>Tryz.call155 a w
@[simp] theorem Tryz.ok156:callOK Tryz.prog 156:=fun a w=>Tryz.call156 a w
@[simp] theorem Tryz.ok157:callOK Tryz.prog 157:=fun a w=>Tryz.call157 a w
@[simp] theorem Tryz.ok158:callOK Tryz.prog 158:=fun a w=>Tryz.call158 a w
@[simp] theorem Tryz.ok159:callOK Tryz.prog 159:=fun a w=>Tryz.call159 a w
@[simp] theorem Tryz.ok160:callOK Tryz.prog 160:=fun a w=>Tryz.call160 a w
@[simp] theorem Tryz.ok161:callOK Tryz.prog 161:=fun a w=>Tryz.call161 a w
@[simp] theorem Tryz.ok167:callOK Tryz.prog 167:=fun a w=>Tryz.call167 a w
@[simp] theorem Tryz.ok168:callOK Tryz.prog 168:=fun a w=>Tryz.call168 a w
@[simp] theorem Tryz.ok174:callOK Tryz.prog 174:=fun a w=>Tryz.call174 a w
@[simp] theorem Tryz.ok175:callOK Tryz.prog 175:=fun a w=>Tryz.call175 a w
@[simp] theorem Tryz.ok178:callOK Tryz.prog 178:=fun a w=>Tryz.call178 a w
@[simp] theorem Tryz.ok179:callOK Tryz.prog 179:=fun a w=>Tryz.call179 a w
@[simp] theorem Tryz.ok180:callOK Tryz.prog 180:=fun a w=>Tryz.call180 a w
@[simp] theorem Tryz.ok181:callOK Tryz.prog 181:=fun a w=>Tryz.call181 a w
@[simp] theorem Tryz.ok182:callOK Tryz.prog 182:=fun a w=>Tryz.call182 a w
@[simp] theorem Tryz.ok187:callOK Tryz.prog 187:=fun a w=>Tryz.call187 a w
@[simp] theorem Tryz.ok188:callOK Tryz.prog 188:=fun a w=>Tryz.call188 a w
@[simp] theorem Tryz.ok189:callOK Tryz.prog 189:=fun a w=>Tryz.call189 a w
@[simp] theorem Tryz.ok190:callOK Tryz.prog 190:=fun a w=>Tryz.call190 a w
@[simp] theorem Tryz.ok191:callOK Tryz.prog 191:=fun a w=>Tryz.call191 a w
@[simp] theorem Tryz.ok192:callOK Tryz.prog 192:=fun a w=>Tryz.call192 a w
end Go.Proofs

