/- A text of the prover's own. -/
import Derived.Test.YtnimjdcaajmfcaaGreatDoorVVx
import Derived.Test.YtnimjdcaajmfcaaGreatDoorProg
import Derived.KernelRfl
open Go.Proofs.Tryz renaming prog->ay9
open ByteArray renaming empty->aza
namespace Go.Proofs
open Go.Sv
@[simp] theorem Tryz.ty2:an ay9 2=some ⟨(.int .i64),1,8,[.val (.int .i64 0)]⟩:=by kernel_rfl
@[simp] theorem Tryz.ty3:an ay9 3=some ⟨(.int .i64),1,8,[.val (.int .i64 0)]⟩:=by kernel_rfl
@[simp] theorem Tryz.ty4:an ay9 4=some ⟨.bool,1,1,[.val (.bool false)]⟩:=by kernel_rfl
@[simp] theorem Tryz.ty5:an ay9 5=some ⟨(.int .u8),1,1,[.val (.int .u8 0)]⟩:=by kernel_rfl
@[simp] theorem Tryz.ty9:an ay9 9=some ⟨.str,1,16,[.val (.string aza)]⟩:=by kernel_rfl
@[simp] theorem Tryz.auA:an ay9 22=some ⟨(.sl 23),1,24,[.val (.slice none 0 0)]⟩:=by kernel_rfl
@[simp] theorem Tryz.aud:an ay9 23=some ⟨(.sl 9),1,24,[.val (.slice none 0 0)]⟩:=by kernel_rfl
@[simp] theorem Tryz.awa:an ay9 24=some ⟨(.sl 55),1,24,[.val (.slice none 0 0)]⟩:=by kernel_rfl
@[simp] theorem Tryz.avW:an ay9 28=some ⟨(.sl 58),1,24,[.val (.slice none 0 0)]⟩:=by kernel_rfl
@[simp] theorem Tryz.av5:an ay9 33=some ⟨.iface,1,16,[.val (.nilIface)]⟩:=by kernel_rfl
@[simp] theorem Tryz.av0:an ay9 38=some ⟨(.sl 3),1,24,[.val (.slice none 0 0)]⟩:=by kernel_rfl
@[simp] theorem Tryz.avz:an ay9 40=some ⟨(.st [(0,1,4),(1,1,38)]),2,32,[.val (.bool false),.val (.slice none 0 0)]⟩:=by kernel_rfl
@[simp] theorem Tryz.auC:an ay9 42=some ⟨(.st [(0,2,40),(2,2,40)]),4,64,[.val (.bool false),.val (.slice none 0 0),.val (.bool false),.val (.slice none 0 0)]⟩:=by kernel_rfl
@[simp] theorem Tryz.auW:an ay9 46=some ⟨(.sl 199),1,24,[.val (.slice none 0 0)]⟩:=by kernel_rfl
@[simp] theorem Tryz.avI:an ay9 48=some ⟨(.st [(0,1,4),(1,1,46)]),2,32,[.val (.bool false),.val (.slice none 0 0)]⟩:=by kernel_rfl
@[simp] theorem Tryz.avr:an ay9 50=some ⟨(.st [(0,2,48),(2,2,48)]),4,64,[.val (.bool false),.val (.slice none 0 0),.val (.bool false),.val (.slice none 0 0)]⟩:=by kernel_rfl
@[simp] theorem Tryz.avg:an ay9 55=some ⟨(.sl 42),1,24,[.val (.slice none 0 0)]⟩:=by kernel_rfl
@[simp] theorem Tryz.atK:an ay9 58=some ⟨(.sl 50),1,24,[.val (.slice none 0 0)]⟩:=by kernel_rfl
@[simp] theorem Tryz.avc:an ay9 65=some ⟨(.sl 166),1,24,[.val (.slice none 0 0)]⟩:=by kernel_rfl
@[simp] theorem Tryz.at3:an ay9 66=some ⟨(.sl 168),1,24,[.val (.slice none 0 0)]⟩:=by kernel_rfl
@[simp] theorem Tryz.avx:an ay9 68=some ⟨(.st [(0,1,4),(1,1,9),(2,1,65),(3,1,66)]),4,72,[.val (.bool false),.val (.string aza),.val (.slice none 0 0),.val (.slice none 0 0)]⟩:=by kernel_rfl
@[simp] theorem Tryz.atH:an ay9 70=some ⟨(.ptr 174),1,8,[.val (.pointer none)]⟩:=by kernel_rfl
@[simp] theorem Tryz.auK:an ay9 71=some ⟨(.sl 151),1,24,[.val (.slice none 0 0)]⟩:=by kernel_rfl
@[simp] theorem Tryz.avJ:an ay9 72=some ⟨(.sl 153),1,24,[.val (.slice none 0 0)]⟩:=by kernel_rfl
@[simp] theorem Tryz.avy:an ay9 74=some ⟨(.st [(0,1,4),(1,4,42),(5,1,71),(6,1,72)]),7,120,[.val (.bool false),.val (.bool false),.val (.slice none 0 0),.val (.bool false),.val (.slice none 0 0),.val (.slice none 0 0),.val (.slice none 0 0)]⟩:=by kernel_rfl
@[simp] theorem Tryz.avE:an ay9 80=some ⟨(.st [(0,1,3),(1,1,58),(2,1,58),(3,1,58),(4,4,50)]),8,144,[.val (.int .i64 0),.val (.slice none 0 0),.val (.slice none 0 0),.val (.slice none 0 0),.val (.bool false),.val (.slice none 0 0),.val (.bool false),.val (.slice none 0 0)]⟩:=by kernel_rfl
@[simp] theorem Tryz.awb:an ay9 91=some ⟨(.st [(0,1,38),(1,1,24),(2,1,55),(3,1,55)]),4,96,[.val (.slice none 0 0),.val (.slice none 0 0),.val (.slice none 0 0),.val (.slice none 0 0)]⟩:=by kernel_rfl
@[simp] theorem Tryz.aru:an ay9 131=some ⟨(.st [(0,1,3),(1,1,3)]),2,16,[.val (.int .i64 0),.val (.int .i64 0)]⟩:=by kernel_rfl
@[simp] theorem Tryz.aof:an ay9 137=some ⟨(.st [(0,1,3),(1,1,55),(2,1,55),(3,1,55),(4,4,42)]),8,144,[.val (.int .i64 0),.val (.slice none 0 0),.val (.slice none 0 0),.val (.slice none 0 0),.val (.bool false),.val (.slice none 0 0),.val (.bool false),.val (.slice none 0 0)]⟩:=by kernel_rfl
@[simp] theorem Tryz.arz:an ay9 141=some ⟨(.st [(0,1,3),(1,1,23),(2,1,23),(3,1,23),(4,1,9)]),5,96,[.val (.int .i64 0),.val (.slice none 0 0),.val (.slice none 0 0),.val (.slice none 0 0),.val (.string aza)]⟩:=by kernel_rfl
@[simp] theorem Tryz.ap8:an ay9 149=some ⟨(.st [(0,1,4),(1,4,42)]),5,72,[.val (.bool false),.val (.bool false),.val (.slice none 0 0),.val (.bool false),.val (.slice none 0 0)]⟩:=by kernel_rfl
@[simp] theorem Tryz.apx:an ay9 151=some ⟨(.st [(0,1,9),(1,1,4),(2,5,149),(7,5,149),(12,4,42)]),16,232,[.val (.string aza),.val (.bool false),.val (.bool false),.val (.bool false),.val (.slice none 0 0),.val (.bool false),.val (.slice none 0 0),.val (.bool false),.val (.bool false),.val (.slice none 0 0),.val (.bool false),.val (.slice none 0 0),.val (.bool false),.val (.slice none 0 0),.val (.bool false),.val (.slice none 0 0)]⟩:=by kernel_rfl
@[simp] theorem Tryz.asG:an ay9 153=some ⟨(.st [(0,1,9),(1,1,38),(2,1,55),(3,5,149),(8,5,149)]),13,208,[.val (.string aza),.val (.slice none 0 0),.val (.slice none 0 0),.val (.bool false),.val (.bool false),.val (.slice none 0 0),.val (.bool false),.val (.slice none 0 0),.val (.bool false),.val (.bool false),.val (.slice none 0 0),.val (.bool false),.val (.slice none 0 0)]⟩:=by kernel_rfl
@[simp] theorem Tryz.as5:an ay9 155=some ⟨(.ptr 160),1,8,[.val (.pointer none)]⟩:=by kernel_rfl
@[simp] theorem Tryz.aq8:an ay9 158=some ⟨(.sl 209),1,24,[.val (.slice none 0 0)]⟩:=by kernel_rfl
@[simp] theorem Tryz.an7:an ay9 160=some ⟨(.st [(0,1,70),(1,1,3),(2,1,3),(3,1,158),(4,1,158),(5,1,58),(6,1,38),(7,1,58),(8,1,38),(9,1,38),(10,1,28)]),11,216,[.val (.pointer none),.val (.int .i64 0),.val (.int .i64 0),.val (.slice none 0 0),.val (.slice none 0 0),.val (.slice none 0 0),.val (.slice none 0 0),.val (.slice none 0 0),.val (.slice none 0 0),.val (.slice none 0 0),.val (.slice none 0 0)]⟩:=by kernel_rfl
@[simp] theorem Tryz.apb:an ay9 166=some ⟨(.st [(0,1,9),(1,1,4),(2,1,9),(3,1,9),(4,1,9)]),5,72,[.val (.string aza),.val (.bool false),.val (.string aza),.val (.string aza),.val (.string aza)]⟩:=by kernel_rfl
@[simp] theorem Tryz.arP:an ay9 168=some ⟨(.st [(0,1,9),(1,1,9),(2,1,9),(3,1,38),(4,1,23)]),5,96,[.val (.string aza),.val (.string aza),.val (.string aza),.val (.slice none 0 0),.val (.slice none 0 0)]⟩:=by kernel_rfl
@[simp] theorem Tryz.aoT:an ay9 171=some ⟨(.sl 214),1,24,[.val (.slice none 0 0)]⟩:=by kernel_rfl
@[simp] theorem Tryz.aqo:an ay9 172=some ⟨(.sl 217),1,24,[.val (.slice none 0 0)]⟩:=by kernel_rfl
@[simp] theorem Tryz.aro:an ay9 174=some ⟨(.st [(0,1,4),(1,4,50),(5,1,171),(6,1,172)]),7,120,[.val (.bool false),.val (.bool false),.val (.slice none 0 0),.val (.bool false),.val (.slice none 0 0),.val (.slice none 0 0),.val (.slice none 0 0)]⟩:=by kernel_rfl
@[simp] theorem Tryz.apq:an ay9 184=some ⟨(.sl 33),1,24,[.val (.slice none 0 0)]⟩:=by kernel_rfl
@[simp] theorem Tryz.aqB:an ay9 186=some ⟨(.ptr 190),1,8,[.val (.pointer none)]⟩:=by kernel_rfl
@[simp] theorem Tryz.aqS:an ay9 188=some ⟨(.ptr 186),1,8,[.val (.pointer none)]⟩:=by kernel_rfl
@[simp] theorem Tryz.aqR:an ay9 190=some ⟨(.st [(0,1,3),(1,1,33)]),2,24,[.val (.int .i64 0),.val (.nilIface)]⟩:=by kernel_rfl
@[simp] theorem Tryz.ath:an ay9 198=some ⟨(.sl 5),1,24,[.val (.slice none 0 0)]⟩:=by kernel_rfl
@[simp] theorem Tryz.an6:an ay9 199=some ⟨(.int .u32),1,4,[.val (.int .u32 0)]⟩:=by kernel_rfl
@[simp] theorem Tryz.as7:an ay9 209=some ⟨(.st [(0,1,4),(1,4,50)]),5,72,[.val (.bool false),.val (.bool false),.val (.slice none 0 0),.val (.bool false),.val (.slice none 0 0)]⟩:=by kernel_rfl
@[simp] theorem Tryz.aoG:an ay9 214=some ⟨(.st [(0,1,9),(1,1,4),(2,5,209),(7,5,209),(12,4,50)]),16,232,[.val (.string aza),.val (.bool false),.val (.bool false),.val (.bool false),.val (.slice none 0 0),.val (.bool false),.val (.slice none 0 0),.val (.bool false),.val (.bool false),.val (.slice none 0 0),.val (.bool false),.val (.slice none 0 0),.val (.bool false),.val (.slice none 0 0),.val (.bool false),.val (.slice none 0 0)]⟩:=by kernel_rfl
@[simp] theorem Tryz.asH:an ay9 215=some ⟨(.sl 219),1,24,[.val (.slice none 0 0)]⟩:=by kernel_rfl
@[simp] theorem Tryz.arR:an ay9 217=some ⟨(.st [(0,1,9),(1,1,215),(2,5,209),(7,5,209)]),12,184,[.val (.string aza),.val (.slice none 0 0),.val (.bool false),.val (.bool false),.val (.slice none 0 0),.val (.bool false),.val (.slice none 0 0),.val (.bool false),.val (.bool false),.val (.slice none 0 0),.val (.bool false),.val (.slice none 0 0)]⟩:=by kernel_rfl
@[simp] theorem Tryz.aoF:an ay9 219=some ⟨(.st [(0,1,3),(1,4,50)]),5,72,[.val (.int .i64 0),.val (.bool false),.val (.slice none 0 0),.val (.bool false),.val (.slice none 0 0)]⟩:=by kernel_rfl
@[simp] theorem Tryz.arn:an ay9 220=some ⟨(.mp 9 3),1,8,[.val (.map none)]⟩:=by kernel_rfl
@[simp] theorem Tryz.aoO:an ay9 236=some ⟨(.int .u64),1,8,[.val (.int .u64 0)]⟩:=by kernel_rfl
@[simp] theorem Tryz.asF:an ay9 237=some ⟨(.int .u64),1,8,[.val (.int .u64 0)]⟩:=by kernel_rfl
@[simp] theorem Tryz.apX:an ay9 266=some ⟨(.st [(0,1,9),(1,1,3),(2,1,33)]),3,40,[.val (.string aza),.val (.int .i64 0),.val (.nilIface)]⟩:=by kernel_rfl
@[simp] theorem Tryz.asA:an ay9 277=some ⟨(.st [(0,5,149),(5,5,149)]),10,144,[.val (.bool false),.val (.bool false),.val (.slice none 0 0),.val (.bool false),.val (.slice none 0 0),.val (.bool false),.val (.bool false),.val (.slice none 0 0),.val (.bool false),.val (.slice none 0 0)]⟩:=by kernel_rfl
@[simp] theorem Tryz.ok6:au ay9 6:=λa w=>Tryz.call6 a w
@[simp] theorem Tryz.auU:au ay9 14:=λa w=>Tryz.call14 a w
@[simp] theorem Tryz.au0:au ay9 17:=λa w=>Tryz.call17 a w
@[simp] theorem Tryz.av4:au ay9 25:=λa w=>Tryz.call25 a w
@[simp] theorem Tryz.avi:au ay9 26:=λa w=>Tryz.call26 a w
@[simp] theorem Tryz.avw:au ay9 27:=λa w=>Tryz.call27 a w
@[simp] theorem Tryz.au8:au ay9 28:=λa w=>Tryz.call28 a w
@[simp] theorem Tryz.auD:au ay9 29:=λa w=>Tryz.call29 a w
@[simp] theorem Tryz.auo:au ay9 30:=λa w=>Tryz.call30 a w
@[simp] theorem Tryz.avF:au ay9 32:=λa w=>Tryz.call32 a w
@[simp] theorem Tryz.avo:au ay9 34:=λa w=>Tryz.call34 a w
@[simp] theorem Tryz.av3:au ay9 36:=λa w=>Tryz.call36 a w
@[simp] theorem Tryz.atZ:au ay9 37:=λa w=>Tryz.call37 a w
@[simp] theorem Tryz.avS:au ay9 40:=λa w=>Tryz.call40 a w
@[simp] theorem Tryz.at1:au ay9 41:=λa w=>Tryz.call41 a w
@[simp] theorem Tryz.atX:au ay9 44:=λa w=>Tryz.call44 a w
@[simp] theorem Tryz.atN:au ay9 45:=λa w=>Tryz.call45 a w
@[simp] theorem Tryz.aui:au ay9 46:=λa w=>Tryz.call46 a w
@[simp] theorem Tryz.atB:au ay9 47:=λa w=>Tryz.call47 a w
@[simp] theorem Tryz.atQ:au ay9 48:=λa w=>Tryz.call48 a w
@[simp] theorem Tryz.auT:au ay9 50:=λa w=>Tryz.call50 a w
@[simp] theorem Tryz.awc:au ay9 51:=λa w=>Tryz.call51 a w
@[simp] theorem Tryz.atU:au ay9 52:=λa w=>Tryz.call52 a w
@[simp] theorem Tryz.auq:au ay9 53:=λa w=>Tryz.call53 a w
@[simp] theorem Tryz.auP:au ay9 54:=λa w=>Tryz.call54 a w
@[simp] theorem Tryz.aug:au ay9 55:=λa w=>Tryz.call55 a w
@[simp] theorem Tryz.aul:au ay9 56:=λa w=>Tryz.call56 a w
@[simp] theorem Tryz.avm:au ay9 57:=λa w=>Tryz.call57 a w
@[simp] theorem Tryz.av8:au ay9 60:=λa w=>Tryz.call60 a w
@[simp] theorem Tryz.avl:au ay9 61:=λa w=>Tryz.call61 a w
@[simp] theorem Tryz.auS:au ay9 62:=λa w=>Tryz.call62 a w
@[simp] theorem Tryz.atC:au ay9 66:=λa w=>Tryz.call66 a w
@[simp] theorem Tryz.auM:au ay9 67:=λa w=>Tryz.call67 a w
@[simp] theorem Tryz.aus:au ay9 68:=λa w=>Tryz.call68 a w
@[simp] theorem Tryz.auc:au ay9 70:=λa w=>Tryz.call70 a w
@[simp] theorem Tryz.aup:au ay9 71:=λa w=>Tryz.call71 a w
@[simp] theorem Tryz.aue:au ay9 72:=λa w=>Tryz.call72 a w
@[simp] theorem Tryz.avP:au ay9 73:=λa w=>Tryz.call73 a w
@[simp] theorem Tryz.av1:au ay9 74:=λa w=>Tryz.call74 a w
@[simp] theorem Tryz.aut:au ay9 75:=λa w=>Tryz.call75 a w
@[simp] theorem Tryz.av7:au ay9 76:=λa w=>Tryz.call76 a w
@[simp] theorem Tryz.avs:au ay9 77:=λa w=>Tryz.call77 a w
@[simp] theorem Tryz.atA:au ay9 78:=λa w=>Tryz.call78 a w
@[simp] theorem Tryz.auY:au ay9 79:=λa w=>Tryz.call79 a w
@[simp] theorem Tryz.avX:au ay9 80:=λa w=>Tryz.call80 a w
@[simp] theorem Tryz.auJ:au ay9 81:=λa w=>Tryz.call81 a w
@[simp] theorem Tryz.avG:au ay9 82:=λa w=>Tryz.call82 a w
@[simp] theorem Tryz.au1:au ay9 83:=λa w=>Tryz.call83 a w
@[simp] theorem Tryz.avn:au ay9 85:=λa w=>Tryz.call85 a w
@[simp] theorem Tryz.atJ:au ay9 86:=λa w=>Tryz.call86 a w
@[simp] theorem Tryz.avZ:au ay9 87:=λa w=>Tryz.call87 a w
@[simp] theorem Tryz.avj:au ay9 88:=λa w=>Tryz.call88 a w
@[simp] theorem Tryz.avA:au ay9 89:=λa w=>Tryz.call89 a w
@[simp] theorem Tryz.avD:au ay9 90:=λa w=>Tryz.call90 a w
@[simp] theorem Tryz.auz:au ay9 91:=λa w=>Tryz.call91 a w
@[simp] theorem Tryz.atD:au ay9 92:=λa w=>Tryz.call92 a w
@[simp] theorem Tryz.auh:au ay9 93:=λa w=>Tryz.call93 a w
@[simp] theorem Tryz.avb:au ay9 94:=λa w=>Tryz.call94 a w
@[simp] theorem Tryz.au9:au ay9 95:=λa w=>Tryz.call95 a w
@[simp] theorem Tryz.awe:au ay9 96:=λa w=>Tryz.call96 a w
@[simp] theorem Tryz.atY:au ay9 97:=λa w=>Tryz.call97 a w
@[simp] theorem Tryz.avB:au ay9 98:=λa w=>Tryz.call98 a w
@[simp] theorem Tryz.atG:au ay9 99:=λa w=>Tryz.call99 a w
@[simp] theorem Tryz.aog:au ay9 100:=λa w=>Tryz.call100 a w
@[simp] theorem Tryz.aq4:au ay9 101:=λa w=>Tryz.call101 a w
@[simp] theorem Tryz.aqD:au ay9 102:=λa w=>Tryz.call102 a w
@[simp] theorem Tryz.apk:au ay9 103:=λa w=>Tryz.call103 a w
@[simp] theorem Tryz.aqv:au ay9 104:=λa w=>Tryz.call104 a w
@[simp] theorem Tryz.asY:au ay9 105:=λa w=>Tryz.call105 a w
@[simp] theorem Tryz.asW:au ay9 106:=λa w=>Tryz.call106 a w
@[simp] theorem Tryz.aoR:au ay9 107:=λa w=>Tryz.call107 a w
@[simp] theorem Tryz.aoo:au ay9 109:=λa w=>Tryz.call109 a w
@[simp] theorem Tryz.arF:au ay9 110:=λa w=>Tryz.call110 a w
@[simp] theorem Tryz.aqj:au ay9 111:=λa w=>Tryz.call111 a w
@[simp] theorem Tryz.aps:au ay9 112:=λa w=>Tryz.call112 a w
@[simp] theorem Tryz.ap0:au ay9 113:=λa w=>Tryz.call113 a w
@[simp] theorem Tryz.as0:au ay9 114:=λa w=>Tryz.call114 a w
@[simp] theorem Tryz.aqw:au ay9 115:=λa w=>Tryz.call115 a w
@[simp] theorem Tryz.ate:au ay9 116:=λa w=>Tryz.call116 a w
@[simp] theorem Tryz.atk:au ay9 117:=λa w=>Tryz.call117 a w
@[simp] theorem Tryz.aq7:au ay9 118:=λa w=>Tryz.call118 a w
@[simp] theorem Tryz.aqP:au ay9 119:=λa w=>Tryz.call119 a w
@[simp] theorem Tryz.asg:au ay9 120:=λa w=>Tryz.call120 a w
@[simp] theorem Tryz.ap2:au ay9 121:=λa w=>Tryz.call121 a w
@[simp] theorem Tryz.aqA:au ay9 122:=λa w=>Tryz.call122 a w
@[simp] theorem Tryz.apP:au ay9 123:=λa w=>Tryz.call123 a w
@[simp] theorem Tryz.atc:au ay9 124:=λa w=>Tryz.call124 a w
@[simp] theorem Tryz.arO:au ay9 125:=λa w=>Tryz.call125 a w
@[simp] theorem Tryz.arT:au ay9 126:=λa w=>Tryz.call126 a w
@[simp] theorem Tryz.ary:au ay9 127:=λa w=>Tryz.call127 a w
@[simp] theorem Tryz.apD:au ay9 128:=λa w=>Tryz.call128 a w
@[simp] theorem Tryz.arx:au ay9 129:=λa w=>Tryz.call129 a w
@[simp] theorem Tryz.aq1:au ay9 130:=λa w=>Tryz.call130 a w
@[simp] theorem Tryz.aqd:au ay9 131:=λa w=>Tryz.call131 a w
@[simp] theorem Tryz.atq:au ay9 132:=λa w=>Tryz.call132 a w
@[simp] theorem Tryz.apu:au ay9 133:=λa w=>Tryz.call133 a w
@[simp] theorem Tryz.apn:au ay9 134:=λa w=>Tryz.call134 a w
@[simp] theorem Tryz.arJ:au ay9 135:=λa w=>Tryz.call135 a w
@[simp] theorem Tryz.aqg:au ay9 136:=λa w=>Tryz.call136 a w
@[simp] theorem Tryz.arw:au ay9 138:=λa w=>Tryz.call138 a w
@[simp] theorem Tryz.aqW:au ay9 142:=λa w=>Tryz.call142 a w
@[simp] theorem Tryz.ao0:au ay9 143:=λa w=>Tryz.call143 a w
@[simp] theorem Tryz.aoq:au ay9 144:=λa w=>Tryz.call144 a w
@[simp] theorem Tryz.arV:au ay9 145:=λa w=>Tryz.call145 a w
@[simp] theorem Tryz.asI:au ay9 146:=λa w=>Tryz.call146 a w
@[simp] theorem Tryz.apo:au ay9 147:=λa w=>Tryz.call147 a w
@[simp] theorem Tryz.apJ:au ay9 148:=λa w=>Tryz.call148 a w
@[simp] theorem Tryz.atw:au ay9 149:=λa w=>Tryz.call149 a w
@[simp] theorem Tryz.asd:au ay9 150:=λa w=>Tryz.call150 a w
@[simp] theorem Tryz.atu:au ay9 151:=λa w=>Tryz.call151 a w
@[simp] theorem Tryz.asZ:au ay9 152:=λa w=>Tryz.call152 a w
@[simp] theorem Tryz.aqG:au ay9 153:=λa w=>Tryz.call153 a w
@[simp] theorem Tryz.aqX:au ay9 154:=λa w=>Tryz.call154 a w
@[simp] theorem Tryz.apy:au ay9 155:=λa w=>Tryz.call155 a w
@[simp] theorem Tryz.aqJ:au ay9 156:=λa w=>Tryz.call156 a w
@[simp] theorem Tryz.aqi:au ay9 157:=λa w=>Tryz.call157 a w
@[simp] theorem Tryz.aoA:au ay9 158:=λa w=>Tryz.call158 a w
@[simp] theorem Tryz.apd:au ay9 159:=λa w=>Tryz.call159 a w
@[simp] theorem Tryz.ast:au ay9 160:=λa w=>Tryz.call160 a w
@[simp] theorem Tryz.ao5:au ay9 161:=λa w=>Tryz.call161 a w
@[simp] theorem Tryz.aok:au ay9 162:=λa w=>Tryz.call162 a w
@[simp] theorem Tryz.aq6:au ay9 163:=λa w=>Tryz.call163 a w
@[simp] theorem Tryz.aqI:au ay9 164:=λa w=>Tryz.call164 a w
@[simp] theorem Tryz.arf:au ay9 165:=λa w=>Tryz.call165 a w
@[simp] theorem Tryz.aor:au ay9 166:=λa w=>Tryz.call166 a w
@[simp] theorem Tryz.arK:au ay9 167:=λa w=>Tryz.call167 a w
@[simp] theorem Tryz.asT:au ay9 168:=λa w=>Tryz.call168 a w
@[simp] theorem Tryz.aoQ:au ay9 169:=λa w=>Tryz.call169 a w
@[simp] theorem Tryz.arY:au ay9 170:=λa w=>Tryz.call170 a w
@[simp] theorem Tryz.ar0:au ay9 171:=λa w=>Tryz.call171 a w
@[simp] theorem Tryz.asN:au ay9 172:=λa w=>Tryz.call172 a w
@[simp] theorem Tryz.aqy:au ay9 173:=λa w=>Tryz.call173 a w
@[simp] theorem Tryz.arI:au ay9 174:=λa w=>Tryz.call174 a w
@[simp] theorem Tryz.asa:au ay9 175:=λa w=>Tryz.call175 a w
@[simp] theorem Tryz.asM:au ay9 178:=λa w=>Tryz.call178 a w
@[simp] theorem Tryz.apM:au ay9 179:=λa w=>Tryz.call179 a w
@[simp] theorem Tryz.asm:au ay9 180:=λa w=>Tryz.call180 a w
@[simp] theorem Tryz.arZ:au ay9 181:=λa w=>Tryz.call181 a w
@[simp] theorem Tryz.aoK:au ay9 182:=λa w=>Tryz.call182 a w
@[simp] theorem Tryz.asc:au ay9 183:=λa w=>Tryz.call183 a w
@[simp] theorem Tryz.ar2:au ay9 184:=λa w=>Tryz.call184 a w
@[simp] theorem Tryz.as1:au ay9 185:=λa w=>Tryz.call185 a w
@[simp] theorem Tryz.aox:au ay9 186:=λa w=>Tryz.call186 a w
@[simp] theorem Tryz.apt:au ay9 187:=λa w=>Tryz.call187 a w
@[simp] theorem Tryz.asl:au ay9 188:=λa w=>Tryz.call188 a w
@[simp] theorem Tryz.aow:au ay9 189:=λa w=>Tryz.call189 a w
@[simp] theorem Tryz.aqN:au ay9 190:=λa w=>Tryz.call190 a w
@[simp] theorem Tryz.asq:au ay9 191:=λa w=>Tryz.call191 a w
@[simp] theorem Tryz.apQ:au ay9 192:=λa w=>Tryz.call192 a w
end Go.Proofs

