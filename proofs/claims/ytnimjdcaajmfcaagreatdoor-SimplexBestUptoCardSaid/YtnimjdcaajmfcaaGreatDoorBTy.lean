/- A text of the prover's own. -/
import Derived.Test.YtnimjdcaajmfcaaGreatDoorBVx
import Derived.Test.YtnimjdcaajmfcaaGreatDoorProg
import Derived.KernelRfl
open Go.Proofs.Tryz renaming prog->awW
open ByteArray renaming empty->atU
namespace Go.Proofs
open Go.Sv
@[simp] theorem Tryz.ty2:an awW 2=some ⟨(.int .i64),1,8,[.val (.int .i64 0)]⟩:=by kernel_rfl
@[simp] theorem Tryz.ty3:an awW 3=some ⟨(.int .i64),1,8,[.val (.int .i64 0)]⟩:=by kernel_rfl
@[simp] theorem Tryz.ty4:an awW 4=some ⟨.bool,1,1,[.val (.bool false)]⟩:=by kernel_rfl
@[simp] theorem Tryz.ty5:an awW 5=some ⟨(.int .u8),1,1,[.val (.int .u8 0)]⟩:=by kernel_rfl
@[simp] theorem Tryz.ty9:an awW 9=some ⟨.str,1,16,[.val (.string atU)]⟩:=by kernel_rfl
@[simp] theorem Tryz.aqU:an awW 22=some ⟨(.sl 23),1,24,[.val (.slice none 0 0)]⟩:=by kernel_rfl
@[simp] theorem Tryz.ari:an awW 23=some ⟨(.sl 9),1,24,[.val (.slice none 0 0)]⟩:=by kernel_rfl
@[simp] theorem Tryz.arz:an awW 24=some ⟨(.sl 55),1,24,[.val (.slice none 0 0)]⟩:=by kernel_rfl
@[simp] theorem Tryz.aq0:an awW 28=some ⟨(.sl 58),1,24,[.val (.slice none 0 0)]⟩:=by kernel_rfl
@[simp] theorem Tryz.aq9:an awW 33=some ⟨.iface,1,16,[.val (.nilIface)]⟩:=by kernel_rfl
@[simp] theorem Tryz.aqa:an awW 38=some ⟨(.sl 3),1,24,[.val (.slice none 0 0)]⟩:=by kernel_rfl
@[simp] theorem Tryz.apG:an awW 40=some ⟨(.st [(0,1,4),(1,1,38)]),2,32,[.val (.bool false),.val (.slice none 0 0)]⟩:=by kernel_rfl
@[simp] theorem Tryz.arW:an awW 42=some ⟨(.st [(0,2,40),(2,2,40)]),4,64,[.val (.bool false),.val (.slice none 0 0),.val (.bool false),.val (.slice none 0 0)]⟩:=by kernel_rfl
@[simp] theorem Tryz.aq5:an awW 46=some ⟨(.sl 199),1,24,[.val (.slice none 0 0)]⟩:=by kernel_rfl
@[simp] theorem Tryz.aqg:an awW 48=some ⟨(.st [(0,1,4),(1,1,46)]),2,32,[.val (.bool false),.val (.slice none 0 0)]⟩:=by kernel_rfl
@[simp] theorem Tryz.apX:an awW 50=some ⟨(.st [(0,2,48),(2,2,48)]),4,64,[.val (.bool false),.val (.slice none 0 0),.val (.bool false),.val (.slice none 0 0)]⟩:=by kernel_rfl
@[simp] theorem Tryz.aqV:an awW 55=some ⟨(.sl 42),1,24,[.val (.slice none 0 0)]⟩:=by kernel_rfl
@[simp] theorem Tryz.arS:an awW 58=some ⟨(.sl 50),1,24,[.val (.slice none 0 0)]⟩:=by kernel_rfl
@[simp] theorem Tryz.arj:an awW 65=some ⟨(.sl 166),1,24,[.val (.slice none 0 0)]⟩:=by kernel_rfl
@[simp] theorem Tryz.apH:an awW 66=some ⟨(.sl 168),1,24,[.val (.slice none 0 0)]⟩:=by kernel_rfl
@[simp] theorem Tryz.arV:an awW 68=some ⟨(.st [(0,1,4),(1,1,9),(2,1,65),(3,1,66)]),4,72,[.val (.bool false),.val (.string atU),.val (.slice none 0 0),.val (.slice none 0 0)]⟩:=by kernel_rfl
@[simp] theorem Tryz.aqB:an awW 70=some ⟨(.ptr 174),1,8,[.val (.pointer none)]⟩:=by kernel_rfl
@[simp] theorem Tryz.aqL:an awW 71=some ⟨(.sl 151),1,24,[.val (.slice none 0 0)]⟩:=by kernel_rfl
@[simp] theorem Tryz.aqh:an awW 72=some ⟨(.sl 153),1,24,[.val (.slice none 0 0)]⟩:=by kernel_rfl
@[simp] theorem Tryz.ap4:an awW 74=some ⟨(.st [(0,1,4),(1,4,42),(5,1,71),(6,1,72)]),7,120,[.val (.bool false),.val (.bool false),.val (.slice none 0 0),.val (.bool false),.val (.slice none 0 0),.val (.slice none 0 0),.val (.slice none 0 0)]⟩:=by kernel_rfl
@[simp] theorem Tryz.aq1:an awW 80=some ⟨(.st [(0,1,3),(1,1,58),(2,1,58),(3,1,58),(4,4,50)]),8,144,[.val (.int .i64 0),.val (.slice none 0 0),.val (.slice none 0 0),.val (.slice none 0 0),.val (.bool false),.val (.slice none 0 0),.val (.bool false),.val (.slice none 0 0)]⟩:=by kernel_rfl
@[simp] theorem Tryz.amq:an awW 131=some ⟨(.st [(0,1,3),(1,1,3)]),2,16,[.val (.int .i64 0),.val (.int .i64 0)]⟩:=by kernel_rfl
@[simp] theorem Tryz.anP:an awW 137=some ⟨(.st [(0,1,3),(1,1,55),(2,1,55),(3,1,55),(4,4,42)]),8,144,[.val (.int .i64 0),.val (.slice none 0 0),.val (.slice none 0 0),.val (.slice none 0 0),.val (.bool false),.val (.slice none 0 0),.val (.bool false),.val (.slice none 0 0)]⟩:=by kernel_rfl
@[simp] theorem Tryz.al0:an awW 141=some ⟨(.st [(0,1,3),(1,1,23),(2,1,23),(3,1,23),(4,1,9)]),5,96,[.val (.int .i64 0),.val (.slice none 0 0),.val (.slice none 0 0),.val (.slice none 0 0),.val (.string atU)]⟩:=by kernel_rfl
@[simp] theorem Tryz.alY:an awW 149=some ⟨(.st [(0,1,4),(1,4,42)]),5,72,[.val (.bool false),.val (.bool false),.val (.slice none 0 0),.val (.bool false),.val (.slice none 0 0)]⟩:=by kernel_rfl
@[simp] theorem Tryz.akZ:an awW 151=some ⟨(.st [(0,1,9),(1,1,4),(2,5,149),(7,5,149),(12,4,42)]),16,232,[.val (.string atU),.val (.bool false),.val (.bool false),.val (.bool false),.val (.slice none 0 0),.val (.bool false),.val (.slice none 0 0),.val (.bool false),.val (.bool false),.val (.slice none 0 0),.val (.bool false),.val (.slice none 0 0),.val (.bool false),.val (.slice none 0 0),.val (.bool false),.val (.slice none 0 0)]⟩:=by kernel_rfl
@[simp] theorem Tryz.anE:an awW 153=some ⟨(.st [(0,1,9),(1,1,38),(2,1,55),(3,5,149),(8,5,149)]),13,208,[.val (.string atU),.val (.slice none 0 0),.val (.slice none 0 0),.val (.bool false),.val (.bool false),.val (.slice none 0 0),.val (.bool false),.val (.slice none 0 0),.val (.bool false),.val (.bool false),.val (.slice none 0 0),.val (.bool false),.val (.slice none 0 0)]⟩:=by kernel_rfl
@[simp] theorem Tryz.alM:an awW 155=some ⟨(.ptr 160),1,8,[.val (.pointer none)]⟩:=by kernel_rfl
@[simp] theorem Tryz.al7:an awW 158=some ⟨(.sl 209),1,24,[.val (.slice none 0 0)]⟩:=by kernel_rfl
@[simp] theorem Tryz.amB:an awW 160=some ⟨(.st [(0,1,70),(1,1,3),(2,1,3),(3,1,158),(4,1,158),(5,1,58),(6,1,38),(7,1,58),(8,1,38),(9,1,38),(10,1,28)]),11,216,[.val (.pointer none),.val (.int .i64 0),.val (.int .i64 0),.val (.slice none 0 0),.val (.slice none 0 0),.val (.slice none 0 0),.val (.slice none 0 0),.val (.slice none 0 0),.val (.slice none 0 0),.val (.slice none 0 0),.val (.slice none 0 0)]⟩:=by kernel_rfl
@[simp] theorem Tryz.aoT:an awW 166=some ⟨(.st [(0,1,9),(1,1,4),(2,1,9),(3,1,9),(4,1,9)]),5,72,[.val (.string atU),.val (.bool false),.val (.string atU),.val (.string atU),.val (.string atU)]⟩:=by kernel_rfl
@[simp] theorem Tryz.alD:an awW 168=some ⟨(.st [(0,1,9),(1,1,9),(2,1,9),(3,1,38),(4,1,23)]),5,96,[.val (.string atU),.val (.string atU),.val (.string atU),.val (.slice none 0 0),.val (.slice none 0 0)]⟩:=by kernel_rfl
@[simp] theorem Tryz.aoq:an awW 171=some ⟨(.sl 214),1,24,[.val (.slice none 0 0)]⟩:=by kernel_rfl
@[simp] theorem Tryz.amg:an awW 172=some ⟨(.sl 217),1,24,[.val (.slice none 0 0)]⟩:=by kernel_rfl
@[simp] theorem Tryz.am4:an awW 174=some ⟨(.st [(0,1,4),(1,4,50),(5,1,171),(6,1,172)]),7,120,[.val (.bool false),.val (.bool false),.val (.slice none 0 0),.val (.bool false),.val (.slice none 0 0),.val (.slice none 0 0),.val (.slice none 0 0)]⟩:=by kernel_rfl
@[simp] theorem Tryz.aop:an awW 184=some ⟨(.sl 33),1,24,[.val (.slice none 0 0)]⟩:=by kernel_rfl
@[simp] theorem Tryz.apd:an awW 186=some ⟨(.ptr 190),1,8,[.val (.pointer none)]⟩:=by kernel_rfl
@[simp] theorem Tryz.amd:an awW 188=some ⟨(.ptr 186),1,8,[.val (.pointer none)]⟩:=by kernel_rfl
@[simp] theorem Tryz.aow:an awW 190=some ⟨(.st [(0,1,3),(1,1,33)]),2,24,[.val (.int .i64 0),.val (.nilIface)]⟩:=by kernel_rfl
@[simp] theorem Tryz.amW:an awW 198=some ⟨(.sl 5),1,24,[.val (.slice none 0 0)]⟩:=by kernel_rfl
@[simp] theorem Tryz.aoO:an awW 199=some ⟨(.int .u32),1,4,[.val (.int .u32 0)]⟩:=by kernel_rfl
@[simp] theorem Tryz.apB:an awW 209=some ⟨(.st [(0,1,4),(1,4,50)]),5,72,[.val (.bool false),.val (.bool false),.val (.slice none 0 0),.val (.bool false),.val (.slice none 0 0)]⟩:=by kernel_rfl
@[simp] theorem Tryz.anj:an awW 214=some ⟨(.st [(0,1,9),(1,1,4),(2,5,209),(7,5,209),(12,4,50)]),16,232,[.val (.string atU),.val (.bool false),.val (.bool false),.val (.bool false),.val (.slice none 0 0),.val (.bool false),.val (.slice none 0 0),.val (.bool false),.val (.bool false),.val (.slice none 0 0),.val (.bool false),.val (.slice none 0 0),.val (.bool false),.val (.slice none 0 0),.val (.bool false),.val (.slice none 0 0)]⟩:=by kernel_rfl
@[simp] theorem Tryz.an8:an awW 215=some ⟨(.sl 219),1,24,[.val (.slice none 0 0)]⟩:=by kernel_rfl
@[simp] theorem Tryz.anr:an awW 217=some ⟨(.st [(0,1,9),(1,1,215),(2,5,209),(7,5,209)]),12,184,[.val (.string atU),.val (.slice none 0 0),.val (.bool false),.val (.bool false),.val (.slice none 0 0),.val (.bool false),.val (.slice none 0 0),.val (.bool false),.val (.bool false),.val (.slice none 0 0),.val (.bool false),.val (.slice none 0 0)]⟩:=by kernel_rfl
@[simp] theorem Tryz.anA:an awW 219=some ⟨(.st [(0,1,3),(1,4,50)]),5,72,[.val (.int .i64 0),.val (.bool false),.val (.slice none 0 0),.val (.bool false),.val (.slice none 0 0)]⟩:=by kernel_rfl
@[simp] theorem Tryz.aoC:an awW 220=some ⟨(.mp 9 3),1,8,[.val (.map none)]⟩:=by kernel_rfl
@[simp] theorem Tryz.akG:an awW 236=some ⟨(.int .u64),1,8,[.val (.int .u64 0)]⟩:=by kernel_rfl
@[simp] theorem Tryz.amZ:an awW 237=some ⟨(.int .u64),1,8,[.val (.int .u64 0)]⟩:=by kernel_rfl
@[simp] theorem Tryz.amC:an awW 266=some ⟨(.st [(0,1,9),(1,1,3),(2,1,33)]),3,40,[.val (.string atU),.val (.int .i64 0),.val (.nilIface)]⟩:=by kernel_rfl
@[simp] theorem Tryz.apx:an awW 277=some ⟨(.st [(0,5,149),(5,5,149)]),10,144,[.val (.bool false),.val (.bool false),.val (.slice none 0 0),.val (.bool false),.val (.slice none 0 0),.val (.bool false),.val (.bool false),.val (.slice none 0 0),.val (.bool false),.val (.slice none 0 0)]⟩:=by kernel_rfl
@[simp] theorem Tryz.ok4:av awW 4:=λa w=>Tryz.call4 a w
@[simp] theorem Tryz.arJ:av awW 14:=λa w=>Tryz.call14 a w
@[simp] theorem Tryz.ap3:av awW 17:=λa w=>Tryz.call17 a w
@[simp] theorem Tryz.apP:av awW 20:=λa w=>Tryz.call20 a w
@[simp] theorem Tryz.aqQ:av awW 25:=λa w=>Tryz.call25 a w
@[simp] theorem Tryz.apM:av awW 26:=λa w=>Tryz.call26 a w
@[simp] theorem Tryz.aq3:av awW 27:=λa w=>Tryz.call27 a w
@[simp] theorem Tryz.arA:av awW 28:=λa w=>Tryz.call28 a w
@[simp] theorem Tryz.ap7:av awW 29:=λa w=>Tryz.call29 a w
@[simp] theorem Tryz.apF:av awW 30:=λa w=>Tryz.call30 a w
@[simp] theorem Tryz.aq7:av awW 31:=λa w=>Tryz.call31 a w
@[simp] theorem Tryz.aqc:av awW 32:=λa w=>Tryz.call32 a w
@[simp] theorem Tryz.arO:av awW 40:=λa w=>Tryz.call40 a w
@[simp] theorem Tryz.arf:av awW 41:=λa w=>Tryz.call41 a w
@[simp] theorem Tryz.apJ:av awW 46:=λa w=>Tryz.call46 a w
@[simp] theorem Tryz.aqk:av awW 47:=λa w=>Tryz.call47 a w
@[simp] theorem Tryz.aqR:av awW 48:=λa w=>Tryz.call48 a w
@[simp] theorem Tryz.arL:av awW 50:=λa w=>Tryz.call50 a w
@[simp] theorem Tryz.aqr:av awW 51:=λa w=>Tryz.call51 a w
@[simp] theorem Tryz.aqE:av awW 52:=λa w=>Tryz.call52 a w
@[simp] theorem Tryz.aqs:av awW 53:=λa w=>Tryz.call53 a w
@[simp] theorem Tryz.apK:av awW 54:=λa w=>Tryz.call54 a w
@[simp] theorem Tryz.aqJ:av awW 55:=λa w=>Tryz.call55 a w
@[simp] theorem Tryz.aqo:av awW 56:=λa w=>Tryz.call56 a w
@[simp] theorem Tryz.aqi:av awW 57:=λa w=>Tryz.call57 a w
@[simp] theorem Tryz.arC:av awW 60:=λa w=>Tryz.call60 a w
@[simp] theorem Tryz.art:av awW 61:=λa w=>Tryz.call61 a w
@[simp] theorem Tryz.aqw:av awW 66:=λa w=>Tryz.call66 a w
@[simp] theorem Tryz.arq:av awW 67:=λa w=>Tryz.call67 a w
@[simp] theorem Tryz.aqY:av awW 68:=λa w=>Tryz.call68 a w
@[simp] theorem Tryz.arp:av awW 70:=λa w=>Tryz.call70 a w
@[simp] theorem Tryz.arI:av awW 71:=λa w=>Tryz.call71 a w
@[simp] theorem Tryz.arQ:av awW 72:=λa w=>Tryz.call72 a w
@[simp] theorem Tryz.arT:av awW 73:=λa w=>Tryz.call73 a w
@[simp] theorem Tryz.ary:av awW 74:=λa w=>Tryz.call74 a w
@[simp] theorem Tryz.ap5:av awW 75:=λa w=>Tryz.call75 a w
@[simp] theorem Tryz.aru:av awW 76:=λa w=>Tryz.call76 a w
@[simp] theorem Tryz.aqZ:av awW 77:=λa w=>Tryz.call77 a w
@[simp] theorem Tryz.arl:av awW 78:=λa w=>Tryz.call78 a w
@[simp] theorem Tryz.apQ:av awW 79:=λa w=>Tryz.call79 a w
@[simp] theorem Tryz.arM:av awW 80:=λa w=>Tryz.call80 a w
@[simp] theorem Tryz.aq2:av awW 81:=λa w=>Tryz.call81 a w
@[simp] theorem Tryz.arb:av awW 82:=λa w=>Tryz.call82 a w
@[simp] theorem Tryz.aqN:av awW 83:=λa w=>Tryz.call83 a w
@[simp] theorem Tryz.aqf:av awW 85:=λa w=>Tryz.call85 a w
@[simp] theorem Tryz.aqy:av awW 91:=λa w=>Tryz.call91 a w
@[simp] theorem Tryz.arv:av awW 92:=λa w=>Tryz.call92 a w
@[simp] theorem Tryz.arE:av awW 93:=λa w=>Tryz.call93 a w
@[simp] theorem Tryz.aq8:av awW 94:=λa w=>Tryz.call94 a w
@[simp] theorem Tryz.aq6:av awW 97:=λa w=>Tryz.call97 a w
@[simp] theorem Tryz.arw:av awW 98:=λa w=>Tryz.call98 a w
@[simp] theorem Tryz.aqD:av awW 99:=λa w=>Tryz.call99 a w
@[simp] theorem Tryz.alr:av awW 100:=λa w=>Tryz.call100 a w
@[simp] theorem Tryz.ao4:av awW 103:=λa w=>Tryz.call103 a w
@[simp] theorem Tryz.akR:av awW 104:=λa w=>Tryz.call104 a w
@[simp] theorem Tryz.alb:av awW 105:=λa w=>Tryz.call105 a w
@[simp] theorem Tryz.akE:av awW 106:=λa w=>Tryz.call106 a w
@[simp] theorem Tryz.anS:av awW 107:=λa w=>Tryz.call107 a w
@[simp] theorem Tryz.akK:av awW 109:=λa w=>Tryz.call109 a w
@[simp] theorem Tryz.anH:av awW 110:=λa w=>Tryz.call110 a w
@[simp] theorem Tryz.amv:av awW 111:=λa w=>Tryz.call111 a w
@[simp] theorem Tryz.alB:av awW 112:=λa w=>Tryz.call112 a w
@[simp] theorem Tryz.aoi:av awW 113:=λa w=>Tryz.call113 a w
@[simp] theorem Tryz.aoS:av awW 114:=λa w=>Tryz.call114 a w
@[simp] theorem Tryz.alH:av awW 115:=λa w=>Tryz.call115 a w
@[simp] theorem Tryz.ak9:av awW 116:=λa w=>Tryz.call116 a w
@[simp] theorem Tryz.alo:av awW 117:=λa w=>Tryz.call117 a w
@[simp] theorem Tryz.an3:av awW 118:=λa w=>Tryz.call118 a w
@[simp] theorem Tryz.apC:av awW 119:=λa w=>Tryz.call119 a w
@[simp] theorem Tryz.al2:av awW 120:=λa w=>Tryz.call120 a w
@[simp] theorem Tryz.ank:av awW 121:=λa w=>Tryz.call121 a w
@[simp] theorem Tryz.aps:av awW 122:=λa w=>Tryz.call122 a w
@[simp] theorem Tryz.al8:av awW 123:=λa w=>Tryz.call123 a w
@[simp] theorem Tryz.anZ:av awW 124:=λa w=>Tryz.call124 a w
@[simp] theorem Tryz.aml:av awW 125:=λa w=>Tryz.call125 a w
@[simp] theorem Tryz.amG:av awW 126:=λa w=>Tryz.call126 a w
@[simp] theorem Tryz.anD:av awW 127:=λa w=>Tryz.call127 a w
@[simp] theorem Tryz.anR:av awW 128:=λa w=>Tryz.call128 a w
@[simp] theorem Tryz.alj:av awW 129:=λa w=>Tryz.call129 a w
@[simp] theorem Tryz.am8:av awW 130:=λa w=>Tryz.call130 a w
@[simp] theorem Tryz.anQ:av awW 132:=λa w=>Tryz.call132 a w
@[simp] theorem Tryz.amR:av awW 133:=λa w=>Tryz.call133 a w
@[simp] theorem Tryz.aol:av awW 134:=λa w=>Tryz.call134 a w
@[simp] theorem Tryz.aoV:av awW 135:=λa w=>Tryz.call135 a w
@[simp] theorem Tryz.alA:av awW 136:=λa w=>Tryz.call136 a w
@[simp] theorem Tryz.aoa:av awW 143:=λa w=>Tryz.call143 a w
@[simp] theorem Tryz.al5:av awW 144:=λa w=>Tryz.call144 a w
@[simp] theorem Tryz.alu:av awW 145:=λa w=>Tryz.call145 a w
@[simp] theorem Tryz.amE:av awW 146:=λa w=>Tryz.call146 a w
@[simp] theorem Tryz.an2:av awW 147:=λa w=>Tryz.call147 a w
@[simp] theorem Tryz.ano:av awW 148:=λa w=>Tryz.call148 a w
@[simp] theorem Tryz.akO:av awW 149:=λa w=>Tryz.call149 a w
@[simp] theorem Tryz.akT:av awW 150:=λa w=>Tryz.call150 a w
@[simp] theorem Tryz.ao1:av awW 151:=λa w=>Tryz.call151 a w
@[simp] theorem Tryz.ans:av awW 152:=λa w=>Tryz.call152 a w
@[simp] theorem Tryz.amH:av awW 153:=λa w=>Tryz.call153 a w
@[simp] theorem Tryz.ald:av awW 154:=λa w=>Tryz.call154 a w
@[simp] theorem Tryz.anl:av awW 155:=λa w=>Tryz.call155 a w
@[simp] theorem Tryz.anJ:av awW 156:=λa w=>Tryz.call156 a w
@[simp] theorem Tryz.an5:av awW 157:=λa w=>Tryz.call157 a w
@[simp] theorem Tryz.aoW:av awW 158:=λa w=>Tryz.call158 a w
@[simp] theorem Tryz.akI:av awW 159:=λa w=>Tryz.call159 a w
@[simp] theorem Tryz.apE:av awW 160:=λa w=>Tryz.call160 a w
@[simp] theorem Tryz.ak3:av awW 161:=λa w=>Tryz.call161 a w
@[simp] theorem Tryz.amw:av awW 162:=λa w=>Tryz.call162 a w
@[simp] theorem Tryz.amP:av awW 163:=λa w=>Tryz.call163 a w
@[simp] theorem Tryz.aos:av awW 164:=λa w=>Tryz.call164 a w
@[simp] theorem Tryz.am1:av awW 165:=λa w=>Tryz.call165 a w
@[simp] theorem Tryz.amS:av awW 166:=λa w=>Tryz.call166 a w
@[simp] theorem Tryz.amy:av awW 167:=λa w=>Tryz.call167 a w
@[simp] theorem Tryz.anC:av awW 168:=λa w=>Tryz.call168 a w
@[simp] theorem Tryz.ala:av awW 169:=λa w=>Tryz.call169 a w
@[simp] theorem Tryz.ame:av awW 170:=λa w=>Tryz.call170 a w
@[simp] theorem Tryz.ang:av awW 171:=λa w=>Tryz.call171 a w
@[simp] theorem Tryz.aoN:av awW 172:=λa w=>Tryz.call172 a w
@[simp] theorem Tryz.apD:av awW 173:=λa w=>Tryz.call173 a w
@[simp] theorem Tryz.amu:av awW 174:=λa w=>Tryz.call174 a w
@[simp] theorem Tryz.aof:av awW 175:=λa w=>Tryz.call175 a w
@[simp] theorem Tryz.amx:av awW 178:=λa w=>Tryz.call178 a w
@[simp] theorem Tryz.ak6:av awW 179:=λa w=>Tryz.call179 a w
@[simp] theorem Tryz.amb:av awW 180:=λa w=>Tryz.call180 a w
@[simp] theorem Tryz.an1:av awW 181:=λa w=>Tryz.call181 a w
@[simp] theorem Tryz.ale:av awW 182:=λa w=>Tryz.call182 a w
@[simp] theorem Tryz.aoK:av awW 183:=λa w=>Tryz.call183 a w
@[simp] theorem Tryz.alI:av awW 184:=λa w=>Tryz.call184 a w
@[simp] theorem Tryz.amM:av awW 185:=λa w=>Tryz.call185 a w
@[simp] theorem Tryz.apu:av awW 186:=λa w=>Tryz.call186 a w
@[simp] theorem Tryz.anK:av awW 187:=λa w=>Tryz.call187 a w
@[simp] theorem Tryz.anz:av awW 188:=λa w=>Tryz.call188 a w
@[simp] theorem Tryz.amt:av awW 189:=λa w=>Tryz.call189 a w
@[simp] theorem Tryz.aox:av awW 190:=λa w=>Tryz.call190 a w
@[simp] theorem Tryz.alz:av awW 191:=λa w=>Tryz.call191 a w
@[simp] theorem Tryz.akB:av awW 192:=λa w=>Tryz.call192 a w
end Go.Proofs

